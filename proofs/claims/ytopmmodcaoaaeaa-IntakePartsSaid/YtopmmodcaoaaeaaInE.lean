/- bytes.IndexByte and bytes.LastIndexByte. No condition. What IndexByte and LastIndexByte find. No condition. intake.valid. No condition. -/
import Derived.Test.YtopmmodcaoaaeaaInA
import Derived.Lib.BytesEntry
namespace Go.Proofs.Ytopmmodcaoaaeaa
open Go.RowKit Sy
open Go.IntWalk (iteOmega toNatUp)
set_option linter.unusedVariables false
set_option linter.unusedSimpArgs false
/-- The cells of a list of bytes. -/
theorem cells_u8 {F : Nat → Prop} {w : World} : ∀ {l : List Nat} {cells : List Value}, Reps F w (l.map encU) cells → cells = l.map fun c => .int .u8 (c : Int)
  | [], cells, h => by simpa [Reps] using h
  | c :: r, cells, h => by
    rw [List.map_cons] at h
    unfold Reps at h
    obtain ⟨v, cs, rfl, h1, h2⟩ := h
    have e1 := cells_u8 h2
    unfold encU Rep at h1
    rw [h1.1, e1]
    rfl
set_option maxHeartbeats 1000000 in
set_option maxRecDepth 100000 in
theorem indexb_fn (l : List Nat) (hne : l ≠ []) (c : Nat) : FnOk Try.prog 53 [.t (encUs l), .t (.lit (.int .u8 c))] [] (.t (.int (Lib.indexByte (Lib.bytesOf (l.map fun (x : Nat) => (x : Int))) (c : Int).toNat.toUInt8))) [] := by
  intro G w us hh hr
  unfold RepPs at hr
  obtain ⟨u1, r1, rfl, h1, hr⟩ := hr
  unfold RepPs at hr
  obtain ⟨u2, r2, rfl, h2, hr⟩ := hr
  unfold RepPs at hr
  subst hr
  unfold RepS Rep at h2
  obtain ⟨rfl, _⟩ := h2
  unfold RepS encUs Rep at h1
  obtain ⟨x, cap, cells, rfl, h3, h4, h5⟩ := h1
  have h6 := cells_u8 h3
  rcases h5.cells with h7 | ⟨b, off, rfl, hb, h7⟩
  · exact absurd (by simpa using h7) hne
  have hc : ∀ i, i < (l.map fun (x : Nat) => (x : Int)).length → w.cell? ⟨b, off + i, none⟩ = some (.int .u8 ((l.map fun (x : Nat) => (x : Int)).getD i 0)) := by
    intro i hi
    refine h7 i _ ?_
    rw [h6]
    have hi2 : i < l.length := by simpa using hi
    simp [hi2]
  have key : Calls Try.prog 53 #[.slice (some ⟨b, off, none⟩) (l.map encU).length cap, .int .u8 c] w fun e w' => e = .returned (.int .i64 (Lib.indexByte (Lib.bytesOf (l.map fun (x : Nat) => (x : Int))) (c : Int).toNat.toUInt8)) ∧ w' = w := by
    go_enter Try.func53, Try.ntmps53
    go_wp2
    rw [run_callFunc_extern Try.func76 (by kernel_rfl) (by kernel_rfl) (by kernel_rfl) (e := Extern.BytealgIndexByte.indexByte) (by kernel_rfl), Lib.run_indexByteSlice w b off _ cap (l.map fun (x : Nat) => (x : Int)) (by simp) (by simpa using hc) c]
    simp only [Result.andThen]
    rw [Oper.upon_value]
    go_wp2
    go_ret
    exact ⟨rfl, rfl⟩
  refine key.mono ?_
  rintro e w' ⟨rfl, rfl⟩
  exact ⟨_, G, rfl, ⟨rfl, rfl, rfl, Nat.le_refl _, fun _ _ _ => rfl, fun l b k h => by simp [lkB] at h, fun _ h => h, fun _ h => .inl h, fun _ _ => rfl⟩, hh, ⟨rfl, rfl⟩⟩
end Go.Proofs.Ytopmmodcaoaaeaa
namespace Go.Proofs.Ytopmmodcaoaaeaa
open Go.RowKit Sy
open Go.IntWalk (iteOmega toNatUp)
set_option linter.unusedVariables false
set_option linter.unusedSimpArgs false
theorem ixb_iff : ∀ (l : List Nat) (c : Nat), (∀ x ∈ l, x < 256) → c < 256 → (0 ≤ Lib.indexByte (Lib.bytesOf (l.map fun (x : Nat) => (x : Int))) (c : Int).toNat.toUInt8 ↔ c ∈ l)
  | [], c, _, _ => by simp [Lib.bytesOf, Lib.indexByte]
  | a :: r, c, h8, hc => by
    have ih := ixb_iff r c (fun x h => h8 x (List.mem_cons_of_mem _ h)) hc
    have ha := h8 a (List.mem_cons_self ..)
    have he : (((a : Int).toNat.toUInt8 == (c : Int).toNat.toUInt8) = true) ↔ a = c := by
      rw [beq_iff_eq]
      constructor
      · intro h
        have := congrArg UInt8.toNat h
        simp at this
        omega
      · rintro rfl; rfl
    have e : Lib.bytesOf ((a :: r).map fun (x : Nat) => (x : Int)) = (a : Int).toNat.toUInt8 :: Lib.bytesOf (r.map fun (x : Nat) => (x : Int)) := by simp [Lib.bytesOf]
    rw [e]
    unfold Lib.indexByte
    have hge := Lib.indexByte_ge (Lib.bytesOf (r.map fun (x : Nat) => (x : Int))) (c : Int).toNat.toUInt8
    by_cases hac : a = c
    · rw [if_pos (he.2 hac)]
      simp [hac]
    · rw [if_neg (fun h => hac (he.1 h))]
      rw [List.mem_cons]
      have hca : ¬ c = a := fun h => hac h.symm
      split
      · rename_i h
        have h := beq_iff_eq.1 h
        rw [h] at ih
        constructor
        · intro h; omega
        · rintro (h | h)
          · exact absurd h hca
          · exact absurd (ih.2 h) (by omega)
      · rename_i h
        have h : ¬ Lib.indexByte (Lib.bytesOf (r.map fun (x : Nat) => (x : Int))) (c : Int).toNat.toUInt8 = -1 := fun g => h (beq_iff_eq.2 g)
        constructor
        · intro _; exact .inr (ih.1 (by omega))
        · intro _; omega
theorem last_yes (c : Nat) (l : List Nat) : ∀ k, k ≤ l.length → (∀ i, i < k → l[i]? ≠ some c) ∨ ∃ j, j < k ∧ l[j]? = some c ∧ ∀ i, j < i → i < k → l[i]? ≠ some c
  | 0, _ => .inl fun i h => by omega
  | k + 1, hk => by
    by_cases h : l[k]? = some c
    · exact .inr ⟨k, by omega, h, fun i h1 h2 => by omega⟩
    · rcases last_yes c l k (by omega) with h1 | ⟨j, h1, h2, h3⟩
      · refine .inl fun i hi => ?_
        by_cases e : i = k
        · subst e; exact h
        · exact h1 i (by omega)
      · refine .inr ⟨j, by omega, h2, fun i h4 h5 => ?_⟩
        by_cases e : i = k
        · subst e; exact h
        · exact h3 i h4 (by omega)
set_option maxRecDepth 100000 in
set_option maxHeartbeats 4000000 in
theorem lastbI_fn (l : List Nat) (hl : l.length ≤ 1000000) (c : Nat) (n : Int) (hn : n = -1 ∧ (∀ i, i < l.length → l[i]? ≠ some c) ∨ ∃ j : Nat, n = j ∧ j < l.length ∧ l[j]? = some c ∧ ∀ i, j < i → i < l.length → l[i]? ≠ some c) : FnOk Try.prog 75 [.t (encUs l), .t (.lit (.int .u8 c))] [] (.t (.int n)) [] := by
  refine FnOk.intro fact_mixed Try.func75 rfl Try.ntmps75 (by rfl) (by simp) ?_
  repeat (first | (refine nf1_sound rfl ?_; simp [go_sem, ↓iteOmega, iteOmega, toNatUp]; (repeat (refine And.intro (by omega) ?_)); try (refine ⟨DrawChk_of (by kernel_rfl), ?_⟩)) | (refine itePos (by omega) ?_; try simp [go_sem, ↓iteOmega, iteOmega, toNatUp]) | (refine iteNeg (by omega) ?_; try simp [go_sem, ↓iteOmega, iteOmega, toNatUp]) | (refine ⟨DrawChk_of (by kernel_rfl), ?_⟩))
  refine nf1_sound' _ _ _ ?_; simp only [nf1]
  refine CW.loop (ι := Nat) (fun k => ⟨[(0, .t (encUs l)), (1, .t (.lit (.int .u8 c))), (5, .t (.int ((k : Int) - 1)))], []⟩) (fun k => n < k ∧ k ≤ l.length) (fun k => k) l.length [] ?_ ?_ ?_
  · rcases hn with ⟨rfl, _⟩ | ⟨j, rfl, h, _⟩ <;> omega
  · simp [go_sem, ↓iteOmega, iteOmega, toNatUp]
  rintro k ⟨h1, h2⟩
  by_cases h0 : k = 0
  · subst h0
    obtain rfl : n = -1 := by
      rcases hn with ⟨rfl, _⟩ | ⟨j, rfl, h, _⟩ <;> omega
    repeat (first | (refine nf1_sound rfl ?_; simp [go_sem, ↓iteOmega, iteOmega, toNatUp]; (repeat (refine And.intro (by omega) ?_)); try (refine ⟨DrawChk_of (by kernel_rfl), ?_⟩)) | (refine itePos (by omega) ?_; try simp [go_sem, ↓iteOmega, iteOmega, toNatUp]) | (refine iteNeg (by omega) ?_; try simp [go_sem, ↓iteOmega, iteOmega, toNatUp]) | (refine ⟨DrawChk_of (by kernel_rfl), ?_⟩))
    first | rw [RetQ_ret] | rw [RetQ_normal]
    refine ⟨[], ?_⟩
    simp [go_sem, ↓iteOmega, iteOmega, toNatUp]
  · obtain ⟨i, rfl⟩ : ∃ i, k = i + 1 := ⟨k - 1, by omega⟩
    obtain ⟨x, hx⟩ := has_get (show i < l.length by omega)
    have e : ((i + 1 : Nat) : Int) - 1 = (i : Int) := by omega
    rw [e]
    by_cases hxc : x = c
    · subst hxc
      obtain rfl : n = i := by
        rcases hn with ⟨rfl, h⟩ | ⟨j, rfl, h, h3, h4⟩
        · exact absurd hx (h i (by omega))
        · by_cases g : j < i
          · exact absurd hx (h4 i g (by omega))
          · omega
      repeat (first | (refine nf1_sound rfl ?_; simp [go_sem, ↓iteOmega, iteOmega, toNatUp, hx]; (repeat (refine And.intro (by omega) ?_)); try (refine ⟨DrawChk_of (by kernel_rfl), ?_⟩)) | (refine itePos (by omega) ?_; try simp [go_sem, ↓iteOmega, iteOmega, toNatUp, hx]) | (refine iteNeg (by omega) ?_; try simp [go_sem, ↓iteOmega, iteOmega, toNatUp, hx]) | (refine ⟨DrawChk_of (by kernel_rfl), ?_⟩))
      first | rw [RetQ_ret] | rw [RetQ_normal]
      refine ⟨[], ?_⟩
      simp [go_sem, ↓iteOmega, iteOmega, toNatUp]
    · have hne : n ≠ i := by
        rcases hn with ⟨rfl, h⟩ | ⟨j, rfl, h, h3, h4⟩
        · omega
        · intro g
          obtain rfl : j = i := by omega
          rw [hx] at h3
          exact hxc (Option.some.inj h3)
      have hxc2 : ¬ ((x : Int) = (c : Int)) := by omega
      repeat (first | (refine nf1_sound rfl ?_; simp [go_sem, ↓iteOmega, iteOmega, toNatUp, hx, hxc, hxc2]; (repeat (refine And.intro (by omega) ?_)); try (refine ⟨DrawChk_of (by kernel_rfl), ?_⟩)) | (refine itePos (by omega) ?_; try simp [go_sem, ↓iteOmega, iteOmega, toNatUp, hx, hxc, hxc2]) | (refine iteNeg (by omega) ?_; try simp [go_sem, ↓iteOmega, iteOmega, toNatUp, hx, hxc, hxc2]) | (refine ⟨DrawChk_of (by kernel_rfl), ?_⟩))
      rw [RoundQ_normal]; refine ⟨i, [], ?_, ?_, ?_⟩
      · omega
      · omega
      simp [go_sem, ↓iteOmega, iteOmega, toNatUp]
set_option maxRecDepth 100000 in
theorem lastb0_fn (l : List Nat) (hl : l.length ≤ 1000000) (c : Nat) (n : Int) (c1 : FnOk Try.prog 75 [.t (encUs l), .t (.lit (.int .u8 c))] [] (.t (.int n)) []) : FnOk Try.prog 52 [.t (encUs l), .t (.lit (.int .u8 c))] [] (.t (.int n)) [] := by
  have e75 : entB Try.prog 75 = true := by kernel_rfl
  refine FnOk.intro fact_mixed Try.func52 rfl Try.ntmps52 (by rfl) (by simp) ?_
  repeat (first | (refine nf1_sound rfl ?_; simp [go_sem, ↓iteOmega, iteOmega, toNatUp, e75]; (repeat (refine And.intro (by omega) ?_)); try (refine ⟨DrawChk_of (by kernel_rfl), ?_⟩)) | (refine itePos (by omega) ?_; try simp [go_sem, ↓iteOmega, iteOmega, toNatUp, e75]) | (refine iteNeg (by omega) ?_; try simp [go_sem, ↓iteOmega, iteOmega, toNatUp, e75]) | (refine ⟨DrawChk_of (by kernel_rfl), ?_⟩))
  refine CallK.fn (c1) [] [] [] (by kernel_rfl) (by simp [go_sem, ↓iteOmega, iteOmega, toNatUp]) (by simp [go_sem, ↓iteOmega, iteOmega, toNatUp]) (by simp [go_sem, ↓iteOmega, iteOmega, toNatUp]) (Or.inl rfl) ?_
  simp [go_sem, ↓iteOmega, iteOmega, toNatUp]
  repeat (refine And.intro (by omega) ?_)
  try (refine ⟨DrawChk_of (by kernel_rfl), ?_⟩)
  repeat (first | (refine nf1_sound rfl ?_; simp [go_sem, ↓iteOmega, iteOmega, toNatUp]; (repeat (refine And.intro (by omega) ?_)); try (refine ⟨DrawChk_of (by kernel_rfl), ?_⟩)) | (refine itePos (by omega) ?_; try simp [go_sem, ↓iteOmega, iteOmega, toNatUp]) | (refine iteNeg (by omega) ?_; try simp [go_sem, ↓iteOmega, iteOmega, toNatUp]) | (refine ⟨DrawChk_of (by kernel_rfl), ?_⟩))
  first | rw [RetQ_ret] | rw [RetQ_normal]
  refine ⟨[], ?_⟩
  simp [go_sem, ↓iteOmega, iteOmega, toNatUp]
theorem lastb_fn (l : List Nat) (hl : l.length ≤ 1000000) (c : Nat) : ∃ n : Int, (0 < n ↔ ∃ i, 0 < i ∧ l[i]? = some c) ∧ FnOk Try.prog 52 [.t (encUs l), .t (.lit (.int .u8 c))] [] (.t (.int n)) [] := by
  rcases last_yes c l l.length (Nat.le_refl _) with h | ⟨j, h1, h2, h3⟩
  · refine ⟨-1, ⟨by omega, ?_⟩, lastb0_fn l hl c _ (lastbI_fn l hl c _ (.inl ⟨rfl, h⟩))⟩
    rintro ⟨i, hi, g⟩
    exact absurd g (h i (List.getElem?_eq_some_iff.1 g).1)
  · refine ⟨j, ⟨fun h => ⟨j, by omega, h2⟩, ?_⟩, lastb0_fn l hl c _ (lastbI_fn l hl c _ (.inr ⟨j, rfl, h1, h2, h3⟩))⟩
    rintro ⟨i, hi, g⟩
    by_cases e : j < i
    · exact absurd g (h3 i e (List.getElem?_eq_some_iff.1 g).1)
    · omega
end Go.Proofs.Ytopmmodcaoaaeaa
namespace Go.Proofs.Ytopmmodcaoaaeaa
open Go.RowKit Sy
open Go.IntWalk (iteOmega toNatUp)
set_option linter.unusedVariables false
set_option linter.unusedSimpArgs false
structure In where
  win : Int
  tail : List Nat
  sts : List Wt
@[go_sem] def encIn (i : In) : T := .agg [.int i.win, encUs i.tail, encWts i.sts]
def tailOk (l : List Nat) : Prop := l = [] ∨ (l[0]? = some 126 ∧ (¬ ∃ i, 0 < i ∧ l[i]? = some 126) ∧ 124 ∉ l)
def StOk (i : In) (w : Wt) (j : Nat) : Prop := WtOk w i.win ∧ ∀ v, 0 < j → i.sts[j - 1]? = some v → v.st < w.st
structure InOk (i : In) : Prop where
  wn : ¬ i.win < 0
  wx : ¬ 16 < i.win
  tl : ¬ 400 < i.tail.length
  sl : ¬ 64 < i.sts.length
  tk : tailOk i.tail
  st : ∀ j w, i.sts[j]? = some w → StOk i w j
/-- Lists of moderate length. -/
def Mod (w : Wt) : Prop := w.held.length ≤ 1000000 ∧ ∀ t ∈ w.held, t.vs.length ≤ 9223372036854775807
set_option maxRecDepth 100000 in
set_option maxHeartbeats 8000000 in
theorem invalid_fn (i : In) (htl : i.tail.length ≤ 1000000) (hsl : i.sts.length ≤ 1000000) (h8 : ∀ c ∈ i.tail, c < 256) (hs : ∀ w ∈ i.sts, Mod w) (g : Bool) (hg : g = true ↔ InOk i) : FnOk Try.prog 34 [.t (encIn i)] [] (.t (.bool g)) [] := by
  by_cases h0 : ¬ i.win < 0
  · skip
    by_cases h1 : ¬ 16 < i.win
    · skip
      by_cases h2 : ¬ 400 < i.tail.length
      · skip
        by_cases h3 : ¬ 64 < i.sts.length
        · skip
          by_cases h4 : i.tail = []
          · have ht : tailOk i.tail := .inl h4
            have hlen : i.tail.length = 0 := by rw [h4]; rfl
            refine FnOk.intro fact_mixed Try.func34 rfl Try.ntmps34 (by rfl) (by simp) ?_
            repeat (first | (refine nf1_sound rfl ?_; simp [go_sem, ↓iteOmega, iteOmega, toNatUp, hlen]; (repeat (refine And.intro (by omega) ?_)); try (refine ⟨DrawChk_of (by kernel_rfl), ?_⟩)) | (refine itePos (by omega) ?_; try simp [go_sem, ↓iteOmega, iteOmega, toNatUp, hlen]) | (refine iteNeg (by omega) ?_; try simp [go_sem, ↓iteOmega, iteOmega, toNatUp, hlen]) | (refine ⟨DrawChk_of (by kernel_rfl), ?_⟩))
            refine nf1_sound' _ _ _ ?_; simp only [nf1]
            refine CW.loop (ι := Nat) (fun k => ⟨[(1, .pt 501 [] 0), (51, .t (encWts i.sts)), (52, .t (.int i.sts.length)), (53, .t (.int k))], [(501, .box 29 (.t (.agg [.int i.win, encUs i.tail, encWts i.sts])))]⟩) (fun k => k ≤ i.sts.length ∧ ∀ j w, j < k → i.sts[j]? = some w → StOk i w j) (fun k => i.sts.length - k) 0 [(501, some 101)] ⟨by omega, fun j w h => by omega⟩ ?_ ?_
            · simp [go_sem, ↓iteOmega, iteOmega, toNatUp]
            rintro k ⟨hk, hall⟩
            by_cases hk2 : k < i.sts.length
            · obtain ⟨w, hw⟩ := has_get hk2
              by_cases g1 : WtOk w i.win
              · have c := waiting_fn w i.win (hs w (mem_get hw)).1 (hs w (mem_get hw)).2 true (decide_eq_true g1)
                by_cases hk0 : k = 0
                · subst hk0
                  repeat (first | (refine nf1_sound rfl ?_; simp [go_sem, ↓iteOmega, iteOmega, toNatUp, hw]; (repeat (refine And.intro (by omega) ?_)); try (refine ⟨DrawChk_of (by kernel_rfl), ?_⟩)) | (refine itePos (by omega) ?_; try simp [go_sem, ↓iteOmega, iteOmega, toNatUp, hw]) | (refine iteNeg (by omega) ?_; try simp [go_sem, ↓iteOmega, iteOmega, toNatUp, hw]) | (refine ⟨DrawChk_of (by kernel_rfl), ?_⟩))
                  refine CallK.fn (c) [] [] [] (by kernel_rfl) (by simp [go_sem, ↓iteOmega, iteOmega, toNatUp]) (by simp [go_sem, ↓iteOmega, iteOmega, toNatUp]) (by simp [go_sem, ↓iteOmega, iteOmega, toNatUp]) (Or.inl rfl) ?_
                  simp [go_sem, ↓iteOmega, iteOmega, toNatUp]
                  repeat (refine And.intro (by omega) ?_)
                  try (refine ⟨DrawChk_of (by kernel_rfl), ?_⟩)
                  repeat (first | (refine nf1_sound rfl ?_; simp [go_sem, ↓iteOmega, iteOmega, toNatUp]; (repeat (refine And.intro (by omega) ?_)); try (refine ⟨DrawChk_of (by kernel_rfl), ?_⟩)) | (refine itePos (by omega) ?_; try simp [go_sem, ↓iteOmega, iteOmega, toNatUp]) | (refine iteNeg (by omega) ?_; try simp [go_sem, ↓iteOmega, iteOmega, toNatUp]) | (refine ⟨DrawChk_of (by kernel_rfl), ?_⟩))
                  rw [RoundQ_normal]; refine ⟨1, [(501, some 501)], ?_, ?_, ?_⟩
                  · refine ⟨by omega, fun j x hj hx => ?_⟩
                    obtain rfl : j = 0 := by omega
                    rw [hw] at hx
                    obtain rfl := Option.some.inj hx
                    exact ⟨g1, fun v h => by omega⟩
                  · omega
                  simp [go_sem, ↓iteOmega, iteOmega, toNatUp]
                · obtain ⟨m, rfl⟩ : ∃ m, k = m + 1 := ⟨k - 1, by omega⟩
                  obtain ⟨v, hv⟩ := has_get (show m < i.sts.length by omega)
                  have em : ((m + 1 : Nat) : Int) - 1 = (m : Int) := by omega
                  by_cases g2 : v.st < w.st
                  · repeat (first | (refine nf1_sound rfl ?_; simp [go_sem, ↓iteOmega, iteOmega, toNatUp, hw]; (repeat (refine And.intro (by omega) ?_)); try (refine ⟨DrawChk_of (by kernel_rfl), ?_⟩)) | (refine itePos (by omega) ?_; try simp [go_sem, ↓iteOmega, iteOmega, toNatUp, hw]) | (refine iteNeg (by omega) ?_; try simp [go_sem, ↓iteOmega, iteOmega, toNatUp, hw]) | (refine ⟨DrawChk_of (by kernel_rfl), ?_⟩))
                    refine CallK.fn (c) [] [] [] (by kernel_rfl) (by simp [go_sem, ↓iteOmega, iteOmega, toNatUp, em, hv]) (by simp [go_sem, ↓iteOmega, iteOmega, toNatUp, em, hv]) (by simp [go_sem, ↓iteOmega, iteOmega, toNatUp, em, hv]) (Or.inl rfl) ?_
                    simp [go_sem, ↓iteOmega, iteOmega, toNatUp, em, hv]
                    repeat (refine And.intro (by omega) ?_)
                    try (refine ⟨DrawChk_of (by kernel_rfl), ?_⟩)
                    repeat (first | (refine nf1_sound rfl ?_; simp [go_sem, ↓iteOmega, iteOmega, toNatUp, em, hv]; (repeat (refine And.intro (by omega) ?_)); try (refine ⟨DrawChk_of (by kernel_rfl), ?_⟩)) | (refine itePos (by omega) ?_; try simp [go_sem, ↓iteOmega, iteOmega, toNatUp, em, hv]) | (refine iteNeg (by omega) ?_; try simp [go_sem, ↓iteOmega, iteOmega, toNatUp, em, hv]) | (refine ⟨DrawChk_of (by kernel_rfl), ?_⟩))
                    rw [RoundQ_normal]; refine ⟨m + 1 + 1, [(501, some 501)], ?_, ?_, ?_⟩
                    · refine ⟨by omega, fun j x hj hx => ?_⟩
                      by_cases e : j < m + 1
                      · exact hall j x e hx
                      · obtain rfl : j = m + 1 := by omega
                        rw [hw] at hx
                        obtain rfl := Option.some.inj hx
                        refine ⟨g1, fun v' _ h => ?_⟩
                        rw [show m + 1 - 1 = m by omega, hv] at h
                        obtain rfl := Option.some.inj h
                        exact g2
                    · omega
                    simp [go_sem, ↓iteOmega, iteOmega, toNatUp]
                  · obtain rfl : g = false := by
                      cases g
                      · rfl
                      · exact absurd ((hg.1 rfl).st (m + 1) w hw |>.2 v (by omega) (by simpa using hv)) g2
                    repeat (first | (refine nf1_sound rfl ?_; simp [go_sem, ↓iteOmega, iteOmega, toNatUp, hw]; (repeat (refine And.intro (by omega) ?_)); try (refine ⟨DrawChk_of (by kernel_rfl), ?_⟩)) | (refine itePos (by omega) ?_; try simp [go_sem, ↓iteOmega, iteOmega, toNatUp, hw]) | (refine iteNeg (by omega) ?_; try simp [go_sem, ↓iteOmega, iteOmega, toNatUp, hw]) | (refine ⟨DrawChk_of (by kernel_rfl), ?_⟩))
                    refine CallK.fn (c) [] [] [] (by kernel_rfl) (by simp [go_sem, ↓iteOmega, iteOmega, toNatUp, em, hv]) (by simp [go_sem, ↓iteOmega, iteOmega, toNatUp, em, hv]) (by simp [go_sem, ↓iteOmega, iteOmega, toNatUp, em, hv]) (Or.inl rfl) ?_
                    simp [go_sem, ↓iteOmega, iteOmega, toNatUp, em, hv]
                    repeat (refine And.intro (by omega) ?_)
                    try (refine ⟨DrawChk_of (by kernel_rfl), ?_⟩)
                    repeat (first | (refine nf1_sound rfl ?_; simp [go_sem, ↓iteOmega, iteOmega, toNatUp, em, hv]; (repeat (refine And.intro (by omega) ?_)); try (refine ⟨DrawChk_of (by kernel_rfl), ?_⟩)) | (refine itePos (by omega) ?_; try simp [go_sem, ↓iteOmega, iteOmega, toNatUp, em, hv]) | (refine iteNeg (by omega) ?_; try simp [go_sem, ↓iteOmega, iteOmega, toNatUp, em, hv]) | (refine ⟨DrawChk_of (by kernel_rfl), ?_⟩))
                    first | rw [RetQ_ret] | rw [RetQ_normal]
                    refine ⟨[], ?_⟩
                    simp [go_sem, ↓iteOmega, iteOmega, toNatUp]
              · have c := waiting_fn w i.win (hs w (mem_get hw)).1 (hs w (mem_get hw)).2 false (decide_eq_false g1)
                obtain rfl : g = false := by
                  cases g
                  · rfl
                  · exact absurd ((hg.1 rfl).st k w hw).1 g1
                repeat (first | (refine nf1_sound rfl ?_; simp [go_sem, ↓iteOmega, iteOmega, toNatUp, hw]; (repeat (refine And.intro (by omega) ?_)); try (refine ⟨DrawChk_of (by kernel_rfl), ?_⟩)) | (refine itePos (by omega) ?_; try simp [go_sem, ↓iteOmega, iteOmega, toNatUp, hw]) | (refine iteNeg (by omega) ?_; try simp [go_sem, ↓iteOmega, iteOmega, toNatUp, hw]) | (refine ⟨DrawChk_of (by kernel_rfl), ?_⟩))
                refine CallK.fn (c) [] [] [] (by kernel_rfl) (by simp [go_sem, ↓iteOmega, iteOmega, toNatUp]) (by simp [go_sem, ↓iteOmega, iteOmega, toNatUp]) (by simp [go_sem, ↓iteOmega, iteOmega, toNatUp]) (Or.inl rfl) ?_
                simp [go_sem, ↓iteOmega, iteOmega, toNatUp]
                repeat (refine And.intro (by omega) ?_)
                try (refine ⟨DrawChk_of (by kernel_rfl), ?_⟩)
                repeat (first | (refine nf1_sound rfl ?_; simp [go_sem, ↓iteOmega, iteOmega, toNatUp]; (repeat (refine And.intro (by omega) ?_)); try (refine ⟨DrawChk_of (by kernel_rfl), ?_⟩)) | (refine itePos (by omega) ?_; try simp [go_sem, ↓iteOmega, iteOmega, toNatUp]) | (refine iteNeg (by omega) ?_; try simp [go_sem, ↓iteOmega, iteOmega, toNatUp]) | (refine ⟨DrawChk_of (by kernel_rfl), ?_⟩))
                first | rw [RetQ_ret] | rw [RetQ_normal]
                refine ⟨[], ?_⟩
                simp [go_sem, ↓iteOmega, iteOmega, toNatUp]
            · obtain rfl : k = i.sts.length := by omega
              obtain rfl : g = true := hg.2 ⟨h0, h1, h2, h3, ht, fun j w hw => hall j w (List.getElem?_eq_some_iff.1 hw).1 hw⟩
              repeat (first | (refine nf1_sound rfl ?_; simp [go_sem, ↓iteOmega, iteOmega, toNatUp]; (repeat (refine And.intro (by omega) ?_)); try (refine ⟨DrawChk_of (by kernel_rfl), ?_⟩)) | (refine itePos (by omega) ?_; try simp [go_sem, ↓iteOmega, iteOmega, toNatUp]) | (refine iteNeg (by omega) ?_; try simp [go_sem, ↓iteOmega, iteOmega, toNatUp]) | (refine ⟨DrawChk_of (by kernel_rfl), ?_⟩))
              first | rw [RetQ_ret] | rw [RetQ_normal]
              refine ⟨[], ?_⟩
              simp [go_sem, ↓iteOmega, iteOmega, toNatUp]

          · have hpos : 0 < i.tail.length := List.length_pos_iff.2 h4
            obtain ⟨c0, hc0⟩ := has_get hpos
            by_cases h5 : c0 = 126
            · subst h5
              obtain ⟨n, hn, c1⟩ := lastb_fn i.tail (by omega) 126
              by_cases h6 : 0 < n
              · obtain rfl : g = false := by
                  cases g
                  · rfl
                  · exact absurd (hn.1 h6) (((hg.1 rfl).tk.resolve_left h4).2.1)
                refine FnOk.intro fact_mixed Try.func34 rfl Try.ntmps34 (by rfl) (by simp) ?_
                repeat (first | (refine nf1_sound rfl ?_; simp [go_sem, ↓iteOmega, iteOmega, toNatUp, hc0]; (repeat (refine And.intro (by omega) ?_)); try (refine ⟨DrawChk_of (by kernel_rfl), ?_⟩)) | (refine itePos (by omega) ?_; try simp [go_sem, ↓iteOmega, iteOmega, toNatUp, hc0]) | (refine iteNeg (by omega) ?_; try simp [go_sem, ↓iteOmega, iteOmega, toNatUp, hc0]) | (refine ⟨DrawChk_of (by kernel_rfl), ?_⟩))
                refine CallK.fn (c1) [] [] [] (by kernel_rfl) (by simp [go_sem, ↓iteOmega, iteOmega, toNatUp]) (by simp [go_sem, ↓iteOmega, iteOmega, toNatUp]) (by simp [go_sem, ↓iteOmega, iteOmega, toNatUp]) (Or.inl rfl) ?_
                simp [go_sem, ↓iteOmega, iteOmega, toNatUp]
                repeat (refine And.intro (by omega) ?_)
                try (refine ⟨DrawChk_of (by kernel_rfl), ?_⟩)
                repeat (first | (refine nf1_sound rfl ?_; simp [go_sem, ↓iteOmega, iteOmega, toNatUp]; (repeat (refine And.intro (by omega) ?_)); try (refine ⟨DrawChk_of (by kernel_rfl), ?_⟩)) | (refine itePos (by omega) ?_; try simp [go_sem, ↓iteOmega, iteOmega, toNatUp]) | (refine iteNeg (by omega) ?_; try simp [go_sem, ↓iteOmega, iteOmega, toNatUp]) | (refine ⟨DrawChk_of (by kernel_rfl), ?_⟩))
                first | rw [RetQ_ret] | rw [RetQ_normal]
                refine ⟨[], ?_⟩
                simp [go_sem, ↓iteOmega, iteOmega, toNatUp]
              · have c2 := indexb_fn i.tail h4 124
                have h7 := ixb_iff i.tail 124 h8 (by omega)
                obtain ⟨n2, hn2⟩ : ∃ n2, Lib.indexByte (Lib.bytesOf (i.tail.map fun (x : Nat) => (x : Int))) ((124 : Nat) : Int).toNat.toUInt8 = n2 := ⟨_, rfl⟩
                rw [hn2] at c2 h7
                by_cases h9 : 0 ≤ n2
                · obtain rfl : g = false := by
                    cases g
                    · rfl
                    · exact absurd (h7.1 h9) (((hg.1 rfl).tk.resolve_left h4).2.2)
                  refine FnOk.intro fact_mixed Try.func34 rfl Try.ntmps34 (by rfl) (by simp) ?_
                  repeat (first | (refine nf1_sound rfl ?_; simp [go_sem, ↓iteOmega, iteOmega, toNatUp, hc0]; (repeat (refine And.intro (by omega) ?_)); try (refine ⟨DrawChk_of (by kernel_rfl), ?_⟩)) | (refine itePos (by omega) ?_; try simp [go_sem, ↓iteOmega, iteOmega, toNatUp, hc0]) | (refine iteNeg (by omega) ?_; try simp [go_sem, ↓iteOmega, iteOmega, toNatUp, hc0]) | (refine ⟨DrawChk_of (by kernel_rfl), ?_⟩))
                  refine CallK.fn (c1) [] [] [] (by kernel_rfl) (by simp [go_sem, ↓iteOmega, iteOmega, toNatUp]) (by simp [go_sem, ↓iteOmega, iteOmega, toNatUp]) (by simp [go_sem, ↓iteOmega, iteOmega, toNatUp]) (Or.inl rfl) ?_
                  simp [go_sem, ↓iteOmega, iteOmega, toNatUp]
                  repeat (refine And.intro (by omega) ?_)
                  try (refine ⟨DrawChk_of (by kernel_rfl), ?_⟩)
                  repeat (first | (refine nf1_sound rfl ?_; simp [go_sem, ↓iteOmega, iteOmega, toNatUp]; (repeat (refine And.intro (by omega) ?_)); try (refine ⟨DrawChk_of (by kernel_rfl), ?_⟩)) | (refine itePos (by omega) ?_; try simp [go_sem, ↓iteOmega, iteOmega, toNatUp]) | (refine iteNeg (by omega) ?_; try simp [go_sem, ↓iteOmega, iteOmega, toNatUp]) | (refine ⟨DrawChk_of (by kernel_rfl), ?_⟩))
                  refine CallK.fn (c2) [] [] [] (by kernel_rfl) (by simp [go_sem, ↓iteOmega, iteOmega, toNatUp]) (by simp [go_sem, ↓iteOmega, iteOmega, toNatUp]) (by simp [go_sem, ↓iteOmega, iteOmega, toNatUp]) (Or.inl rfl) ?_
                  simp [go_sem, ↓iteOmega, iteOmega, toNatUp]
                  repeat (refine And.intro (by omega) ?_)
                  try (refine ⟨DrawChk_of (by kernel_rfl), ?_⟩)
                  repeat (first | (refine nf1_sound rfl ?_; simp [go_sem, ↓iteOmega, iteOmega, toNatUp]; (repeat (refine And.intro (by omega) ?_)); try (refine ⟨DrawChk_of (by kernel_rfl), ?_⟩)) | (refine itePos (by omega) ?_; try simp [go_sem, ↓iteOmega, iteOmega, toNatUp]) | (refine iteNeg (by omega) ?_; try simp [go_sem, ↓iteOmega, iteOmega, toNatUp]) | (refine ⟨DrawChk_of (by kernel_rfl), ?_⟩))
                  first | rw [RetQ_ret] | rw [RetQ_normal]
                  refine ⟨[], ?_⟩
                  simp [go_sem, ↓iteOmega, iteOmega, toNatUp]
                · have ht : tailOk i.tail := .inr ⟨hc0, fun h => h6 (hn.2 h), fun h => h9 (h7.2 h)⟩
                  refine FnOk.intro fact_mixed Try.func34 rfl Try.ntmps34 (by rfl) (by simp) ?_
                  repeat (first | (refine nf1_sound rfl ?_; simp [go_sem, ↓iteOmega, iteOmega, toNatUp, hc0]; (repeat (refine And.intro (by omega) ?_)); try (refine ⟨DrawChk_of (by kernel_rfl), ?_⟩)) | (refine itePos (by omega) ?_; try simp [go_sem, ↓iteOmega, iteOmega, toNatUp, hc0]) | (refine iteNeg (by omega) ?_; try simp [go_sem, ↓iteOmega, iteOmega, toNatUp, hc0]) | (refine ⟨DrawChk_of (by kernel_rfl), ?_⟩))
                  refine CallK.fn (c1) [] [] [] (by kernel_rfl) (by simp [go_sem, ↓iteOmega, iteOmega, toNatUp]) (by simp [go_sem, ↓iteOmega, iteOmega, toNatUp]) (by simp [go_sem, ↓iteOmega, iteOmega, toNatUp]) (Or.inl rfl) ?_
                  simp [go_sem, ↓iteOmega, iteOmega, toNatUp]
                  repeat (refine And.intro (by omega) ?_)
                  try (refine ⟨DrawChk_of (by kernel_rfl), ?_⟩)
                  repeat (first | (refine nf1_sound rfl ?_; simp [go_sem, ↓iteOmega, iteOmega, toNatUp]; (repeat (refine And.intro (by omega) ?_)); try (refine ⟨DrawChk_of (by kernel_rfl), ?_⟩)) | (refine itePos (by omega) ?_; try simp [go_sem, ↓iteOmega, iteOmega, toNatUp]) | (refine iteNeg (by omega) ?_; try simp [go_sem, ↓iteOmega, iteOmega, toNatUp]) | (refine ⟨DrawChk_of (by kernel_rfl), ?_⟩))
                  refine CallK.fn (c2) [] [] [] (by kernel_rfl) (by simp [go_sem, ↓iteOmega, iteOmega, toNatUp]) (by simp [go_sem, ↓iteOmega, iteOmega, toNatUp]) (by simp [go_sem, ↓iteOmega, iteOmega, toNatUp]) (Or.inl rfl) ?_
                  simp [go_sem, ↓iteOmega, iteOmega, toNatUp]
                  repeat (refine And.intro (by omega) ?_)
                  try (refine ⟨DrawChk_of (by kernel_rfl), ?_⟩)
                  repeat (first | (refine nf1_sound rfl ?_; simp [go_sem, ↓iteOmega, iteOmega, toNatUp]; (repeat (refine And.intro (by omega) ?_)); try (refine ⟨DrawChk_of (by kernel_rfl), ?_⟩)) | (refine itePos (by omega) ?_; try simp [go_sem, ↓iteOmega, iteOmega, toNatUp]) | (refine iteNeg (by omega) ?_; try simp [go_sem, ↓iteOmega, iteOmega, toNatUp]) | (refine ⟨DrawChk_of (by kernel_rfl), ?_⟩))
                  refine nf1_sound' _ _ _ ?_; simp only [nf1]
                  refine CW.loop (ι := Nat) (fun k => ⟨[(1, .pt 501 [] 0), (51, .t (encWts i.sts)), (52, .t (.int i.sts.length)), (53, .t (.int k))], [(501, .box 29 (.t (.agg [.int i.win, encUs i.tail, encWts i.sts])))]⟩) (fun k => k ≤ i.sts.length ∧ ∀ j w, j < k → i.sts[j]? = some w → StOk i w j) (fun k => i.sts.length - k) 0 [(501, some 101)] ⟨by omega, fun j w h => by omega⟩ ?_ ?_
                  · simp [go_sem, ↓iteOmega, iteOmega, toNatUp]
                  rintro k ⟨hk, hall⟩
                  by_cases hk2 : k < i.sts.length
                  · obtain ⟨w, hw⟩ := has_get hk2
                    by_cases g1 : WtOk w i.win
                    · have c := waiting_fn w i.win (hs w (mem_get hw)).1 (hs w (mem_get hw)).2 true (decide_eq_true g1)
                      by_cases hk0 : k = 0
                      · subst hk0
                        repeat (first | (refine nf1_sound rfl ?_; simp [go_sem, ↓iteOmega, iteOmega, toNatUp, hw]; (repeat (refine And.intro (by omega) ?_)); try (refine ⟨DrawChk_of (by kernel_rfl), ?_⟩)) | (refine itePos (by omega) ?_; try simp [go_sem, ↓iteOmega, iteOmega, toNatUp, hw]) | (refine iteNeg (by omega) ?_; try simp [go_sem, ↓iteOmega, iteOmega, toNatUp, hw]) | (refine ⟨DrawChk_of (by kernel_rfl), ?_⟩))
                        refine CallK.fn (c) [] [] [] (by kernel_rfl) (by simp [go_sem, ↓iteOmega, iteOmega, toNatUp]) (by simp [go_sem, ↓iteOmega, iteOmega, toNatUp]) (by simp [go_sem, ↓iteOmega, iteOmega, toNatUp]) (Or.inl rfl) ?_
                        simp [go_sem, ↓iteOmega, iteOmega, toNatUp]
                        repeat (refine And.intro (by omega) ?_)
                        try (refine ⟨DrawChk_of (by kernel_rfl), ?_⟩)
                        repeat (first | (refine nf1_sound rfl ?_; simp [go_sem, ↓iteOmega, iteOmega, toNatUp]; (repeat (refine And.intro (by omega) ?_)); try (refine ⟨DrawChk_of (by kernel_rfl), ?_⟩)) | (refine itePos (by omega) ?_; try simp [go_sem, ↓iteOmega, iteOmega, toNatUp]) | (refine iteNeg (by omega) ?_; try simp [go_sem, ↓iteOmega, iteOmega, toNatUp]) | (refine ⟨DrawChk_of (by kernel_rfl), ?_⟩))
                        rw [RoundQ_normal]; refine ⟨1, [(501, some 501)], ?_, ?_, ?_⟩
                        · refine ⟨by omega, fun j x hj hx => ?_⟩
                          obtain rfl : j = 0 := by omega
                          rw [hw] at hx
                          obtain rfl := Option.some.inj hx
                          exact ⟨g1, fun v h => by omega⟩
                        · omega
                        simp [go_sem, ↓iteOmega, iteOmega, toNatUp]
                      · obtain ⟨m, rfl⟩ : ∃ m, k = m + 1 := ⟨k - 1, by omega⟩
                        obtain ⟨v, hv⟩ := has_get (show m < i.sts.length by omega)
                        have em : ((m + 1 : Nat) : Int) - 1 = (m : Int) := by omega
                        by_cases g2 : v.st < w.st
                        · repeat (first | (refine nf1_sound rfl ?_; simp [go_sem, ↓iteOmega, iteOmega, toNatUp, hw]; (repeat (refine And.intro (by omega) ?_)); try (refine ⟨DrawChk_of (by kernel_rfl), ?_⟩)) | (refine itePos (by omega) ?_; try simp [go_sem, ↓iteOmega, iteOmega, toNatUp, hw]) | (refine iteNeg (by omega) ?_; try simp [go_sem, ↓iteOmega, iteOmega, toNatUp, hw]) | (refine ⟨DrawChk_of (by kernel_rfl), ?_⟩))
                          refine CallK.fn (c) [] [] [] (by kernel_rfl) (by simp [go_sem, ↓iteOmega, iteOmega, toNatUp, em, hv]) (by simp [go_sem, ↓iteOmega, iteOmega, toNatUp, em, hv]) (by simp [go_sem, ↓iteOmega, iteOmega, toNatUp, em, hv]) (Or.inl rfl) ?_
                          simp [go_sem, ↓iteOmega, iteOmega, toNatUp, em, hv]
                          repeat (refine And.intro (by omega) ?_)
                          try (refine ⟨DrawChk_of (by kernel_rfl), ?_⟩)
                          repeat (first | (refine nf1_sound rfl ?_; simp [go_sem, ↓iteOmega, iteOmega, toNatUp, em, hv]; (repeat (refine And.intro (by omega) ?_)); try (refine ⟨DrawChk_of (by kernel_rfl), ?_⟩)) | (refine itePos (by omega) ?_; try simp [go_sem, ↓iteOmega, iteOmega, toNatUp, em, hv]) | (refine iteNeg (by omega) ?_; try simp [go_sem, ↓iteOmega, iteOmega, toNatUp, em, hv]) | (refine ⟨DrawChk_of (by kernel_rfl), ?_⟩))
                          rw [RoundQ_normal]; refine ⟨m + 1 + 1, [(501, some 501)], ?_, ?_, ?_⟩
                          · refine ⟨by omega, fun j x hj hx => ?_⟩
                            by_cases e : j < m + 1
                            · exact hall j x e hx
                            · obtain rfl : j = m + 1 := by omega
                              rw [hw] at hx
                              obtain rfl := Option.some.inj hx
                              refine ⟨g1, fun v' _ h => ?_⟩
                              rw [show m + 1 - 1 = m by omega, hv] at h
                              obtain rfl := Option.some.inj h
                              exact g2
                          · omega
                          simp [go_sem, ↓iteOmega, iteOmega, toNatUp]
                        · obtain rfl : g = false := by
                            cases g
                            · rfl
                            · exact absurd ((hg.1 rfl).st (m + 1) w hw |>.2 v (by omega) (by simpa using hv)) g2
                          repeat (first | (refine nf1_sound rfl ?_; simp [go_sem, ↓iteOmega, iteOmega, toNatUp, hw]; (repeat (refine And.intro (by omega) ?_)); try (refine ⟨DrawChk_of (by kernel_rfl), ?_⟩)) | (refine itePos (by omega) ?_; try simp [go_sem, ↓iteOmega, iteOmega, toNatUp, hw]) | (refine iteNeg (by omega) ?_; try simp [go_sem, ↓iteOmega, iteOmega, toNatUp, hw]) | (refine ⟨DrawChk_of (by kernel_rfl), ?_⟩))
                          refine CallK.fn (c) [] [] [] (by kernel_rfl) (by simp [go_sem, ↓iteOmega, iteOmega, toNatUp, em, hv]) (by simp [go_sem, ↓iteOmega, iteOmega, toNatUp, em, hv]) (by simp [go_sem, ↓iteOmega, iteOmega, toNatUp, em, hv]) (Or.inl rfl) ?_
                          simp [go_sem, ↓iteOmega, iteOmega, toNatUp, em, hv]
                          repeat (refine And.intro (by omega) ?_)
                          try (refine ⟨DrawChk_of (by kernel_rfl), ?_⟩)
                          repeat (first | (refine nf1_sound rfl ?_; simp [go_sem, ↓iteOmega, iteOmega, toNatUp, em, hv]; (repeat (refine And.intro (by omega) ?_)); try (refine ⟨DrawChk_of (by kernel_rfl), ?_⟩)) | (refine itePos (by omega) ?_; try simp [go_sem, ↓iteOmega, iteOmega, toNatUp, em, hv]) | (refine iteNeg (by omega) ?_; try simp [go_sem, ↓iteOmega, iteOmega, toNatUp, em, hv]) | (refine ⟨DrawChk_of (by kernel_rfl), ?_⟩))
                          first | rw [RetQ_ret] | rw [RetQ_normal]
                          refine ⟨[], ?_⟩
                          simp [go_sem, ↓iteOmega, iteOmega, toNatUp]
                    · have c := waiting_fn w i.win (hs w (mem_get hw)).1 (hs w (mem_get hw)).2 false (decide_eq_false g1)
                      obtain rfl : g = false := by
                        cases g
                        · rfl
                        · exact absurd ((hg.1 rfl).st k w hw).1 g1
                      repeat (first | (refine nf1_sound rfl ?_; simp [go_sem, ↓iteOmega, iteOmega, toNatUp, hw]; (repeat (refine And.intro (by omega) ?_)); try (refine ⟨DrawChk_of (by kernel_rfl), ?_⟩)) | (refine itePos (by omega) ?_; try simp [go_sem, ↓iteOmega, iteOmega, toNatUp, hw]) | (refine iteNeg (by omega) ?_; try simp [go_sem, ↓iteOmega, iteOmega, toNatUp, hw]) | (refine ⟨DrawChk_of (by kernel_rfl), ?_⟩))
                      refine CallK.fn (c) [] [] [] (by kernel_rfl) (by simp [go_sem, ↓iteOmega, iteOmega, toNatUp]) (by simp [go_sem, ↓iteOmega, iteOmega, toNatUp]) (by simp [go_sem, ↓iteOmega, iteOmega, toNatUp]) (Or.inl rfl) ?_
                      simp [go_sem, ↓iteOmega, iteOmega, toNatUp]
                      repeat (refine And.intro (by omega) ?_)
                      try (refine ⟨DrawChk_of (by kernel_rfl), ?_⟩)
                      repeat (first | (refine nf1_sound rfl ?_; simp [go_sem, ↓iteOmega, iteOmega, toNatUp]; (repeat (refine And.intro (by omega) ?_)); try (refine ⟨DrawChk_of (by kernel_rfl), ?_⟩)) | (refine itePos (by omega) ?_; try simp [go_sem, ↓iteOmega, iteOmega, toNatUp]) | (refine iteNeg (by omega) ?_; try simp [go_sem, ↓iteOmega, iteOmega, toNatUp]) | (refine ⟨DrawChk_of (by kernel_rfl), ?_⟩))
                      first | rw [RetQ_ret] | rw [RetQ_normal]
                      refine ⟨[], ?_⟩
                      simp [go_sem, ↓iteOmega, iteOmega, toNatUp]
                  · obtain rfl : k = i.sts.length := by omega
                    obtain rfl : g = true := hg.2 ⟨h0, h1, h2, h3, ht, fun j w hw => hall j w (List.getElem?_eq_some_iff.1 hw).1 hw⟩
                    repeat (first | (refine nf1_sound rfl ?_; simp [go_sem, ↓iteOmega, iteOmega, toNatUp]; (repeat (refine And.intro (by omega) ?_)); try (refine ⟨DrawChk_of (by kernel_rfl), ?_⟩)) | (refine itePos (by omega) ?_; try simp [go_sem, ↓iteOmega, iteOmega, toNatUp]) | (refine iteNeg (by omega) ?_; try simp [go_sem, ↓iteOmega, iteOmega, toNatUp]) | (refine ⟨DrawChk_of (by kernel_rfl), ?_⟩))
                    first | rw [RetQ_ret] | rw [RetQ_normal]
                    refine ⟨[], ?_⟩
                    simp [go_sem, ↓iteOmega, iteOmega, toNatUp]

            · obtain rfl : g = false := by
                cases g
                · rfl
                · exact absurd (Option.some.inj (hc0.symm.trans ((hg.1 rfl).tk.resolve_left h4).1)) h5
              have h5' : ¬ ((c0 : Int) = 126) := by omega
              refine FnOk.intro fact_mixed Try.func34 rfl Try.ntmps34 (by rfl) (by simp) ?_
              repeat (first | (refine nf1_sound rfl ?_; simp [go_sem, ↓iteOmega, iteOmega, toNatUp, hc0, h5, h5']; (repeat (refine And.intro (by omega) ?_)); try (refine ⟨DrawChk_of (by kernel_rfl), ?_⟩)) | (refine itePos (by omega) ?_; try simp [go_sem, ↓iteOmega, iteOmega, toNatUp, hc0, h5, h5']) | (refine iteNeg (by omega) ?_; try simp [go_sem, ↓iteOmega, iteOmega, toNatUp, hc0, h5, h5']) | (refine ⟨DrawChk_of (by kernel_rfl), ?_⟩))
              first | rw [RetQ_ret] | rw [RetQ_normal]
              refine ⟨[], ?_⟩
              simp [go_sem, ↓iteOmega, iteOmega, toNatUp]
        · obtain rfl : g = false := by
            cases g
            · rfl
            · exact absurd ((hg.1 rfl).sl) h3
          refine FnOk.intro fact_mixed Try.func34 rfl Try.ntmps34 (by rfl) (by simp) ?_
          repeat (first | (refine nf1_sound rfl ?_; simp [go_sem, ↓iteOmega, iteOmega, toNatUp]; (repeat (refine And.intro (by omega) ?_)); try (refine ⟨DrawChk_of (by kernel_rfl), ?_⟩)) | (refine itePos (by omega) ?_; try simp [go_sem, ↓iteOmega, iteOmega, toNatUp]) | (refine iteNeg (by omega) ?_; try simp [go_sem, ↓iteOmega, iteOmega, toNatUp]) | (refine ⟨DrawChk_of (by kernel_rfl), ?_⟩))
          first | rw [RetQ_ret] | rw [RetQ_normal]
          refine ⟨[], ?_⟩
          simp [go_sem, ↓iteOmega, iteOmega, toNatUp]
      · obtain rfl : g = false := by
          cases g
          · rfl
          · exact absurd ((hg.1 rfl).tl) h2
        refine FnOk.intro fact_mixed Try.func34 rfl Try.ntmps34 (by rfl) (by simp) ?_
        repeat (first | (refine nf1_sound rfl ?_; simp [go_sem, ↓iteOmega, iteOmega, toNatUp]; (repeat (refine And.intro (by omega) ?_)); try (refine ⟨DrawChk_of (by kernel_rfl), ?_⟩)) | (refine itePos (by omega) ?_; try simp [go_sem, ↓iteOmega, iteOmega, toNatUp]) | (refine iteNeg (by omega) ?_; try simp [go_sem, ↓iteOmega, iteOmega, toNatUp]) | (refine ⟨DrawChk_of (by kernel_rfl), ?_⟩))
        first | rw [RetQ_ret] | rw [RetQ_normal]
        refine ⟨[], ?_⟩
        simp [go_sem, ↓iteOmega, iteOmega, toNatUp]
    · obtain rfl : g = false := by
        cases g
        · rfl
        · exact absurd ((hg.1 rfl).wx) h1
      refine FnOk.intro fact_mixed Try.func34 rfl Try.ntmps34 (by rfl) (by simp) ?_
      repeat (first | (refine nf1_sound rfl ?_; simp [go_sem, ↓iteOmega, iteOmega, toNatUp]; (repeat (refine And.intro (by omega) ?_)); try (refine ⟨DrawChk_of (by kernel_rfl), ?_⟩)) | (refine itePos (by omega) ?_; try simp [go_sem, ↓iteOmega, iteOmega, toNatUp]) | (refine iteNeg (by omega) ?_; try simp [go_sem, ↓iteOmega, iteOmega, toNatUp]) | (refine ⟨DrawChk_of (by kernel_rfl), ?_⟩))
      first | rw [RetQ_ret] | rw [RetQ_normal]
      refine ⟨[], ?_⟩
      simp [go_sem, ↓iteOmega, iteOmega, toNatUp]
  · obtain rfl : g = false := by
      cases g
      · rfl
      · exact absurd ((hg.1 rfl).wn) h0
    refine FnOk.intro fact_mixed Try.func34 rfl Try.ntmps34 (by rfl) (by simp) ?_
    repeat (first | (refine nf1_sound rfl ?_; simp [go_sem, ↓iteOmega, iteOmega, toNatUp]; (repeat (refine And.intro (by omega) ?_)); try (refine ⟨DrawChk_of (by kernel_rfl), ?_⟩)) | (refine itePos (by omega) ?_; try simp [go_sem, ↓iteOmega, iteOmega, toNatUp]) | (refine iteNeg (by omega) ?_; try simp [go_sem, ↓iteOmega, iteOmega, toNatUp]) | (refine ⟨DrawChk_of (by kernel_rfl), ?_⟩))
    first | rw [RetQ_ret] | rw [RetQ_normal]
    refine ⟨[], ?_⟩
    simp [go_sem, ↓iteOmega, iteOmega, toNatUp]
end Go.Proofs.Ytopmmodcaoaaeaa
