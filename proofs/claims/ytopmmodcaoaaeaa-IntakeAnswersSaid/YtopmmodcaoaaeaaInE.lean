/- bytes.IndexByte and bytes.LastIndexByte. No condition. What IndexByte and LastIndexByte find. No condition. intake.valid. No condition. New, of the program and of the reference. No condition. The reference's give. No condition. What Take computes; the reference's Take. No condition. The reference's Take. No condition. -/
import Derived.Test.YtopmmodcaoaaeaaInA
import Derived.Lib.BytesEntry
namespace Go.Proofs.Ytopmmodcaoaaeaa
open Go.RowKit Sy
open Go.IntWalk renaming iteOmega → iO, toNatUp → tN
set_option linter.unusedVariables false
set_option linter.unusedSimpArgs false
/-- The cells of a list of bytes. -/
theorem cells_u8 {F : Nat → Prop} {w : World} : ∀ {l : List Nat} {cells : List Value}, Reps F w (l.map encU) cells → cells = l.map fun c => .int .u8 (c : Int)
  | [], cells, h => by simpa [Reps] using h
  | c :: r, cells, h => by
    rw [List.map_cons] at h
    unfold Reps at h
    obtain ⟨v, cs, rfl, h1, h2⟩ := h
    have e1 := cells_u8 h2
    unfold encU Rep at h1
    rw [h1.1, e1]
    rfl
set_option maxHeartbeats 1000000 in
set_option maxRecDepth 100000 in
theorem indexb_fn (l : List Nat) (hne : l ≠ []) (c : Nat) : FnOk Try.prog 53 [.t (encUs l), .t (.lit (.int .u8 c))] [] (.t (.int (Lib.indexByte (Lib.bytesOf (l.map fun (x : Nat) => (x : Int))) (c : Int).toNat.toUInt8))) [] := by
  intro G w us hh hr
  unfold RepPs at hr
  obtain ⟨u1, r1, rfl, h1, hr⟩ := hr
  unfold RepPs at hr
  obtain ⟨u2, r2, rfl, h2, hr⟩ := hr
  unfold RepPs at hr
  subst hr
  unfold RepS Rep at h2
  obtain ⟨rfl, _⟩ := h2
  unfold RepS encUs Rep at h1
  obtain ⟨x, cap, cells, rfl, h3, h4, h5⟩ := h1
  have h6 := cells_u8 h3
  rcases h5.cells with h7 | ⟨b, off, rfl, hb, h7⟩
  · exact absurd (by simpa using h7) hne
  have hc : ∀ i, i < (l.map fun (x : Nat) => (x : Int)).length → w.cell? ⟨b, off + i, none⟩ = some (.int .u8 ((l.map fun (x : Nat) => (x : Int)).getD i 0)) := by
    intro i hi
    refine h7 i _ ?_
    rw [h6]
    have hi2 : i < l.length := by simpa using hi
    simp [hi2]
  have key : Calls Try.prog 53 #[.slice (some ⟨b, off, none⟩) (l.map encU).length cap, .int .u8 c] w fun e w' => e = .returned (.int .i64 (Lib.indexByte (Lib.bytesOf (l.map fun (x : Nat) => (x : Int))) (c : Int).toNat.toUInt8)) ∧ w' = w := by
    go_enter Try.func53, Try.ntmps53
    go_wp2
    rw [run_callFunc_extern Try.func76 (by kernel_rfl) (by kernel_rfl) (by kernel_rfl) (e := Extern.BytealgIndexByte.indexByte) (by kernel_rfl), Lib.run_indexByteSlice w b off _ cap (l.map fun (x : Nat) => (x : Int)) (by simp) (by simpa using hc) c]
    simp only [Result.andThen]
    rw [Oper.upon_value]
    go_wp2
    go_ret
    exact ⟨rfl, rfl⟩
  refine key.mono ?_
  rintro e w' ⟨rfl, rfl⟩
  exact ⟨_, G, rfl, ⟨rfl, rfl, rfl, Nat.le_refl _, fun _ _ _ => rfl, fun l b k h => by simp [lkB] at h, fun _ h => h, fun _ h => .inl h, fun _ _ => rfl⟩, hh, ⟨rfl, rfl⟩⟩
end Go.Proofs.Ytopmmodcaoaaeaa
namespace Go.Proofs.Ytopmmodcaoaaeaa
open Go.RowKit Sy
open Go.IntWalk renaming iteOmega → iO, toNatUp → tN
set_option linter.unusedVariables false
set_option linter.unusedSimpArgs false
theorem ixb_iff : ∀ (l : List Nat) (c : Nat), (∀ x ∈ l, x < 256) → c < 256 → (0 ≤ Lib.indexByte (Lib.bytesOf (l.map fun (x : Nat) => (x : Int))) (c : Int).toNat.toUInt8 ↔ c ∈ l)
  | [], c, _, _ => by simp [Lib.bytesOf, Lib.indexByte]
  | a :: r, c, h8, hc => by
    have ih := ixb_iff r c (fun x h => h8 x (List.mem_cons_of_mem _ h)) hc
    have ha := h8 a (List.mem_cons_self ..)
    have he : (((a : Int).toNat.toUInt8 == (c : Int).toNat.toUInt8) = true) ↔ a = c := by
      rw [beq_iff_eq]
      constructor
      · intro h
        have := congrArg UInt8.toNat h
        simp at this
        omega
      · rintro rfl; rfl
    have e : Lib.bytesOf ((a :: r).map fun (x : Nat) => (x : Int)) = (a : Int).toNat.toUInt8 :: Lib.bytesOf (r.map fun (x : Nat) => (x : Int)) := by simp [Lib.bytesOf]
    rw [e]
    unfold Lib.indexByte
    have hge := Lib.indexByte_ge (Lib.bytesOf (r.map fun (x : Nat) => (x : Int))) (c : Int).toNat.toUInt8
    by_cases hac : a = c
    · rw [if_pos (he.2 hac)]
      simp [hac]
    · rw [if_neg (fun h => hac (he.1 h))]
      rw [List.mem_cons]
      have hca : ¬ c = a := fun h => hac h.symm
      split
      · rename_i h
        have h := beq_iff_eq.1 h
        rw [h] at ih
        constructor
        · intro h; omega
        · rintro (h | h)
          · exact absurd h hca
          · exact absurd (ih.2 h) (by omega)
      · rename_i h
        have h : ¬ Lib.indexByte (Lib.bytesOf (r.map fun (x : Nat) => (x : Int))) (c : Int).toNat.toUInt8 = -1 := fun g => h (beq_iff_eq.2 g)
        constructor
        · intro _; exact .inr (ih.1 (by omega))
        · intro _; omega
theorem last_yes (c : Nat) (l : List Nat) : ∀ k, k ≤ l.length → (∀ i, i < k → l[i]? ≠ some c) ∨ ∃ j, j < k ∧ l[j]? = some c ∧ ∀ i, j < i → i < k → l[i]? ≠ some c
  | 0, _ => .inl fun i h => by omega
  | k + 1, hk => by
    by_cases h : l[k]? = some c
    · exact .inr ⟨k, by omega, h, fun i h1 h2 => by omega⟩
    · rcases last_yes c l k (by omega) with h1 | ⟨j, h1, h2, h3⟩
      · refine .inl fun i hi => ?_
        by_cases e : i = k
        · subst e; exact h
        · exact h1 i (by omega)
      · refine .inr ⟨j, by omega, h2, fun i h4 h5 => ?_⟩
        by_cases e : i = k
        · subst e; exact h
        · exact h3 i h4 (by omega)
set_option maxRecDepth 100000 in
set_option maxHeartbeats 4000000 in
theorem lastbI_fn (l : List Nat) (hl : l.length ≤ 1000000) (c : Nat) (n : Int) (hn : n = -1 ∧ (∀ i, i < l.length → l[i]? ≠ some c) ∨ ∃ j : Nat, n = j ∧ j < l.length ∧ l[j]? = some c ∧ ∀ i, j < i → i < l.length → l[i]? ≠ some c) : FnOk Try.prog 75 [.t (encUs l), .t (.lit (.int .u8 c))] [] (.t (.int n)) [] := by
  refine FnOk.intro fact_mixed Try.func75 rfl Try.ntmps75 (by rfl) (by simp) ?_
  repeat (first | (refine nf1_sound rfl ?_; simp [go_sem, ↓iO, iO, tN]; (repeat (refine anI ?_)); try (refine ⟨dcK, ?_⟩)) | ((first | refine itePos (by omega) ?_ | refine iteNeg (by omega) ?_); try simp [go_sem, ↓iO, iO, tN]) | (refine ⟨dcK, ?_⟩))
  refine nf1_sound' _ _ _ ?_; simp only [nf1]
  refine CW.loop (ι := Nat) (fun k => ⟨[(0, .t (encUs l)), (1, .t (.lit (.int .u8 c))), (5, .t (.int ((k : Int) - 1)))], []⟩) (fun k => n < k ∧ k ≤ l.length) (fun k => k) l.length [] ?_ ?_ ?_
  · rcases hn with ⟨rfl, _⟩ | ⟨j, rfl, h, _⟩ <;> omega
  · simp [go_sem, ↓iO, iO, tN]
  rintro k ⟨h1, h2⟩
  by_cases h0 : k = 0
  · subst h0
    obtain rfl : n = -1 := by
      rcases hn with ⟨rfl, _⟩ | ⟨j, rfl, h, _⟩ <;> omega
    repeat (first | (refine nf1_sound rfl ?_; simp [go_sem, ↓iO, iO, tN]; (repeat (refine anI ?_)); try (refine ⟨dcK, ?_⟩)) | ((first | refine itePos (by omega) ?_ | refine iteNeg (by omega) ?_); try simp [go_sem, ↓iO, iO, tN]) | (refine ⟨dcK, ?_⟩))
    first | rw [RetQ_ret] | rw [RetQ_normal]
    refine ⟨[], ?_⟩
    simp [go_sem, ↓iO, iO, tN]
  · obtain ⟨i, rfl⟩ : ∃ i, k = i + 1 := ⟨k - 1, by omega⟩
    obtain ⟨x, hx⟩ := has_get (show i < l.length by omega)
    have e : ((i + 1 : Nat) : Int) - 1 = (i : Int) := by omega
    rw [e]
    by_cases hxc : x = c
    · subst hxc
      obtain rfl : n = i := by
        rcases hn with ⟨rfl, h⟩ | ⟨j, rfl, h, h3, h4⟩
        · exact absurd hx (h i (by omega))
        · by_cases g : j < i
          · exact absurd hx (h4 i g (by omega))
          · omega
      repeat (first | (refine nf1_sound rfl ?_; simp [go_sem, ↓iO, iO, tN, hx]; (repeat (refine anI ?_)); try (refine ⟨dcK, ?_⟩)) | ((first | refine itePos (by omega) ?_ | refine iteNeg (by omega) ?_); try simp [go_sem, ↓iO, iO, tN, hx]) | (refine ⟨dcK, ?_⟩))
      first | rw [RetQ_ret] | rw [RetQ_normal]
      refine ⟨[], ?_⟩
      simp [go_sem, ↓iO, iO, tN]
    · have hne : n ≠ i := by
        rcases hn with ⟨rfl, h⟩ | ⟨j, rfl, h, h3, h4⟩
        · omega
        · intro g
          obtain rfl : j = i := by omega
          rw [hx] at h3
          exact hxc (Option.some.inj h3)
      have hxc2 : ¬ ((x : Int) = (c : Int)) := by omega
      repeat (first | (refine nf1_sound rfl ?_; simp [go_sem, ↓iO, iO, tN, hx, hxc, hxc2]; (repeat (refine anI ?_)); try (refine ⟨dcK, ?_⟩)) | ((first | refine itePos (by omega) ?_ | refine iteNeg (by omega) ?_); try simp [go_sem, ↓iO, iO, tN, hx, hxc, hxc2]) | (refine ⟨dcK, ?_⟩))
      rw [RoundQ_normal]; refine ⟨i, [], ?_, ?_, ?_⟩
      · omega
      · omega
      simp [go_sem, ↓iO, iO, tN]
set_option maxRecDepth 100000 in
theorem lastb0_fn (l : List Nat) (hl : l.length ≤ 1000000) (c : Nat) (n : Int) (c1 : FnOk Try.prog 75 [.t (encUs l), .t (.lit (.int .u8 c))] [] (.t (.int n)) []) : FnOk Try.prog 52 [.t (encUs l), .t (.lit (.int .u8 c))] [] (.t (.int n)) [] := by
  have e75 : entB Try.prog 75 = true := by kernel_rfl
  refine FnOk.intro fact_mixed Try.func52 rfl Try.ntmps52 (by rfl) (by simp) ?_
  repeat (first | (refine nf1_sound rfl ?_; simp [go_sem, ↓iO, iO, tN, e75]; (repeat (refine anI ?_)); try (refine ⟨dcK, ?_⟩)) | ((first | refine itePos (by omega) ?_ | refine iteNeg (by omega) ?_); try simp [go_sem, ↓iO, iO, tN, e75]) | (refine ⟨dcK, ?_⟩))
  refine CallK.fn (c1) [] [] [] (by kernel_rfl) ?_ ?_ ?_ (Or.inl rfl) ?_ <;> simp [go_sem, ↓iO, iO, tN]
  repeat (refine anI ?_)
  try (refine ⟨dcK, ?_⟩)
  repeat (first | (refine nf1_sound rfl ?_; simp [go_sem, ↓iO, iO, tN]; (repeat (refine anI ?_)); try (refine ⟨dcK, ?_⟩)) | ((first | refine itePos (by omega) ?_ | refine iteNeg (by omega) ?_); try simp [go_sem, ↓iO, iO, tN]) | (refine ⟨dcK, ?_⟩))
  first | rw [RetQ_ret] | rw [RetQ_normal]
  refine ⟨[], ?_⟩
  simp [go_sem, ↓iO, iO, tN]
theorem lastb_fn (l : List Nat) (hl : l.length ≤ 1000000) (c : Nat) : ∃ n : Int, (0 < n ↔ ∃ i, 0 < i ∧ l[i]? = some c) ∧ FnOk Try.prog 52 [.t (encUs l), .t (.lit (.int .u8 c))] [] (.t (.int n)) [] := by
  rcases last_yes c l l.length (Nat.le_refl _) with h | ⟨j, h1, h2, h3⟩
  · refine ⟨-1, ⟨by omega, ?_⟩, lastb0_fn l hl c _ (lastbI_fn l hl c _ (.inl ⟨rfl, h⟩))⟩
    rintro ⟨i, hi, g⟩
    exact absurd g (h i (List.getElem?_eq_some_iff.1 g).1)
  · refine ⟨j, ⟨fun h => ⟨j, by omega, h2⟩, ?_⟩, lastb0_fn l hl c _ (lastbI_fn l hl c _ (.inr ⟨j, rfl, h1, h2, h3⟩))⟩
    rintro ⟨i, hi, g⟩
    by_cases e : j < i
    · exact absurd g (h3 i e (List.getElem?_eq_some_iff.1 g).1)
    · omega
end Go.Proofs.Ytopmmodcaoaaeaa
namespace Go.Proofs.Ytopmmodcaoaaeaa
open Go.RowKit Sy
open Go.IntWalk renaming iteOmega → iO, toNatUp → tN
set_option linter.unusedVariables false
set_option linter.unusedSimpArgs false
structure In where
  win : Int
  tail : List Nat
  sts : List Wt
@[go_sem] def encIn (i : In) : T := .agg [.int i.win, encUs i.tail, encWts i.sts]
def tailOk (l : List Nat) : Prop := l = [] ∨ (l[0]? = some 126 ∧ (¬ ∃ i, 0 < i ∧ l[i]? = some 126) ∧ 124 ∉ l)
def StOk (i : In) (w : Wt) (j : Nat) : Prop := WtOk w i.win ∧ ∀ v, 0 < j → i.sts[j - 1]? = some v → v.st < w.st
structure InOk (i : In) : Prop where
  wn : ¬ i.win < 0
  wx : ¬ 16 < i.win
  tl : ¬ 400 < i.tail.length
  sl : ¬ 64 < i.sts.length
  tk : tailOk i.tail
  st : ∀ j w, i.sts[j]? = some w → StOk i w j
/-- Lists of moderate length. -/
def Mod (w : Wt) : Prop := w.held.length ≤ 1000000 ∧ ∀ t ∈ w.held, t.vs.length ≤ 9223372036854775807
set_option maxRecDepth 100000 in
set_option maxHeartbeats 8000000 in
theorem invalid_fn (i : In) (htl : i.tail.length ≤ 1000000) (hsl : i.sts.length ≤ 1000000) (h8 : ∀ c ∈ i.tail, c < 256) (hs : ∀ w ∈ i.sts, Mod w) (g : Bool) (hg : g = true ↔ InOk i) : FnOk Try.prog 34 [.t (encIn i)] [] (.t (.bool g)) [] := by
  by_cases h0 : ¬ i.win < 0
  · skip
    by_cases h1 : ¬ 16 < i.win
    · skip
      by_cases h2 : ¬ 400 < i.tail.length
      · skip
        by_cases h3 : ¬ 64 < i.sts.length
        · skip
          by_cases h4 : i.tail = []
          · have ht : tailOk i.tail := .inl h4
            have hlen : i.tail.length = 0 := by rw [h4]; rfl
            refine FnOk.intro fact_mixed Try.func34 rfl Try.ntmps34 (by rfl) (by simp) ?_
            repeat (first | (refine nf1_sound rfl ?_; simp [go_sem, ↓iO, iO, tN, hlen]; (repeat (refine anI ?_)); try (refine ⟨dcK, ?_⟩)) | ((first | refine itePos (by omega) ?_ | refine iteNeg (by omega) ?_); try simp [go_sem, ↓iO, iO, tN, hlen]) | (refine ⟨dcK, ?_⟩))
            refine nf1_sound' _ _ _ ?_; simp only [nf1]
            refine CW.loop (ι := Nat) (fun k => ⟨[(1, .pt 501 [] 0), (51, .t (encWts i.sts)), (52, .t (.int i.sts.length)), (53, .t (.int k))], [(501, .box 29 (.t (.agg [.int i.win, encUs i.tail, encWts i.sts])))]⟩) (fun k => k ≤ i.sts.length ∧ ∀ j w, j < k → i.sts[j]? = some w → StOk i w j) (fun k => i.sts.length - k) 0 [(501, some 101)] ⟨by omega, fun j w h => by omega⟩ ?_ ?_
            · simp [go_sem, ↓iO, iO, tN]
            rintro k ⟨hk, hall⟩
            by_cases hk2 : k < i.sts.length
            · obtain ⟨w, hw⟩ := has_get hk2
              by_cases g1 : WtOk w i.win
              · have c := waiting_fn w i.win (hs w (mem_get hw)).1 (hs w (mem_get hw)).2 true (decide_eq_true g1)
                by_cases hk0 : k = 0
                · subst hk0
                  repeat (first | (refine nf1_sound rfl ?_; simp [go_sem, ↓iO, iO, tN, hw]; (repeat (refine anI ?_)); try (refine ⟨dcK, ?_⟩)) | ((first | refine itePos (by omega) ?_ | refine iteNeg (by omega) ?_); try simp [go_sem, ↓iO, iO, tN, hw]) | (refine ⟨dcK, ?_⟩))
                  refine CallK.fn (c) [] [] [] (by kernel_rfl) ?_ ?_ ?_ (Or.inl rfl) ?_ <;> simp [go_sem, ↓iO, iO, tN]
                  repeat (refine anI ?_)
                  try (refine ⟨dcK, ?_⟩)
                  repeat (first | (refine nf1_sound rfl ?_; simp [go_sem, ↓iO, iO, tN]; (repeat (refine anI ?_)); try (refine ⟨dcK, ?_⟩)) | ((first | refine itePos (by omega) ?_ | refine iteNeg (by omega) ?_); try simp [go_sem, ↓iO, iO, tN]) | (refine ⟨dcK, ?_⟩))
                  rw [RoundQ_normal]; refine ⟨1, [(501, some 501)], ?_, ?_, ?_⟩
                  · refine ⟨by omega, fun j x hj hx => ?_⟩
                    obtain rfl : j = 0 := by omega
                    rw [hw] at hx
                    obtain rfl := Option.some.inj hx
                    exact ⟨g1, fun v h => by omega⟩
                  · omega
                  simp [go_sem, ↓iO, iO, tN]
                · obtain ⟨m, rfl⟩ : ∃ m, k = m + 1 := ⟨k - 1, by omega⟩
                  obtain ⟨v, hv⟩ := has_get (show m < i.sts.length by omega)
                  have em : ((m + 1 : Nat) : Int) - 1 = (m : Int) := by omega
                  by_cases g2 : v.st < w.st
                  · repeat (first | (refine nf1_sound rfl ?_; simp [go_sem, ↓iO, iO, tN, hw]; (repeat (refine anI ?_)); try (refine ⟨dcK, ?_⟩)) | ((first | refine itePos (by omega) ?_ | refine iteNeg (by omega) ?_); try simp [go_sem, ↓iO, iO, tN, hw]) | (refine ⟨dcK, ?_⟩))
                    refine CallK.fn (c) [] [] [] (by kernel_rfl) ?_ ?_ ?_ (Or.inl rfl) ?_ <;> simp [go_sem, ↓iO, iO, tN, em, hv]
                    repeat (refine anI ?_)
                    try (refine ⟨dcK, ?_⟩)
                    repeat (first | (refine nf1_sound rfl ?_; simp [go_sem, ↓iO, iO, tN, em, hv]; (repeat (refine anI ?_)); try (refine ⟨dcK, ?_⟩)) | ((first | refine itePos (by omega) ?_ | refine iteNeg (by omega) ?_); try simp [go_sem, ↓iO, iO, tN, em, hv]) | (refine ⟨dcK, ?_⟩))
                    rw [RoundQ_normal]; refine ⟨m + 1 + 1, [(501, some 501)], ?_, ?_, ?_⟩
                    · refine ⟨by omega, fun j x hj hx => ?_⟩
                      by_cases e : j < m + 1
                      · exact hall j x e hx
                      · obtain rfl : j = m + 1 := by omega
                        rw [hw] at hx
                        obtain rfl := Option.some.inj hx
                        refine ⟨g1, fun v' _ h => ?_⟩
                        rw [show m + 1 - 1 = m by omega, hv] at h
                        obtain rfl := Option.some.inj h
                        exact g2
                    · omega
                    simp [go_sem, ↓iO, iO, tN]
                  · obtain rfl : g = false := by
                      cases g
                      · rfl
                      · exact absurd ((hg.1 rfl).st (m + 1) w hw |>.2 v (by omega) (by simpa using hv)) g2
                    repeat (first | (refine nf1_sound rfl ?_; simp [go_sem, ↓iO, iO, tN, hw]; (repeat (refine anI ?_)); try (refine ⟨dcK, ?_⟩)) | ((first | refine itePos (by omega) ?_ | refine iteNeg (by omega) ?_); try simp [go_sem, ↓iO, iO, tN, hw]) | (refine ⟨dcK, ?_⟩))
                    refine CallK.fn (c) [] [] [] (by kernel_rfl) ?_ ?_ ?_ (Or.inl rfl) ?_ <;> simp [go_sem, ↓iO, iO, tN, em, hv]
                    repeat (refine anI ?_)
                    try (refine ⟨dcK, ?_⟩)
                    repeat (first | (refine nf1_sound rfl ?_; simp [go_sem, ↓iO, iO, tN, em, hv]; (repeat (refine anI ?_)); try (refine ⟨dcK, ?_⟩)) | ((first | refine itePos (by omega) ?_ | refine iteNeg (by omega) ?_); try simp [go_sem, ↓iO, iO, tN, em, hv]) | (refine ⟨dcK, ?_⟩))
                    first | rw [RetQ_ret] | rw [RetQ_normal]
                    refine ⟨[], ?_⟩
                    simp [go_sem, ↓iO, iO, tN]
              · have c := waiting_fn w i.win (hs w (mem_get hw)).1 (hs w (mem_get hw)).2 false (decide_eq_false g1)
                obtain rfl : g = false := by
                  cases g
                  · rfl
                  · exact absurd ((hg.1 rfl).st k w hw).1 g1
                repeat (first | (refine nf1_sound rfl ?_; simp [go_sem, ↓iO, iO, tN, hw]; (repeat (refine anI ?_)); try (refine ⟨dcK, ?_⟩)) | ((first | refine itePos (by omega) ?_ | refine iteNeg (by omega) ?_); try simp [go_sem, ↓iO, iO, tN, hw]) | (refine ⟨dcK, ?_⟩))
                refine CallK.fn (c) [] [] [] (by kernel_rfl) ?_ ?_ ?_ (Or.inl rfl) ?_ <;> simp [go_sem, ↓iO, iO, tN]
                repeat (refine anI ?_)
                try (refine ⟨dcK, ?_⟩)
                repeat (first | (refine nf1_sound rfl ?_; simp [go_sem, ↓iO, iO, tN]; (repeat (refine anI ?_)); try (refine ⟨dcK, ?_⟩)) | ((first | refine itePos (by omega) ?_ | refine iteNeg (by omega) ?_); try simp [go_sem, ↓iO, iO, tN]) | (refine ⟨dcK, ?_⟩))
                first | rw [RetQ_ret] | rw [RetQ_normal]
                refine ⟨[], ?_⟩
                simp [go_sem, ↓iO, iO, tN]
            · obtain rfl : k = i.sts.length := by omega
              obtain rfl : g = true := hg.2 ⟨h0, h1, h2, h3, ht, fun j w hw => hall j w (List.getElem?_eq_some_iff.1 hw).1 hw⟩
              repeat (first | (refine nf1_sound rfl ?_; simp [go_sem, ↓iO, iO, tN]; (repeat (refine anI ?_)); try (refine ⟨dcK, ?_⟩)) | ((first | refine itePos (by omega) ?_ | refine iteNeg (by omega) ?_); try simp [go_sem, ↓iO, iO, tN]) | (refine ⟨dcK, ?_⟩))
              first | rw [RetQ_ret] | rw [RetQ_normal]
              refine ⟨[], ?_⟩
              simp [go_sem, ↓iO, iO, tN]

          · have hpos : 0 < i.tail.length := List.length_pos_iff.2 h4
            obtain ⟨c0, hc0⟩ := has_get hpos
            by_cases h5 : c0 = 126
            · subst h5
              obtain ⟨n, hn, c1⟩ := lastb_fn i.tail (by omega) 126
              by_cases h6 : 0 < n
              · obtain rfl : g = false := by
                  cases g
                  · rfl
                  · exact absurd (hn.1 h6) (((hg.1 rfl).tk.resolve_left h4).2.1)
                refine FnOk.intro fact_mixed Try.func34 rfl Try.ntmps34 (by rfl) (by simp) ?_
                repeat (first | (refine nf1_sound rfl ?_; simp [go_sem, ↓iO, iO, tN, hc0]; (repeat (refine anI ?_)); try (refine ⟨dcK, ?_⟩)) | ((first | refine itePos (by omega) ?_ | refine iteNeg (by omega) ?_); try simp [go_sem, ↓iO, iO, tN, hc0]) | (refine ⟨dcK, ?_⟩))
                refine CallK.fn (c1) [] [] [] (by kernel_rfl) ?_ ?_ ?_ (Or.inl rfl) ?_ <;> simp [go_sem, ↓iO, iO, tN]
                repeat (refine anI ?_)
                try (refine ⟨dcK, ?_⟩)
                repeat (first | (refine nf1_sound rfl ?_; simp [go_sem, ↓iO, iO, tN]; (repeat (refine anI ?_)); try (refine ⟨dcK, ?_⟩)) | ((first | refine itePos (by omega) ?_ | refine iteNeg (by omega) ?_); try simp [go_sem, ↓iO, iO, tN]) | (refine ⟨dcK, ?_⟩))
                first | rw [RetQ_ret] | rw [RetQ_normal]
                refine ⟨[], ?_⟩
                simp [go_sem, ↓iO, iO, tN]
              · have c2 := indexb_fn i.tail h4 124
                have h7 := ixb_iff i.tail 124 h8 (by omega)
                obtain ⟨n2, hn2⟩ : ∃ n2, Lib.indexByte (Lib.bytesOf (i.tail.map fun (x : Nat) => (x : Int))) ((124 : Nat) : Int).toNat.toUInt8 = n2 := ⟨_, rfl⟩
                rw [hn2] at c2 h7
                by_cases h9 : 0 ≤ n2
                · obtain rfl : g = false := by
                    cases g
                    · rfl
                    · exact absurd (h7.1 h9) (((hg.1 rfl).tk.resolve_left h4).2.2)
                  refine FnOk.intro fact_mixed Try.func34 rfl Try.ntmps34 (by rfl) (by simp) ?_
                  repeat (first | (refine nf1_sound rfl ?_; simp [go_sem, ↓iO, iO, tN, hc0]; (repeat (refine anI ?_)); try (refine ⟨dcK, ?_⟩)) | ((first | refine itePos (by omega) ?_ | refine iteNeg (by omega) ?_); try simp [go_sem, ↓iO, iO, tN, hc0]) | (refine ⟨dcK, ?_⟩))
                  refine CallK.fn (c1) [] [] [] (by kernel_rfl) ?_ ?_ ?_ (Or.inl rfl) ?_ <;> simp [go_sem, ↓iO, iO, tN]
                  repeat (refine anI ?_)
                  try (refine ⟨dcK, ?_⟩)
                  repeat (first | (refine nf1_sound rfl ?_; simp [go_sem, ↓iO, iO, tN]; (repeat (refine anI ?_)); try (refine ⟨dcK, ?_⟩)) | ((first | refine itePos (by omega) ?_ | refine iteNeg (by omega) ?_); try simp [go_sem, ↓iO, iO, tN]) | (refine ⟨dcK, ?_⟩))
                  refine CallK.fn (c2) [] [] [] (by kernel_rfl) ?_ ?_ ?_ (Or.inl rfl) ?_ <;> simp [go_sem, ↓iO, iO, tN]
                  repeat (refine anI ?_)
                  try (refine ⟨dcK, ?_⟩)
                  repeat (first | (refine nf1_sound rfl ?_; simp [go_sem, ↓iO, iO, tN]; (repeat (refine anI ?_)); try (refine ⟨dcK, ?_⟩)) | ((first | refine itePos (by omega) ?_ | refine iteNeg (by omega) ?_); try simp [go_sem, ↓iO, iO, tN]) | (refine ⟨dcK, ?_⟩))
                  first | rw [RetQ_ret] | rw [RetQ_normal]
                  refine ⟨[], ?_⟩
                  simp [go_sem, ↓iO, iO, tN]
                · have ht : tailOk i.tail := .inr ⟨hc0, fun h => h6 (hn.2 h), fun h => h9 (h7.2 h)⟩
                  refine FnOk.intro fact_mixed Try.func34 rfl Try.ntmps34 (by rfl) (by simp) ?_
                  repeat (first | (refine nf1_sound rfl ?_; simp [go_sem, ↓iO, iO, tN, hc0]; (repeat (refine anI ?_)); try (refine ⟨dcK, ?_⟩)) | ((first | refine itePos (by omega) ?_ | refine iteNeg (by omega) ?_); try simp [go_sem, ↓iO, iO, tN, hc0]) | (refine ⟨dcK, ?_⟩))
                  refine CallK.fn (c1) [] [] [] (by kernel_rfl) ?_ ?_ ?_ (Or.inl rfl) ?_ <;> simp [go_sem, ↓iO, iO, tN]
                  repeat (refine anI ?_)
                  try (refine ⟨dcK, ?_⟩)
                  repeat (first | (refine nf1_sound rfl ?_; simp [go_sem, ↓iO, iO, tN]; (repeat (refine anI ?_)); try (refine ⟨dcK, ?_⟩)) | ((first | refine itePos (by omega) ?_ | refine iteNeg (by omega) ?_); try simp [go_sem, ↓iO, iO, tN]) | (refine ⟨dcK, ?_⟩))
                  refine CallK.fn (c2) [] [] [] (by kernel_rfl) ?_ ?_ ?_ (Or.inl rfl) ?_ <;> simp [go_sem, ↓iO, iO, tN]
                  repeat (refine anI ?_)
                  try (refine ⟨dcK, ?_⟩)
                  repeat (first | (refine nf1_sound rfl ?_; simp [go_sem, ↓iO, iO, tN]; (repeat (refine anI ?_)); try (refine ⟨dcK, ?_⟩)) | ((first | refine itePos (by omega) ?_ | refine iteNeg (by omega) ?_); try simp [go_sem, ↓iO, iO, tN]) | (refine ⟨dcK, ?_⟩))
                  refine nf1_sound' _ _ _ ?_; simp only [nf1]
                  refine CW.loop (ι := Nat) (fun k => ⟨[(1, .pt 501 [] 0), (51, .t (encWts i.sts)), (52, .t (.int i.sts.length)), (53, .t (.int k))], [(501, .box 29 (.t (.agg [.int i.win, encUs i.tail, encWts i.sts])))]⟩) (fun k => k ≤ i.sts.length ∧ ∀ j w, j < k → i.sts[j]? = some w → StOk i w j) (fun k => i.sts.length - k) 0 [(501, some 101)] ⟨by omega, fun j w h => by omega⟩ ?_ ?_
                  · simp [go_sem, ↓iO, iO, tN]
                  rintro k ⟨hk, hall⟩
                  by_cases hk2 : k < i.sts.length
                  · obtain ⟨w, hw⟩ := has_get hk2
                    by_cases g1 : WtOk w i.win
                    · have c := waiting_fn w i.win (hs w (mem_get hw)).1 (hs w (mem_get hw)).2 true (decide_eq_true g1)
                      by_cases hk0 : k = 0
                      · subst hk0
                        repeat (first | (refine nf1_sound rfl ?_; simp [go_sem, ↓iO, iO, tN, hw]; (repeat (refine anI ?_)); try (refine ⟨dcK, ?_⟩)) | ((first | refine itePos (by omega) ?_ | refine iteNeg (by omega) ?_); try simp [go_sem, ↓iO, iO, tN, hw]) | (refine ⟨dcK, ?_⟩))
                        refine CallK.fn (c) [] [] [] (by kernel_rfl) ?_ ?_ ?_ (Or.inl rfl) ?_ <;> simp [go_sem, ↓iO, iO, tN]
                        repeat (refine anI ?_)
                        try (refine ⟨dcK, ?_⟩)
                        repeat (first | (refine nf1_sound rfl ?_; simp [go_sem, ↓iO, iO, tN]; (repeat (refine anI ?_)); try (refine ⟨dcK, ?_⟩)) | ((first | refine itePos (by omega) ?_ | refine iteNeg (by omega) ?_); try simp [go_sem, ↓iO, iO, tN]) | (refine ⟨dcK, ?_⟩))
                        rw [RoundQ_normal]; refine ⟨1, [(501, some 501)], ?_, ?_, ?_⟩
                        · refine ⟨by omega, fun j x hj hx => ?_⟩
                          obtain rfl : j = 0 := by omega
                          rw [hw] at hx
                          obtain rfl := Option.some.inj hx
                          exact ⟨g1, fun v h => by omega⟩
                        · omega
                        simp [go_sem, ↓iO, iO, tN]
                      · obtain ⟨m, rfl⟩ : ∃ m, k = m + 1 := ⟨k - 1, by omega⟩
                        obtain ⟨v, hv⟩ := has_get (show m < i.sts.length by omega)
                        have em : ((m + 1 : Nat) : Int) - 1 = (m : Int) := by omega
                        by_cases g2 : v.st < w.st
                        · repeat (first | (refine nf1_sound rfl ?_; simp [go_sem, ↓iO, iO, tN, hw]; (repeat (refine anI ?_)); try (refine ⟨dcK, ?_⟩)) | ((first | refine itePos (by omega) ?_ | refine iteNeg (by omega) ?_); try simp [go_sem, ↓iO, iO, tN, hw]) | (refine ⟨dcK, ?_⟩))
                          refine CallK.fn (c) [] [] [] (by kernel_rfl) ?_ ?_ ?_ (Or.inl rfl) ?_ <;> simp [go_sem, ↓iO, iO, tN, em, hv]
                          repeat (refine anI ?_)
                          try (refine ⟨dcK, ?_⟩)
                          repeat (first | (refine nf1_sound rfl ?_; simp [go_sem, ↓iO, iO, tN, em, hv]; (repeat (refine anI ?_)); try (refine ⟨dcK, ?_⟩)) | ((first | refine itePos (by omega) ?_ | refine iteNeg (by omega) ?_); try simp [go_sem, ↓iO, iO, tN, em, hv]) | (refine ⟨dcK, ?_⟩))
                          rw [RoundQ_normal]; refine ⟨m + 1 + 1, [(501, some 501)], ?_, ?_, ?_⟩
                          · refine ⟨by omega, fun j x hj hx => ?_⟩
                            by_cases e : j < m + 1
                            · exact hall j x e hx
                            · obtain rfl : j = m + 1 := by omega
                              rw [hw] at hx
                              obtain rfl := Option.some.inj hx
                              refine ⟨g1, fun v' _ h => ?_⟩
                              rw [show m + 1 - 1 = m by omega, hv] at h
                              obtain rfl := Option.some.inj h
                              exact g2
                          · omega
                          simp [go_sem, ↓iO, iO, tN]
                        · obtain rfl : g = false := by
                            cases g
                            · rfl
                            · exact absurd ((hg.1 rfl).st (m + 1) w hw |>.2 v (by omega) (by simpa using hv)) g2
                          repeat (first | (refine nf1_sound rfl ?_; simp [go_sem, ↓iO, iO, tN, hw]; (repeat (refine anI ?_)); try (refine ⟨dcK, ?_⟩)) | ((first | refine itePos (by omega) ?_ | refine iteNeg (by omega) ?_); try simp [go_sem, ↓iO, iO, tN, hw]) | (refine ⟨dcK, ?_⟩))
                          refine CallK.fn (c) [] [] [] (by kernel_rfl) ?_ ?_ ?_ (Or.inl rfl) ?_ <;> simp [go_sem, ↓iO, iO, tN, em, hv]
                          repeat (refine anI ?_)
                          try (refine ⟨dcK, ?_⟩)
                          repeat (first | (refine nf1_sound rfl ?_; simp [go_sem, ↓iO, iO, tN, em, hv]; (repeat (refine anI ?_)); try (refine ⟨dcK, ?_⟩)) | ((first | refine itePos (by omega) ?_ | refine iteNeg (by omega) ?_); try simp [go_sem, ↓iO, iO, tN, em, hv]) | (refine ⟨dcK, ?_⟩))
                          first | rw [RetQ_ret] | rw [RetQ_normal]
                          refine ⟨[], ?_⟩
                          simp [go_sem, ↓iO, iO, tN]
                    · have c := waiting_fn w i.win (hs w (mem_get hw)).1 (hs w (mem_get hw)).2 false (decide_eq_false g1)
                      obtain rfl : g = false := by
                        cases g
                        · rfl
                        · exact absurd ((hg.1 rfl).st k w hw).1 g1
                      repeat (first | (refine nf1_sound rfl ?_; simp [go_sem, ↓iO, iO, tN, hw]; (repeat (refine anI ?_)); try (refine ⟨dcK, ?_⟩)) | ((first | refine itePos (by omega) ?_ | refine iteNeg (by omega) ?_); try simp [go_sem, ↓iO, iO, tN, hw]) | (refine ⟨dcK, ?_⟩))
                      refine CallK.fn (c) [] [] [] (by kernel_rfl) ?_ ?_ ?_ (Or.inl rfl) ?_ <;> simp [go_sem, ↓iO, iO, tN]
                      repeat (refine anI ?_)
                      try (refine ⟨dcK, ?_⟩)
                      repeat (first | (refine nf1_sound rfl ?_; simp [go_sem, ↓iO, iO, tN]; (repeat (refine anI ?_)); try (refine ⟨dcK, ?_⟩)) | ((first | refine itePos (by omega) ?_ | refine iteNeg (by omega) ?_); try simp [go_sem, ↓iO, iO, tN]) | (refine ⟨dcK, ?_⟩))
                      first | rw [RetQ_ret] | rw [RetQ_normal]
                      refine ⟨[], ?_⟩
                      simp [go_sem, ↓iO, iO, tN]
                  · obtain rfl : k = i.sts.length := by omega
                    obtain rfl : g = true := hg.2 ⟨h0, h1, h2, h3, ht, fun j w hw => hall j w (List.getElem?_eq_some_iff.1 hw).1 hw⟩
                    repeat (first | (refine nf1_sound rfl ?_; simp [go_sem, ↓iO, iO, tN]; (repeat (refine anI ?_)); try (refine ⟨dcK, ?_⟩)) | ((first | refine itePos (by omega) ?_ | refine iteNeg (by omega) ?_); try simp [go_sem, ↓iO, iO, tN]) | (refine ⟨dcK, ?_⟩))
                    first | rw [RetQ_ret] | rw [RetQ_normal]
                    refine ⟨[], ?_⟩
                    simp [go_sem, ↓iO, iO, tN]

            · obtain rfl : g = false := by
                cases g
                · rfl
                · exact absurd (Option.some.inj (hc0.symm.trans ((hg.1 rfl).tk.resolve_left h4).1)) h5
              have h5' : ¬ ((c0 : Int) = 126) := by omega
              refine FnOk.intro fact_mixed Try.func34 rfl Try.ntmps34 (by rfl) (by simp) ?_
              repeat (first | (refine nf1_sound rfl ?_; simp [go_sem, ↓iO, iO, tN, hc0, h5, h5']; (repeat (refine anI ?_)); try (refine ⟨dcK, ?_⟩)) | ((first | refine itePos (by omega) ?_ | refine iteNeg (by omega) ?_); try simp [go_sem, ↓iO, iO, tN, hc0, h5, h5']) | (refine ⟨dcK, ?_⟩))
              first | rw [RetQ_ret] | rw [RetQ_normal]
              refine ⟨[], ?_⟩
              simp [go_sem, ↓iO, iO, tN]
        · obtain rfl : g = false := by
            cases g
            · rfl
            · exact absurd ((hg.1 rfl).sl) h3
          refine FnOk.intro fact_mixed Try.func34 rfl Try.ntmps34 (by rfl) (by simp) ?_
          repeat (first | (refine nf1_sound rfl ?_; simp [go_sem, ↓iO, iO, tN]; (repeat (refine anI ?_)); try (refine ⟨dcK, ?_⟩)) | ((first | refine itePos (by omega) ?_ | refine iteNeg (by omega) ?_); try simp [go_sem, ↓iO, iO, tN]) | (refine ⟨dcK, ?_⟩))
          first | rw [RetQ_ret] | rw [RetQ_normal]
          refine ⟨[], ?_⟩
          simp [go_sem, ↓iO, iO, tN]
      · obtain rfl : g = false := by
          cases g
          · rfl
          · exact absurd ((hg.1 rfl).tl) h2
        refine FnOk.intro fact_mixed Try.func34 rfl Try.ntmps34 (by rfl) (by simp) ?_
        repeat (first | (refine nf1_sound rfl ?_; simp [go_sem, ↓iO, iO, tN]; (repeat (refine anI ?_)); try (refine ⟨dcK, ?_⟩)) | ((first | refine itePos (by omega) ?_ | refine iteNeg (by omega) ?_); try simp [go_sem, ↓iO, iO, tN]) | (refine ⟨dcK, ?_⟩))
        first | rw [RetQ_ret] | rw [RetQ_normal]
        refine ⟨[], ?_⟩
        simp [go_sem, ↓iO, iO, tN]
    · obtain rfl : g = false := by
        cases g
        · rfl
        · exact absurd ((hg.1 rfl).wx) h1
      refine FnOk.intro fact_mixed Try.func34 rfl Try.ntmps34 (by rfl) (by simp) ?_
      repeat (first | (refine nf1_sound rfl ?_; simp [go_sem, ↓iO, iO, tN]; (repeat (refine anI ?_)); try (refine ⟨dcK, ?_⟩)) | ((first | refine itePos (by omega) ?_ | refine iteNeg (by omega) ?_); try simp [go_sem, ↓iO, iO, tN]) | (refine ⟨dcK, ?_⟩))
      first | rw [RetQ_ret] | rw [RetQ_normal]
      refine ⟨[], ?_⟩
      simp [go_sem, ↓iO, iO, tN]
  · obtain rfl : g = false := by
      cases g
      · rfl
      · exact absurd ((hg.1 rfl).wn) h0
    refine FnOk.intro fact_mixed Try.func34 rfl Try.ntmps34 (by rfl) (by simp) ?_
    repeat (first | (refine nf1_sound rfl ?_; simp [go_sem, ↓iO, iO, tN]; (repeat (refine anI ?_)); try (refine ⟨dcK, ?_⟩)) | ((first | refine itePos (by omega) ?_ | refine iteNeg (by omega) ?_); try simp [go_sem, ↓iO, iO, tN]) | (refine ⟨dcK, ?_⟩))
    first | rw [RetQ_ret] | rw [RetQ_normal]
    refine ⟨[], ?_⟩
    simp [go_sem, ↓iO, iO, tN]
end Go.Proofs.Ytopmmodcaoaaeaa
namespace Go.Proofs.Ytopmmodcaoaaeaa
open Go.RowKit Sy
open Go.IntWalk renaming iteOmega → iO, toNatUp → tN
set_option linter.unusedVariables false
set_option linter.unusedSimpArgs false
def newV (n : Int) : In × Int := if n < 0 ∨ 16 < n then (⟨0, [], []⟩, 1) else (⟨n, [], []⟩, 0)
set_option maxRecDepth 100000 in
theorem inew_fn (n : Int) (i : In) (e : Int) (h : newV n = (i, e)) : FnOk Try.prog 12 [.t (.int n)] [] (.tup [.t (encIn i), .t (.int e)]) [] := by
  unfold newV at h
  by_cases h1 : n < 0
  · rw [if_pos (.inl h1)] at h
    obtain ⟨rfl, rfl⟩ := Prod.mk.inj h
    refine FnOk.intro fact_mixed Try.func12 rfl Try.ntmps12 (by rfl) (by simp) ?_
    repeat (first | (refine nf1_sound rfl ?_; simp [go_sem, ↓iO, iO, tN]; (repeat (refine anI ?_)); try (refine ⟨dcK, ?_⟩)) | ((first | refine itePos (by omega) ?_ | refine iteNeg (by omega) ?_); try simp [go_sem, ↓iO, iO, tN]) | (refine ⟨dcK, ?_⟩))
    first | rw [RetQ_ret] | rw [RetQ_normal]
    refine ⟨[], ?_⟩
    simp [go_sem, ↓iO, iO, tN]
  · by_cases h2 : 16 < n
    · rw [if_pos (.inr h2)] at h
      obtain ⟨rfl, rfl⟩ := Prod.mk.inj h
      refine FnOk.intro fact_mixed Try.func12 rfl Try.ntmps12 (by rfl) (by simp) ?_
      repeat (first | (refine nf1_sound rfl ?_; simp [go_sem, ↓iO, iO, tN]; (repeat (refine anI ?_)); try (refine ⟨dcK, ?_⟩)) | ((first | refine itePos (by omega) ?_ | refine iteNeg (by omega) ?_); try simp [go_sem, ↓iO, iO, tN]) | (refine ⟨dcK, ?_⟩))
      first | rw [RetQ_ret] | rw [RetQ_normal]
      refine ⟨[], ?_⟩
      simp [go_sem, ↓iO, iO, tN]
    · rw [if_neg (by omega)] at h
      obtain ⟨rfl, rfl⟩ := Prod.mk.inj h
      refine FnOk.intro fact_mixed Try.func12 rfl Try.ntmps12 (by rfl) (by simp) ?_
      repeat (first | (refine nf1_sound rfl ?_; simp [go_sem, ↓iO, iO, tN]; (repeat (refine anI ?_)); try (refine ⟨dcK, ?_⟩)) | ((first | refine itePos (by omega) ?_ | refine iteNeg (by omega) ?_); try simp [go_sem, ↓iO, iO, tN]) | (refine ⟨dcK, ?_⟩))
      first | rw [RetQ_ret] | rw [RetQ_normal]
      refine ⟨[], ?_⟩
      simp [go_sem, ↓iO, iO, tN]
set_option maxRecDepth 100000 in
theorem irnew_fn (n : Int) (i : In) (e : Int) (h : newV n = (i, e)) : FnOk Try.prog 23 [.t (.int n)] [] (.tup [.t (encIn i), .t (.int e)]) [] := by
  unfold newV at h
  by_cases h1 : n < 0
  · rw [if_pos (.inl h1)] at h
    obtain ⟨rfl, rfl⟩ := Prod.mk.inj h
    refine FnOk.intro fact_mixed Try.func23 rfl Try.ntmps23 (by rfl) (by simp) ?_
    repeat (first | (refine nf1_sound rfl ?_; simp [go_sem, ↓iO, iO, tN]; (repeat (refine anI ?_)); try (refine ⟨dcK, ?_⟩)) | ((first | refine itePos (by omega) ?_ | refine iteNeg (by omega) ?_); try simp [go_sem, ↓iO, iO, tN]) | (refine ⟨dcK, ?_⟩))
    first | rw [RetQ_ret] | rw [RetQ_normal]
    refine ⟨[], ?_⟩
    simp [go_sem, ↓iO, iO, tN]
  · by_cases h2 : 16 < n
    · rw [if_pos (.inr h2)] at h
      obtain ⟨rfl, rfl⟩ := Prod.mk.inj h
      refine FnOk.intro fact_mixed Try.func23 rfl Try.ntmps23 (by rfl) (by simp) ?_
      repeat (first | (refine nf1_sound rfl ?_; simp [go_sem, ↓iO, iO, tN]; (repeat (refine anI ?_)); try (refine ⟨dcK, ?_⟩)) | ((first | refine itePos (by omega) ?_ | refine iteNeg (by omega) ?_); try simp [go_sem, ↓iO, iO, tN]) | (refine ⟨dcK, ?_⟩))
      first | rw [RetQ_ret] | rw [RetQ_normal]
      refine ⟨[], ?_⟩
      simp [go_sem, ↓iO, iO, tN]
    · rw [if_neg (by omega)] at h
      obtain ⟨rfl, rfl⟩ := Prod.mk.inj h
      refine FnOk.intro fact_mixed Try.func23 rfl Try.ntmps23 (by rfl) (by simp) ?_
      repeat (first | (refine nf1_sound rfl ?_; simp [go_sem, ↓iO, iO, tN]; (repeat (refine anI ?_)); try (refine ⟨dcK, ?_⟩)) | ((first | refine itePos (by omega) ?_ | refine iteNeg (by omega) ?_); try simp [go_sem, ↓iO, iO, tN]) | (refine ⟨dcK, ?_⟩))
      first | rw [RetQ_ret] | rw [RetQ_normal]
      refine ⟨[], ?_⟩
      simp [go_sem, ↓iO, iO, tN]
end Go.Proofs.Ytopmmodcaoaaeaa
namespace Go.Proofs.Ytopmmodcaoaaeaa
open Go.RowKit Sy
open Go.IntWalk renaming iteOmega → iO, toNatUp → tN
set_option linter.unusedVariables false
set_option linter.unusedSimpArgs false
/-- How many of the telegrams come next, one behind the other. -/
def giveN : Int → List Tg → Nat
  | _, [] => 0
  | nx, t :: r => if t.sq = nx then giveN (nx + 1) r + 1 else 0
theorem giveN_le : ∀ (nx : Int) (l : List Tg), giveN nx l ≤ l.length
  | _, [] => Nat.le_refl _
  | nx, t :: r => by
    have := giveN_le (nx + 1) r
    unfold giveN; split <;> simp <;> omega
theorem giveN_lt : ∀ (nx : Int) (l : List Tg) {k : Nat}, k < giveN nx l → ∃ t, l[k]? = some t ∧ t.sq = nx + k
  | _, [], k, h => by simp [giveN] at h
  | nx, t :: r, k, h => by
    unfold giveN at h
    split at h
    · cases k with
      | zero => exact ⟨t, rfl, by simp; assumption⟩
      | succ k =>
        obtain ⟨x, h1, h2⟩ := giveN_lt (nx + 1) r (k := k) (by omega)
        exact ⟨x, by simpa using h1, by omega⟩
    · omega
theorem giveN_end : ∀ (nx : Int) (l : List Tg) {t : Tg}, l[giveN nx l]? = some t → t.sq ≠ nx + giveN nx l
  | _, [], t, h => by simp at h
  | nx, x :: r, t, h => by
    unfold giveN at h ⊢
    split at h
    · rename_i g
      rw [if_pos g]
      have := giveN_end (nx + 1) r (t := t) (by simpa using h)
      omega
    · rename_i g
      rw [if_neg g]
      simp at h
      subst h
      simpa using g
set_option maxRecDepth 100000 in
set_option maxHeartbeats 8000000 in
theorem rgive_fn (w : Wt) (out : List Tg) (hw : w.held.length ≤ 1000000) (ho : out.length ≤ 1000000) (hn0 : 0 ≤ w.nx) (hn1 : w.nx ≤ 1000000000000) (n : Nat) (hn : giveN w.nx w.held = n) : FnOk Try.prog 64 [.t (encWt w), .own 1] [(1, blkTgs out)] (.tup [.t (encWt ⟨w.st, w.ep, w.nx + n, w.held.drop n⟩), .own 1000]) [(1000, blkTgs (out ++ w.held.take n))] := by
  obtain ⟨st, ep, nx, l⟩ := w
  dsimp only at *
  have hnl := giveN_le nx l
  have hlt : ∀ k, k < n → ∃ t, l[k]? = some t ∧ t.sq = nx + k := fun k hk => giveN_lt nx l (by omega)
  have hend : ∀ t, l[n]? = some t → t.sq ≠ nx + n := fun t ht => by subst hn; exact giveN_end nx l ht
  rw [hn] at hnl
  clear hn
  obtain ⟨D, d0, ds, de, dn⟩ : ∃ D : Nat → List Tg, D 0 = l ∧ (∀ k t, l[k]? = some t → D k = t :: D (k + 1)) ∧ D l.length = [] ∧ D n = l.drop n :=
    ⟨fun k => l.drop k, by simp, fun k t h => drop_cons h, by simp, rfl⟩
  obtain ⟨Y, y0, ys, yn, yl⟩ : ∃ Y : Nat → List Tg, Y 0 = out ∧ (∀ k t, l[k]? = some t → Y (k + 1) = Y k ++ [t]) ∧ Y n = out ++ l.take n ∧ (∀ k, (Y k).length ≤ 2000000) :=
    ⟨fun k => out ++ l.take k, by simp, fun k t h => by simp only; rw [take_snoc h, List.append_assoc], rfl, fun k => by simp; omega⟩
  rw [← dn, ← yn]
  refine FnOk.intro fact_mixed Try.func64 rfl Try.ntmps64 (by rfl) (by simp) ?_
  repeat (first | (refine nf1_sound rfl ?_; simp [go_sem, ↓iO, iO, tN]; (repeat (refine anI ?_)); try (refine ⟨dcK, ?_⟩)) | ((first | refine itePos (by omega) ?_ | refine iteNeg (by omega) ?_); try simp [go_sem, ↓iO, iO, tN]) | (refine ⟨dcK, ?_⟩))
  refine nf1_sound' _ _ _ ?_; simp only [nf1]
  refine CW.loop (ι := Nat) (fun k => ⟨[(1, .own 500), (2, .pt 502 [] 0), (4, .pt 504 [] 0)], [(502, .box 47 (.t (.agg [.int st, .int ep, .int (nx + k), encTgs (D k)]))), (504, .box 47 (.t (.agg [.int 0, .int 0, .int 0, .nil]))), (500, blkTgs (Y k))]⟩) (fun k => k ≤ n) (fun k => n - k) 0 [(502, some 102), (504, some 104), (500, some 1)] (by omega) ?_ ?_
  · simp [go_sem, ↓iO, iO, tN, d0, y0]
  intro k hk
  have hyk := yl k
  by_cases hkn : k < n
  · obtain ⟨t, ht, hs⟩ := hlt k hkn
    have h1 := ds k t ht
    have h2 := ys k t ht
    obtain ⟨E, hE⟩ : ∃ E, D (k + 1) = E := ⟨_, rfl⟩
    rw [hE] at h1
    obtain ⟨V, hV⟩ : ∃ V, Y k = V := ⟨_, rfl⟩
    rw [hV] at h2 hyk ⊢
    rw [h1]
    repeat (first | (refine nf1_sound rfl ?_; simp [go_sem, ↓iO, iO, tN, hs]; (repeat (refine anI ?_)); try (refine ⟨dcK, ?_⟩)) | ((first | refine itePos (by omega) ?_ | refine iteNeg (by omega) ?_); try simp [go_sem, ↓iO, iO, tN, hs]) | (refine ⟨dcK, ?_⟩))
    rw [RoundQ_normal]; refine ⟨k + 1, [(502, some 502), (504, some 504), (500, some 126)], ?_, ?_, ?_⟩
    · omega
    · omega
    simp [go_sem, ↓iO, iO, tN, h2, hE]
    exact ⟨⟨by omega, List.take_of_length_le (by simp)⟩, hs⟩
  · obtain rfl : k = n := by omega
    by_cases hl : k < l.length
    · obtain ⟨t, ht⟩ := has_get hl
      have hs := hend t ht
      have h1 := ds k t ht
      obtain ⟨E, hE⟩ : ∃ E, D (k + 1) = E := ⟨_, rfl⟩
      rw [hE] at h1
      obtain ⟨V, hV⟩ : ∃ V, Y k = V := ⟨_, rfl⟩
      rw [hV] at hyk ⊢
      rw [h1]
      repeat (first | (refine nf1_sound rfl ?_; simp [go_sem, ↓iO, iO, tN, hs]; (repeat (refine anI ?_)); try (refine ⟨dcK, ?_⟩)) | ((first | refine itePos (by omega) ?_ | refine iteNeg (by omega) ?_); try simp [go_sem, ↓iO, iO, tN, hs]) | (refine ⟨dcK, ?_⟩))
      first | rw [RetQ_ret] | rw [RetQ_normal]
      refine ⟨[(1000, some 500)], ?_⟩
      simp [go_sem, ↓iO, iO, tN]
    · obtain rfl : k = l.length := by omega
      rw [de]
      obtain ⟨V, hV⟩ : ∃ V, Y l.length = V := ⟨_, rfl⟩
      rw [hV] at hyk ⊢
      repeat (first | (refine nf1_sound rfl ?_; simp [go_sem, ↓iO, iO, tN]; (repeat (refine anI ?_)); try (refine ⟨dcK, ?_⟩)) | ((first | refine itePos (by omega) ?_ | refine iteNeg (by omega) ?_); try simp [go_sem, ↓iO, iO, tN]) | (refine ⟨dcK, ?_⟩))
      first | rw [RetQ_ret] | rw [RetQ_normal]
      refine ⟨[(1000, some 500)], ?_⟩
      simp [go_sem, ↓iO, iO, tN]
set_option maxRecDepth 100000 in
set_option maxHeartbeats 8000000 in
theorem rgive0_fn (w : Wt) (hw : w.held.length ≤ 1000000) (hn0 : 0 ≤ w.nx) (hn1 : w.nx ≤ 1000000000000) (n : Nat) (hn : giveN w.nx w.held = n) : FnOk Try.prog 64 [.t (encWt w), .t .nil] [] (.tup [.t (encWt ⟨w.st, w.ep, w.nx + n, w.held.drop n⟩), .own 1000]) [(1000, blkTgs (w.held.take n))] := by
  obtain ⟨st, ep, nx, l⟩ := w
  dsimp only at *
  have hnl := giveN_le nx l
  have hlt : ∀ k, k < n → ∃ t, l[k]? = some t ∧ t.sq = nx + k := fun k hk => giveN_lt nx l (by omega)
  have hend : ∀ t, l[n]? = some t → t.sq ≠ nx + n := fun t ht => by subst hn; exact giveN_end nx l ht
  rw [hn] at hnl
  clear hn
  obtain ⟨D, d0, ds, de, dn⟩ : ∃ D : Nat → List Tg, D 0 = l ∧ (∀ k t, l[k]? = some t → D k = t :: D (k + 1)) ∧ D l.length = [] ∧ D n = l.drop n :=
    ⟨fun k => l.drop k, by simp, fun k t h => drop_cons h, by simp, rfl⟩
  obtain ⟨Y, y0, ys, yn, yl⟩ : ∃ Y : Nat → List Tg, Y 0 = [] ∧ (∀ k t, l[k]? = some t → Y (k + 1) = Y k ++ [t]) ∧ Y n = l.take n ∧ (∀ k, (Y k).length ≤ 2000000) :=
    ⟨fun k => l.take k, by simp, fun k t h => by simp only; rw [take_snoc h], rfl, fun k => by simp; omega⟩
  rw [← dn, ← yn]
  refine FnOk.intro fact_mixed Try.func64 rfl Try.ntmps64 (by rfl) (by simp) ?_
  repeat (first | (refine nf1_sound rfl ?_; simp [go_sem, ↓iO, iO, tN]; (repeat (refine anI ?_)); try (refine ⟨dcK, ?_⟩)) | ((first | refine itePos (by omega) ?_ | refine iteNeg (by omega) ?_); try simp [go_sem, ↓iO, iO, tN]) | (refine ⟨dcK, ?_⟩))
  refine nf1_sound' _ _ _ ?_; simp only [nf1]
  refine CW.loop (ι := Nat) (fun k => ⟨[(1, .own 500), (2, .pt 502 [] 0), (4, .pt 504 [] 0)], [(502, .box 47 (.t (.agg [.int st, .int ep, .int (nx + k), encTgs (D k)]))), (504, .box 47 (.t (.agg [.int 0, .int 0, .int 0, .nil]))), (500, blkTgs (Y k))]⟩) (fun k => k ≤ n) (fun k => n - k) 0 [(502, some 102), (504, some 104), (500, none)] (by omega) ?_ ?_
  · simp [go_sem, ↓iO, iO, tN, d0, y0]
  intro k hk
  have hyk := yl k
  by_cases hkn : k < n
  · obtain ⟨t, ht, hs⟩ := hlt k hkn
    have h1 := ds k t ht
    have h2 := ys k t ht
    obtain ⟨E, hE⟩ : ∃ E, D (k + 1) = E := ⟨_, rfl⟩
    rw [hE] at h1
    obtain ⟨V, hV⟩ : ∃ V, Y k = V := ⟨_, rfl⟩
    rw [hV] at h2 hyk ⊢
    rw [h1]
    repeat (first | (refine nf1_sound rfl ?_; simp [go_sem, ↓iO, iO, tN, hs]; (repeat (refine anI ?_)); try (refine ⟨dcK, ?_⟩)) | ((first | refine itePos (by omega) ?_ | refine iteNeg (by omega) ?_); try simp [go_sem, ↓iO, iO, tN, hs]) | (refine ⟨dcK, ?_⟩))
    rw [RoundQ_normal]; refine ⟨k + 1, [(502, some 502), (504, some 504), (500, some 126)], ?_, ?_, ?_⟩
    · omega
    · omega
    simp [go_sem, ↓iO, iO, tN, h2, hE]
    exact ⟨⟨by omega, List.take_of_length_le (by simp)⟩, hs⟩
  · obtain rfl : k = n := by omega
    by_cases hl : k < l.length
    · obtain ⟨t, ht⟩ := has_get hl
      have hs := hend t ht
      have h1 := ds k t ht
      obtain ⟨E, hE⟩ : ∃ E, D (k + 1) = E := ⟨_, rfl⟩
      rw [hE] at h1
      obtain ⟨V, hV⟩ : ∃ V, Y k = V := ⟨_, rfl⟩
      rw [hV] at hyk ⊢
      rw [h1]
      repeat (first | (refine nf1_sound rfl ?_; simp [go_sem, ↓iO, iO, tN, hs]; (repeat (refine anI ?_)); try (refine ⟨dcK, ?_⟩)) | ((first | refine itePos (by omega) ?_ | refine iteNeg (by omega) ?_); try simp [go_sem, ↓iO, iO, tN, hs]) | (refine ⟨dcK, ?_⟩))
      first | rw [RetQ_ret] | rw [RetQ_normal]
      refine ⟨[(1000, some 500)], ?_⟩
      simp [go_sem, ↓iO, iO, tN]
    · obtain rfl : k = l.length := by omega
      rw [de]
      obtain ⟨V, hV⟩ : ∃ V, Y l.length = V := ⟨_, rfl⟩
      rw [hV] at hyk ⊢
      repeat (first | (refine nf1_sound rfl ?_; simp [go_sem, ↓iO, iO, tN]; (repeat (refine anI ?_)); try (refine ⟨dcK, ?_⟩)) | ((first | refine itePos (by omega) ?_ | refine iteNeg (by omega) ?_); try simp [go_sem, ↓iO, iO, tN]) | (refine ⟨dcK, ?_⟩))
      first | rw [RetQ_ret] | rw [RetQ_normal]
      refine ⟨[(1000, some 500)], ?_⟩
      simp [go_sem, ↓iO, iO, tN]
end Go.Proofs.Ytopmmodcaoaaeaa
namespace Go.Proofs.Ytopmmodcaoaaeaa
open Go.RowKit Sy
open Go.IntWalk renaming iteOmega → iO, toNatUp → tN
set_option linter.unusedVariables false
set_option linter.unusedSimpArgs false
def keys (l : List Tg) : List Int := l.map (·.sq)
theorem lb_lt (t : Int) : ∀ (l : List Tg) {i : Nat}, i < lb t (keys l) → ∃ x, l[i]? = some x ∧ x.sq < t
  | [], i, h => by simp [keys, lb] at h
  | k :: r, i, h => by
    have e : keys (k :: r) = k.sq :: keys r := rfl
    rw [e] at h
    unfold lb at h
    split at h
    · cases i with
      | zero => exact ⟨k, rfl, by assumption⟩
      | succ i => exact lb_lt t r (i := i) (by omega)
    · omega
theorem lb_end (t : Int) : ∀ (l : List Tg) {x : Tg}, l[lb t (keys l)]? = some x → ¬ x.sq < t
  | [], x, h => by simp at h
  | k :: r, x, h => by
    have e : keys (k :: r) = k.sq :: keys r := rfl
    rw [e] at h
    unfold lb at h
    split at h
    · exact lb_end t r (by simpa using h)
    · simp at h; subst h; assumption
theorem lb_len (t : Int) (l : List Tg) : lb t (keys l) ≤ l.length := by
  have := lb_le t (keys l)
  simpa [keys] using this
def gvW (w : Wt) : Wt := ⟨w.st, w.ep, w.nx + giveN w.nx w.held, w.held.drop (giveN w.nx w.held)⟩
def gvL (w : Wt) : List Tg := w.held.take (giveN w.nx w.held)
/-- What is given out, when a telegram was put in. -/
def endV (w : Wt) (o : List Tg) (win : Int) : Wt × List Tg :=
  match (gvW w).held with
  | [] => (gvW w, o ++ gvL w)
  | x :: r => if win < (r.length + 1 : Nat) then (gvW ⟨w.st, w.ep, x.sq, x :: r⟩, o ++ gvL w ++ gvL ⟨w.st, w.ep, x.sq, x :: r⟩) else (gvW w, o ++ gvL w)
def putV (w : Wt) (o : List Tg) (t : Tg) (win : Int) : Wt × List Tg :=
  if ∃ x, w.held[lb t.sq (keys w.held)]? = some x ∧ x.sq = t.sq then (w, []) else endV ⟨w.st, w.ep, w.nx, w.held.take (lb t.sq (keys w.held)) ++ [t] ++ w.held.drop (lb t.sq (keys w.held))⟩ o win
def takeV (w : Wt) (t : Tg) (win : Int) : Wt × List Tg :=
  if t.ep < w.ep ∨ t.ep = w.ep ∧ t.sq < w.nx then (w, []) else if w.ep < t.ep then putV ⟨w.st, t.ep, 0, []⟩ w.held t win else putV w [] t win
set_option maxRecDepth 100000 in
set_option maxHeartbeats 8000000 in
theorem rtakeB_dup (w : Wt) (t x : Tg) (win : Int) (hw : w.held.length ≤ 1000000) (he : t.ep = w.ep) (hq : ¬ t.sq < w.nx) (p : Nat) (hp : lb t.sq (keys w.held) = p) (hx : w.held[p]? = some x) (hxs : x.sq = t.sq) : FnOk Try.prog 42 [.t (encWt w), .t (encTg t), .t (.int win)] [] (.tup [.t (encWt w), .t .nil]) [] := by
  obtain ⟨st, ep, nx, l⟩ := w
  obtain ⟨t1, t2, t3, t4, t5, tv⟩ := t
  dsimp only at *
  subst he
  have hlt : ∀ k, k < p → ∃ y, l[k]? = some y ∧ y.sq < t3 := fun k hk => lb_lt t3 l (by omega)
  have hpl := (List.getElem?_eq_some_iff.1 hx).1
  clear hp
  refine FnOk.intro fact_mixed Try.func42 rfl Try.ntmps42 (by rfl) (by simp) ?_
  repeat (first | (refine nf1_sound rfl ?_; simp [go_sem, ↓iO, iO, tN]; (repeat (refine anI ?_)); try (refine ⟨dcK, ?_⟩)) | ((first | refine itePos (by omega) ?_ | refine iteNeg (by omega) ?_); try simp [go_sem, ↓iO, iO, tN]) | (refine ⟨dcK, ?_⟩))
  refine nf1_sound' _ _ _ ?_; simp only [nf1]
  refine CW.loop (ι := Nat) (fun k => ⟨[(2, .t (.int win)), (3, .pt 503 [] 0), (4, .pt 504 [] 0), (6, .pt 506 [] 0), (8, .t .nil), (9, .t (.int k))], [(503, .box 47 (.t (.agg [.int st, .int t2, .int nx, encTgs l]))), (504, .box 38 (.t (.agg [.int t1, .int t2, .int t3, .int t4, .int t5, encIs tv]))), (506, .box 47 (.t (.agg [.int 0, .int 0, .int 0, .nil])))]⟩) (fun k => k ≤ p) (fun k => p - k) 0 [(503, some 103), (504, some 104), (506, some 106)] (by omega) ?_ ?_
  · simp [go_sem, ↓iO, iO, tN]
  intro k hk
  by_cases hkp : k < p
  · obtain ⟨y, hy, hys⟩ := hlt k hkp
    have hkl : k < l.length := by omega
    repeat (first | (refine nf1_sound rfl ?_; simp [go_sem, ↓iO, iO, tN, hy]; (repeat (refine anI ?_)); try (refine ⟨dcK, ?_⟩)) | ((first | refine itePos (by omega) ?_ | refine iteNeg (by omega) ?_); try simp [go_sem, ↓iO, iO, tN, hy]) | (refine ⟨dcK, ?_⟩))
    rw [RoundQ_normal]; refine ⟨k + 1, [(503, some 503), (504, some 504), (506, some 506)], ?_, ?_, ?_⟩
    · omega
    · omega
    simp [go_sem, ↓iO, iO, tN]
  · obtain rfl : k = p := by omega
    repeat (first | (refine nf1_sound rfl ?_; simp [go_sem, ↓iO, iO, tN, hx, hxs]; (repeat (refine anI ?_)); try (refine ⟨dcK, ?_⟩)) | ((first | refine itePos (by omega) ?_ | refine iteNeg (by omega) ?_); try simp [go_sem, ↓iO, iO, tN, hx, hxs]) | (refine ⟨dcK, ?_⟩))
    first | rw [RetQ_ret] | rw [RetQ_normal]
    refine ⟨[], ?_⟩
    simp [go_sem, ↓iO, iO, tN]
end Go.Proofs.Ytopmmodcaoaaeaa
namespace Go.Proofs.Ytopmmodcaoaaeaa
open Go.RowKit Sy
open Go.IntWalk renaming iteOmega → iO, toNatUp → tN
set_option linter.unusedVariables false
set_option linter.unusedSimpArgs false
set_option maxRecDepth 100000 in
set_option maxHeartbeats 8000000 in
theorem rtakeB_few (w : Wt) (t : Tg) (win : Int) (hw : w.held.length ≤ 100000) (he : t.ep = w.ep) (hq : ¬ t.sq < w.nx) (h0 : 0 ≤ w.nx) (h1 : w.nx ≤ 1000000000) (p : Nat) (hp : lb t.sq (keys w.held) = p) (hx : ∀ x, w.held[p]? = some x → x.sq ≠ t.sq) (z : Wt) (hz : gvW ⟨w.st, w.ep, w.nx, w.held.take p ++ [t] ++ w.held.drop p⟩ = z) (hf : ¬ win < (z.held.length : Int)) : FnOk Try.prog 42 [.t (encWt w), .t (encTg t), .t (.int win)] [] (.tup [.t (encWt z), .own 1000]) [(1000, blkTgs (gvL ⟨w.st, w.ep, w.nx, w.held.take p ++ [t] ++ w.held.drop p⟩))] := by
  obtain ⟨st, ep, nx, l⟩ := w
  obtain ⟨t1, t2, t3, t4, t5, tv⟩ := t
  dsimp only at *
  subst he
  have hlt : ∀ k, k < p → ∃ y, l[k]? = some y ∧ y.sq < t3 := fun k hk => lb_lt t3 l (by omega)
  have hend : ∀ y, l[p]? = some y → ¬ y.sq < t3 := fun y hy => by subst hp; exact lb_end t3 l hy
  have hpl : p ≤ l.length := by subst hp; exact lb_len t3 l
  clear hp
  have c := rgive0_fn ⟨st, t2, nx, l.take p ++ [⟨t1, t2, t3, t4, t5, tv⟩] ++ l.drop p⟩ (by simp; omega) h0 (by dsimp only; omega) _ rfl
  have htk : List.take l.length (l.map encTg) = l.map encTg := List.take_of_length_le (by simp)
  have hz' := hz
  unfold gvW at hz'
  dsimp only at hz' c
  rw [hz'] at c
  refine FnOk.intro fact_mixed Try.func42 rfl Try.ntmps42 (by rfl) (by simp) ?_
  repeat (first | (refine nf1_sound rfl ?_; simp [go_sem, ↓iO, iO, tN]; (repeat (refine anI ?_)); try (refine ⟨dcK, ?_⟩)) | ((first | refine itePos (by omega) ?_ | refine iteNeg (by omega) ?_); try simp [go_sem, ↓iO, iO, tN]) | (refine ⟨dcK, ?_⟩))
  refine nf1_sound' _ _ _ ?_; simp only [nf1]
  refine CW.loop (ι := Nat) (fun k => ⟨[(2, .t (.int win)), (3, .pt 503 [] 0), (4, .pt 504 [] 0), (6, .pt 506 [] 0), (8, .t .nil), (9, .t (.int k))], [(503, .box 47 (.t (.agg [.int st, .int t2, .int nx, encTgs l]))), (504, .box 38 (.t (.agg [.int t1, .int t2, .int t3, .int t4, .int t5, encIs tv]))), (506, .box 47 (.t (.agg [.int 0, .int 0, .int 0, .nil])))]⟩) (fun k => k ≤ p) (fun k => p - k) 0 [(503, some 103), (504, some 104), (506, some 106)] (by omega) ?_ ?_
  · simp [go_sem, ↓iO, iO, tN]
  intro k hk
  by_cases hkp : k < p
  · obtain ⟨y, hy, hys⟩ := hlt k hkp
    have hkl : k < l.length := by omega
    repeat (first | (refine nf1_sound rfl ?_; simp [go_sem, ↓iO, iO, tN, hy]; (repeat (refine anI ?_)); try (refine ⟨dcK, ?_⟩)) | ((first | refine itePos (by omega) ?_ | refine iteNeg (by omega) ?_); try simp [go_sem, ↓iO, iO, tN, hy]) | (refine ⟨dcK, ?_⟩))
    rw [RoundQ_normal]; refine ⟨k + 1, [(503, some 503), (504, some 504), (506, some 506)], ?_, ?_, ?_⟩
    · omega
    · omega
    simp [go_sem, ↓iO, iO, tN]
  · obtain rfl : k = p := by omega
    by_cases hkl : k < l.length
    · obtain ⟨y, hy⟩ := has_get hkl
      have hy1 := hend y hy
      have hy2 := hx y hy
      have hy3 : ¬ y.sq = t3 := hy2
      repeat (first | (refine nf1_sound rfl ?_; simp [go_sem, ↓iO, iO, tN, hy, hy3, htk]; (repeat (refine anI ?_)); try (refine ⟨dcK, ?_⟩)) | ((first | refine itePos (by omega) ?_ | refine iteNeg (by omega) ?_); try simp [go_sem, ↓iO, iO, tN, hy, hy3, htk]) | (refine ⟨dcK, ?_⟩))
      refine CallK.fn (c) [(1000, 509)] [] [192] (by kernel_rfl) ?_ ?_ ?_ (Or.inl rfl) ?_ <;> simp [go_sem, ↓iO, iO, tN, htk]
      repeat (refine anI ?_)
      try (refine ⟨dcK, ?_⟩)
      repeat (first | (refine nf1_sound rfl ?_; simp [go_sem, ↓iO, iO, tN, hf]; (repeat (refine anI ?_)); try (refine ⟨dcK, ?_⟩)) | ((first | refine itePos (by omega) ?_ | refine iteNeg (by omega) ?_); try simp [go_sem, ↓iO, iO, tN, hf]) | (refine ⟨dcK, ?_⟩))
      first | rw [RetQ_ret] | rw [RetQ_normal]
      refine ⟨[(1000, some 509)], ?_⟩
      simp [go_sem, ↓iO, iO, tN]
      simp [gvL, List.map_take, List.map_drop, encTg, encIs]
    · repeat (first | (refine nf1_sound rfl ?_; simp [go_sem, ↓iO, iO, tN, hkl, htk]; (repeat (refine anI ?_)); try (refine ⟨dcK, ?_⟩)) | ((first | refine itePos (by omega) ?_ | refine iteNeg (by omega) ?_); try simp [go_sem, ↓iO, iO, tN, hkl, htk]) | (refine ⟨dcK, ?_⟩))
      refine CallK.fn (c) [(1000, 509)] [] [192] (by kernel_rfl) ?_ ?_ ?_ (Or.inl rfl) ?_ <;> simp [go_sem, ↓iO, iO, tN, htk]
      repeat (refine anI ?_)
      try (refine ⟨dcK, ?_⟩)
      repeat (first | (refine nf1_sound rfl ?_; simp [go_sem, ↓iO, iO, tN, hf]; (repeat (refine anI ?_)); try (refine ⟨dcK, ?_⟩)) | ((first | refine itePos (by omega) ?_ | refine iteNeg (by omega) ?_); try simp [go_sem, ↓iO, iO, tN, hf]) | (refine ⟨dcK, ?_⟩))
      first | rw [RetQ_ret] | rw [RetQ_normal]
      refine ⟨[(1000, some 509)], ?_⟩
      simp [go_sem, ↓iO, iO, tN]
      simp [gvL, List.map_take, List.map_drop, encTg, encIs]
set_option maxRecDepth 100000 in
set_option maxHeartbeats 8000000 in
theorem rtakeB_many (w : Wt) (t : Tg) (win : Int) (hw : w.held.length ≤ 100000) (he : t.ep = w.ep) (hq : ¬ t.sq < w.nx) (h0 : 0 ≤ w.nx) (h1 : w.nx ≤ 1000000000) (p : Nat) (hp : lb t.sq (keys w.held) = p) (hx : ∀ x, w.held[p]? = some x → x.sq ≠ t.sq) (zs ze zn : Int) (x : Tg) (r : List Tg) (hz : gvW ⟨w.st, w.ep, w.nx, w.held.take p ++ [t] ++ w.held.drop p⟩ = ⟨zs, ze, zn, x :: r⟩) (hf : win < ((r.length + 1 : Nat) : Int)) (hr : r.length ≤ 100000) (hs0 : 0 ≤ x.sq) (hs1 : x.sq ≤ 1000000000000) (G : List Tg) (hG : gvL ⟨w.st, w.ep, w.nx, w.held.take p ++ [t] ++ w.held.drop p⟩ = G) (hGl : G.length ≤ 1000000) (m : Nat) (hm : giveN x.sq (x :: r) = m) : FnOk Try.prog 42 [.t (encWt w), .t (encTg t), .t (.int win)] [] (.tup [.t (encWt ⟨zs, ze, x.sq + m, (x :: r).drop m⟩), .own 1000]) [(1000, blkTgs (G ++ (x :: r).take m))] := by
  obtain ⟨st, ep, nx, l⟩ := w
  obtain ⟨t1, t2, t3, t4, t5, tv⟩ := t
  dsimp only at *
  subst he
  have hlt : ∀ k, k < p → ∃ y, l[k]? = some y ∧ y.sq < t3 := fun k hk => lb_lt t3 l (by omega)
  have hend : ∀ y, l[p]? = some y → ¬ y.sq < t3 := fun y hy => by subst hp; exact lb_end t3 l hy
  have hpl : p ≤ l.length := by subst hp; exact lb_len t3 l
  clear hp
  have c := rgive0_fn ⟨st, t2, nx, l.take p ++ [⟨t1, t2, t3, t4, t5, tv⟩] ++ l.drop p⟩ (by simp; omega) h0 (by dsimp only; omega) _ rfl
  have htk : List.take l.length (l.map encTg) = l.map encTg := List.take_of_length_le (by simp)
  have hz' := hz
  unfold gvW at hz'
  dsimp only at hz' c
  rw [hz'] at c
  have hG' := hG
  unfold gvL at hG'
  dsimp only at hG'
  rw [hG'] at c
  have c2 := rgive_fn ⟨zs, ze, x.sq, x :: r⟩ G (by simp; omega) hGl hs0 hs1 m hm
  refine FnOk.intro fact_mixed Try.func42 rfl Try.ntmps42 (by rfl) (by simp) ?_
  repeat (first | (refine nf1_sound rfl ?_; simp [go_sem, ↓iO, iO, tN]; (repeat (refine anI ?_)); try (refine ⟨dcK, ?_⟩)) | ((first | refine itePos (by omega) ?_ | refine iteNeg (by omega) ?_); try simp [go_sem, ↓iO, iO, tN]) | (refine ⟨dcK, ?_⟩))
  refine nf1_sound' _ _ _ ?_; simp only [nf1]
  refine CW.loop (ι := Nat) (fun k => ⟨[(2, .t (.int win)), (3, .pt 503 [] 0), (4, .pt 504 [] 0), (6, .pt 506 [] 0), (8, .t .nil), (9, .t (.int k))], [(503, .box 47 (.t (.agg [.int st, .int t2, .int nx, encTgs l]))), (504, .box 38 (.t (.agg [.int t1, .int t2, .int t3, .int t4, .int t5, encIs tv]))), (506, .box 47 (.t (.agg [.int 0, .int 0, .int 0, .nil])))]⟩) (fun k => k ≤ p) (fun k => p - k) 0 [(503, some 103), (504, some 104), (506, some 106)] (by omega) ?_ ?_
  · simp [go_sem, ↓iO, iO, tN]
  intro k hk
  by_cases hkp : k < p
  · obtain ⟨y, hy, hys⟩ := hlt k hkp
    have hkl : k < l.length := by omega
    repeat (first | (refine nf1_sound rfl ?_; simp [go_sem, ↓iO, iO, tN, hy]; (repeat (refine anI ?_)); try (refine ⟨dcK, ?_⟩)) | ((first | refine itePos (by omega) ?_ | refine iteNeg (by omega) ?_); try simp [go_sem, ↓iO, iO, tN, hy]) | (refine ⟨dcK, ?_⟩))
    rw [RoundQ_normal]; refine ⟨k + 1, [(503, some 503), (504, some 504), (506, some 506)], ?_, ?_, ?_⟩
    · omega
    · omega
    simp [go_sem, ↓iO, iO, tN]
  · obtain rfl : k = p := by omega
    by_cases hkl : k < l.length
    · obtain ⟨y, hy⟩ := has_get hkl
      have hy1 := hend y hy
      have hy2 := hx y hy
      have hy3 : ¬ y.sq = t3 := hy2
      repeat (first | (refine nf1_sound rfl ?_; simp [go_sem, ↓iO, iO, tN, hy, hy3, htk]; (repeat (refine anI ?_)); try (refine ⟨dcK, ?_⟩)) | ((first | refine itePos (by omega) ?_ | refine iteNeg (by omega) ?_); try simp [go_sem, ↓iO, iO, tN, hy, hy3, htk]) | (refine ⟨dcK, ?_⟩))
      refine CallK.fn (c) [(1000, 509)] [] [192] (by kernel_rfl) ?_ ?_ ?_ (Or.inl rfl) ?_ <;> simp [go_sem, ↓iO, iO, tN, htk]
      repeat (refine anI ?_)
      try (refine ⟨dcK, ?_⟩)
      repeat (first | (refine nf1_sound rfl ?_; simp [go_sem, ↓iO, iO, tN]; (repeat (refine anI ?_)); try (refine ⟨dcK, ?_⟩)) | ((first | refine itePos (by omega) ?_ | refine iteNeg (by omega) ?_); try simp [go_sem, ↓iO, iO, tN]) | (refine ⟨dcK, ?_⟩))
      refine CallK.fn (c2) [(1, 509), (1000, 510)] [] [] (by kernel_rfl) ?_ ?_ ?_ (Or.inl rfl) ?_ <;> simp [go_sem, ↓iO, iO, tN]
      repeat (refine anI ?_)
      try (refine ⟨dcK, ?_⟩)
      repeat (first | (refine nf1_sound rfl ?_; simp [go_sem, ↓iO, iO, tN]; (repeat (refine anI ?_)); try (refine ⟨dcK, ?_⟩)) | ((first | refine itePos (by omega) ?_ | refine iteNeg (by omega) ?_); try simp [go_sem, ↓iO, iO, tN]) | (refine ⟨dcK, ?_⟩))
      first | rw [RetQ_ret] | rw [RetQ_normal]
      refine ⟨[(1000, some 510)], ?_⟩
      simp [go_sem, ↓iO, iO, tN]
    · repeat (first | (refine nf1_sound rfl ?_; simp [go_sem, ↓iO, iO, tN, hkl, htk]; (repeat (refine anI ?_)); try (refine ⟨dcK, ?_⟩)) | ((first | refine itePos (by omega) ?_ | refine iteNeg (by omega) ?_); try simp [go_sem, ↓iO, iO, tN, hkl, htk]) | (refine ⟨dcK, ?_⟩))
      refine CallK.fn (c) [(1000, 509)] [] [192] (by kernel_rfl) ?_ ?_ ?_ (Or.inl rfl) ?_ <;> simp [go_sem, ↓iO, iO, tN, htk]
      repeat (refine anI ?_)
      try (refine ⟨dcK, ?_⟩)
      repeat (first | (refine nf1_sound rfl ?_; simp [go_sem, ↓iO, iO, tN]; (repeat (refine anI ?_)); try (refine ⟨dcK, ?_⟩)) | ((first | refine itePos (by omega) ?_ | refine iteNeg (by omega) ?_); try simp [go_sem, ↓iO, iO, tN]) | (refine ⟨dcK, ?_⟩))
      refine CallK.fn (c2) [(1, 509), (1000, 510)] [] [] (by kernel_rfl) ?_ ?_ ?_ (Or.inl rfl) ?_ <;> simp [go_sem, ↓iO, iO, tN]
      repeat (refine anI ?_)
      try (refine ⟨dcK, ?_⟩)
      repeat (first | (refine nf1_sound rfl ?_; simp [go_sem, ↓iO, iO, tN]; (repeat (refine anI ?_)); try (refine ⟨dcK, ?_⟩)) | ((first | refine itePos (by omega) ?_ | refine iteNeg (by omega) ?_); try simp [go_sem, ↓iO, iO, tN]) | (refine ⟨dcK, ?_⟩))
      first | rw [RetQ_ret] | rw [RetQ_normal]
      refine ⟨[(1000, some 510)], ?_⟩
      simp [go_sem, ↓iO, iO, tN]
set_option maxRecDepth 100000 in
set_option maxHeartbeats 4000000 in
theorem rtake_old (w : Wt) (t : Tg) (win : Int) (h : t.ep < w.ep ∨ t.ep = w.ep ∧ t.sq < w.nx) : FnOk Try.prog 42 [.t (encWt w), .t (encTg t), .t (.int win)] [] (.tup [.t (encWt w), .t .nil]) [] := by
  obtain ⟨st, ep, nx, l⟩ := w
  obtain ⟨t1, t2, t3, t4, t5, tv⟩ := t
  dsimp only at *
  by_cases h1 : t2 < ep
  · clear h
    refine FnOk.intro fact_mixed Try.func42 rfl Try.ntmps42 (by rfl) (by simp) ?_
    repeat (first | (refine nf1_sound rfl ?_; simp [go_sem, ↓iO, iO, tN]; (repeat (refine anI ?_)); try (refine ⟨dcK, ?_⟩)) | ((first | refine itePos (by omega) ?_ | refine iteNeg (by omega) ?_); try simp [go_sem, ↓iO, iO, tN]) | (refine ⟨dcK, ?_⟩))
    first | rw [RetQ_ret] | rw [RetQ_normal]
    refine ⟨[], ?_⟩
    simp [go_sem, ↓iO, iO, tN]
  · have h2 : t2 = ep := by omega
    have h3 : t3 < nx := by omega
    subst h2
    clear h
    refine FnOk.intro fact_mixed Try.func42 rfl Try.ntmps42 (by rfl) (by simp) ?_
    repeat (first | (refine nf1_sound rfl ?_; simp [go_sem, ↓iO, iO, tN]; (repeat (refine anI ?_)); try (refine ⟨dcK, ?_⟩)) | ((first | refine itePos (by omega) ?_ | refine iteNeg (by omega) ?_); try simp [go_sem, ↓iO, iO, tN]) | (refine ⟨dcK, ?_⟩))
    first | rw [RetQ_ret] | rw [RetQ_normal]
    refine ⟨[], ?_⟩
    simp [go_sem, ↓iO, iO, tN]
end Go.Proofs.Ytopmmodcaoaaeaa
