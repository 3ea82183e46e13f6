/- The law CutOpens. No condition. -/
import Derived.Test.YtgjfkklemelejaaCuTank2
import Derived.Test.YtgjfkklemelejaaCuBat2
import Derived.Test.YtgjfkklemelejaaCuSumP
import Derived.Test.YtgjfkklemelejaaKArg
namespace Go.Proofs.Ytgjfkklemelejaa
open Go.RowKit Sy
set_option linter.unusedVariables false
set_option linter.unusedSimpArgs false
theorem tStep_pre (out : List Int) (t : Int) : ∃ r, tStep out t = out ++ r := by unfold tStep; split; exact ⟨[], by simp⟩; exact ⟨[t], rfl⟩
theorem tStep_last (out : List Int) (t : Int) : ∃ o, tStep out t = o ++ [t] := by
  unfold tStep
  split
  · rename_i h
    obtain ⟨o, ho⟩ : ∃ o, out = o ++ [t] := by
      rcases List.eq_nil_or_concat out with rfl | ⟨o, q, rfl⟩
      · simp at h
      · rw [List.concat_eq_append] at h ⊢
        simp at h
        exact ⟨o, by rw [h]⟩
    exact ⟨o, ho⟩
  · exact ⟨out, rfl⟩
theorem foldl_pre (bs : List Bt) : ∀ (l : List Po) (out : List Int), ∃ r, l.foldl (fun out x => tStep out (tkV bs x)) out = out ++ r
  | [], out => ⟨[], by simp⟩
  | x :: r, out => by
    obtain ⟨a, ha⟩ := tStep_pre out (tkV bs x)
    obtain ⟨b, hb⟩ := foldl_pre bs r (tStep out (tkV bs x))
    exact ⟨a ++ b, by rw [List.foldl_cons, hb, ha, List.append_assoc]⟩
theorem tanks_pre (bs : List Bt) (l : List Po) (i j : Nat) (x : Int) (h : (tanksL bs (l.take i))[j]? = some x) : (tanksL bs l)[j]? = some x := by
  obtain ⟨r, hr⟩ := foldl_pre bs (l.drop i) (tanksL bs (l.take i))
  have e : tanksL bs l = tanksL bs (l.take i) ++ r := by
    rw [← hr]
    unfold tanksL
    rw [← List.foldl_append, List.take_append_drop]
  rw [e, List.getElem?_append_left (List.getElem?_eq_some_iff.1 h).1, h]
def Adj (l : List Int) : Prop := ∀ (k : Nat) (a b : Int), l[k]? = some a → l[k + 1]? = some b → a ≠ b
theorem tStep_adj {out : List Int} (t : Int) (h : Adj out) : Adj (tStep out t) := by
  unfold tStep
  split
  · exact h
  · rename_i hne
    intro k a b ha hb
    by_cases hk : k + 1 < out.length
    · rw [List.getElem?_append_left (by omega)] at ha
      rw [List.getElem?_append_left hk] at hb
      exact h k a b ha hb
    · have hl := (List.getElem?_eq_some_iff.1 hb).1
      rw [List.length_append, List.length_singleton] at hl
      have e : k + 1 = out.length := by omega
      rw [List.getElem?_append_left (by omega)] at ha
      rw [e, List.getElem?_concat_length] at hb
      simp only [Option.some.injEq] at hb
      rintro rfl
      apply hne
      rw [List.getLast?_eq_getElem?, show out.length - 1 = k by omega, ha, hb]
theorem foldl_adj (bs : List Bt) : ∀ (l : List Po) (out : List Int), Adj out → Adj (l.foldl (fun out x => tStep out (tkV bs x)) out)
  | [], out, h => h
  | x :: r, out, h => foldl_adj bs r _ (tStep_adj _ h)
theorem tanks_adj (bs : List Bt) (l : List Po) : Adj (tanksL bs l) := foldl_adj bs l [] (by intro k a b h; simp at h)
/-- Where the pointer stands: at the last tank that is open. -/
theorem tanks_at {bs : List Bt} {l : List Po} {i : Nat} {x : Po} (hx : l[i]? = some x) (k : Nat) (hk : (i = 0 ∧ k = 0) ∨ k + 1 = (tanksL bs (l.take i)).length) :
    ((tanksL bs l)[k]? = some (tkV bs x) ∧ k + 1 = (tanksL bs (l.take (i + 1))).length) ∨ ∃ u, (tanksL bs l)[k]? = some u ∧ u ≠ tkV bs x ∧ (tanksL bs l)[k + 1]? = some (tkV bs x) ∧ k + 1 + 1 = (tanksL bs (l.take (i + 1))).length := by
  have hs := tanks_snoc (bs := bs) hx
  rcases hk with ⟨rfl, rfl⟩ | hk
  · have e : tanksL bs (l.take (0 + 1)) = [tkV bs x] := by rw [hs]; rfl
    exact .inl ⟨tanks_pre bs l (0 + 1) 0 _ (by rw [e]; rfl), by rw [e]; rfl⟩
  · obtain ⟨u, hu⟩ := has_get (show k < (tanksL bs (l.take i)).length by omega)
    have hu2 := tanks_pre bs l i k u hu
    have hlast : (tanksL bs (l.take i)).getLast? = some u := by rw [List.getLast?_eq_getElem?, show (tanksL bs (l.take i)).length - 1 = k by omega, hu]
    by_cases e : u = tkV bs x
    · refine .inl ⟨by rw [hu2, e], ?_⟩
      rw [hs]; unfold tStep
      rw [if_pos (by rw [hlast, e])]; exact hk
    · have e2 : tanksL bs (l.take (i + 1)) = tanksL bs (l.take i) ++ [tkV bs x] := by
        rw [hs]; unfold tStep
        rw [if_neg (by rw [hlast]; simpa using e)]
      refine .inr ⟨u, hu2, e, tanks_pre bs l (i + 1) (k + 1) _ ?_, ?_⟩
      · rw [e2, hk, List.getElem?_concat_length]
      · rw [e2, List.length_append, List.length_singleton]; omega
set_option maxRecDepth 100000 in
set_option maxHeartbeats 16000000 in
theorem opens_fn (l : List Int) (ru : Int) (hl : l.length ≤ 9223372036854775807) (wf : ∀ z ∈ l, -9223372036854775808 ≤ z ∧ z ≤ 9223372036854775807) (hru : 0 ≤ ru ∧ ru ≤ 255) :
    FnOk Try.prog 5 [.t (encIs l), .t (.lit (.int .u8 ru))] [] (.t (.bool true)) [] := by
  have cf := few_fn l hl
  by_cases h4 : l.length ≤ 400
  · rw [decide_eq_true h4] at cf
    have h0 := new_ok wf
    obtain ⟨s, hm⟩ : ∃ m, newL2 l = m := ⟨_, rfl⟩
    have hnew := new_fn l hl
    rw [hm] at h0 hnew
    obtain ⟨x, t, k', hk', hx, hxl, hxv, hxb, htl, htw, c1⟩ := recv_ex h0
    obtain ⟨bs, k2, hk2, hbl, hbp, cb⟩ := bats_ex hk'
    obtain ⟨q, hq⟩ : ∃ q, 1 + ru % 5 = q := ⟨_, rfl⟩
    have hq1 : 1 ≤ q ∧ q ≤ 5 := by omega
    have sl : ∀ y ∈ t, (slopAt 2 q y).2 = 0 := by
      intro y hy
      obtain ⟨m, c, _, _, _, _, _, h5, _⟩ := slop_ok (f := 2) (by omega) hq1 (htw y hy)
      rw [h5]
    have p1 := port_ok (f := 2) (r := q) hx htl sl
    have hss : ∀ s ∈ t.map (fun y => (slopAt 2 q y).1), 0 ≤ s ∧ s ≤ 1000000 := by
      intro s hs
      obtain ⟨y, _, rfl⟩ := List.mem_map.1 hs
      exact slopAt_range 2 q y
    obtain ⟨ss, hsse⟩ : ∃ ss, (t.map fun y => (slopAt 2 q y).1) = ss := ⟨_, rfl⟩
    rw [hsse] at p1 hss
    have c2 := portions_fn x t 2 q (by omega) (by omega) _ _ p1
    have hmem := po_mem hx hss (Nat.le_refl x.length)
    have hpl := poL_len x ss x.length
    obtain ⟨P, hP⟩ : ∃ P, poL x ss x.length = P := ⟨_, rfl⟩
    rw [hP] at c2 hpl
    simp only [hP] at hmem
    have hin : ∀ p ∈ P, inB bs p := by
      intro p hp
      obtain ⟨_, _, u, hu, he⟩ := hmem p hp
      have := hxb u hu
      unfold inB
      omega
    have htr : tanksR bs P = (tanksL bs P, 0) := by unfold tanksR; rw [if_neg (by omega), if_pos hin]
    have c3 := tanks_fn bs (by omega) P (by omega) _ _ htr
    have hadj := tanks_adj bs P
    have htl2 := tanks_len bs P
    have hat := fun (i : Nat) (b v : Int) (z : Bool) (h : P[i]? = some (b, v, z)) (k : Nat) => tanks_at (bs := bs) h k
    have hy0 : (tanksL bs (P.take 0)).length = 0 := rfl
    have hye : tanksL bs (P.take P.length) = tanksL bs P := by rw [List.take_length]
    obtain ⟨Y, hY⟩ : ∃ Y : Nat → List Int, ∀ i, tanksL bs (P.take i) = Y i := ⟨_, fun _ => rfl⟩
    obtain ⟨W, hW⟩ : ∃ W, tanksL bs P = W := ⟨_, rfl⟩
    simp only [hY, hW] at hat hye hy0 hadj htl2 c3
    clear hY hW htr
    refine FnOk.intro fact_mixed Try.func5 rfl Try.ntmps5 (by rfl) (by simp) ?_
    repeat (first | (refine nf1_sound rfl ?_; simp [go_sem, ↓IntWalk.iteOmega, IntWalk.iteOmega, IntWalk.toNatUp]; (repeat (refine And.intro (by omega) ?_)); try (refine ⟨DrawChk_of (by kernel_rfl), ?_⟩)) | (refine itePos (by omega) ?_; try simp [go_sem, ↓IntWalk.iteOmega, IntWalk.iteOmega, IntWalk.toNatUp]) | (refine iteNeg (by omega) ?_; try simp [go_sem, ↓IntWalk.iteOmega, IntWalk.iteOmega, IntWalk.toNatUp]) | (refine ⟨DrawChk_of (by kernel_rfl), ?_⟩))
    refine CallK.fn (cf) [] [] [] (by kernel_rfl) (by simp [go_sem, ↓IntWalk.iteOmega, IntWalk.iteOmega, IntWalk.toNatUp]) (by simp [go_sem, ↓IntWalk.iteOmega, IntWalk.iteOmega, IntWalk.toNatUp]) (by simp [go_sem, ↓IntWalk.iteOmega, IntWalk.iteOmega, IntWalk.toNatUp]) (Or.inl rfl) ?_
    simp [go_sem, ↓IntWalk.iteOmega, IntWalk.iteOmega, IntWalk.toNatUp]
    repeat (refine And.intro (by omega) ?_)
    try (refine ⟨DrawChk_of (by kernel_rfl), ?_⟩)
    repeat (first | (refine nf1_sound rfl ?_; simp [go_sem, ↓IntWalk.iteOmega, IntWalk.iteOmega, IntWalk.toNatUp]; (repeat (refine And.intro (by omega) ?_)); try (refine ⟨DrawChk_of (by kernel_rfl), ?_⟩)) | (refine itePos (by omega) ?_; try simp [go_sem, ↓IntWalk.iteOmega, IntWalk.iteOmega, IntWalk.toNatUp]) | (refine iteNeg (by omega) ?_; try simp [go_sem, ↓IntWalk.iteOmega, IntWalk.iteOmega, IntWalk.toNatUp]) | (refine ⟨DrawChk_of (by kernel_rfl), ?_⟩))
    refine CallK.fn (hnew) [(1000, 122)] [] [] (by kernel_rfl) (by simp [go_sem, ↓IntWalk.iteOmega, IntWalk.iteOmega, IntWalk.toNatUp]) (by simp [go_sem, ↓IntWalk.iteOmega, IntWalk.iteOmega, IntWalk.toNatUp]) (by simp [go_sem, ↓IntWalk.iteOmega, IntWalk.iteOmega, IntWalk.toNatUp]) (Or.inl rfl) ?_
    simp [go_sem, ↓IntWalk.iteOmega, IntWalk.iteOmega, IntWalk.toNatUp]
    repeat (refine And.intro (by omega) ?_)
    try (refine ⟨DrawChk_of (by kernel_rfl), ?_⟩)
    repeat (first | (refine nf1_sound rfl ?_; simp [go_sem, ↓IntWalk.iteOmega, IntWalk.iteOmega, IntWalk.toNatUp]; (repeat (refine And.intro (by omega) ?_)); try (refine ⟨DrawChk_of (by kernel_rfl), ?_⟩)) | (refine itePos (by omega) ?_; try simp [go_sem, ↓IntWalk.iteOmega, IntWalk.iteOmega, IntWalk.toNatUp]) | (refine iteNeg (by omega) ?_; try simp [go_sem, ↓IntWalk.iteOmega, IntWalk.iteOmega, IntWalk.toNatUp]) | (refine ⟨DrawChk_of (by kernel_rfl), ?_⟩))
    refine CallK.fn (c1) [(0, 122), (1000, 721), (1001, 722)] [] [] (by kernel_rfl) (by simp [go_sem, ↓IntWalk.iteOmega, IntWalk.iteOmega, IntWalk.toNatUp]) (by simp [go_sem, ↓IntWalk.iteOmega, IntWalk.iteOmega, IntWalk.toNatUp]) (by simp [go_sem, ↓IntWalk.iteOmega, IntWalk.iteOmega, IntWalk.toNatUp]) (Or.inl rfl) ?_
    simp [go_sem, ↓IntWalk.iteOmega, IntWalk.iteOmega, IntWalk.toNatUp]
    repeat (refine And.intro (by omega) ?_)
    try (refine ⟨DrawChk_of (by kernel_rfl), ?_⟩)
    repeat (first | (refine nf1_sound rfl ?_; simp [go_sem, ↓IntWalk.iteOmega, IntWalk.iteOmega, IntWalk.toNatUp]; (repeat (refine And.intro (by omega) ?_)); try (refine ⟨DrawChk_of (by kernel_rfl), ?_⟩)) | (refine itePos (by omega) ?_; try simp [go_sem, ↓IntWalk.iteOmega, IntWalk.iteOmega, IntWalk.toNatUp]) | (refine iteNeg (by omega) ?_; try simp [go_sem, ↓IntWalk.iteOmega, IntWalk.iteOmega, IntWalk.toNatUp]) | (refine ⟨DrawChk_of (by kernel_rfl), ?_⟩))
    refine CallK.fn (cb) [(0, 122), (1000, 723)] [] [] (by kernel_rfl) (by simp [go_sem, ↓IntWalk.iteOmega, IntWalk.iteOmega, IntWalk.toNatUp]) (by simp [go_sem, ↓IntWalk.iteOmega, IntWalk.iteOmega, IntWalk.toNatUp]) (by simp [go_sem, ↓IntWalk.iteOmega, IntWalk.iteOmega, IntWalk.toNatUp]) (Or.inl rfl) ?_
    simp [go_sem, ↓IntWalk.iteOmega, IntWalk.iteOmega, IntWalk.toNatUp]
    repeat (refine And.intro (by omega) ?_)
    try (refine ⟨DrawChk_of (by kernel_rfl), ?_⟩)
    repeat (first | (refine nf1_sound rfl ?_; simp [go_sem, ↓IntWalk.iteOmega, IntWalk.iteOmega, IntWalk.toNatUp, hq]; (repeat (refine And.intro (by omega) ?_)); try (refine ⟨DrawChk_of (by kernel_rfl), ?_⟩)) | (refine itePos (by omega) ?_; try simp [go_sem, ↓IntWalk.iteOmega, IntWalk.iteOmega, IntWalk.toNatUp, hq]) | (refine iteNeg (by omega) ?_; try simp [go_sem, ↓IntWalk.iteOmega, IntWalk.iteOmega, IntWalk.toNatUp, hq]) | (refine ⟨DrawChk_of (by kernel_rfl), ?_⟩))
    refine CallK.fn (c2) [(1000, 731)] [721, 722] [] (by kernel_rfl) (by simp [go_sem, ↓IntWalk.iteOmega, IntWalk.iteOmega, IntWalk.toNatUp]) (by simp [go_sem, ↓IntWalk.iteOmega, IntWalk.iteOmega, IntWalk.toNatUp]) (by simp [go_sem, ↓IntWalk.iteOmega, IntWalk.iteOmega, IntWalk.toNatUp]) (Or.inr ⟨by simp [go_sem, ↓IntWalk.iteOmega, IntWalk.iteOmega, IntWalk.toNatUp], by simp [go_sem, ↓IntWalk.iteOmega, IntWalk.iteOmega, IntWalk.toNatUp]⟩) ?_
    simp [go_sem, ↓IntWalk.iteOmega, IntWalk.iteOmega, IntWalk.toNatUp]
    repeat (refine And.intro (by omega) ?_)
    try (refine ⟨DrawChk_of (by kernel_rfl), ?_⟩)
    repeat (first | (refine nf1_sound rfl ?_; simp [go_sem, ↓IntWalk.iteOmega, IntWalk.iteOmega, IntWalk.toNatUp]; (repeat (refine And.intro (by omega) ?_)); try (refine ⟨DrawChk_of (by kernel_rfl), ?_⟩)) | (refine itePos (by omega) ?_; try simp [go_sem, ↓IntWalk.iteOmega, IntWalk.iteOmega, IntWalk.toNatUp]) | (refine iteNeg (by omega) ?_; try simp [go_sem, ↓IntWalk.iteOmega, IntWalk.iteOmega, IntWalk.toNatUp]) | (refine ⟨DrawChk_of (by kernel_rfl), ?_⟩))
    refine CallK.fn (c3) [(1000, 741)] [731, 723] [] (by kernel_rfl) (by simp [go_sem, ↓IntWalk.iteOmega, IntWalk.iteOmega, IntWalk.toNatUp]) (by simp [go_sem, ↓IntWalk.iteOmega, IntWalk.iteOmega, IntWalk.toNatUp]) (by simp [go_sem, ↓IntWalk.iteOmega, IntWalk.iteOmega, IntWalk.toNatUp]) (Or.inr ⟨by simp [go_sem, ↓IntWalk.iteOmega, IntWalk.iteOmega, IntWalk.toNatUp], by simp [go_sem, ↓IntWalk.iteOmega, IntWalk.iteOmega, IntWalk.toNatUp]⟩) ?_
    simp [go_sem, ↓IntWalk.iteOmega, IntWalk.iteOmega, IntWalk.toNatUp]
    repeat (refine And.intro (by omega) ?_)
    try (refine ⟨DrawChk_of (by kernel_rfl), ?_⟩)
    repeat (first | (refine nf1_sound rfl ?_; simp [go_sem, ↓IntWalk.iteOmega, IntWalk.iteOmega, IntWalk.toNatUp]; (repeat (refine And.intro (by omega) ?_)); try (refine ⟨DrawChk_of (by kernel_rfl), ?_⟩)) | (refine itePos (by omega) ?_; try simp [go_sem, ↓IntWalk.iteOmega, IntWalk.iteOmega, IntWalk.toNatUp]) | (refine iteNeg (by omega) ?_; try simp [go_sem, ↓IntWalk.iteOmega, IntWalk.iteOmega, IntWalk.toNatUp]) | (refine ⟨DrawChk_of (by kernel_rfl), ?_⟩))
    refine nf1_sound' _ _ _ ?_; simp only [nf1]
    refine CW.loop (ι := Nat × Nat) (fun i => ⟨[(8, .t (encBts bs)), (9, .t (encPos P)), (11, .t (encIs W)), (13, .t (.int i.2)), (14, .t (.int i.1))], []⟩) (fun i => i.1 ≤ P.length ∧ i.2 ≤ P.length ∧ ((i.1 = 0 ∧ i.2 = 0) ∨ i.2 + 1 = (Y i.1).length)) (fun i => P.length - i.1) (0, 0) [] ⟨by omega, by omega, .inl ⟨rfl, rfl⟩⟩ ?_ ?_
    · simp [go_sem, ↓IntWalk.iteOmega, IntWalk.iteOmega, IntWalk.toNatUp]
    rintro ⟨i, k⟩ ⟨hi, hkP, hk⟩
    dsimp only at hi hk hkP
    by_cases hiP : i < P.length
    · obtain ⟨⟨b, v, z⟩, hg⟩ := has_get hiP
      obtain ⟨p, nm, hp, htk⟩ := tk_get (hin _ (mem_get hg))
      have hib := hin _ (mem_get hg)
      unfold inB at hib
      dsimp only at hib
      have hA := hat i b v z hg k hk
      rw [htk] at hA
      cases z with
      | true =>
        simp only [if_true] at hA
        rcases hA with ⟨h1, h2⟩ | ⟨u, h1, hu, h2, h3⟩
        · have hkl := (List.getElem?_eq_some_iff.1 h1).1
          repeat (first | (refine nf1_sound rfl ?_; simp [go_sem, ↓IntWalk.iteOmega, IntWalk.iteOmega, IntWalk.toNatUp, hg, hp, h1]; (repeat (refine And.intro (by omega) ?_)); try (refine ⟨DrawChk_of (by kernel_rfl), ?_⟩)) | (refine itePos (by omega) ?_; try simp [go_sem, ↓IntWalk.iteOmega, IntWalk.iteOmega, IntWalk.toNatUp, hg, hp, h1]) | (refine iteNeg (by omega) ?_; try simp [go_sem, ↓IntWalk.iteOmega, IntWalk.iteOmega, IntWalk.toNatUp, hg, hp, h1]) | (refine ⟨DrawChk_of (by kernel_rfl), ?_⟩))
          rw [RoundQ_normal]; refine ⟨(i + 1, k), [], ?_, ?_, ?_⟩
          · exact ⟨by dsimp only; omega, by dsimp only; omega, .inr h2⟩
          · dsimp only; omega
          simp [go_sem, ↓IntWalk.iteOmega, IntWalk.iteOmega, IntWalk.toNatUp]
        · have hkl := (List.getElem?_eq_some_iff.1 h2).1
          repeat (first | (refine nf1_sound rfl ?_; simp [go_sem, ↓IntWalk.iteOmega, IntWalk.iteOmega, IntWalk.toNatUp, hg, hp, h1, hu, h2]; (repeat (refine And.intro (by omega) ?_)); try (refine ⟨DrawChk_of (by kernel_rfl), ?_⟩)) | (refine itePos (by omega) ?_; try simp [go_sem, ↓IntWalk.iteOmega, IntWalk.iteOmega, IntWalk.toNatUp, hg, hp, h1, hu, h2]) | (refine iteNeg (by omega) ?_; try simp [go_sem, ↓IntWalk.iteOmega, IntWalk.iteOmega, IntWalk.toNatUp, hg, hp, h1, hu, h2]) | (refine ⟨DrawChk_of (by kernel_rfl), ?_⟩))
          rw [RoundQ_normal]; refine ⟨(i + 1, k + 1), [], ?_, ?_, ?_⟩
          · exact ⟨by dsimp only; omega, by dsimp only; omega, .inr h3⟩
          · dsimp only; omega
          simp [go_sem, ↓IntWalk.iteOmega, IntWalk.iteOmega, IntWalk.toNatUp]
      | false =>
        simp only [Bool.false_eq_true, if_false] at hA
        rcases hA with ⟨h1, h2⟩ | ⟨u, h1, hu, h2, h3⟩
        · have hkl := (List.getElem?_eq_some_iff.1 h1).1
          repeat (first | (refine nf1_sound rfl ?_; simp [go_sem, ↓IntWalk.iteOmega, IntWalk.iteOmega, IntWalk.toNatUp, hg, hp, h1]; (repeat (refine And.intro (by omega) ?_)); try (refine ⟨DrawChk_of (by kernel_rfl), ?_⟩)) | (refine itePos (by omega) ?_; try simp [go_sem, ↓IntWalk.iteOmega, IntWalk.iteOmega, IntWalk.toNatUp, hg, hp, h1]) | (refine iteNeg (by omega) ?_; try simp [go_sem, ↓IntWalk.iteOmega, IntWalk.iteOmega, IntWalk.toNatUp, hg, hp, h1]) | (refine ⟨DrawChk_of (by kernel_rfl), ?_⟩))
          rw [RoundQ_normal]; refine ⟨(i + 1, k), [], ?_, ?_, ?_⟩
          · exact ⟨by dsimp only; omega, by dsimp only; omega, .inr h2⟩
          · dsimp only; omega
          simp [go_sem, ↓IntWalk.iteOmega, IntWalk.iteOmega, IntWalk.toNatUp]
        · have hkl := (List.getElem?_eq_some_iff.1 h2).1
          repeat (first | (refine nf1_sound rfl ?_; simp [go_sem, ↓IntWalk.iteOmega, IntWalk.iteOmega, IntWalk.toNatUp, hg, hp, h1, hu, h2]; (repeat (refine And.intro (by omega) ?_)); try (refine ⟨DrawChk_of (by kernel_rfl), ?_⟩)) | (refine itePos (by omega) ?_; try simp [go_sem, ↓IntWalk.iteOmega, IntWalk.iteOmega, IntWalk.toNatUp, hg, hp, h1, hu, h2]) | (refine iteNeg (by omega) ?_; try simp [go_sem, ↓IntWalk.iteOmega, IntWalk.iteOmega, IntWalk.toNatUp, hg, hp, h1, hu, h2]) | (refine ⟨DrawChk_of (by kernel_rfl), ?_⟩))
          rw [RoundQ_normal]; refine ⟨(i + 1, k + 1), [], ?_, ?_, ?_⟩
          · exact ⟨by dsimp only; omega, by dsimp only; omega, .inr h3⟩
          · dsimp only; omega
          simp [go_sem, ↓IntWalk.iteOmega, IntWalk.iteOmega, IntWalk.toNatUp]
    · obtain rfl : i = P.length := by omega
      rw [hye] at hk
      repeat (first | (refine nf1_sound rfl ?_; simp [go_sem, ↓IntWalk.iteOmega, IntWalk.iteOmega, IntWalk.toNatUp]; (repeat (refine And.intro (by omega) ?_)); try (refine ⟨DrawChk_of (by kernel_rfl), ?_⟩)) | (refine itePos (by omega) ?_; try simp [go_sem, ↓IntWalk.iteOmega, IntWalk.iteOmega, IntWalk.toNatUp]) | (refine iteNeg (by omega) ?_; try simp [go_sem, ↓IntWalk.iteOmega, IntWalk.iteOmega, IntWalk.toNatUp]) | (refine ⟨DrawChk_of (by kernel_rfl), ?_⟩))
      refine nf1_sound' _ _ _ ?_; simp only [nf1]
      refine CW.loop (ι := Nat) (fun i => ⟨[(9, .t (encPos P)), (11, .t (encIs W)), (13, .t (.int k)), (16, .t (.int (i + 1)))], []⟩) (fun i => i ≤ W.length) (fun i => W.length - i) 0 [] (by omega) ?_ ?_
      · simp [go_sem, ↓IntWalk.iteOmega, IntWalk.iteOmega, IntWalk.toNatUp]
      intro i hiW
      by_cases hi2 : i + 1 < W.length
      · obtain ⟨a, ha⟩ := has_get (show i < W.length by omega)
        obtain ⟨b, hb⟩ := has_get hi2
        have hab := hadj i a b ha hb
        have hba : b ≠ a := fun h => hab h.symm
        repeat (first | (refine nf1_sound rfl ?_; simp [go_sem, ↓IntWalk.iteOmega, IntWalk.iteOmega, IntWalk.toNatUp, ha, hb, hba]; (repeat (refine And.intro (by omega) ?_)); try (refine ⟨DrawChk_of (by kernel_rfl), ?_⟩)) | (refine itePos (by omega) ?_; try simp [go_sem, ↓IntWalk.iteOmega, IntWalk.iteOmega, IntWalk.toNatUp, ha, hb, hba]) | (refine iteNeg (by omega) ?_; try simp [go_sem, ↓IntWalk.iteOmega, IntWalk.iteOmega, IntWalk.toNatUp, ha, hb, hba]) | (refine ⟨DrawChk_of (by kernel_rfl), ?_⟩))
        rw [RoundQ_normal]; refine ⟨i + 1, [], ?_, ?_, ?_⟩
        · omega
        · omega
        simp [go_sem, ↓IntWalk.iteOmega, IntWalk.iteOmega, IntWalk.toNatUp]
      · rcases hk with ⟨hP0, hk0⟩ | hk1
        · have hPe := List.eq_nil_of_length_eq_zero hP0
          have hWe := List.eq_nil_of_length_eq_zero (show W.length = 0 by omega)
          subst hk0
          repeat (first | (refine nf1_sound rfl ?_; simp [go_sem, ↓IntWalk.iteOmega, IntWalk.iteOmega, IntWalk.toNatUp, hPe, hWe]; (repeat (refine And.intro (by omega) ?_)); try (refine ⟨DrawChk_of (by kernel_rfl), ?_⟩)) | (refine itePos (by omega) ?_; try simp [go_sem, ↓IntWalk.iteOmega, IntWalk.iteOmega, IntWalk.toNatUp, hPe, hWe]) | (refine iteNeg (by omega) ?_; try simp [go_sem, ↓IntWalk.iteOmega, IntWalk.iteOmega, IntWalk.toNatUp, hPe, hWe]) | (refine ⟨DrawChk_of (by kernel_rfl), ?_⟩))
          refine CallK.fn (awake_fn) [] [] [] (by kernel_rfl) (by simp [go_sem, ↓IntWalk.iteOmega, IntWalk.iteOmega, IntWalk.toNatUp]) (by simp [go_sem, ↓IntWalk.iteOmega, IntWalk.iteOmega, IntWalk.toNatUp]) (by simp [go_sem, ↓IntWalk.iteOmega, IntWalk.iteOmega, IntWalk.toNatUp]) (Or.inl rfl) ?_
          simp [go_sem, ↓IntWalk.iteOmega, IntWalk.iteOmega, IntWalk.toNatUp]
          repeat (refine And.intro (by omega) ?_)
          try (refine ⟨DrawChk_of (by kernel_rfl), ?_⟩)
          repeat (first | (refine nf1_sound rfl ?_; simp [go_sem, ↓IntWalk.iteOmega, IntWalk.iteOmega, IntWalk.toNatUp]; (repeat (refine And.intro (by omega) ?_)); try (refine ⟨DrawChk_of (by kernel_rfl), ?_⟩)) | (refine itePos (by omega) ?_; try simp [go_sem, ↓IntWalk.iteOmega, IntWalk.iteOmega, IntWalk.toNatUp]) | (refine iteNeg (by omega) ?_; try simp [go_sem, ↓IntWalk.iteOmega, IntWalk.iteOmega, IntWalk.toNatUp]) | (refine ⟨DrawChk_of (by kernel_rfl), ?_⟩))
          first | rw [RetQ_ret] | rw [RetQ_normal]
          refine ⟨[], ?_⟩
          simp [go_sem, ↓IntWalk.iteOmega, IntWalk.iteOmega, IntWalk.toNatUp]
        · repeat (first | (refine nf1_sound rfl ?_; simp [go_sem, ↓IntWalk.iteOmega, IntWalk.iteOmega, IntWalk.toNatUp]; (repeat (refine And.intro (by omega) ?_)); try (refine ⟨DrawChk_of (by kernel_rfl), ?_⟩)) | (refine itePos (by omega) ?_; try simp [go_sem, ↓IntWalk.iteOmega, IntWalk.iteOmega, IntWalk.toNatUp]) | (refine iteNeg (by omega) ?_; try simp [go_sem, ↓IntWalk.iteOmega, IntWalk.iteOmega, IntWalk.toNatUp]) | (refine ⟨DrawChk_of (by kernel_rfl), ?_⟩))
          refine CallK.fn (awake_fn) [] [] [] (by kernel_rfl) (by simp [go_sem, ↓IntWalk.iteOmega, IntWalk.iteOmega, IntWalk.toNatUp]) (by simp [go_sem, ↓IntWalk.iteOmega, IntWalk.iteOmega, IntWalk.toNatUp]) (by simp [go_sem, ↓IntWalk.iteOmega, IntWalk.iteOmega, IntWalk.toNatUp]) (Or.inl rfl) ?_
          simp [go_sem, ↓IntWalk.iteOmega, IntWalk.iteOmega, IntWalk.toNatUp]
          repeat (refine And.intro (by omega) ?_)
          try (refine ⟨DrawChk_of (by kernel_rfl), ?_⟩)
          repeat (first | (refine nf1_sound rfl ?_; simp [go_sem, ↓IntWalk.iteOmega, IntWalk.iteOmega, IntWalk.toNatUp]; (repeat (refine And.intro (by omega) ?_)); try (refine ⟨DrawChk_of (by kernel_rfl), ?_⟩)) | (refine itePos (by omega) ?_; try simp [go_sem, ↓IntWalk.iteOmega, IntWalk.iteOmega, IntWalk.toNatUp]) | (refine iteNeg (by omega) ?_; try simp [go_sem, ↓IntWalk.iteOmega, IntWalk.iteOmega, IntWalk.toNatUp]) | (refine ⟨DrawChk_of (by kernel_rfl), ?_⟩))
          first | rw [RetQ_ret] | rw [RetQ_normal]
          refine ⟨[], ?_⟩
          simp [go_sem, ↓IntWalk.iteOmega, IntWalk.iteOmega, IntWalk.toNatUp]
  · rw [decide_eq_false h4] at cf
    refine FnOk.intro fact_mixed Try.func5 rfl Try.ntmps5 (by rfl) (by simp) ?_
    repeat (first | (refine nf1_sound rfl ?_; simp [go_sem, ↓IntWalk.iteOmega, IntWalk.iteOmega, IntWalk.toNatUp]; (repeat (refine And.intro (by omega) ?_)); try (refine ⟨DrawChk_of (by kernel_rfl), ?_⟩)) | (refine itePos (by omega) ?_; try simp [go_sem, ↓IntWalk.iteOmega, IntWalk.iteOmega, IntWalk.toNatUp]) | (refine iteNeg (by omega) ?_; try simp [go_sem, ↓IntWalk.iteOmega, IntWalk.iteOmega, IntWalk.toNatUp]) | (refine ⟨DrawChk_of (by kernel_rfl), ?_⟩))
    refine CallK.fn (cf) [] [] [] (by kernel_rfl) (by simp [go_sem, ↓IntWalk.iteOmega, IntWalk.iteOmega, IntWalk.toNatUp]) (by simp [go_sem, ↓IntWalk.iteOmega, IntWalk.iteOmega, IntWalk.toNatUp]) (by simp [go_sem, ↓IntWalk.iteOmega, IntWalk.iteOmega, IntWalk.toNatUp]) (Or.inl rfl) ?_
    simp [go_sem, ↓IntWalk.iteOmega, IntWalk.iteOmega, IntWalk.toNatUp]
    repeat (refine And.intro (by omega) ?_)
    try (refine ⟨DrawChk_of (by kernel_rfl), ?_⟩)
    repeat (first | (refine nf1_sound rfl ?_; simp [go_sem, ↓IntWalk.iteOmega, IntWalk.iteOmega, IntWalk.toNatUp]; (repeat (refine And.intro (by omega) ?_)); try (refine ⟨DrawChk_of (by kernel_rfl), ?_⟩)) | (refine itePos (by omega) ?_; try simp [go_sem, ↓IntWalk.iteOmega, IntWalk.iteOmega, IntWalk.toNatUp]) | (refine iteNeg (by omega) ?_; try simp [go_sem, ↓IntWalk.iteOmega, IntWalk.iteOmega, IntWalk.toNatUp]) | (refine ⟨DrawChk_of (by kernel_rfl), ?_⟩))
    refine CallK.fn (awake_fn) [] [] [] (by kernel_rfl) (by simp [go_sem, ↓IntWalk.iteOmega, IntWalk.iteOmega, IntWalk.toNatUp]) (by simp [go_sem, ↓IntWalk.iteOmega, IntWalk.iteOmega, IntWalk.toNatUp]) (by simp [go_sem, ↓IntWalk.iteOmega, IntWalk.iteOmega, IntWalk.toNatUp]) (Or.inl rfl) ?_
    simp [go_sem, ↓IntWalk.iteOmega, IntWalk.iteOmega, IntWalk.toNatUp]
    repeat (refine And.intro (by omega) ?_)
    try (refine ⟨DrawChk_of (by kernel_rfl), ?_⟩)
    repeat (first | (refine nf1_sound rfl ?_; simp [go_sem, ↓IntWalk.iteOmega, IntWalk.iteOmega, IntWalk.toNatUp]; (repeat (refine And.intro (by omega) ?_)); try (refine ⟨DrawChk_of (by kernel_rfl), ?_⟩)) | (refine itePos (by omega) ?_; try simp [go_sem, ↓IntWalk.iteOmega, IntWalk.iteOmega, IntWalk.toNatUp]) | (refine iteNeg (by omega) ?_; try simp [go_sem, ↓IntWalk.iteOmega, IntWalk.iteOmega, IntWalk.toNatUp]) | (refine ⟨DrawChk_of (by kernel_rfl), ?_⟩))
    first | rw [RetQ_ret] | rw [RetQ_normal]
    refine ⟨[], ?_⟩
    simp [go_sem, ↓IntWalk.iteOmega, IntWalk.iteOmega, IntWalk.toNatUp]
theorem opens_all (x0 x1 : T) (h0 : InSh (.sl (.int .i64)) x0) (h1 : InSh (.int .u8) x1) : FnOk Try.prog 5 [.t x0, .t x1] [] (.t (.bool true)) [] := by
  obtain ⟨l, rfl, hl, wf⟩ := ints_in h0
  obtain ⟨b, rfl, w⟩ := insh_int h1
  have := wf_u8 w
  exact opens_fn l b hl wf (by omega)
end Go.Proofs.Ytgjfkklemelejaa
