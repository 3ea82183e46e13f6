/- The law ProverScales. No condition. -/
import Derived.Test.YtlogekdicmiciaaAwake
import Derived.Test.YtlogekdicmiciaaRuns
namespace Go.Proofs.Ytlogekdicmiciaa
open Go.RowKit Sy
set_option linter.unusedVariables false
set_option linter.unusedSimpArgs false
def dbl (l : List Int) : List Int := l.map fun x => 2 * x
theorem fold_dbl_min : ∀ (r : List Int) (x : Int), (dbl r).foldl min (2 * x) = 2 * r.foldl min x
  | [], x => rfl
  | z :: r, x => by
    have := fold_dbl_min r (min x z)
    simp only [dbl, List.map_cons, List.foldl_cons] at *
    rw [← this]; congr 1; omega
theorem fold_dbl_max : ∀ (r : List Int) (x : Int), (dbl r).foldl max (2 * x) = 2 * r.foldl max x
  | [], x => rfl
  | z :: r, x => by
    have := fold_dbl_max r (max x z)
    simp only [dbl, List.map_cons, List.foldl_cons] at *
    rw [← this]; congr 1; omega
theorem min_dbl (l : List Int) : Pv.minL (dbl l) = 2 * Pv.minL l := by
  cases l with
  | nil => rfl
  | cons x r => exact fold_dbl_min r x
theorem max_dbl (l : List Int) : Pv.maxL (dbl l) = 2 * Pv.maxL l := by
  cases l with
  | nil => rfl
  | cons x r => exact fold_dbl_max r x
theorem sum_dbl (l : List Int) : Pv.sumL (dbl l) = 2 * Pv.sumL l := by
  induction l with
  | nil => rfl
  | cons x r ih => simp only [dbl, List.map_cons, Pv.sumL] at *; omega
theorem rep_dbl (t : Int) (l : List Int) : Pv.Rep t (dbl l) ↔ Pv.Rep t l := by
  unfold Pv.Rep
  rw [min_dbl, max_dbl]
  have : t * (2 * Pv.minL l) = 2 * (t * Pv.minL l) := by rw [← Int.mul_assoc, Int.mul_comm t 2, Int.mul_assoc]
  omega
theorem half_dbl (a S : Int) : halfV (2 * a) (2 * S) = halfV a S := by
  unfold halfV
  have e1 : 2 * (2 * a) + 2 * S = 2 * (2 * a + S) := by omega
  rw [e1, Int.mul_ediv_mul_of_pos _ _ (by omega)]
theorem factor_dbl (v p : Int) (w : List Int) (i : Nat) : Pv.factor v (p * 2) (dbl w) i = Pv.factor v p w i := by
  unfold Pv.factor
  have e1 : 5 * v * (p * 2) * 100 = 2 * (5 * v * p * 100) := by rw [← Int.mul_assoc]; omega
  rw [sum_dbl, e1, half_dbl]
theorem go_dbl (v t p : Int) : ∀ (l : List Int) (i : Nat), Pv.go v t (p * 2) i (dbl l) = Pv.go v t p i l
  | [], i => rfl
  | x :: r, i => by
    have ih := go_dbl v t p r (i + 1)
    have e1 : dbl (x :: r) = 2 * x :: dbl r := rfl
    have e2 : (dbl (x :: r)).take 5 = dbl ((x :: r).take 5) := by simp [dbl, List.map_take]
    have e3 : (dbl (x :: r)).length = (x :: r).length := by simp [dbl]
    rw [e1] at e2 e3 ⊢
    simp only [Pv.go]
    rw [e2, e3, ih, factor_dbl]
    by_cases h : Pv.Rep t ((x :: r).take 5)
    · rw [if_pos h, if_pos ((rep_dbl _ _).2 h)]
    · rw [if_neg h, if_neg (fun h2 => h ((rep_dbl _ _).1 h2))]
theorem go_at {v t p : Int} : ∀ {l : List Int} {i : Nat} {F a : Int}, Pv.go v t p i l = (F, a, 0) → ∃ n : Nat, a = ((i + n : Nat) : Int) ∧ n + 5 ≤ l.length ∧ Pv.Rep t ((l.drop n).take 5)
  | [], i, F, a, h => by simp [Pv.go] at h
  | x :: r, i, F, a, h => by
    simp only [Pv.go] at h
    split at h
    · simp at h
    · rename_i hl
      split at h
      · rename_i hr
        refine ⟨0, ?_, by omega, hr⟩
        unfold Pv.factor at h
        split at h
        · simp at h
        · simp only [Prod.mk.injEq] at h; rw [← h.2.1]; rfl
      · obtain ⟨n, h1, h2, h3⟩ := go_at h
        exact ⟨n + 1, by rw [h1]; omega, by simp only [List.length_cons]; omega, h3⟩
def scStep (l : List Int) (x : Int) (s : RS) : RS := ⟨nextK l s.k, s.r ++ [x + nV l s.k 2]⟩
structure ScOk (l : List Int) (x : Int) (j : Nat) (s : RS) : Prop where
  src : SrcOk l s.k
  runs : ∀ y ∈ s.r, x ≤ y ∧ y ≤ x + 1
  len : s.r.length = j
theorem sc_step {l : List Int} {x : Int} (j : Nat) (s : RS) (h : ScOk l x j s) : ScOk l x (j + 1) (scStep l x s) := by
  refine ⟨h.src.next, ?_, by simp [scStep, h.len]⟩
  intro y hy
  rcases List.mem_append.1 hy with hy | hy
  · exact h.runs y hy
  · simp only [List.mem_singleton] at hy
    have := nV_range (l := l) (k := s.k) (n := 2) (by omega)
    omega
theorem dbl_snoc (r : List Int) (x : Int) : dbl (r ++ [x]) = dbl r ++ [2 * x] := by simp [dbl]
set_option maxRecDepth 100000 in
set_option maxHeartbeats 8000000 in
theorem scales_fn (l : List Int) (hl : l.length ≤ 9223372036854775807) (wf : ∀ z ∈ l, -9223372036854775808 ≤ z ∧ z ≤ 9223372036854775807) :
    FnOk Try.prog 7 [.t (encIs l)] [] (.t (.bool true)) [] := by
  have h0 := new_ok wf
  obtain ⟨s, hm⟩ : ∃ m, newL2 l = m := ⟨_, rfl⟩
  have hnew := new_fn l hl
  rw [hm] at h0 hnew
  have r1 := rangeV_range (l := s) (k := 0) (lo := 1) (hi := 100) (by omega)
  have c1 := range_fn s 0 1 100 h0 (by omega) (by omega) (by omega)
  obtain ⟨u, hu⟩ : ∃ u, rangeV s 0 1 100 = u := ⟨_, rfl⟩
  rw [hu] at r1 c1
  obtain ⟨t, ht, c2⟩ := pick_ex h0.next [0, 200, 10000] (by simp) (by simp)
  obtain ⟨mt, hmt, c3⟩ := meter_ex h0.next.next
  have ht2 : 0 ≤ t ∧ t ≤ 10000 := by simp at ht; omega
  obtain ⟨p, bb, ff⟩ := mt
  have hp := hmt.1
  simp only at hp
  by_cases hbig : 262144 < p
  · refine FnOk.intro fact_mixed Try.func7 rfl Try.ntmps7 (by rfl) (by simp) ?_
    repeat (first | (refine nf1_sound rfl ?_; simp [go_sem, ↓IntWalk.iteOmega, IntWalk.iteOmega, IntWalk.toNatUp]; (repeat (refine And.intro (by omega) ?_)); try (refine ⟨DrawChk_of (by kernel_rfl), ?_⟩)) | (refine itePos (by omega) ?_; try simp [go_sem, ↓IntWalk.iteOmega, IntWalk.iteOmega, IntWalk.toNatUp]) | (refine iteNeg (by omega) ?_; try simp [go_sem, ↓IntWalk.iteOmega, IntWalk.iteOmega, IntWalk.toNatUp]))
    refine CallK.fn (hnew) [(1000, 118)] [] [] (by kernel_rfl) (by simp [go_sem, ↓IntWalk.iteOmega, IntWalk.iteOmega, IntWalk.toNatUp]) (by simp [go_sem, ↓IntWalk.iteOmega, IntWalk.iteOmega, IntWalk.toNatUp]) (by simp [go_sem, ↓IntWalk.iteOmega, IntWalk.iteOmega, IntWalk.toNatUp]) (Or.inl rfl) ?_
    simp [go_sem, ↓IntWalk.iteOmega, IntWalk.iteOmega, IntWalk.toNatUp]
    repeat (refine And.intro (by omega) ?_)
    try (refine ⟨DrawChk_of (by kernel_rfl), ?_⟩)
    repeat (first | (refine nf1_sound rfl ?_; simp [go_sem, ↓IntWalk.iteOmega, IntWalk.iteOmega, IntWalk.toNatUp]; (repeat (refine And.intro (by omega) ?_)); try (refine ⟨DrawChk_of (by kernel_rfl), ?_⟩)) | (refine itePos (by omega) ?_; try simp [go_sem, ↓IntWalk.iteOmega, IntWalk.iteOmega, IntWalk.toNatUp]) | (refine iteNeg (by omega) ?_; try simp [go_sem, ↓IntWalk.iteOmega, IntWalk.iteOmega, IntWalk.toNatUp]))
    refine CallK.fn (c1) [(0, 118)] [] [] (by kernel_rfl) (by simp [go_sem, ↓IntWalk.iteOmega, IntWalk.iteOmega, IntWalk.toNatUp]) (by simp [go_sem, ↓IntWalk.iteOmega, IntWalk.iteOmega, IntWalk.toNatUp]) (by simp [go_sem, ↓IntWalk.iteOmega, IntWalk.iteOmega, IntWalk.toNatUp]) (Or.inl rfl) ?_
    simp [go_sem, ↓IntWalk.iteOmega, IntWalk.iteOmega, IntWalk.toNatUp]
    repeat (refine And.intro (by omega) ?_)
    try (refine ⟨DrawChk_of (by kernel_rfl), ?_⟩)
    refine CallK.fn (c2) [(0, 118)] [] [123] (by kernel_rfl) (by simp [go_sem, ↓IntWalk.iteOmega, IntWalk.iteOmega, IntWalk.toNatUp]) (by simp [go_sem, ↓IntWalk.iteOmega, IntWalk.iteOmega, IntWalk.toNatUp]) (by simp [go_sem, ↓IntWalk.iteOmega, IntWalk.iteOmega, IntWalk.toNatUp]) (Or.inl rfl) ?_
    simp [go_sem, ↓IntWalk.iteOmega, IntWalk.iteOmega, IntWalk.toNatUp]
    repeat (refine And.intro (by omega) ?_)
    try (refine ⟨DrawChk_of (by kernel_rfl), ?_⟩)
    refine CallK.fn (c3) [(0, 118)] [] [] (by kernel_rfl) (by simp [go_sem, ↓IntWalk.iteOmega, IntWalk.iteOmega, IntWalk.toNatUp]) (by simp [go_sem, ↓IntWalk.iteOmega, IntWalk.iteOmega, IntWalk.toNatUp]) (by simp [go_sem, ↓IntWalk.iteOmega, IntWalk.iteOmega, IntWalk.toNatUp]) (Or.inl rfl) ?_
    simp [go_sem, ↓IntWalk.iteOmega, IntWalk.iteOmega, IntWalk.toNatUp]
    repeat (refine And.intro (by omega) ?_)
    try (refine ⟨DrawChk_of (by kernel_rfl), ?_⟩)
    repeat (first | (refine nf1_sound rfl ?_; simp [go_sem, ↓IntWalk.iteOmega, IntWalk.iteOmega, IntWalk.toNatUp]; (repeat (refine And.intro (by omega) ?_)); try (refine ⟨DrawChk_of (by kernel_rfl), ?_⟩)) | (refine itePos (by omega) ?_; try simp [go_sem, ↓IntWalk.iteOmega, IntWalk.iteOmega, IntWalk.toNatUp]) | (refine iteNeg (by omega) ?_; try simp [go_sem, ↓IntWalk.iteOmega, IntWalk.iteOmega, IntWalk.toNatUp]))
    refine CallK.fn (awake_fn) [] [] [] (by kernel_rfl) (by simp [go_sem, ↓IntWalk.iteOmega, IntWalk.iteOmega, IntWalk.toNatUp]) (by simp [go_sem, ↓IntWalk.iteOmega, IntWalk.iteOmega, IntWalk.toNatUp]) (by simp [go_sem, ↓IntWalk.iteOmega, IntWalk.iteOmega, IntWalk.toNatUp]) (Or.inl rfl) ?_
    simp [go_sem, ↓IntWalk.iteOmega, IntWalk.iteOmega, IntWalk.toNatUp]
    repeat (refine And.intro (by omega) ?_)
    try (refine ⟨DrawChk_of (by kernel_rfl), ?_⟩)
    repeat (first | (refine nf1_sound rfl ?_; simp [go_sem, ↓IntWalk.iteOmega, IntWalk.iteOmega, IntWalk.toNatUp]; (repeat (refine And.intro (by omega) ?_)); try (refine ⟨DrawChk_of (by kernel_rfl), ?_⟩)) | (refine itePos (by omega) ?_; try simp [go_sem, ↓IntWalk.iteOmega, IntWalk.iteOmega, IntWalk.toNatUp]) | (refine iteNeg (by omega) ?_; try simp [go_sem, ↓IntWalk.iteOmega, IntWalk.iteOmega, IntWalk.toNatUp]))
    first | rw [RetQ_ret] | rw [RetQ_normal]
    refine ⟨[], ?_⟩
    simp [go_sem, ↓IntWalk.iteOmega, IntWalk.iteOmega, IntWalk.toNatUp]
  · obtain ⟨V, hV⟩ : ∃ V, u * 500 = V := ⟨_, rfl⟩
    have hVr : 500 ≤ V ∧ V ≤ 50000 := by omega
    have hmul := mul_range (show 0 ≤ V by omega) hVr.2 (show 0 ≤ p by omega) (show p ≤ 262144 by omega)
    obtain ⟨E, hE⟩ : ∃ E, V * p = E := ⟨_, rfl⟩
    rw [hE] at hmul
    obtain ⟨x, hx⟩ : ∃ x, max 4 (E / 1000) = x := ⟨_, rfl⟩
    have hxr : 4 ≤ x ∧ x ≤ 13107200 := by omega
    have h5 := h0.next.next.next.next.next
    have r4 := rangeV_range (l := s) (k := (nextK s (nextK s (nextK s (nextK s (nextK s 0)))))) (lo := 5) (hi := 9) (by omega)
    have c4 := range_fn s (nextK s (nextK s (nextK s (nextK s (nextK s 0))))) 5 9 h5 (by omega) (by omega) (by omega)
    have h6 := h5.next
    obtain ⟨n, hn⟩ : ∃ u, rangeV s (nextK s (nextK s (nextK s (nextK s (nextK s 0))))) 5 9 = u := ⟨_, rfl⟩
    rw [hn] at r4 c4
    obtain ⟨K, hK⟩ : ∃ K, nextK s (nextK s (nextK s (nextK s (nextK s (nextK s 0))))) = K := ⟨_, rfl⟩
    rw [hK] at h6 c4
    have ok : ∀ j, ScOk s x j (iter (scStep s x) j ⟨K, []⟩) := iter_inv ⟨h6, by intro y hy; simp at hy, rfl⟩ sc_step
    have hf := ok n.toNat
    obtain ⟨fs, hfs⟩ : ∃ fs, iter (scStep s x) n.toNat ⟨K, []⟩ = fs := ⟨_, rfl⟩
    rw [hfs] at hf
    obtain ⟨k9, r⟩ := fs
    have hrl := hf.len
    have hrr : Pv.Runs r := fun y hy => by have := hf.runs y hy; omega
    have hdr : Pv.Runs (dbl r) := fun y hy => by
      obtain ⟨z, hz, rfl⟩ := List.mem_map.1 hy
      have := hf.runs z hz
      omega
    simp only at hrl
    have pok : PvrOk ⟨V, t⟩ := by unfold PvrOk; dsimp only; omega
    have mok : MtrOk ⟨p * 2, bb, ff⟩ := by have := hmt.2; unfold MtrOk; dsimp only at *; exact ⟨by omega, this⟩
    obtain ⟨a, b, c, hpr⟩ : ∃ a b c, Pv.prove V t p r = (a, b, c) := ⟨_, _, _, rfl⟩
    have hpd : Pv.prove V t (p * 2) (dbl r) = (a, b, c) := by unfold Pv.prove at *; rw [go_dbl, hpr]
    have d1 := prove_fn ⟨V, t⟩ ⟨p, bb, ff⟩ r pok hmt hrr (by omega) a b c hpr
    have d2 := prove_fn ⟨V, t⟩ ⟨p * 2, bb, ff⟩ (dbl r) pok mok hdr (by simp [dbl]; omega) a b c hpd
    refine FnOk.intro fact_mixed Try.func7 rfl Try.ntmps7 (by rfl) (by simp) ?_
    repeat (first | (refine nf1_sound rfl ?_; simp [go_sem, ↓IntWalk.iteOmega, IntWalk.iteOmega, IntWalk.toNatUp]; (repeat (refine And.intro (by omega) ?_)); try (refine ⟨DrawChk_of (by kernel_rfl), ?_⟩)) | (refine itePos (by omega) ?_; try simp [go_sem, ↓IntWalk.iteOmega, IntWalk.iteOmega, IntWalk.toNatUp]) | (refine iteNeg (by omega) ?_; try simp [go_sem, ↓IntWalk.iteOmega, IntWalk.iteOmega, IntWalk.toNatUp]))
    refine CallK.fn (hnew) [(1000, 118)] [] [] (by kernel_rfl) (by simp [go_sem, ↓IntWalk.iteOmega, IntWalk.iteOmega, IntWalk.toNatUp]) (by simp [go_sem, ↓IntWalk.iteOmega, IntWalk.iteOmega, IntWalk.toNatUp]) (by simp [go_sem, ↓IntWalk.iteOmega, IntWalk.iteOmega, IntWalk.toNatUp]) (Or.inl rfl) ?_
    simp [go_sem, ↓IntWalk.iteOmega, IntWalk.iteOmega, IntWalk.toNatUp]
    repeat (refine And.intro (by omega) ?_)
    try (refine ⟨DrawChk_of (by kernel_rfl), ?_⟩)
    repeat (first | (refine nf1_sound rfl ?_; simp [go_sem, ↓IntWalk.iteOmega, IntWalk.iteOmega, IntWalk.toNatUp]; (repeat (refine And.intro (by omega) ?_)); try (refine ⟨DrawChk_of (by kernel_rfl), ?_⟩)) | (refine itePos (by omega) ?_; try simp [go_sem, ↓IntWalk.iteOmega, IntWalk.iteOmega, IntWalk.toNatUp]) | (refine iteNeg (by omega) ?_; try simp [go_sem, ↓IntWalk.iteOmega, IntWalk.iteOmega, IntWalk.toNatUp]))
    refine CallK.fn (c1) [(0, 118)] [] [] (by kernel_rfl) (by simp [go_sem, ↓IntWalk.iteOmega, IntWalk.iteOmega, IntWalk.toNatUp]) (by simp [go_sem, ↓IntWalk.iteOmega, IntWalk.iteOmega, IntWalk.toNatUp]) (by simp [go_sem, ↓IntWalk.iteOmega, IntWalk.iteOmega, IntWalk.toNatUp]) (Or.inl rfl) ?_
    simp [go_sem, ↓IntWalk.iteOmega, IntWalk.iteOmega, IntWalk.toNatUp]
    repeat (refine And.intro (by omega) ?_)
    try (refine ⟨DrawChk_of (by kernel_rfl), ?_⟩)
    refine CallK.fn (c2) [(0, 118)] [] [123] (by kernel_rfl) (by simp [go_sem, ↓IntWalk.iteOmega, IntWalk.iteOmega, IntWalk.toNatUp]) (by simp [go_sem, ↓IntWalk.iteOmega, IntWalk.iteOmega, IntWalk.toNatUp]) (by simp [go_sem, ↓IntWalk.iteOmega, IntWalk.iteOmega, IntWalk.toNatUp]) (Or.inl rfl) ?_
    simp [go_sem, ↓IntWalk.iteOmega, IntWalk.iteOmega, IntWalk.toNatUp]
    repeat (refine And.intro (by omega) ?_)
    try (refine ⟨DrawChk_of (by kernel_rfl), ?_⟩)
    refine CallK.fn (c3) [(0, 118)] [] [] (by kernel_rfl) (by simp [go_sem, ↓IntWalk.iteOmega, IntWalk.iteOmega, IntWalk.toNatUp]) (by simp [go_sem, ↓IntWalk.iteOmega, IntWalk.iteOmega, IntWalk.toNatUp]) (by simp [go_sem, ↓IntWalk.iteOmega, IntWalk.iteOmega, IntWalk.toNatUp]) (Or.inl rfl) ?_
    simp [go_sem, ↓IntWalk.iteOmega, IntWalk.iteOmega, IntWalk.toNatUp]
    repeat (refine And.intro (by omega) ?_)
    try (refine ⟨DrawChk_of (by kernel_rfl), ?_⟩)
    repeat (first | (refine nf1_sound rfl ?_; simp [go_sem, ↓IntWalk.iteOmega, IntWalk.iteOmega, IntWalk.toNatUp, hV]; (repeat (refine And.intro (by omega) ?_)); try (refine ⟨DrawChk_of (by kernel_rfl), ?_⟩)) | (refine itePos (by omega) ?_; try simp [go_sem, ↓IntWalk.iteOmega, IntWalk.iteOmega, IntWalk.toNatUp, hV]) | (refine iteNeg (by omega) ?_; try simp [go_sem, ↓IntWalk.iteOmega, IntWalk.iteOmega, IntWalk.toNatUp, hV]))
    refine CallK.fn (c4) [(0, 118)] [] [] (by kernel_rfl) (by simp [go_sem, ↓IntWalk.iteOmega, IntWalk.iteOmega, IntWalk.toNatUp, hE]) (by simp [go_sem, ↓IntWalk.iteOmega, IntWalk.iteOmega, IntWalk.toNatUp, hE]) (by simp [go_sem, ↓IntWalk.iteOmega, IntWalk.iteOmega, IntWalk.toNatUp, hE]) (Or.inl rfl) ?_
    simp [go_sem, ↓IntWalk.iteOmega, IntWalk.iteOmega, IntWalk.toNatUp, hE]
    repeat (refine And.intro (by omega) ?_)
    try (refine ⟨DrawChk_of (by kernel_rfl), ?_⟩)
    repeat (first | (refine nf1_sound rfl ?_; simp [go_sem, ↓IntWalk.iteOmega, IntWalk.iteOmega, IntWalk.toNatUp, hE, hx]; (repeat (refine And.intro (by omega) ?_)); try (refine ⟨DrawChk_of (by kernel_rfl), ?_⟩)) | (refine itePos (by omega) ?_; try simp [go_sem, ↓IntWalk.iteOmega, IntWalk.iteOmega, IntWalk.toNatUp, hE, hx]) | (refine iteNeg (by omega) ?_; try simp [go_sem, ↓IntWalk.iteOmega, IntWalk.iteOmega, IntWalk.toNatUp, hE, hx]))
    refine nf1_sound' _ _ _ ?_; simp only [nf1]
    refine CW.loop (ι := Nat) (fun j => ⟨[(3, .pt 118 [] 0), (4, .pt 104 [] 0), (5, .pt 105 [] 0), (6, .own 500), (7, .own 501), (8, .t (.int (n - j))), (9, .t (.int x))], [(118, srcB s (iter (scStep s x) j ⟨K, []⟩).k), (104, .box 27 (.t (encPv ⟨V, t⟩))), (105, .box 29 (.t (encM ⟨p, bb, ff⟩))), (500, blkI (iter (scStep s x) j ⟨K, []⟩).r), (501, blkI (dbl (iter (scStep s x) j ⟨K, []⟩).r))]⟩)
      (fun j => (j : Int) ≤ n) (fun j => n.toNat - j) 0 [(118, some 118), (104, some 104), (105, some 105), (500, none), (501, none)] (by omega) ?_ ?_
    · simp [go_sem, ↓IntWalk.iteOmega, IntWalk.iteOmega, IntWalk.toNatUp, iter, dbl, hV, hx]
    intro j hj
    have oj := ok j
    have hst := iter_succ (scStep s x) j ⟨K, []⟩
    by_cases hb : (j : Int) < n
    · obtain ⟨z, hz⟩ : ∃ z, iter (scStep s x) j ⟨K, []⟩ = z := ⟨_, rfl⟩
      rw [hz] at oj hst
      obtain ⟨k1, r1⟩ := z
      have hsrc := oj.src
      have hlen := oj.len
      simp only at hsrc hlen
      have rn := nV_range (l := s) (k := k1) (n := 2) (by omega)
      have cn := n_fn s k1 2 hsrc (by omega)
      have hst2 : scStep s x ⟨k1, r1⟩ = ⟨nextK s k1, r1 ++ [x + nV s k1 2]⟩ := rfl
      obtain ⟨q, hq⟩ : ∃ q, nV s k1 2 = q := ⟨_, rfl⟩
      rw [hq] at rn cn hst2
      rw [hst2] at hst
      have hds := dbl_snoc r1 (x + q)
      have hdl : (dbl r1).length = r1.length := by simp [dbl]
      obtain ⟨D, hD⟩ : ∃ D, dbl r1 = D := ⟨_, rfl⟩
      rw [hD] at hds hdl
      repeat (first | (refine nf1_sound rfl ?_; simp [go_sem, ↓IntWalk.iteOmega, IntWalk.iteOmega, IntWalk.toNatUp, hz, hD]; (repeat (refine And.intro (by omega) ?_)); try (refine ⟨DrawChk_of (by kernel_rfl), ?_⟩)) | (refine itePos (by omega) ?_; try simp [go_sem, ↓IntWalk.iteOmega, IntWalk.iteOmega, IntWalk.toNatUp, hz, hD]) | (refine iteNeg (by omega) ?_; try simp [go_sem, ↓IntWalk.iteOmega, IntWalk.iteOmega, IntWalk.toNatUp, hz, hD]))
      refine CallK.fn (cn) [(0, 118)] [] [] (by kernel_rfl) (by simp [go_sem, ↓IntWalk.iteOmega, IntWalk.iteOmega, IntWalk.toNatUp]) (by simp [go_sem, ↓IntWalk.iteOmega, IntWalk.iteOmega, IntWalk.toNatUp]) (by simp [go_sem, ↓IntWalk.iteOmega, IntWalk.iteOmega, IntWalk.toNatUp]) (Or.inl rfl) ?_
      simp [go_sem, ↓IntWalk.iteOmega, IntWalk.iteOmega, IntWalk.toNatUp]
      repeat (refine And.intro (by omega) ?_)
      try (refine ⟨DrawChk_of (by kernel_rfl), ?_⟩)
      repeat (first | (refine nf1_sound rfl ?_; simp [go_sem, ↓IntWalk.iteOmega, IntWalk.iteOmega, IntWalk.toNatUp]; (repeat (refine And.intro (by omega) ?_)); try (refine ⟨DrawChk_of (by kernel_rfl), ?_⟩)) | (refine itePos (by omega) ?_; try simp [go_sem, ↓IntWalk.iteOmega, IntWalk.iteOmega, IntWalk.toNatUp]) | (refine iteNeg (by omega) ?_; try simp [go_sem, ↓IntWalk.iteOmega, IntWalk.iteOmega, IntWalk.toNatUp]))
      rw [RoundQ_normal]; refine ⟨j + 1, [(118, some 118), (104, some 104), (105, some 105), (500, some 151), (501, some 161)], ?_, ?_, ?_⟩
      · omega
      · omega
      simp [go_sem, ↓IntWalk.iteOmega, IntWalk.iteOmega, IntWalk.toNatUp, hst, hds]
      omega
    · obtain rfl : j = n.toNat := by omega
      rw [hfs]
      obtain ⟨D, hD⟩ : ∃ D, dbl r = D := ⟨_, rfl⟩
      rw [hD] at d2
      by_cases hc : c = 0
      · subst hc
        obtain ⟨N, hN, hN5, hNr⟩ := go_at hpr
        rw [Nat.zero_add] at hN
        have hWm : List.drop N (List.take (N + 5) (List.map encI r)) = ((r.drop N).take 5).map encI := slice_map _ _ _ _
        have e5 : ((N : Int) + 5).toNat = N + 5 := by omega
        have q5 := repeats_fn ⟨V, t⟩ ((r.drop N).take 5) (by rw [win_len hN5]; omega) true (by simp only [true_iff]; exact ⟨pok, by rw [win_len hN5]; omega, win_runs hrr, hNr⟩)
        repeat (first | (refine nf1_sound rfl ?_; simp [go_sem, ↓IntWalk.iteOmega, IntWalk.iteOmega, IntWalk.toNatUp, hD]; (repeat (refine And.intro (by omega) ?_)); try (refine ⟨DrawChk_of (by kernel_rfl), ?_⟩)) | (refine itePos (by omega) ?_; try simp [go_sem, ↓IntWalk.iteOmega, IntWalk.iteOmega, IntWalk.toNatUp, hD]) | (refine iteNeg (by omega) ?_; try simp [go_sem, ↓IntWalk.iteOmega, IntWalk.iteOmega, IntWalk.toNatUp, hD]))
        refine CallK.fn (d1) [] [500] [] (by kernel_rfl) (by simp [go_sem, ↓IntWalk.iteOmega, IntWalk.iteOmega, IntWalk.toNatUp, hD]) (by simp [go_sem, ↓IntWalk.iteOmega, IntWalk.iteOmega, IntWalk.toNatUp, hD]) (by simp [go_sem, ↓IntWalk.iteOmega, IntWalk.iteOmega, IntWalk.toNatUp, hD]) (Or.inr ⟨by simp [go_sem, ↓IntWalk.iteOmega, IntWalk.iteOmega, IntWalk.toNatUp, hD], by simp [go_sem, ↓IntWalk.iteOmega, IntWalk.iteOmega, IntWalk.toNatUp, hD]⟩) ?_
        simp [go_sem, ↓IntWalk.iteOmega, IntWalk.iteOmega, IntWalk.toNatUp, hD]
        repeat (refine And.intro (by omega) ?_)
        try (refine ⟨DrawChk_of (by kernel_rfl), ?_⟩)
        repeat (first | (refine nf1_sound rfl ?_; simp [go_sem, ↓IntWalk.iteOmega, IntWalk.iteOmega, IntWalk.toNatUp, hD]; (repeat (refine And.intro (by omega) ?_)); try (refine ⟨DrawChk_of (by kernel_rfl), ?_⟩)) | (refine itePos (by omega) ?_; try simp [go_sem, ↓IntWalk.iteOmega, IntWalk.iteOmega, IntWalk.toNatUp, hD]) | (refine iteNeg (by omega) ?_; try simp [go_sem, ↓IntWalk.iteOmega, IntWalk.iteOmega, IntWalk.toNatUp, hD]))
        refine CallK.fn (d2) [] [501] [] (by kernel_rfl) (by simp [go_sem, ↓IntWalk.iteOmega, IntWalk.iteOmega, IntWalk.toNatUp, hD]) (by simp [go_sem, ↓IntWalk.iteOmega, IntWalk.iteOmega, IntWalk.toNatUp, hD]) (by simp [go_sem, ↓IntWalk.iteOmega, IntWalk.iteOmega, IntWalk.toNatUp, hD]) (Or.inr ⟨by simp [go_sem, ↓IntWalk.iteOmega, IntWalk.iteOmega, IntWalk.toNatUp, hD], by simp [go_sem, ↓IntWalk.iteOmega, IntWalk.iteOmega, IntWalk.toNatUp, hD]⟩) ?_
        simp [go_sem, ↓IntWalk.iteOmega, IntWalk.iteOmega, IntWalk.toNatUp, hD]
        repeat (refine And.intro (by omega) ?_)
        try (refine ⟨DrawChk_of (by kernel_rfl), ?_⟩)
        repeat (first | (refine nf1_sound rfl ?_; simp [go_sem, ↓IntWalk.iteOmega, IntWalk.iteOmega, IntWalk.toNatUp, hN, hWm, e5]; (repeat (refine And.intro (by omega) ?_)); try (refine ⟨DrawChk_of (by kernel_rfl), ?_⟩)) | (refine itePos (by omega) ?_; try simp [go_sem, ↓IntWalk.iteOmega, IntWalk.iteOmega, IntWalk.toNatUp, hN, hWm, e5]) | (refine iteNeg (by omega) ?_; try simp [go_sem, ↓IntWalk.iteOmega, IntWalk.iteOmega, IntWalk.toNatUp, hN, hWm, e5]))
        refine CallK.fn (q5) [] [] [] (by kernel_rfl) (by simp [go_sem, ↓IntWalk.iteOmega, IntWalk.iteOmega, IntWalk.toNatUp, hN, hWm, e5]) (by simp [go_sem, ↓IntWalk.iteOmega, IntWalk.iteOmega, IntWalk.toNatUp, hN, hWm, e5]) (by simp [go_sem, ↓IntWalk.iteOmega, IntWalk.iteOmega, IntWalk.toNatUp, hN, hWm, e5]) (Or.inl rfl) ?_
        simp [go_sem, ↓IntWalk.iteOmega, IntWalk.iteOmega, IntWalk.toNatUp, hN, hWm, e5]
        repeat (refine And.intro (by omega) ?_)
        try (refine ⟨DrawChk_of (by kernel_rfl), ?_⟩)
        refine CallK.fn (awake_fn) [] [] [] (by kernel_rfl) (by simp [go_sem, ↓IntWalk.iteOmega, IntWalk.iteOmega, IntWalk.toNatUp]) (by simp [go_sem, ↓IntWalk.iteOmega, IntWalk.iteOmega, IntWalk.toNatUp]) (by simp [go_sem, ↓IntWalk.iteOmega, IntWalk.iteOmega, IntWalk.toNatUp]) (Or.inl rfl) ?_
        simp [go_sem, ↓IntWalk.iteOmega, IntWalk.iteOmega, IntWalk.toNatUp]
        repeat (refine And.intro (by omega) ?_)
        try (refine ⟨DrawChk_of (by kernel_rfl), ?_⟩)
        repeat (first | (refine nf1_sound rfl ?_; simp [go_sem, ↓IntWalk.iteOmega, IntWalk.iteOmega, IntWalk.toNatUp]; (repeat (refine And.intro (by omega) ?_)); try (refine ⟨DrawChk_of (by kernel_rfl), ?_⟩)) | (refine itePos (by omega) ?_; try simp [go_sem, ↓IntWalk.iteOmega, IntWalk.iteOmega, IntWalk.toNatUp]) | (refine iteNeg (by omega) ?_; try simp [go_sem, ↓IntWalk.iteOmega, IntWalk.iteOmega, IntWalk.toNatUp]))
        first | rw [RetQ_ret] | rw [RetQ_normal]
        refine ⟨[], ?_⟩
        simp [go_sem, ↓IntWalk.iteOmega, IntWalk.iteOmega, IntWalk.toNatUp]
      · repeat (first | (refine nf1_sound rfl ?_; simp [go_sem, ↓IntWalk.iteOmega, IntWalk.iteOmega, IntWalk.toNatUp, hD]; (repeat (refine And.intro (by omega) ?_)); try (refine ⟨DrawChk_of (by kernel_rfl), ?_⟩)) | (refine itePos (by omega) ?_; try simp [go_sem, ↓IntWalk.iteOmega, IntWalk.iteOmega, IntWalk.toNatUp, hD]) | (refine iteNeg (by omega) ?_; try simp [go_sem, ↓IntWalk.iteOmega, IntWalk.iteOmega, IntWalk.toNatUp, hD]))
        refine CallK.fn (d1) [] [500] [] (by kernel_rfl) (by simp [go_sem, ↓IntWalk.iteOmega, IntWalk.iteOmega, IntWalk.toNatUp, hD]) (by simp [go_sem, ↓IntWalk.iteOmega, IntWalk.iteOmega, IntWalk.toNatUp, hD]) (by simp [go_sem, ↓IntWalk.iteOmega, IntWalk.iteOmega, IntWalk.toNatUp, hD]) (Or.inr ⟨by simp [go_sem, ↓IntWalk.iteOmega, IntWalk.iteOmega, IntWalk.toNatUp, hD], by simp [go_sem, ↓IntWalk.iteOmega, IntWalk.iteOmega, IntWalk.toNatUp, hD]⟩) ?_
        simp [go_sem, ↓IntWalk.iteOmega, IntWalk.iteOmega, IntWalk.toNatUp, hD]
        repeat (refine And.intro (by omega) ?_)
        try (refine ⟨DrawChk_of (by kernel_rfl), ?_⟩)
        repeat (first | (refine nf1_sound rfl ?_; simp [go_sem, ↓IntWalk.iteOmega, IntWalk.iteOmega, IntWalk.toNatUp, hD]; (repeat (refine And.intro (by omega) ?_)); try (refine ⟨DrawChk_of (by kernel_rfl), ?_⟩)) | (refine itePos (by omega) ?_; try simp [go_sem, ↓IntWalk.iteOmega, IntWalk.iteOmega, IntWalk.toNatUp, hD]) | (refine iteNeg (by omega) ?_; try simp [go_sem, ↓IntWalk.iteOmega, IntWalk.iteOmega, IntWalk.toNatUp, hD]))
        refine CallK.fn (d2) [] [501] [] (by kernel_rfl) (by simp [go_sem, ↓IntWalk.iteOmega, IntWalk.iteOmega, IntWalk.toNatUp, hD]) (by simp [go_sem, ↓IntWalk.iteOmega, IntWalk.iteOmega, IntWalk.toNatUp, hD]) (by simp [go_sem, ↓IntWalk.iteOmega, IntWalk.iteOmega, IntWalk.toNatUp, hD]) (Or.inr ⟨by simp [go_sem, ↓IntWalk.iteOmega, IntWalk.iteOmega, IntWalk.toNatUp, hD], by simp [go_sem, ↓IntWalk.iteOmega, IntWalk.iteOmega, IntWalk.toNatUp, hD]⟩) ?_
        simp [go_sem, ↓IntWalk.iteOmega, IntWalk.iteOmega, IntWalk.toNatUp, hD]
        repeat (refine And.intro (by omega) ?_)
        try (refine ⟨DrawChk_of (by kernel_rfl), ?_⟩)
        repeat (first | (refine nf1_sound rfl ?_; simp [go_sem, ↓IntWalk.iteOmega, IntWalk.iteOmega, IntWalk.toNatUp, hc]; (repeat (refine And.intro (by omega) ?_)); try (refine ⟨DrawChk_of (by kernel_rfl), ?_⟩)) | (refine itePos (by omega) ?_; try simp [go_sem, ↓IntWalk.iteOmega, IntWalk.iteOmega, IntWalk.toNatUp, hc]) | (refine iteNeg (by omega) ?_; try simp [go_sem, ↓IntWalk.iteOmega, IntWalk.iteOmega, IntWalk.toNatUp, hc]))
        refine CallK.fn (awake_fn) [] [] [] (by kernel_rfl) (by simp [go_sem, ↓IntWalk.iteOmega, IntWalk.iteOmega, IntWalk.toNatUp, hc]) (by simp [go_sem, ↓IntWalk.iteOmega, IntWalk.iteOmega, IntWalk.toNatUp, hc]) (by simp [go_sem, ↓IntWalk.iteOmega, IntWalk.iteOmega, IntWalk.toNatUp, hc]) (Or.inl rfl) ?_
        simp [go_sem, ↓IntWalk.iteOmega, IntWalk.iteOmega, IntWalk.toNatUp, hc]
        repeat (refine And.intro (by omega) ?_)
        try (refine ⟨DrawChk_of (by kernel_rfl), ?_⟩)
        repeat (first | (refine nf1_sound rfl ?_; simp [go_sem, ↓IntWalk.iteOmega, IntWalk.iteOmega, IntWalk.toNatUp]; (repeat (refine And.intro (by omega) ?_)); try (refine ⟨DrawChk_of (by kernel_rfl), ?_⟩)) | (refine itePos (by omega) ?_; try simp [go_sem, ↓IntWalk.iteOmega, IntWalk.iteOmega, IntWalk.toNatUp]) | (refine iteNeg (by omega) ?_; try simp [go_sem, ↓IntWalk.iteOmega, IntWalk.iteOmega, IntWalk.toNatUp]))
        first | rw [RetQ_ret] | rw [RetQ_normal]
        refine ⟨[], ?_⟩
        simp [go_sem, ↓IntWalk.iteOmega, IntWalk.iteOmega, IntWalk.toNatUp]
theorem scales_walk (x : Option Addr) (n cap : Nat) (l : List Int) (w : World) (hr : IRow .i64 w x n cap l) (wf : ∀ z ∈ l, -9223372036854775808 ≤ z ∧ z ≤ 9223372036854775807) :
    Calls Try.prog 7 #[.slice x n cap] w fun e w' => e = .returned (.bool true) ∧ Below w.heap.size w w' := by
  have hl : l.length ≤ 9223372036854775807 := by
    rw [hr.length]; have h1 := hr.le; have h2 := hr.capLe; unfold maxLen at h2; omega
  exact law_run (us := [.slice x n cap]) (scales_fn l hl wf) (reps_cons (rep_irow hr) reps_nil)
end Go.Proofs.Ytlogekdicmiciaa
