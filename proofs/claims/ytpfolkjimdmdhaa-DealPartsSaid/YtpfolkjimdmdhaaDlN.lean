/- Who gets the next litre: plain, and the contracts of the program's and the reference's functions. No condition. -/
import Derived.Test.YtpfolkjimdmdhaaKIntB
namespace Go.Proofs.Ytpfolkjimdmdhaa
open Go.RowKit Sy
set_option linter.unusedVariables false
set_option linter.unusedSimpArgs false
@[go_sem] theorem widths_encI : ∀ l : List Int, T.widths (l.map encI) = l.length
  | [] => rfl
  | x :: r => by simp [T.widths, encI, T.width, widths_encI r]; omega
@[go_sem] theorem widths_encI_take (n : Nat) (l : List Int) : T.widths ((l.map encI).take n) = min n l.length := by
  rw [← List.map_take, widths_encI, List.length_take]
namespace Dl
/-- The i-th number of a list. -/
def rt (r : List Int) (i : Nat) : Int := r.getD i 0
theorem rt_get {r : List Int} {i : Nat} {x : Int} (h : r[i]? = some x) : rt r i = x := by unfold rt; rw [List.getD_eq_getElem?_getD, h]; rfl
theorem get_rt {r : List Int} {i : Nat} (h : i < r.length) : r[i]? = some (rt r i) := by
  obtain ⟨x, hx⟩ := has_get h
  rw [hx, rt_get hx]
theorem rt_app {r z : List Int} {i : Nat} (h : i < r.length) : rt (r ++ z) i = rt r i := rt_get (by rw [List.getElem?_append_left h]; exact get_rt h)
/-- The one that gets the next litre, among the first k. -/
def nx (R C : List Int) : Nat → Int
  | 0 => -1
  | k + 1 => if 0 < rt R k ∧ (nx R C k < 0 ∨ (rt C k + 1) * rt R (nx R C k).toNat < (rt C (nx R C k).toNat + 1) * rt R k) then k else nx R C k
theorem nx_range (R C : List Int) : ∀ k, -1 ≤ nx R C k ∧ nx R C k < k
  | 0 => by simp [nx]
  | k + 1 => by
    have := nx_range R C k
    unfold nx
    split <;> omega
theorem nx_app {r z c y : List Int} : ∀ {k : Nat}, k ≤ r.length → k ≤ c.length → nx (r ++ z) (c ++ y) k = nx r c k
  | 0, _, _ => rfl
  | k + 1, h1, h2 => by
    have ih := nx_app (r := r) (z := z) (c := c) (y := y) (k := k) (by omega) (by omega)
    have hr := nx_range r c k
    unfold nx
    rw [ih, rt_app (by omega), rt_app (by omega)]
    by_cases h0 : nx r c k < 0
    · simp [h0]
    · rw [rt_app (by omega), rt_app (by omega)]
end Dl
open Dl
/-- The program's table. -/
@[go_sem] def tblT (n : Nat) (R C : List Int) : T := .agg [.int n, .agg (R.map encI), .agg (C.map encI)]
@[go_sem] def tblB (n : Nat) (R C : List Int) : Blk := .box 61 (.t (tblT n R C))
structure TblOk (n : Nat) (R C : List Int) : Prop where
  r : R.length = 64
  c : C.length = 64
  n : n ≤ 64
  rr : ∀ x ∈ R, 0 ≤ x ∧ x ≤ 1000
  cr : ∀ x ∈ C, 0 ≤ x ∧ x ≤ 1000000
theorem mul_bd {a b A B : Int} (h1 : 0 ≤ a) (h2 : a ≤ A) (h3 : 0 ≤ b) (h4 : b ≤ B) : 0 ≤ a * b ∧ a * b ≤ A * B :=
  ⟨Int.mul_nonneg h1 h3, Int.mul_le_mul h2 h4 h3 (by omega)⟩
set_option maxRecDepth 100000 in
set_option maxHeartbeats 8000000 in
theorem next_fn (n : Nat) (R C : List Int) (h : TblOk n R C) : FnOk Try.prog 31 [.pt 0 [] 0] [(0, tblB n R C)] (.t (.int (nx R C n))) [(0, tblB n R C)] := by
  obtain ⟨hR, hC, hn, hr, hc⟩ := h
  refine FnOk.intro fact_mixed Try.func31 rfl Try.ntmps31 (by rfl) (by simp) ?_
  repeat (first | (refine nf1_sound rfl ?_; simp [go_sem, ↓IntWalk.iteOmega, IntWalk.iteOmega, IntWalk.toNatUp]; (repeat (refine And.intro (by omega) ?_)); try (refine ⟨DrawChk_of (by kernel_rfl), ?_⟩)) | (refine itePos (by omega) ?_; try simp [go_sem, ↓IntWalk.iteOmega, IntWalk.iteOmega, IntWalk.toNatUp]) | (refine iteNeg (by omega) ?_; try simp [go_sem, ↓IntWalk.iteOmega, IntWalk.iteOmega, IntWalk.toNatUp]) | (refine ⟨DrawChk_of (by kernel_rfl), ?_⟩))
  refine nf1_sound' _ _ _ ?_; simp only [nf1]
  refine CW.loop (ι := Nat) (fun k => ⟨[(0, .pt 0 [] 0), (3, .t (.int (nx R C k))), (8, .t (.int n)), (9, .t (.int k))], [(0, tblB n R C)]⟩) (fun k => k ≤ n) (fun k => n - k) 0 [(0, some 0)] (by omega) ?_ ?_
  · simp [go_sem, ↓IntWalk.iteOmega, IntWalk.iteOmega, IntWalk.toNatUp, nx]
  intro k hk
  have hx := nx_range R C k
  by_cases hb : k < n
  · have gr := get_rt (r := R) (i := k) (by omega)
    have gc := get_rt (r := C) (i := k) (by omega)
    have b1 := hr _ (mem_get gr)
    have b2 := hc _ (mem_get gc)
    have step : nx R C (k + 1) = if 0 < rt R k ∧ (nx R C k < 0 ∨ (rt C k + 1) * rt R (nx R C k).toNat < (rt C (nx R C k).toNat + 1) * rt R k) then (k : Int) else nx R C k := rfl
    obtain ⟨u, hu⟩ : ∃ u, rt R k = u := ⟨_, rfl⟩
    obtain ⟨v, hv⟩ : ∃ v, rt C k = v := ⟨_, rfl⟩
    obtain ⟨q, hq⟩ : ∃ q, nx R C k = q := ⟨_, rfl⟩
    rw [hu] at gr b1
    rw [hv] at gc b2
    rw [hu, hv, hq] at step
    rw [hq] at hx ⊢
    by_cases h1 : 0 < u
    · by_cases h2 : q < 0
      · rw [if_pos ⟨h1, .inl h2⟩] at step
        repeat (first | (refine nf1_sound rfl ?_; simp [go_sem, ↓IntWalk.iteOmega, IntWalk.iteOmega, IntWalk.toNatUp, gr, gc]; (repeat (refine And.intro (by omega) ?_)); try (refine ⟨DrawChk_of (by kernel_rfl), ?_⟩)) | (refine itePos (by omega) ?_; try simp [go_sem, ↓IntWalk.iteOmega, IntWalk.iteOmega, IntWalk.toNatUp, gr, gc]) | (refine iteNeg (by omega) ?_; try simp [go_sem, ↓IntWalk.iteOmega, IntWalk.iteOmega, IntWalk.toNatUp, gr, gc]) | (refine ⟨DrawChk_of (by kernel_rfl), ?_⟩))
        rw [RoundQ_normal]; refine ⟨k + 1, [(0, some 0)], ?_, ?_, ?_⟩
        · omega
        · omega
        simp [go_sem, ↓IntWalk.iteOmega, IntWalk.iteOmega, IntWalk.toNatUp, step]
      · obtain ⟨j, rfl⟩ : ∃ j : Nat, q = (j : Int) := ⟨q.toNat, by omega⟩
        rw [Int.toNat_natCast] at step
        have gr2 := get_rt (r := R) (i := j) (by omega)
        have gc2 := get_rt (r := C) (i := j) (by omega)
        have b3 := hr _ (mem_get gr2)
        have b4 := hc _ (mem_get gc2)
        obtain ⟨y, hy⟩ : ∃ y, rt R j = y := ⟨_, rfl⟩
        obtain ⟨z, hz⟩ : ∃ z, rt C j = z := ⟨_, rfl⟩
        rw [hy] at gr2 b3 step
        rw [hz] at gc2 b4 step
        have m1 := mul_bd (a := v + 1) (A := 1000001) (b := y) (B := 1000) (by omega) (by omega) (by omega) (by omega)
        have m2 := mul_bd (a := z + 1) (A := 1000001) (b := u) (B := 1000) (by omega) (by omega) (by omega) (by omega)
        obtain ⟨p1, hp1⟩ : ∃ p, (v + 1) * y = p := ⟨_, rfl⟩
        obtain ⟨p2, hp2⟩ : ∃ p, (z + 1) * u = p := ⟨_, rfl⟩
        rw [hp1] at m1 step
        rw [hp2] at m2 step
        by_cases h3 : p1 < p2
        · rw [if_pos ⟨h1, .inr h3⟩] at step
          repeat (first | (refine nf1_sound rfl ?_; simp [go_sem, ↓IntWalk.iteOmega, IntWalk.iteOmega, IntWalk.toNatUp, gr, gc, gr2, gc2, hp1, hp2]; (repeat (refine And.intro (by omega) ?_)); try (refine ⟨DrawChk_of (by kernel_rfl), ?_⟩)) | (refine itePos (by omega) ?_; try simp [go_sem, ↓IntWalk.iteOmega, IntWalk.iteOmega, IntWalk.toNatUp, gr, gc, gr2, gc2, hp1, hp2]) | (refine iteNeg (by omega) ?_; try simp [go_sem, ↓IntWalk.iteOmega, IntWalk.iteOmega, IntWalk.toNatUp, gr, gc, gr2, gc2, hp1, hp2]) | (refine ⟨DrawChk_of (by kernel_rfl), ?_⟩))
          rw [RoundQ_normal]; refine ⟨k + 1, [(0, some 0)], ?_, ?_, ?_⟩
          · omega
          · omega
          simp [go_sem, ↓IntWalk.iteOmega, IntWalk.iteOmega, IntWalk.toNatUp, step]
        · rw [if_neg (by omega)] at step
          repeat (first | (refine nf1_sound rfl ?_; simp [go_sem, ↓IntWalk.iteOmega, IntWalk.iteOmega, IntWalk.toNatUp, gr, gc, gr2, gc2, hp1, hp2]; (repeat (refine And.intro (by omega) ?_)); try (refine ⟨DrawChk_of (by kernel_rfl), ?_⟩)) | (refine itePos (by omega) ?_; try simp [go_sem, ↓IntWalk.iteOmega, IntWalk.iteOmega, IntWalk.toNatUp, gr, gc, gr2, gc2, hp1, hp2]) | (refine iteNeg (by omega) ?_; try simp [go_sem, ↓IntWalk.iteOmega, IntWalk.iteOmega, IntWalk.toNatUp, gr, gc, gr2, gc2, hp1, hp2]) | (refine ⟨DrawChk_of (by kernel_rfl), ?_⟩))
          rw [RoundQ_normal]; refine ⟨k + 1, [(0, some 0)], ?_, ?_, ?_⟩
          · omega
          · omega
          simp [go_sem, ↓IntWalk.iteOmega, IntWalk.iteOmega, IntWalk.toNatUp, step]
    · rw [if_neg (fun h => h1 h.1)] at step
      repeat (first | (refine nf1_sound rfl ?_; simp [go_sem, ↓IntWalk.iteOmega, IntWalk.iteOmega, IntWalk.toNatUp, gr, gc]; (repeat (refine And.intro (by omega) ?_)); try (refine ⟨DrawChk_of (by kernel_rfl), ?_⟩)) | (refine itePos (by omega) ?_; try simp [go_sem, ↓IntWalk.iteOmega, IntWalk.iteOmega, IntWalk.toNatUp, gr, gc]) | (refine iteNeg (by omega) ?_; try simp [go_sem, ↓IntWalk.iteOmega, IntWalk.iteOmega, IntWalk.toNatUp, gr, gc]) | (refine ⟨DrawChk_of (by kernel_rfl), ?_⟩))
      rw [RoundQ_normal]; refine ⟨k + 1, [(0, some 0)], ?_, ?_, ?_⟩
      · omega
      · omega
      simp [go_sem, ↓IntWalk.iteOmega, IntWalk.iteOmega, IntWalk.toNatUp, step]
  · obtain rfl : k = n := by omega
    repeat (first | (refine nf1_sound rfl ?_; simp [go_sem, ↓IntWalk.iteOmega, IntWalk.iteOmega, IntWalk.toNatUp]; (repeat (refine And.intro (by omega) ?_)); try (refine ⟨DrawChk_of (by kernel_rfl), ?_⟩)) | (refine itePos (by omega) ?_; try simp [go_sem, ↓IntWalk.iteOmega, IntWalk.iteOmega, IntWalk.toNatUp]) | (refine iteNeg (by omega) ?_; try simp [go_sem, ↓IntWalk.iteOmega, IntWalk.iteOmega, IntWalk.toNatUp]) | (refine ⟨DrawChk_of (by kernel_rfl), ?_⟩))
    first | rw [RetQ_ret] | rw [RetQ_normal]
    refine ⟨[(0, some 0)], ?_⟩
    simp [go_sem, ↓IntWalk.iteOmega, IntWalk.iteOmega, IntWalk.toNatUp]
set_option maxRecDepth 100000 in
set_option maxHeartbeats 8000000 in
theorem rnext_fn (R C : List Int) (hRC : C.length = R.length) (hn : R.length ≤ 1000000) (hr : ∀ x ∈ R, 0 ≤ x ∧ x ≤ 1000) (hc : ∀ x ∈ C, 0 ≤ x ∧ x ≤ 1000000) : FnOk Try.prog 34 [.t (encIs R), .t (encIs C)] [] (.t (.int (nx R C R.length))) [] := by
  refine FnOk.intro fact_mixed Try.func34 rfl Try.ntmps34 (by rfl) (by simp) ?_
  repeat (first | (refine nf1_sound rfl ?_; simp [go_sem, ↓IntWalk.iteOmega, IntWalk.iteOmega, IntWalk.toNatUp]; (repeat (refine And.intro (by omega) ?_)); try (refine ⟨DrawChk_of (by kernel_rfl), ?_⟩)) | (refine itePos (by omega) ?_; try simp [go_sem, ↓IntWalk.iteOmega, IntWalk.iteOmega, IntWalk.toNatUp]) | (refine iteNeg (by omega) ?_; try simp [go_sem, ↓IntWalk.iteOmega, IntWalk.iteOmega, IntWalk.toNatUp]) | (refine ⟨DrawChk_of (by kernel_rfl), ?_⟩))
  refine nf1_sound' _ _ _ ?_; simp only [nf1]
  refine CW.loop (ι := Nat) (fun k => ⟨[(0, .t (encIs R)), (1, .t (encIs C)), (5, .t (.int (nx R C k))), (8, .t (.int R.length)), (9, .t (.int k))], []⟩) (fun k => k ≤ R.length) (fun k => R.length - k) 0 [] (by omega) ?_ ?_
  · simp [go_sem, ↓IntWalk.iteOmega, IntWalk.iteOmega, IntWalk.toNatUp, nx]
  intro k hk
  have hx := nx_range R C k
  by_cases hb : k < R.length
  · have gr := get_rt (r := R) (i := k) (by omega)
    have gc := get_rt (r := C) (i := k) (by omega)
    have b1 := hr _ (mem_get gr)
    have b2 := hc _ (mem_get gc)
    have step : nx R C (k + 1) = if 0 < rt R k ∧ (nx R C k < 0 ∨ (rt C k + 1) * rt R (nx R C k).toNat < (rt C (nx R C k).toNat + 1) * rt R k) then (k : Int) else nx R C k := rfl
    obtain ⟨u, hu⟩ : ∃ u, rt R k = u := ⟨_, rfl⟩
    obtain ⟨v, hv⟩ : ∃ v, rt C k = v := ⟨_, rfl⟩
    obtain ⟨q, hq⟩ : ∃ q, nx R C k = q := ⟨_, rfl⟩
    rw [hu] at gr b1
    rw [hv] at gc b2
    rw [hu, hv, hq] at step
    rw [hq] at hx ⊢
    by_cases h1 : 0 < u
    · by_cases h2 : q < 0
      · rw [if_pos ⟨h1, .inl h2⟩] at step
        repeat (first | (refine nf1_sound rfl ?_; simp [go_sem, ↓IntWalk.iteOmega, IntWalk.iteOmega, IntWalk.toNatUp, gr, gc]; (repeat (refine And.intro (by omega) ?_)); try (refine ⟨DrawChk_of (by kernel_rfl), ?_⟩)) | (refine itePos (by omega) ?_; try simp [go_sem, ↓IntWalk.iteOmega, IntWalk.iteOmega, IntWalk.toNatUp, gr, gc]) | (refine iteNeg (by omega) ?_; try simp [go_sem, ↓IntWalk.iteOmega, IntWalk.iteOmega, IntWalk.toNatUp, gr, gc]) | (refine ⟨DrawChk_of (by kernel_rfl), ?_⟩))
        rw [RoundQ_normal]; refine ⟨k + 1, [], ?_, ?_, ?_⟩
        · omega
        · omega
        simp [go_sem, ↓IntWalk.iteOmega, IntWalk.iteOmega, IntWalk.toNatUp, step]
      · obtain ⟨j, rfl⟩ : ∃ j : Nat, q = (j : Int) := ⟨q.toNat, by omega⟩
        rw [Int.toNat_natCast] at step
        have gr2 := get_rt (r := R) (i := j) (by omega)
        have gc2 := get_rt (r := C) (i := j) (by omega)
        have b3 := hr _ (mem_get gr2)
        have b4 := hc _ (mem_get gc2)
        obtain ⟨y, hy⟩ : ∃ y, rt R j = y := ⟨_, rfl⟩
        obtain ⟨z, hz⟩ : ∃ z, rt C j = z := ⟨_, rfl⟩
        rw [hy] at gr2 b3 step
        rw [hz] at gc2 b4 step
        have m1 := mul_bd (a := v + 1) (A := 1000001) (b := y) (B := 1000) (by omega) (by omega) (by omega) (by omega)
        have m2 := mul_bd (a := z + 1) (A := 1000001) (b := u) (B := 1000) (by omega) (by omega) (by omega) (by omega)
        obtain ⟨p1, hp1⟩ : ∃ p, (v + 1) * y = p := ⟨_, rfl⟩
        obtain ⟨p2, hp2⟩ : ∃ p, (z + 1) * u = p := ⟨_, rfl⟩
        rw [hp1] at m1 step
        rw [hp2] at m2 step
        by_cases h3 : p1 < p2
        · rw [if_pos ⟨h1, .inr h3⟩] at step
          repeat (first | (refine nf1_sound rfl ?_; simp [go_sem, ↓IntWalk.iteOmega, IntWalk.iteOmega, IntWalk.toNatUp, gr, gc, gr2, gc2, hp1, hp2]; (repeat (refine And.intro (by omega) ?_)); try (refine ⟨DrawChk_of (by kernel_rfl), ?_⟩)) | (refine itePos (by omega) ?_; try simp [go_sem, ↓IntWalk.iteOmega, IntWalk.iteOmega, IntWalk.toNatUp, gr, gc, gr2, gc2, hp1, hp2]) | (refine iteNeg (by omega) ?_; try simp [go_sem, ↓IntWalk.iteOmega, IntWalk.iteOmega, IntWalk.toNatUp, gr, gc, gr2, gc2, hp1, hp2]) | (refine ⟨DrawChk_of (by kernel_rfl), ?_⟩))
          rw [RoundQ_normal]; refine ⟨k + 1, [], ?_, ?_, ?_⟩
          · omega
          · omega
          simp [go_sem, ↓IntWalk.iteOmega, IntWalk.iteOmega, IntWalk.toNatUp, step]
        · rw [if_neg (by omega)] at step
          repeat (first | (refine nf1_sound rfl ?_; simp [go_sem, ↓IntWalk.iteOmega, IntWalk.iteOmega, IntWalk.toNatUp, gr, gc, gr2, gc2, hp1, hp2]; (repeat (refine And.intro (by omega) ?_)); try (refine ⟨DrawChk_of (by kernel_rfl), ?_⟩)) | (refine itePos (by omega) ?_; try simp [go_sem, ↓IntWalk.iteOmega, IntWalk.iteOmega, IntWalk.toNatUp, gr, gc, gr2, gc2, hp1, hp2]) | (refine iteNeg (by omega) ?_; try simp [go_sem, ↓IntWalk.iteOmega, IntWalk.iteOmega, IntWalk.toNatUp, gr, gc, gr2, gc2, hp1, hp2]) | (refine ⟨DrawChk_of (by kernel_rfl), ?_⟩))
          rw [RoundQ_normal]; refine ⟨k + 1, [], ?_, ?_, ?_⟩
          · omega
          · omega
          simp [go_sem, ↓IntWalk.iteOmega, IntWalk.iteOmega, IntWalk.toNatUp, step]
    · rw [if_neg (fun h => h1 h.1)] at step
      repeat (first | (refine nf1_sound rfl ?_; simp [go_sem, ↓IntWalk.iteOmega, IntWalk.iteOmega, IntWalk.toNatUp, gr, gc]; (repeat (refine And.intro (by omega) ?_)); try (refine ⟨DrawChk_of (by kernel_rfl), ?_⟩)) | (refine itePos (by omega) ?_; try simp [go_sem, ↓IntWalk.iteOmega, IntWalk.iteOmega, IntWalk.toNatUp, gr, gc]) | (refine iteNeg (by omega) ?_; try simp [go_sem, ↓IntWalk.iteOmega, IntWalk.iteOmega, IntWalk.toNatUp, gr, gc]) | (refine ⟨DrawChk_of (by kernel_rfl), ?_⟩))
      rw [RoundQ_normal]; refine ⟨k + 1, [], ?_, ?_, ?_⟩
      · omega
      · omega
      simp [go_sem, ↓IntWalk.iteOmega, IntWalk.iteOmega, IntWalk.toNatUp, step]
  · obtain rfl : k = R.length := by omega
    repeat (first | (refine nf1_sound rfl ?_; simp [go_sem, ↓IntWalk.iteOmega, IntWalk.iteOmega, IntWalk.toNatUp]; (repeat (refine And.intro (by omega) ?_)); try (refine ⟨DrawChk_of (by kernel_rfl), ?_⟩)) | (refine itePos (by omega) ?_; try simp [go_sem, ↓IntWalk.iteOmega, IntWalk.iteOmega, IntWalk.toNatUp]) | (refine iteNeg (by omega) ?_; try simp [go_sem, ↓IntWalk.iteOmega, IntWalk.iteOmega, IntWalk.toNatUp]) | (refine ⟨DrawChk_of (by kernel_rfl), ?_⟩))
    first | rw [RetQ_ret] | rw [RetQ_normal]
    refine ⟨[], ?_⟩
    simp [go_sem, ↓IntWalk.iteOmega, IntWalk.iteOmega, IntWalk.toNatUp]
end Go.Proofs.Ytpfolkjimdmdhaa
