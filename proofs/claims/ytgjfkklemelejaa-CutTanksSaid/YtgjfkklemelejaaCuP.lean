/- What the laws of chapter 31 call: the reference's Cut, Few, Mod, SameInts. No condition. The portions of what is received. Plain Lean. -/
import Derived.Test.YtgjfkklemelejaaBoRoot
import Derived.Test.YtgjfkklemelejaaKPick
import Derived.Test.YtgjfkklemelejaaPiRMerge
namespace Go.Proofs.Ytgjfkklemelejaa
open Go.RowKit Sy
set_option linter.unusedVariables false
set_option linter.unusedSimpArgs false
set_option maxRecDepth 100000 in
set_option maxHeartbeats 4000000 in
theorem rcut_fn (v r : Int) (a b c e : Int) (h : cutV v r = (a, b, c, e)) : FnOk Try.prog 53 [.t (.int v), .t (.int r)] [] (.tup [.t (.int a), .t (.int b), .t (.int c), .t (.int e)]) [] := by
  unfold cutV at h
  by_cases h0 : 0 ≤ v
  · by_cases hm : v ≤ 1000000
    · rw [if_pos ⟨h0, hm⟩] at h
      by_cases h1 : r = 1
      · rw [if_pos h1] at h
        simp only [Prod.mk.injEq] at h
        obtain ⟨rfl, rfl, rfl, rfl⟩ := h
        refine FnOk.intro fact_mixed Try.func53 rfl Try.ntmps53 (by rfl) (by simp) ?_
        repeat (first | (refine nf1_sound rfl ?_; simp [go_sem, ↓IntWalk.iteOmega, IntWalk.iteOmega, IntWalk.toNatUp]; (repeat (refine And.intro (by omega) ?_)); try (refine ⟨DrawChk_of (by kernel_rfl), ?_⟩)) | (refine itePos (by omega) ?_; try simp [go_sem, ↓IntWalk.iteOmega, IntWalk.iteOmega, IntWalk.toNatUp]) | (refine iteNeg (by omega) ?_; try simp [go_sem, ↓IntWalk.iteOmega, IntWalk.iteOmega, IntWalk.toNatUp]) | (refine ⟨DrawChk_of (by kernel_rfl), ?_⟩))
        first | rw [RetQ_ret] | rw [RetQ_normal]
        refine ⟨[], ?_⟩
        simp [go_sem, ↓IntWalk.iteOmega, IntWalk.iteOmega, IntWalk.toNatUp]
      rw [if_neg h1] at h
      by_cases h2 : r = 2
      · rw [if_pos h2] at h
        simp only [Prod.mk.injEq] at h
        obtain ⟨rfl, rfl, rfl, rfl⟩ := h
        refine FnOk.intro fact_mixed Try.func53 rfl Try.ntmps53 (by rfl) (by simp) ?_
        repeat (first | (refine nf1_sound rfl ?_; simp [go_sem, ↓IntWalk.iteOmega, IntWalk.iteOmega, IntWalk.toNatUp]; (repeat (refine And.intro (by omega) ?_)); try (refine ⟨DrawChk_of (by kernel_rfl), ?_⟩)) | (refine itePos (by omega) ?_; try simp [go_sem, ↓IntWalk.iteOmega, IntWalk.iteOmega, IntWalk.toNatUp]) | (refine iteNeg (by omega) ?_; try simp [go_sem, ↓IntWalk.iteOmega, IntWalk.iteOmega, IntWalk.toNatUp]) | (refine ⟨DrawChk_of (by kernel_rfl), ?_⟩))
        first | rw [RetQ_ret] | rw [RetQ_normal]
        refine ⟨[], ?_⟩
        simp [go_sem, ↓IntWalk.iteOmega, IntWalk.iteOmega, IntWalk.toNatUp]
      rw [if_neg h2] at h
      by_cases h3 : r = 3
      · rw [if_pos h3] at h
        simp only [Prod.mk.injEq] at h
        obtain ⟨rfl, rfl, rfl, rfl⟩ := h
        refine FnOk.intro fact_mixed Try.func53 rfl Try.ntmps53 (by rfl) (by simp) ?_
        repeat (first | (refine nf1_sound rfl ?_; simp [go_sem, ↓IntWalk.iteOmega, IntWalk.iteOmega, IntWalk.toNatUp]; (repeat (refine And.intro (by omega) ?_)); try (refine ⟨DrawChk_of (by kernel_rfl), ?_⟩)) | (refine itePos (by omega) ?_; try simp [go_sem, ↓IntWalk.iteOmega, IntWalk.iteOmega, IntWalk.toNatUp]) | (refine iteNeg (by omega) ?_; try simp [go_sem, ↓IntWalk.iteOmega, IntWalk.iteOmega, IntWalk.toNatUp]) | (refine ⟨DrawChk_of (by kernel_rfl), ?_⟩))
        first | rw [RetQ_ret] | rw [RetQ_normal]
        refine ⟨[], ?_⟩
        simp [go_sem, ↓IntWalk.iteOmega, IntWalk.iteOmega, IntWalk.toNatUp]
      rw [if_neg h3] at h
      by_cases h4 : r = 4
      · rw [if_pos h4] at h
        simp only [Prod.mk.injEq] at h
        obtain ⟨rfl, rfl, rfl, rfl⟩ := h
        refine FnOk.intro fact_mixed Try.func53 rfl Try.ntmps53 (by rfl) (by simp) ?_
        repeat (first | (refine nf1_sound rfl ?_; simp [go_sem, ↓IntWalk.iteOmega, IntWalk.iteOmega, IntWalk.toNatUp]; (repeat (refine And.intro (by omega) ?_)); try (refine ⟨DrawChk_of (by kernel_rfl), ?_⟩)) | (refine itePos (by omega) ?_; try simp [go_sem, ↓IntWalk.iteOmega, IntWalk.iteOmega, IntWalk.toNatUp]) | (refine iteNeg (by omega) ?_; try simp [go_sem, ↓IntWalk.iteOmega, IntWalk.iteOmega, IntWalk.toNatUp]) | (refine ⟨DrawChk_of (by kernel_rfl), ?_⟩))
        first | rw [RetQ_ret] | rw [RetQ_normal]
        refine ⟨[], ?_⟩
        simp [go_sem, ↓IntWalk.iteOmega, IntWalk.iteOmega, IntWalk.toNatUp]
      rw [if_neg h4] at h
      by_cases h5 : r = 5
      · rw [if_pos h5] at h
        simp only [Prod.mk.injEq] at h
        obtain ⟨rfl, rfl, rfl, rfl⟩ := h
        refine FnOk.intro fact_mixed Try.func53 rfl Try.ntmps53 (by rfl) (by simp) ?_
        repeat (first | (refine nf1_sound rfl ?_; simp [go_sem, ↓IntWalk.iteOmega, IntWalk.iteOmega, IntWalk.toNatUp]; (repeat (refine And.intro (by omega) ?_)); try (refine ⟨DrawChk_of (by kernel_rfl), ?_⟩)) | (refine itePos (by omega) ?_; try simp [go_sem, ↓IntWalk.iteOmega, IntWalk.iteOmega, IntWalk.toNatUp]) | (refine iteNeg (by omega) ?_; try simp [go_sem, ↓IntWalk.iteOmega, IntWalk.iteOmega, IntWalk.toNatUp]) | (refine ⟨DrawChk_of (by kernel_rfl), ?_⟩))
        first | rw [RetQ_ret] | rw [RetQ_normal]
        refine ⟨[], ?_⟩
        simp [go_sem, ↓IntWalk.iteOmega, IntWalk.iteOmega, IntWalk.toNatUp]
      rw [if_neg h5] at h
      simp only [Prod.mk.injEq] at h
      obtain ⟨rfl, rfl, rfl, rfl⟩ := h
      refine FnOk.intro fact_mixed Try.func53 rfl Try.ntmps53 (by rfl) (by simp) ?_
      repeat (first | (refine nf1_sound rfl ?_; simp [go_sem, ↓IntWalk.iteOmega, IntWalk.iteOmega, IntWalk.toNatUp]; (repeat (refine And.intro (by omega) ?_)); try (refine ⟨DrawChk_of (by kernel_rfl), ?_⟩)) | (refine itePos (by omega) ?_; try simp [go_sem, ↓IntWalk.iteOmega, IntWalk.iteOmega, IntWalk.toNatUp]) | (refine iteNeg (by omega) ?_; try simp [go_sem, ↓IntWalk.iteOmega, IntWalk.iteOmega, IntWalk.toNatUp]) | (refine ⟨DrawChk_of (by kernel_rfl), ?_⟩))
      first | rw [RetQ_ret] | rw [RetQ_normal]
      refine ⟨[], ?_⟩
      simp [go_sem, ↓IntWalk.iteOmega, IntWalk.iteOmega, IntWalk.toNatUp]
    · rw [if_neg (fun hh => hm hh.2)] at h
      simp only [Prod.mk.injEq] at h
      obtain ⟨rfl, rfl, rfl, rfl⟩ := h
      refine FnOk.intro fact_mixed Try.func53 rfl Try.ntmps53 (by rfl) (by simp) ?_
      repeat (first | (refine nf1_sound rfl ?_; simp [go_sem, ↓IntWalk.iteOmega, IntWalk.iteOmega, IntWalk.toNatUp]; (repeat (refine And.intro (by omega) ?_)); try (refine ⟨DrawChk_of (by kernel_rfl), ?_⟩)) | (refine itePos (by omega) ?_; try simp [go_sem, ↓IntWalk.iteOmega, IntWalk.iteOmega, IntWalk.toNatUp]) | (refine iteNeg (by omega) ?_; try simp [go_sem, ↓IntWalk.iteOmega, IntWalk.iteOmega, IntWalk.toNatUp]) | (refine ⟨DrawChk_of (by kernel_rfl), ?_⟩))
      first | rw [RetQ_ret] | rw [RetQ_normal]
      refine ⟨[], ?_⟩
      simp [go_sem, ↓IntWalk.iteOmega, IntWalk.iteOmega, IntWalk.toNatUp]
  · rw [if_neg (fun hh => h0 hh.1)] at h
    simp only [Prod.mk.injEq] at h
    obtain ⟨rfl, rfl, rfl, rfl⟩ := h
    refine FnOk.intro fact_mixed Try.func53 rfl Try.ntmps53 (by rfl) (by simp) ?_
    repeat (first | (refine nf1_sound rfl ?_; simp [go_sem, ↓IntWalk.iteOmega, IntWalk.iteOmega, IntWalk.toNatUp]; (repeat (refine And.intro (by omega) ?_)); try (refine ⟨DrawChk_of (by kernel_rfl), ?_⟩)) | (refine itePos (by omega) ?_; try simp [go_sem, ↓IntWalk.iteOmega, IntWalk.iteOmega, IntWalk.toNatUp]) | (refine iteNeg (by omega) ?_; try simp [go_sem, ↓IntWalk.iteOmega, IntWalk.iteOmega, IntWalk.toNatUp]) | (refine ⟨DrawChk_of (by kernel_rfl), ?_⟩))
    first | rw [RetQ_ret] | rw [RetQ_normal]
    refine ⟨[], ?_⟩
    simp [go_sem, ↓IntWalk.iteOmega, IntWalk.iteOmega, IntWalk.toNatUp]
theorem cut_sum {m r : Int} (hm : 0 ≤ m ∧ m ≤ 1000000) (hr : 1 ≤ r ∧ r ≤ 5) : ∃ a b c, cutV m r = (a, b, c, 0) ∧ a + b + c = m ∧ 0 ≤ a ∧ 0 ≤ b ∧ 0 ≤ c ∧ a ≤ m ∧ b ≤ m ∧ c ≤ m := by
  unfold cutV
  rw [if_pos hm]
  by_cases h1 : r = 1
  · rw [if_pos h1]; exact ⟨_, _, _, rfl, by omega, by omega, by omega, by omega, by omega, by omega, by omega⟩
  rw [if_neg h1]
  by_cases h2 : r = 2
  · rw [if_pos h2]; exact ⟨_, _, _, rfl, by omega, by omega, by omega, by omega, by omega, by omega, by omega⟩
  rw [if_neg h2]
  by_cases h3 : r = 3
  · rw [if_pos h3]; exact ⟨_, _, _, rfl, by omega, by omega, by omega, by omega, by omega, by omega, by omega⟩
  rw [if_neg h3]
  by_cases h4 : r = 4
  · rw [if_pos h4]; exact ⟨_, _, _, rfl, by omega, by omega, by omega, by omega, by omega, by omega, by omega⟩
  rw [if_neg h4, if_pos (show r = 5 by omega)]
  exact ⟨_, _, _, rfl, by omega, by omega, by omega, by omega, by omega, by omega, by omega⟩
theorem mul_le3 {F x : Int} (h0 : 0 ≤ F) (h1 : F ≤ 65535) (h2 : 0 ≤ x) (h3 : x ≤ 4294967295) : 0 ≤ F * x ∧ F * x ≤ 281470681677825 :=
  ⟨Int.mul_nonneg h0 h2, by
    have := Int.mul_le_mul h1 h3 h2 (by omega : (0 : Int) ≤ 65535)
    omega⟩
theorem mix_ok {F t : Int} (h0 : 0 ≤ F) (h1 : F ≤ 65535) (h2 : 0 ≤ t) (h3 : t ≤ 8589934590) : mixV F t = (rootUpV (F * t), 0) := by
  unfold mixV
  rw [if_pos ⟨⟨h0, by omega⟩, h2, by omega⟩]
set_option maxRecDepth 100000 in
theorem few_fn (l : List Int) (hl : l.length ≤ 9223372036854775807) : FnOk Try.prog 8 [.t (encIs l)] [] (.t (.bool (decide (l.length ≤ 400)))) [] := by
  refine FnOk.intro fact_mixed Try.func8 rfl Try.ntmps8 (by rfl) (by simp) ?_
  repeat (first | (refine nf1_sound rfl ?_; simp [go_sem, ↓IntWalk.iteOmega, IntWalk.iteOmega, IntWalk.toNatUp]; (repeat (refine And.intro (by omega) ?_)); try (refine ⟨DrawChk_of (by kernel_rfl), ?_⟩)) | (refine itePos (by omega) ?_; try simp [go_sem, ↓IntWalk.iteOmega, IntWalk.iteOmega, IntWalk.toNatUp]) | (refine iteNeg (by omega) ?_; try simp [go_sem, ↓IntWalk.iteOmega, IntWalk.iteOmega, IntWalk.toNatUp]) | (refine ⟨DrawChk_of (by kernel_rfl), ?_⟩))
  first | rw [RetQ_ret] | rw [RetQ_normal]
  refine ⟨[], ?_⟩
  simp [go_sem, ↓IntWalk.iteOmega, IntWalk.iteOmega, IntWalk.toNatUp]
  try omega
set_option maxRecDepth 100000 in
theorem smod_fn (x n : Int) (hn : n ≤ 9223372036854775807) : FnOk Try.prog 23 [.t (.int x), .t (.int n)] [] (.t (.int (modN x n))) [] := by
  refine FnOk.intro fact_mixed Try.func23 rfl Try.ntmps23 (by rfl) (by simp) ?_
  repeat (first | (refine nf1_sound rfl ?_; simp [go_sem, ↓IntWalk.iteOmega, IntWalk.iteOmega, IntWalk.toNatUp]; (repeat (refine And.intro (by omega) ?_)); try (refine ⟨DrawChk_of (by kernel_rfl), ?_⟩)) | (refine itePos (by omega) ?_; try simp [go_sem, ↓IntWalk.iteOmega, IntWalk.iteOmega, IntWalk.toNatUp]) | (refine iteNeg (by omega) ?_; try simp [go_sem, ↓IntWalk.iteOmega, IntWalk.iteOmega, IntWalk.toNatUp]) | (refine ⟨DrawChk_of (by kernel_rfl), ?_⟩))
  refine CallK.fn (mod_fn x n hn) [] [] [] (by kernel_rfl) (by simp [go_sem, ↓IntWalk.iteOmega, IntWalk.iteOmega, IntWalk.toNatUp]) (by simp [go_sem, ↓IntWalk.iteOmega, IntWalk.iteOmega, IntWalk.toNatUp]) (by simp [go_sem, ↓IntWalk.iteOmega, IntWalk.iteOmega, IntWalk.toNatUp]) (Or.inl rfl) ?_
  simp [go_sem, ↓IntWalk.iteOmega, IntWalk.iteOmega, IntWalk.toNatUp]
  repeat (refine And.intro (by omega) ?_)
  try (refine ⟨DrawChk_of (by kernel_rfl), ?_⟩)
  repeat (first | (refine nf1_sound rfl ?_; simp [go_sem, ↓IntWalk.iteOmega, IntWalk.iteOmega, IntWalk.toNatUp]; (repeat (refine And.intro (by omega) ?_)); try (refine ⟨DrawChk_of (by kernel_rfl), ?_⟩)) | (refine itePos (by omega) ?_; try simp [go_sem, ↓IntWalk.iteOmega, IntWalk.iteOmega, IntWalk.toNatUp]) | (refine iteNeg (by omega) ?_; try simp [go_sem, ↓IntWalk.iteOmega, IntWalk.iteOmega, IntWalk.toNatUp]) | (refine ⟨DrawChk_of (by kernel_rfl), ?_⟩))
  first | rw [RetQ_ret] | rw [RetQ_normal]
  refine ⟨[], ?_⟩
  simp [go_sem, ↓IntWalk.iteOmega, IntWalk.iteOmega, IntWalk.toNatUp]
set_option maxRecDepth 100000 in
set_option maxHeartbeats 4000000 in
theorem sameInts_fn (a : List Int) (ha : a.length ≤ 1000000) : FnOk Try.prog 28 [.t (encIs a), .t (encIs a)] [] (.t (.bool true)) [] := by
  refine FnOk.intro fact_mixed Try.func28 rfl Try.ntmps28 (by rfl) (by simp) ?_
  repeat (first | (refine nf1_sound rfl ?_; simp [go_sem, ↓IntWalk.iteOmega, IntWalk.iteOmega, IntWalk.toNatUp]; (repeat (refine And.intro (by omega) ?_)); try (refine ⟨DrawChk_of (by kernel_rfl), ?_⟩)) | (refine itePos (by omega) ?_; try simp [go_sem, ↓IntWalk.iteOmega, IntWalk.iteOmega, IntWalk.toNatUp]) | (refine iteNeg (by omega) ?_; try simp [go_sem, ↓IntWalk.iteOmega, IntWalk.iteOmega, IntWalk.toNatUp]) | (refine ⟨DrawChk_of (by kernel_rfl), ?_⟩))
  refine nf1_sound' _ _ _ ?_; simp only [nf1]
  refine CW.loop (ι := Nat) (fun k => ⟨[(0, .t (encIs a)), (1, .t (encIs a)), (5, .t (.int k))], []⟩) (fun k => k ≤ a.length) (fun k => a.length - k) 0 [] (by omega) ?_ ?_
  · simp [go_sem, ↓IntWalk.iteOmega, IntWalk.iteOmega, IntWalk.toNatUp]
  intro k hk
  by_cases hb : k < a.length
  · obtain ⟨x, hx⟩ := has_get hb
    repeat (first | (refine nf1_sound rfl ?_; simp [go_sem, ↓IntWalk.iteOmega, IntWalk.iteOmega, IntWalk.toNatUp, hx]; (repeat (refine And.intro (by omega) ?_)); try (refine ⟨DrawChk_of (by kernel_rfl), ?_⟩)) | (refine itePos (by omega) ?_; try simp [go_sem, ↓IntWalk.iteOmega, IntWalk.iteOmega, IntWalk.toNatUp, hx]) | (refine iteNeg (by omega) ?_; try simp [go_sem, ↓IntWalk.iteOmega, IntWalk.iteOmega, IntWalk.toNatUp, hx]) | (refine ⟨DrawChk_of (by kernel_rfl), ?_⟩))
    rw [RoundQ_normal]; refine ⟨k + 1, [], ?_, ?_, ?_⟩
    · omega
    · omega
    simp [go_sem, ↓IntWalk.iteOmega, IntWalk.iteOmega, IntWalk.toNatUp]
  · obtain rfl : k = a.length := by omega
    repeat (first | (refine nf1_sound rfl ?_; simp [go_sem, ↓IntWalk.iteOmega, IntWalk.iteOmega, IntWalk.toNatUp]; (repeat (refine And.intro (by omega) ?_)); try (refine ⟨DrawChk_of (by kernel_rfl), ?_⟩)) | (refine itePos (by omega) ?_; try simp [go_sem, ↓IntWalk.iteOmega, IntWalk.iteOmega, IntWalk.toNatUp]) | (refine iteNeg (by omega) ?_; try simp [go_sem, ↓IntWalk.iteOmega, IntWalk.iteOmega, IntWalk.toNatUp]) | (refine ⟨DrawChk_of (by kernel_rfl), ?_⟩))
    first | rw [RetQ_ret] | rw [RetQ_normal]
    refine ⟨[], ?_⟩
    simp [go_sem, ↓IntWalk.iteOmega, IntWalk.iteOmega, IntWalk.toNatUp]
end Go.Proofs.Ytgjfkklemelejaa
namespace Go.Proofs.Ytgjfkklemelejaa
open Go.RowKit Sy
set_option linter.unusedVariables false
set_option linter.unusedSimpArgs false
/-- The slop that a way leaves, and what is wrong with it. -/
def slopAt (f r t : Int) : Int × Int := if (mixV f t).2 ≠ 0 then (0, (mixV f t).2) else ((cutV (mixV f t).1 r).2.2.1, (cutV (mixV f t).1 r).2.2.2)
theorem cutV_range (v r : Int) : 0 ≤ (cutV v r).2.2.1 ∧ (cutV v r).2.2.1 ≤ 1000000 := by
  unfold cutV
  split
  · split
    · simp
    · split
      · simp
      · split
        · simp
        · split
          · dsimp only; omega
          · split
            · dsimp only; omega
            · simp
  · simp
theorem slopAt_range (f r t : Int) : 0 ≤ (slopAt f r t).1 ∧ (slopAt f r t).1 ≤ 1000000 := by
  unfold slopAt
  split
  · simp
  · exact cutV_range _ _
def errGo (g : Int → Int × Int) : List Int → Int
  | [] => 0
  | t :: r => if (g t).2 ≠ 0 then (g t).2 else errGo g r
theorem err_cases (g : Int → Int × Int) : ∀ l : List Int, (errGo g l = 0 ∧ ∀ t ∈ l, (g t).2 = 0) ∨ ∃ (j : Nat) (t : Int), l[j]? = some t ∧ (∀ s ∈ l.take j, (g s).2 = 0) ∧ (g t).2 ≠ 0 ∧ errGo g l = (g t).2
  | [] => .inl ⟨rfl, by simp⟩
  | t :: r => by
    by_cases h : (g t).2 = 0
    · rcases err_cases g r with ⟨h1, h2⟩ | ⟨j, x, h1, h2, h3, h4⟩
      · refine .inl ⟨by simp [errGo, h, h1], ?_⟩
        intro y hy
        rcases List.mem_cons.1 hy with rfl | hy
        · exact h
        · exact h2 y hy
      · refine .inr ⟨j + 1, x, by simpa using h1, ?_, h3, by simp [errGo, h, h4]⟩
        intro y hy
        rw [List.take_succ_cons] at hy
        rcases List.mem_cons.1 hy with rfl | hy
        · exact h
        · exact h2 y hy
    · exact .inr ⟨0, t, rfl, by simp, h, by simp [errGo, h]⟩
def vAt (f : List (Int × Int)) (i : Nat) : Int := ((f[i]?).getD (0, 0)).2
def sAt (ss : List Int) (i : Nat) : Int := ss.getD i 0
/-- The slop ahead of a piece, and behind it. -/
def bg (f : List (Int × Int)) (ss : List Int) (i : Nat) : Int := if i = 0 then 0 else min (sAt ss (i - 1) - sAt ss (i - 1) / 2) (vAt f i)
def en (f : List (Int × Int)) (ss : List Int) (i : Nat) : Int := if i < ss.length then min (sAt ss i / 2) (vAt f i - bg f ss i) else 0
abbrev Po := Int × Int × Bool
def pos (b v : Int) (s : Bool) : List Po := if 0 < v then [(b, v, s)] else []
def poAt (f : List (Int × Int)) (ss : List Int) (i : Nat) : List Po :=
  pos ((f[i]?).getD (0, 0)).1 (bg f ss i) true ++ (pos ((f[i]?).getD (0, 0)).1 (vAt f i - bg f ss i - en f ss i) false ++ pos ((f[i]?).getD (0, 0)).1 (en f ss i) true)
def poL (f : List (Int × Int)) (ss : List Int) (n : Nat) : List Po := (List.range n).flatMap (poAt f ss)
theorem poL_zero (f : List (Int × Int)) (ss : List Int) : poL f ss 0 = [] := rfl
theorem poL_succ (f : List (Int × Int)) (ss : List Int) (n : Nat) : poL f ss (n + 1) = poL f ss n ++ poAt f ss n := by
  unfold poL; rw [List.range_succ, List.flatMap_append]; simp
theorem pos_len (b v : Int) (s : Bool) : (pos b v s).length ≤ 1 := by unfold pos; split <;> simp
theorem poL_len (f : List (Int × Int)) (ss : List Int) : ∀ n, (poL f ss n).length ≤ 3 * n
  | 0 => by simp [poL_zero]
  | n + 1 => by
    rw [poL_succ, List.length_append]
    have := poL_len f ss n
    unfold poAt
    have h1 := pos_len ((f[n]?).getD (0, 0)).1 (bg f ss n) true
    have h2 := pos_len ((f[n]?).getD (0, 0)).1 (vAt f n - bg f ss n - en f ss n) false
    have h3 := pos_len ((f[n]?).getD (0, 0)).1 (en f ss n) true
    simp only [List.length_append]
    omega
theorem bg_en_range {f : List (Int × Int)} {ss : List Int} (hs : ∀ s ∈ ss, 0 ≤ s ∧ s ≤ 1000000) {i : Nat} (hv : 0 ≤ vAt f i) : 0 ≤ bg f ss i ∧ bg f ss i ≤ vAt f i ∧ 0 ≤ en f ss i ∧ en f ss i ≤ vAt f i - bg f ss i := by
  have hsa : ∀ j, 0 ≤ sAt ss j ∧ sAt ss j ≤ 1000000 := by
    intro j
    unfold sAt
    rw [List.getD_eq_getElem?_getD]
    cases h : ss[j]? with
    | none => simp
    | some x => exact hs x (mem_get h)
  have h1 := hsa (i - 1)
  have h2 := hsa i
  have hb : 0 ≤ bg f ss i ∧ bg f ss i ≤ vAt f i := by unfold bg; split <;> omega
  refine ⟨hb.1, hb.2, ?_⟩
  unfold en
  split <;> omega
/-- What Portions answers. -/
noncomputable def portR (l : List (Int × Int)) (t : List Int) (f r : Int) : List Po × Int :=
  if ¬ Pc.valid (Pc.merge l) = true ∨ (0 < l.length ∧ (Pc.merge l).length = 0) then ([], 14)
  else if (t.length : Int) ≠ max 0 (((Pc.merge l).length : Int) - 1) ∨ 400 < (Pc.merge l).length then ([], 9)
  else if errGo (slopAt f r) t ≠ 0 then ([], errGo (slopAt f r) t)
  else (poL (Pc.merge l) (t.map fun x => (slopAt f r x).1) (Pc.merge l).length, 0)
end Go.Proofs.Ytgjfkklemelejaa
