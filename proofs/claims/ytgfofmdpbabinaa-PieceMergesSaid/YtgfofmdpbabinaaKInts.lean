/- keep.Ints as a contract; lists of ints as memory. No condition. -/
import Derived.Test.YtgfofmdpbabinaaKSrc
namespace Go.Proofs.Ytgfofmdpbabinaa
open Go.RowKit Sy
set_option linter.unusedVariables false
set_option linter.unusedSimpArgs false
@[go_sem] def blkI (l : List Int) : Blk := .list 3 1 (l.map encI)
@[go_sem] theorem flat_encI : ∀ l : List Int, flatTs (l.map encI)
  | [] => by simp [flatTs]
  | p :: r => by simp [flatTs, flatT, encI, flat_encI r]
theorem takeI_step {α : Type} {a b : List α} {k : Nat} {x : α} (ha : a[k]? = some x) (hb : b[k]? = some x) (h : a.take k = b.take k) : a.take (k + 1) = b.take (k + 1) := by
  rw [take_snoc ha, take_snoc hb, h]
theorem takeI_ne {α : Type} {a b : List α} {k : Nat} {x y : α} (ha : a[k]? = some x) (hb : b[k]? = some y) (e : x ≠ y) : a ≠ b := by
  rintro rfl
  rw [ha] at hb
  exact e (Option.some.inj hb)
set_option maxRecDepth 100000 in
set_option maxHeartbeats 4000000 in
theorem ints_fn (a b : List Int) (ha : a.length ≤ 100000000) (r : Bool) (hr : decide (a = b) = r) : FnOk Try.prog 20 [.t (encIs a), .t (encIs b)] [] (.t (.bool r)) [] := by
  subst hr
  refine FnOk.intro fact_mixed Try.func20 rfl Try.ntmps20 (by rfl) (by simp) ?_
  by_cases hl : a.length = b.length
  · repeat (refine nf1_sound rfl ?_; simp [go_sem, ↓IntWalk.iteOmega, IntWalk.iteOmega, IntWalk.toNatUp, hl]; (repeat (refine And.intro (by omega) ?_)); try (refine ⟨DrawChk_of (by kernel_rfl), ?_⟩))
    refine nf1_sound' _ _ _ ?_; simp only [nf1]
    refine CW.loop (ι := Nat) (fun k => ⟨[(0, .t (encIs a)), (1, .t (encIs b)), (12, .t (.int b.length)), (13, .t (.int k))], []⟩) (fun k => k ≤ b.length ∧ a.take k = b.take k) (fun k => b.length - k) 0 [] ⟨by omega, by simp⟩ ?_ ?_
    · simp [go_sem, ↓IntWalk.iteOmega, IntWalk.iteOmega, IntWalk.toNatUp]
    rintro k ⟨hk, ht⟩
    by_cases hb : k < b.length
    · obtain ⟨p, hp⟩ := has_get (show k < a.length by omega)
      obtain ⟨q, hq⟩ := has_get hb
      by_cases e1 : p = q
      · subst e1
        repeat (refine nf1_sound rfl ?_; simp [go_sem, ↓IntWalk.iteOmega, IntWalk.iteOmega, IntWalk.toNatUp, hp, hq]; (repeat (refine And.intro (by omega) ?_)); try (refine ⟨DrawChk_of (by kernel_rfl), ?_⟩))
        rw [RoundQ_normal]; refine ⟨k + 1, [], ?_, ?_, ?_⟩
        · exact ⟨by omega, takeI_step hp hq ht⟩
        · omega
        simp [go_sem, ↓IntWalk.iteOmega, IntWalk.iteOmega, IntWalk.toNatUp]
      · have hn := takeI_ne hp hq e1
        repeat (refine nf1_sound rfl ?_; simp [go_sem, ↓IntWalk.iteOmega, IntWalk.iteOmega, IntWalk.toNatUp, hp, hq, e1]; (repeat (refine And.intro (by omega) ?_)); try (refine ⟨DrawChk_of (by kernel_rfl), ?_⟩))
        first | rw [RetQ_ret] | rw [RetQ_normal]
        refine ⟨[], ?_⟩
        simp [go_sem, ↓IntWalk.iteOmega, IntWalk.iteOmega, IntWalk.toNatUp, hn]
    · obtain rfl : k = b.length := by omega
      have hab : a = b := by rw [List.take_length] at ht; rw [← ht, ← hl, List.take_length]
      repeat (refine nf1_sound rfl ?_; simp [go_sem, ↓IntWalk.iteOmega, IntWalk.iteOmega, IntWalk.toNatUp]; (repeat (refine And.intro (by omega) ?_)); try (refine ⟨DrawChk_of (by kernel_rfl), ?_⟩))
      first | rw [RetQ_ret] | rw [RetQ_normal]
      refine ⟨[], ?_⟩
      simp [go_sem, ↓IntWalk.iteOmega, IntWalk.iteOmega, IntWalk.toNatUp, hab]
  · have hn : a ≠ b := fun h => hl (by rw [h])
    repeat (refine nf1_sound rfl ?_; simp [go_sem, ↓IntWalk.iteOmega, IntWalk.iteOmega, IntWalk.toNatUp, hl]; (repeat (refine And.intro (by omega) ?_)); try (refine ⟨DrawChk_of (by kernel_rfl), ?_⟩))
    first | rw [RetQ_ret] | rw [RetQ_normal]
    refine ⟨[], ?_⟩
    simp [go_sem, ↓IntWalk.iteOmega, IntWalk.iteOmega, IntWalk.toNatUp, hn]
end Go.Proofs.Ytgfofmdpbabinaa
