/- The law TelegramDamage. No condition. -/
import Derived.Test.YtakfgmkdknjfdaaTgH
import Derived.Test.YtakfgmkdknjfdaaTgI
import Derived.Test.YtakfgmkdknjfdaaTgL
import Derived.Test.YtakfgmkdknjfdaaTgW
import Derived.Test.YtakfgmkdknjfdaaKArg
import Derived.Test.YtakfgmkdknjfdaaKMod
namespace Go.Proofs.Ytakfgmkdknjfdaa
open Go.RowKit Sy
set_option linter.unusedVariables false
set_option linter.unusedSimpArgs false
theorem xor_ne {c m : Nat} (h : 1 ≤ m) : c ^^^ m ≠ c := by
  intro e
  have h1 : c ^^^ (c ^^^ m) = m := by rw [← Nat.xor_assoc, Nat.xor_self, Nat.zero_xor]
  rw [e, Nat.xor_self] at h1
  omega
set_option maxRecDepth 100000 in
set_option maxHeartbeats 16000000 in
theorem damage_fn (l : List Int) (a : Int) (b : Nat) (hl : l.length ≤ 9223372036854775807) (wl : ∀ z ∈ l, -9223372036854775808 ≤ z ∧ z ≤ 9223372036854775807) (hb : b < 256) :
    FnOk Try.prog 4 [.t (encIs l), .t (.int a), .t (.lit (.int .u8 b))] [] (.t (.bool true)) [] := by
  have hnl := new_fn l hl
  obtain ⟨k1, t, g1, g2, g3, g4, ca⟩ := telegram_ex (new_ok wl) 9 (by omega)
  obtain ⟨L, hL⟩ : ∃ L, newL2 l = L := ⟨_, rfl⟩
  rw [hL] at hnl ca
  have ci := rinside_fn t g2
  have hI8 : ∀ c ∈ insideV t, c < 256 := sealV_b8 (putL_b8 (numsL t))
  have hIl := inside_len g2
  have hI1 : 4 ≤ (insideV t).length := by unfold insideV sealV; simp
  have hdam := fun i d h => damage g2 (i := i) (d := d) h
  obtain ⟨I, hI⟩ : ∃ I, insideV t = I := ⟨_, rfl⟩
  rw [hI] at ci hI8 hIl hI1 hdam
  have cm := mod_fn a I.length (by omega)
  have hj := modN_range (x := a) (n := I.length) (by omega)
  obtain ⟨q, hq⟩ : ∃ q, modN a I.length = q := ⟨_, rfl⟩
  rw [hq] at cm hj
  obtain ⟨j, rfl⟩ : ∃ j : Nat, q = (j : Int) := ⟨q.toNat, by omega⟩
  obtain ⟨c, hc⟩ := has_get (show j < I.length by omega)
  have hc8 := hI8 c (mem_get hc)
  obtain ⟨m, hm, hm1, hm8⟩ : ∃ m : Nat, max (b : Int) 1 = (m : Int) ∧ 1 ≤ m ∧ m < 256 := ⟨max b 1, by omega, by omega, by omega⟩
  have hx := u8_xor_nat c m hc8 hm8
  have hd8 : c ^^^ m < 256 := Nat.xor_lt_two_pow (n := 8) hc8 hm8
  have hne := xor_ne (c := c) hm1
  obtain ⟨d, hd⟩ : ∃ d, c ^^^ m = d := ⟨_, rfl⟩
  rw [hd] at hx hd8 hne
  have he := hdam j d (by omega) hd8 (by rw [hc]; intro h; exact hne (Option.some.inj h).symm)
  have hs8 : ∀ z ∈ I.set j d, z < 256 := fun z hz => by
    rcases List.mem_or_eq_of_mem_set hz with h | h
    · exact hI8 z h
    · rw [h]; exact hd8
  have hset : (I.map encU).set j (encU d) = (I.set j d).map encU := by rw [List.map_set]
  have hsl : (I.set j d).length = I.length := List.length_set
  obtain ⟨D, hD⟩ : ∃ D, I.set j d = D := ⟨_, rfl⟩
  rw [hD] at he hs8 hset hsl
  have cs := rstuff_fn D (by omega) hs8
  have hf8 := Wire.stuff_lt hs8
  have hfl : (Wire.stuff D).length ≤ 1000000 := by
    rw [Wire.stuff_length]
    have := (Wire.body_length D).2
    omega
  obtain ⟨F, hF⟩ : ∃ F, Wire.stuff D = F := ⟨_, rfl⟩
  rw [hF] at cs hf8 hfl he
  obtain ⟨u, e, hue⟩ : ∃ u e, decV F = (u, e) := ⟨_, _, rfl⟩
  have cd := decode_fn F hfl hf8 u e hue
  rw [hue] at he
  dsimp only at he
  simp only [encU] at hset
  clear hdam hF hue hD hd hI g1 g2 hL hq
  obtain ⟨t1, t2, t3, t4, t5, vs⟩ := t
  dsimp only at g3 g4
  refine FnOk.intro fact_mixed Try.func4 rfl Try.ntmps4 (by rfl) (by simp) ?_
  repeat (first | (refine nf1_sound rfl ?_; simp [go_sem, ↓IntWalk.iteOmega, IntWalk.iteOmega, IntWalk.toNatUp]; (repeat (refine And.intro (by omega) ?_)); try (refine ⟨DrawChk_of (by kernel_rfl), ?_⟩)) | (refine itePos (by omega) ?_; try simp [go_sem, ↓IntWalk.iteOmega, IntWalk.iteOmega, IntWalk.toNatUp]) | (refine iteNeg (by omega) ?_; try simp [go_sem, ↓IntWalk.iteOmega, IntWalk.iteOmega, IntWalk.toNatUp]) | (refine ⟨DrawChk_of (by kernel_rfl), ?_⟩))
  refine CallK.fn (hnl) [(1000, 612)] [] [] (by kernel_rfl) (by simp [go_sem, ↓IntWalk.iteOmega, IntWalk.iteOmega, IntWalk.toNatUp]) (by simp [go_sem, ↓IntWalk.iteOmega, IntWalk.iteOmega, IntWalk.toNatUp]) (by simp [go_sem, ↓IntWalk.iteOmega, IntWalk.iteOmega, IntWalk.toNatUp]) (Or.inl rfl) ?_
  simp [go_sem, ↓IntWalk.iteOmega, IntWalk.iteOmega, IntWalk.toNatUp]
  repeat (refine And.intro (by omega) ?_)
  try (refine ⟨DrawChk_of (by kernel_rfl), ?_⟩)
  repeat (first | (refine nf1_sound rfl ?_; simp [go_sem, ↓IntWalk.iteOmega, IntWalk.iteOmega, IntWalk.toNatUp]; (repeat (refine And.intro (by omega) ?_)); try (refine ⟨DrawChk_of (by kernel_rfl), ?_⟩)) | (refine itePos (by omega) ?_; try simp [go_sem, ↓IntWalk.iteOmega, IntWalk.iteOmega, IntWalk.toNatUp]) | (refine iteNeg (by omega) ?_; try simp [go_sem, ↓IntWalk.iteOmega, IntWalk.iteOmega, IntWalk.toNatUp]) | (refine ⟨DrawChk_of (by kernel_rfl), ?_⟩))
  refine CallK.fn (ca) [(0, 612), (1000, 613)] [] [] (by kernel_rfl) (by simp [go_sem, ↓IntWalk.iteOmega, IntWalk.iteOmega, IntWalk.toNatUp]) (by simp [go_sem, ↓IntWalk.iteOmega, IntWalk.iteOmega, IntWalk.toNatUp]) (by simp [go_sem, ↓IntWalk.iteOmega, IntWalk.iteOmega, IntWalk.toNatUp]) (Or.inl rfl) ?_
  simp [go_sem, ↓IntWalk.iteOmega, IntWalk.iteOmega, IntWalk.toNatUp]
  repeat (refine And.intro (by omega) ?_)
  try (refine ⟨DrawChk_of (by kernel_rfl), ?_⟩)
  repeat (first | (refine nf1_sound rfl ?_; simp [go_sem, ↓IntWalk.iteOmega, IntWalk.iteOmega, IntWalk.toNatUp]; (repeat (refine And.intro (by omega) ?_)); try (refine ⟨DrawChk_of (by kernel_rfl), ?_⟩)) | (refine itePos (by omega) ?_; try simp [go_sem, ↓IntWalk.iteOmega, IntWalk.iteOmega, IntWalk.toNatUp]) | (refine iteNeg (by omega) ?_; try simp [go_sem, ↓IntWalk.iteOmega, IntWalk.iteOmega, IntWalk.toNatUp]) | (refine ⟨DrawChk_of (by kernel_rfl), ?_⟩))
  refine CallK.fn (ci) [(1000, 615)] [613] [] (by kernel_rfl) (by simp [go_sem, ↓IntWalk.iteOmega, IntWalk.iteOmega, IntWalk.toNatUp]) (by simp [go_sem, ↓IntWalk.iteOmega, IntWalk.iteOmega, IntWalk.toNatUp]) (by simp [go_sem, ↓IntWalk.iteOmega, IntWalk.iteOmega, IntWalk.toNatUp]) (Or.inr ⟨by simp [go_sem, ↓IntWalk.iteOmega, IntWalk.iteOmega, IntWalk.toNatUp], by simp [go_sem, ↓IntWalk.iteOmega, IntWalk.iteOmega, IntWalk.toNatUp]⟩) ?_
  simp [go_sem, ↓IntWalk.iteOmega, IntWalk.iteOmega, IntWalk.toNatUp]
  repeat (refine And.intro (by omega) ?_)
  try (refine ⟨DrawChk_of (by kernel_rfl), ?_⟩)
  repeat (first | (refine nf1_sound rfl ?_; simp [go_sem, ↓IntWalk.iteOmega, IntWalk.iteOmega, IntWalk.toNatUp]; (repeat (refine And.intro (by omega) ?_)); try (refine ⟨DrawChk_of (by kernel_rfl), ?_⟩)) | (refine itePos (by omega) ?_; try simp [go_sem, ↓IntWalk.iteOmega, IntWalk.iteOmega, IntWalk.toNatUp]) | (refine iteNeg (by omega) ?_; try simp [go_sem, ↓IntWalk.iteOmega, IntWalk.iteOmega, IntWalk.toNatUp]) | (refine ⟨DrawChk_of (by kernel_rfl), ?_⟩))
  refine CallK.fn (cm) [] [] [] (by kernel_rfl) (by simp [go_sem, ↓IntWalk.iteOmega, IntWalk.iteOmega, IntWalk.toNatUp, hc, hm, hx, hset]) (by simp [go_sem, ↓IntWalk.iteOmega, IntWalk.iteOmega, IntWalk.toNatUp, hc, hm, hx, hset]) (by simp [go_sem, ↓IntWalk.iteOmega, IntWalk.iteOmega, IntWalk.toNatUp, hc, hm, hx, hset]) (Or.inl rfl) ?_
  simp [go_sem, ↓IntWalk.iteOmega, IntWalk.iteOmega, IntWalk.toNatUp, hc, hm, hx, hset]
  repeat (refine And.intro (by omega) ?_)
  try (refine ⟨DrawChk_of (by kernel_rfl), ?_⟩)
  repeat (first | (refine nf1_sound rfl ?_; simp [go_sem, ↓IntWalk.iteOmega, IntWalk.iteOmega, IntWalk.toNatUp, hc, hm, hx, hset]; (repeat (refine And.intro (by omega) ?_)); try (refine ⟨DrawChk_of (by kernel_rfl), ?_⟩)) | (refine itePos (by omega) ?_; try simp [go_sem, ↓IntWalk.iteOmega, IntWalk.iteOmega, IntWalk.toNatUp, hc, hm, hx, hset]) | (refine iteNeg (by omega) ?_; try simp [go_sem, ↓IntWalk.iteOmega, IntWalk.iteOmega, IntWalk.toNatUp, hc, hm, hx, hset]) | (refine ⟨DrawChk_of (by kernel_rfl), ?_⟩))
  refine CallK.fn (cs) [(1000, 629)] [615] [] (by kernel_rfl) (by simp [go_sem, ↓IntWalk.iteOmega, IntWalk.iteOmega, IntWalk.toNatUp, hset]) (by simp [go_sem, ↓IntWalk.iteOmega, IntWalk.iteOmega, IntWalk.toNatUp, hset]) (by simp [go_sem, ↓IntWalk.iteOmega, IntWalk.iteOmega, IntWalk.toNatUp, hset]) (Or.inr ⟨by simp [go_sem, ↓IntWalk.iteOmega, IntWalk.iteOmega, IntWalk.toNatUp, hset], by simp [go_sem, ↓IntWalk.iteOmega, IntWalk.iteOmega, IntWalk.toNatUp, hset]⟩) ?_
  simp [go_sem, ↓IntWalk.iteOmega, IntWalk.iteOmega, IntWalk.toNatUp, hset]
  repeat (refine And.intro (by omega) ?_)
  try (refine ⟨DrawChk_of (by kernel_rfl), ?_⟩)
  refine CallK.fn (cd) [(1000, 630)] [629] [] (by kernel_rfl) (by simp [go_sem, ↓IntWalk.iteOmega, IntWalk.iteOmega, IntWalk.toNatUp]) (by simp [go_sem, ↓IntWalk.iteOmega, IntWalk.iteOmega, IntWalk.toNatUp]) (by simp [go_sem, ↓IntWalk.iteOmega, IntWalk.iteOmega, IntWalk.toNatUp]) (Or.inr ⟨by simp [go_sem, ↓IntWalk.iteOmega, IntWalk.iteOmega, IntWalk.toNatUp], by simp [go_sem, ↓IntWalk.iteOmega, IntWalk.iteOmega, IntWalk.toNatUp]⟩) ?_
  simp [go_sem, ↓IntWalk.iteOmega, IntWalk.iteOmega, IntWalk.toNatUp]
  repeat (refine And.intro (by omega) ?_)
  try (refine ⟨DrawChk_of (by kernel_rfl), ?_⟩)
  repeat (first | (refine nf1_sound rfl ?_; simp [go_sem, ↓IntWalk.iteOmega, IntWalk.iteOmega, IntWalk.toNatUp, he]; (repeat (refine And.intro (by omega) ?_)); try (refine ⟨DrawChk_of (by kernel_rfl), ?_⟩)) | (refine itePos (by omega) ?_; try simp [go_sem, ↓IntWalk.iteOmega, IntWalk.iteOmega, IntWalk.toNatUp, he]) | (refine iteNeg (by omega) ?_; try simp [go_sem, ↓IntWalk.iteOmega, IntWalk.iteOmega, IntWalk.toNatUp, he]) | (refine ⟨DrawChk_of (by kernel_rfl), ?_⟩))
  refine CallK.fn (awake_fn) [] [] [] (by kernel_rfl) (by simp [go_sem, ↓IntWalk.iteOmega, IntWalk.iteOmega, IntWalk.toNatUp]) (by simp [go_sem, ↓IntWalk.iteOmega, IntWalk.iteOmega, IntWalk.toNatUp]) (by simp [go_sem, ↓IntWalk.iteOmega, IntWalk.iteOmega, IntWalk.toNatUp]) (Or.inl rfl) ?_
  simp [go_sem, ↓IntWalk.iteOmega, IntWalk.iteOmega, IntWalk.toNatUp]
  repeat (refine And.intro (by omega) ?_)
  try (refine ⟨DrawChk_of (by kernel_rfl), ?_⟩)
  repeat (first | (refine nf1_sound rfl ?_; simp [go_sem, ↓IntWalk.iteOmega, IntWalk.iteOmega, IntWalk.toNatUp]; (repeat (refine And.intro (by omega) ?_)); try (refine ⟨DrawChk_of (by kernel_rfl), ?_⟩)) | (refine itePos (by omega) ?_; try simp [go_sem, ↓IntWalk.iteOmega, IntWalk.iteOmega, IntWalk.toNatUp]) | (refine iteNeg (by omega) ?_; try simp [go_sem, ↓IntWalk.iteOmega, IntWalk.iteOmega, IntWalk.toNatUp]) | (refine ⟨DrawChk_of (by kernel_rfl), ?_⟩))
  first | rw [RetQ_ret] | rw [RetQ_normal]
  refine ⟨[], ?_⟩
  simp [go_sem, ↓IntWalk.iteOmega, IntWalk.iteOmega, IntWalk.toNatUp]
theorem damage_all (x0 x1 x2 : T) (h0 : InSh (.sl (.int .i64)) x0) (h1 : InSh (.int .i64) x1) (h2 : InSh (.int .u8) x2) :
    FnOk Try.prog 4 [.t x0, .t x1, .t x2] [] (.t (.bool true)) [] := by
  obtain ⟨l, rfl, hl, wl⟩ := ints_in h0
  obtain ⟨a, rfl, _⟩ := int_in h1
  obtain ⟨n, rfl, hw⟩ := insh_int h2
  simp [Lit.wf, IntKind.min, IntKind.max, IntKind.signed, IntKind.bits] at hw
  obtain ⟨m, rfl⟩ : ∃ m : Nat, n = (m : Int) := ⟨n.toNat, by omega⟩
  exact damage_fn l a m hl wl (by omega)
end Go.Proofs.Ytakfgmkdknjfdaa
