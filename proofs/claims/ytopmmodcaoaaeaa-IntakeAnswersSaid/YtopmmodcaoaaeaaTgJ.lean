/- Chapter 02's reference: Sum and Sealed as contracts. No condition. -/
import Derived.Test.YtopmmodcaoaaeaaTgA
import Derived.Test.YtopmmodcaoaaeaaRefPlain
namespace Go.Proofs.Ytopmmodcaoaaeaa
open Go.RowKit Sy
open Go.IntWalk renaming iteOmega → iO, toNatUp → tN
set_option linter.unusedVariables false
set_option linter.unusedSimpArgs false
theorem half_step {n : Nat} (h : n < 4294967296) : (n % 2 = 0 ∧ Crc.bit n = n / 2 ∨ n % 2 = 1 ∧ bits BinOp.xor IntKind.u32 ((n : Int) / 2) 3988292384 = ((Crc.bit n : Nat) : Int)) := by
  obtain ⟨h0, h1, h2⟩ := bit_step (y := n &&& 1) h rfl
  have h3 : n &&& 1 = n % 2 := Nat.and_one_is_mod n
  by_cases e : n % 2 = 0
  · refine .inl ⟨e, ?_⟩
    unfold Crc.bit
    rw [h3, e]; simp
  · refine .inr ⟨by omega, ?_⟩
    rw [h3, show n % 2 = 1 by omega] at h2
    exact h2
set_option maxRecDepth 100000 in
set_option maxHeartbeats 8000000 in
theorem rsum_fn (bs : List Nat) (hb : bs.length ≤ 1000000) (h8 : ∀ c ∈ bs, c < 256) : FnOk Try.prog 73 [.t (encUs bs)] [] (.t (.lit (.int .u32 (Crc.sum bs)))) [] := by
  refine FnOk.intro fact_mixed Try.func73 rfl Try.ntmps73 (by rfl) (by simp) ?_
  repeat (first | (refine nf1_sound rfl ?_; simp [go_sem, ↓iO, iO, tN]; (repeat (refine anI ?_)); try (refine ⟨dcK, ?_⟩)) | ((first | refine itePos (by omega) ?_ | refine iteNeg (by omega) ?_); try simp [go_sem, ↓iO, iO, tN]) | (refine ⟨dcK, ?_⟩))
  refine nf1_sound' _ _ _ ?_; simp only [nf1]
  refine CW.loop (ι := Nat) (fun j => ⟨[(0, .t (encUs bs)), (3, .t (.lit (.int .u32 (Crc.run (bs.take j))))), (8, .t (.int bs.length)), (9, .t (.int j))], []⟩) (fun j => j ≤ bs.length) (fun j => bs.length - j) 0 [] (by omega) ?_ ?_
  · simp [go_sem, ↓iO, iO, tN, Crc.run]
  intro j hj
  have hlt : Crc.run (bs.take j) < 4294967296 := Crc.run_lt fun c hc => h8 c (List.mem_of_mem_take hc)
  by_cases hjl : j < bs.length
  · obtain ⟨c, hc⟩ := has_get hjl
    have hc8 := h8 c (mem_get hc)
    have hnx : Crc.run (bs.take (j + 1)) = Crc.upd (Crc.run (bs.take j)) c := by unfold Crc.run; rw [take_snoc hc, List.foldl_append]; rfl
    obtain ⟨x, hx⟩ : ∃ x, Crc.run (bs.take j) = x := ⟨_, rfl⟩
    rw [hx] at hlt hnx ⊢
    have hxc := u32_xor_nat x c hlt (by omega)
    have hb8 := Crc.bits_upd (r := x) hc8
    have hlt2 : x ^^^ c < 4294967296 := Nat.xor_lt_two_pow (n := 32) hlt (by omega)
    obtain ⟨y, hy⟩ : ∃ y, x ^^^ c = y := ⟨_, rfl⟩
    rw [hy] at hxc hb8 hlt2
    repeat (first | (refine nf1_sound rfl ?_; simp [go_sem, ↓iO, iO, tN, hc, hxc]; (repeat (refine anI ?_)); try (refine ⟨dcK, ?_⟩)) | ((first | refine itePos (by omega) ?_ | refine iteNeg (by omega) ?_); try simp [go_sem, ↓iO, iO, tN, hc, hxc]) | (refine ⟨dcK, ?_⟩))
    refine nf1_sound' _ _ _ ?_; simp only [nf1]
    refine CW.loop (ι := Nat) (fun k => ⟨[(0, .t (encUs bs)), (3, .t (.lit (.int .u32 (Crc.bitsN k y)))), (5, .t (.int k)), (8, .t (.int bs.length)), (9, .t (.int j))], []⟩) (fun k => k ≤ 8) (fun k => 8 - k) 0 [] (by omega) ?_ ?_
    · simp [go_sem, ↓iO, iO, tN, Crc.bitsN]
    intro k hk
    have hltk := Crc.bitsN_lt hlt2 k
    by_cases hk8 : k < 8
    · have hnk : Crc.bitsN (k + 1) y = Crc.bit (Crc.bitsN k y) := rfl
      obtain ⟨z, hz⟩ : ∃ z, Crc.bitsN k y = z := ⟨_, rfl⟩
      rw [hz] at hltk hnk ⊢
      obtain ⟨q0, q1, _⟩ := bit_step (y := z &&& 1) hltk rfl
      rw [Nat.and_one_is_mod] at q0 q1
      rcases half_step hltk with ⟨p1, p2⟩ | ⟨p1, p2⟩
      · rw [p1] at q1
        repeat (first | (refine nf1_sound rfl ?_; simp [go_sem, ↓iO, iO, tN, q1]; (repeat (refine anI ?_)); try (refine ⟨dcK, ?_⟩)) | ((first | refine itePos (by omega) ?_ | refine iteNeg (by omega) ?_); try simp [go_sem, ↓iO, iO, tN, q1]) | (refine ⟨dcK, ?_⟩))
        rw [RoundQ_normal]; refine ⟨k + 1, [], ?_, ?_, ?_⟩
        · omega
        · omega
        simp [go_sem, ↓iO, iO, tN, hnk, p2]
      · rw [p1] at q1
        repeat (first | (refine nf1_sound rfl ?_; simp [go_sem, ↓iO, iO, tN, q1, p2]; (repeat (refine anI ?_)); try (refine ⟨dcK, ?_⟩)) | ((first | refine itePos (by omega) ?_ | refine iteNeg (by omega) ?_); try simp [go_sem, ↓iO, iO, tN, q1, p2]) | (refine ⟨dcK, ?_⟩))
        rw [RoundQ_normal]; refine ⟨k + 1, [], ?_, ?_, ?_⟩
        · omega
        · omega
        simp [go_sem, ↓iO, iO, tN, hnk]
    · obtain rfl : k = 8 := by omega
      repeat (first | (refine nf1_sound rfl ?_; simp [go_sem, ↓iO, iO, tN]; (repeat (refine anI ?_)); try (refine ⟨dcK, ?_⟩)) | ((first | refine itePos (by omega) ?_ | refine iteNeg (by omega) ?_); try simp [go_sem, ↓iO, iO, tN]) | (refine ⟨dcK, ?_⟩))
      rw [RoundQ_normal]; refine ⟨j + 1, [], ?_, ?_, ?_⟩
      · omega
      · omega
      simp [go_sem, ↓iO, iO, tN, hnx, hb8]
  · obtain rfl : j = bs.length := by omega
    rw [List.take_length] at hlt ⊢
    have hsum : Crc.sum bs = 4294967295 - Crc.run bs := rfl
    have hn := not_u32 hlt
    rw [← hsum] at hn
    repeat (first | (refine nf1_sound rfl ?_; simp [go_sem, ↓iO, iO, tN, hn]; (repeat (refine anI ?_)); try (refine ⟨dcK, ?_⟩)) | ((first | refine itePos (by omega) ?_ | refine iteNeg (by omega) ?_); try simp [go_sem, ↓iO, iO, tN, hn]) | (refine ⟨dcK, ?_⟩))
    first | rw [RetQ_ret] | rw [RetQ_normal]
    refine ⟨[], ?_⟩
    simp [go_sem, ↓iO, iO, tN]
set_option maxRecDepth 100000 in
set_option maxHeartbeats 4000000 in
theorem rsealed_fn (bs : List Nat) (hb : bs.length ≤ 1000000) (h8 : ∀ c ∈ bs, c < 256) : FnOk Try.prog 48 [.t (encUs bs)] [] (.own 1000) [(1000, blkU (sealV bs))] := by
  have c := rsum_fn bs (by omega) h8
  have hs := sum_u32 bs
  unfold sealV
  obtain ⟨s, hse⟩ : ∃ s, Crc.sum bs = s := ⟨_, rfl⟩
  rw [hse] at c hs ⊢
  have a0 : ∀ K : Value → Prop, arK .u8 (s : Int) K = K (.int .u8 ((s % 256 : Nat) : Int)) := fun K => arK_u8 (by omega) (by omega) K
  have a1 : ∀ K : Value → Prop, arK .u8 ((s : Int) / 256) K = K (.int .u8 ((s / 256 % 256 : Nat) : Int)) := fun K => arK_u8 (by omega) (by omega) K
  have a2 : ∀ K : Value → Prop, arK .u8 ((s : Int) / 65536) K = K (.int .u8 ((s / 65536 % 256 : Nat) : Int)) := fun K => arK_u8 (by omega) (by omega) K
  have a3 : ∀ K : Value → Prop, arK .u8 ((s : Int) / 16777216) K = K (.int .u8 ((s / 16777216 % 256 : Nat) : Int)) := fun K => arK_u8 (by omega) (by omega) K
  refine FnOk.intro fact_mixed Try.func48 rfl Try.ntmps48 (by rfl) (by simp) ?_
  repeat (first | (refine nf1_sound rfl ?_; simp [go_sem, ↓iO, iO, tN]; (repeat (refine anI ?_)); try (refine ⟨dcK, ?_⟩)) | ((first | refine itePos (by omega) ?_ | refine iteNeg (by omega) ?_); try simp [go_sem, ↓iO, iO, tN]) | (refine ⟨dcK, ?_⟩))
  refine CallK.fn (c) [] [] [] (by kernel_rfl) ?_ ?_ ?_ (Or.inl rfl) ?_ <;> simp [go_sem, ↓iO, iO, tN]
  repeat (refine anI ?_)
  try (refine ⟨dcK, ?_⟩)
  repeat (first | (refine nf1_sound rfl ?_; simp [go_sem, ↓iO, iO, tN, ↓a0, ↓a1, ↓a2, ↓a3]; (repeat (refine anI ?_)); try (refine ⟨dcK, ?_⟩)) | ((first | refine itePos (by omega) ?_ | refine iteNeg (by omega) ?_); try simp [go_sem, ↓iO, iO, tN, ↓a0, ↓a1, ↓a2, ↓a3]) | (refine ⟨dcK, ?_⟩))
  first | rw [RetQ_ret] | rw [RetQ_normal]
  refine ⟨[(1000, some 121)], ?_⟩
  simp [go_sem, ↓iO, iO, tN]
end Go.Proofs.Ytopmmodcaoaaeaa
