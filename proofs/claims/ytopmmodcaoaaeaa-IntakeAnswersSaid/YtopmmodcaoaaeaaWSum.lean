/- Sum as a contract. No condition. -/
import Derived.Test.YtopmmodcaoaaeaaWPut
import Derived.Test.YtopmmodcaoaaeaaCrcPlain
namespace Go.Proofs.Ytopmmodcaoaaeaa
open Go.RowKit Sy
open Go.IntWalk renaming iteOmega → iO, toNatUp → tN
set_option linter.unusedVariables false
set_option linter.unusedSimpArgs false
theorem not_nat {st : Nat} (h : st < 4294967296) : 4294967295 ^^^ st = 4294967295 - st := by
  have h1 : (BitVec.allOnes 32 ^^^ BitVec.ofNat 32 st).toNat = (~~~ BitVec.ofNat 32 st).toNat := by rw [BitVec.allOnes_xor]
  rw [BitVec.toNat_xor, BitVec.toNat_not, BitVec.toNat_ofNat, BitVec.toNat_allOnes, Nat.mod_eq_of_lt (by omega)] at h1
  exact h1
theorem not_u32 {st : Nat} (h : st < 4294967296) : bits BinOp.xor IntKind.u32 4294967295 (st : Int) = ((4294967295 - st : Nat) : Int) := by
  have h1 : (4294967295 : Int) = ((4294967295 : Nat) : Int) := by omega
  rw [h1, u32_xor_nat _ _ (by omega) h, not_nat h]
theorem bit_step {n y : Nat} (h : n < 4294967296) (hy : n &&& 1 = y) : y ≤ 1 ∧ bits BinOp.and IntKind.u32 (n : Int) 1 = (y : Int) ∧ bits BinOp.xor IntKind.u32 ((n : Int) / 2) (3988292384 * (y : Int)) = ((Crc.bit n : Nat) : Int) := by
  have h0 : y ≤ 1 := by rw [← hy, Nat.and_one_is_mod]; omega
  have h1 := u32_and_nat n 1 h (by omega)
  have h2 : bits BinOp.and IntKind.u32 (n : Int) 1 = ((n &&& 1 : Nat) : Int) := h1
  rw [hy] at h2
  refine ⟨h0, h2, ?_⟩
  have h3 : (n : Int) / 2 = ((n / 2 : Nat) : Int) := by omega
  have h4 : (3988292384 * (y : Int)) = ((3988292384 * y : Nat) : Int) := by omega
  rw [h3, h4, u32_xor_nat _ _ (by omega) (by omega)]
  unfold Crc.bit
  rw [hy, Nat.mod_eq_of_lt (by omega)]
theorem upd_step {x c : Nat} (hx : x < 4294967296) (hc : c < 256) : bits BinOp.xor IntKind.u8 ((x % 256 : Nat) : Int) (c : Int) = (((x % 256) ^^^ c : Nat) : Int) ∧
    bits BinOp.xor IntKind.u32 ((Crc.tab ((x % 256) ^^^ c) : Nat) : Int) ((x : Int) / 256) = ((Crc.upd x c : Nat) : Int) := by
  refine ⟨u8_xor_nat _ _ (by omega) hc, ?_⟩
  have h3 : (x : Int) / 256 = ((x / 256 : Nat) : Int) := by omega
  rw [h3, u32_xor_nat _ _ (Crc.tab_lt (Crc.idx_lt hc)) (by omega)]
  rfl
def tabL (k : Nat) : List Nat := (List.range 256).map fun j => if j < k then Crc.tab j else 0
theorem tabs_ex : ∃ L : Nat → List Nat, L 0 = List.replicate 256 0 ∧ (∀ k, k < 256 → (L k).set k (Crc.tab k) = L (k + 1)) ∧ (∀ k, (L k).length = 256) ∧ ∀ j, j < 256 → (L 256)[j]? = some (Crc.tab j) := by
  refine ⟨tabL, ?_, ?_, ?_, ?_⟩
  · apply List.ext_getElem?
    intro i
    simp only [tabL, List.getElem?_map, List.getElem?_replicate]
    by_cases hi : i < 256
    · rw [List.getElem?_range hi, if_pos hi]; rfl
    · rw [List.getElem?_eq_none (by simpa using Nat.le_of_not_lt hi), if_neg hi]; rfl
  · intro k hk
    apply List.ext_getElem?
    intro i
    simp only [tabL, List.getElem?_set, List.getElem?_map, List.length_map, List.length_range]
    by_cases hi : i < 256
    · by_cases e : k = i
      · subst e
        rw [if_pos rfl, if_pos hk, List.getElem?_range hk]
        simp
      · rw [if_neg e, List.getElem?_range hi]
        simp only [Option.map_some]
        congr 1
        by_cases h1 : i < k
        · rw [if_pos h1, if_pos (by omega)]
        · rw [if_neg h1, if_neg (by omega)]
    · rw [List.getElem?_eq_none (l := List.range 256) (by simpa using Nat.le_of_not_lt hi), if_neg (by omega)]
      rfl
  · intro k; simp [tabL]
  · intro j hj
    simp only [tabL, List.getElem?_map]
    rw [List.getElem?_range hj]
    simp [hj]
set_option maxRecDepth 100000 in
set_option maxHeartbeats 8000000 in
theorem sumU_fn (bs : List Nat) (hb : bs.length ≤ 9223372036854775807) (h8 : ∀ c ∈ bs, c < 256) : FnOk Try.prog 88 [.t (encUs bs)] [] (.t (.lit (.int .u32 (Crc.sum bs)))) [] := by
  obtain ⟨L, l0, ls, ll, lg⟩ := tabs_ex
  refine FnOk.intro fact_mixed Try.func88 rfl Try.ntmps88 (by rfl) (by simp) ?_
  repeat (first | (refine nf1_sound rfl ?_; simp [go_sem, ↓iO, iO, tN]; (repeat (refine anI ?_)); try (refine ⟨dcK, ?_⟩)) | ((first | refine itePos (by omega) ?_ | refine iteNeg (by omega) ?_); try simp [go_sem, ↓iO, iO, tN]) | (refine ⟨dcK, ?_⟩))
  refine nf1_sound' _ _ _ ?_; simp only [nf1]
  refine CW.loop (ι := Nat) (fun k => ⟨[(0, .t (encUs bs)), (3, .pt 503 [] 0), (9, .t (.int k))], [(503, .box 125 (.t (.agg ((L k).map encD))))]⟩) (fun k => k ≤ 256) (fun k => 256 - k) 0 [(503, some 103)] (by omega) ?_ ?_
  · simp [go_sem, ↓iO, iO, tN, l0]
  intro k hk
  by_cases hk2 : k < 256
  · repeat (first | (refine nf1_sound rfl ?_; simp [go_sem, ↓iO, iO, tN]; (repeat (refine anI ?_)); try (refine ⟨dcK, ?_⟩)) | ((first | refine itePos (by omega) ?_ | refine iteNeg (by omega) ?_); try simp [go_sem, ↓iO, iO, tN]) | (refine ⟨dcK, ?_⟩))
    refine nf1_sound' _ _ _ ?_; simp only [nf1]
    refine CW.loop (ι := Nat) (fun j => ⟨[(0, .t (encUs bs)), (3, .pt 603 [] 0), (4, .t (.int k)), (9, .t (.int k)), (5, .t (.lit (.int .u32 (Crc.bitsN j k)))), (14, .t (.int j))], [(603, .box 125 (.t (.agg ((L k).map encD))))]⟩) (fun j => j ≤ 8) (fun j => 8 - j) 0 [(603, some 503)] (by omega) ?_ ?_
    · simp [go_sem, ↓iO, iO, tN, Crc.bitsN]
    intro j hj
    have hlt := Crc.bitsN_lt (x := k) (by omega) j
    by_cases hj8 : j < 8
    · have hnx : Crc.bitsN (j + 1) k = Crc.bit (Crc.bitsN j k) := rfl
      obtain ⟨x, hx⟩ : ∃ x, Crc.bitsN j k = x := ⟨_, rfl⟩
      rw [hx] at hlt hnx ⊢
      obtain ⟨y, hy⟩ : ∃ y, x &&& 1 = y := ⟨_, rfl⟩
      obtain ⟨q1, q2, q3⟩ := bit_step hlt hy
      repeat (first | (refine nf1_sound rfl ?_; simp [go_sem, ↓iO, iO, tN, q2, q3]; (repeat (refine anI ?_)); try (refine ⟨dcK, ?_⟩)) | ((first | refine itePos (by omega) ?_ | refine iteNeg (by omega) ?_); try simp [go_sem, ↓iO, iO, tN, q2, q3]) | (refine ⟨dcK, ?_⟩))
      rw [RoundQ_normal]; refine ⟨j + 1, [(603, some 603)], ?_, ?_, ?_⟩
      · omega
      · omega
      simp [go_sem, ↓iO, iO, tN, hnx, q2, q3]
    · obtain rfl : j = 8 := by omega
      have hset := ls k hk2
      have hlen := ll k
      have htab : Crc.bitsN 8 k = Crc.tab k := rfl
      rw [htab]
      obtain ⟨V, hV⟩ : ∃ V, L k = V := ⟨_, rfl⟩
      rw [hV] at hset hlen ⊢
      obtain ⟨c, hc⟩ := has_get (show k < V.length by omega)
      have hs2 : (V.map encD).set k (encD (Crc.tab k)) = (L (k + 1)).map encD := by rw [← hset, List.map_set]
      simp only [encD] at hs2
      repeat (first | (refine nf1_sound rfl ?_; simp [go_sem, ↓iO, iO, tN, hc]; (repeat (refine anI ?_)); try (refine ⟨dcK, ?_⟩)) | ((first | refine itePos (by omega) ?_ | refine iteNeg (by omega) ?_); try simp [go_sem, ↓iO, iO, tN, hc]) | (refine ⟨dcK, ?_⟩))
      rw [RoundQ_normal]; refine ⟨k + 1, [(503, some 603)], ?_, ?_, ?_⟩
      · omega
      · omega
      simp [go_sem, ↓iO, iO, tN, hs2]
  · obtain rfl : k = 256 := by omega
    have hlen := ll 256
    obtain ⟨V, hV⟩ : ∃ V, L 256 = V := ⟨_, rfl⟩
    rw [hV] at hlen lg ⊢
    repeat (first | (refine nf1_sound rfl ?_; simp [go_sem, ↓iO, iO, tN]; (repeat (refine anI ?_)); try (refine ⟨dcK, ?_⟩)) | ((first | refine itePos (by omega) ?_ | refine iteNeg (by omega) ?_); try simp [go_sem, ↓iO, iO, tN]) | (refine ⟨dcK, ?_⟩))
    refine nf1_sound' _ _ _ ?_; simp only [nf1]
    refine CW.loop (ι := Nat) (fun j => ⟨[(3, .pt 603 [] 0), (6, .t (.lit (.int .u32 (Crc.run (bs.take j))))), (27, .t (encUs bs)), (28, .t (.int bs.length)), (29, .t (.int j))], [(603, .box 125 (.t (.agg (V.map encD))))]⟩) (fun j => j ≤ bs.length) (fun j => bs.length - j) 0 [(603, some 503)] (by omega) ?_ ?_
    · simp [go_sem, ↓iO, iO, tN, Crc.run]
    intro j hj
    have hlt : Crc.run (bs.take j) < 4294967296 := Crc.run_lt fun c hc => h8 c (List.mem_of_mem_take hc)
    by_cases hjl : j < bs.length
    · obtain ⟨c, hc⟩ := has_get hjl
      have hc8 := h8 c (mem_get hc)
      have hnx : Crc.run (bs.take (j + 1)) = Crc.upd (Crc.run (bs.take j)) c := by unfold Crc.run; rw [take_snoc hc, List.foldl_append]; rfl
      obtain ⟨x, hx⟩ : ∃ x, Crc.run (bs.take j) = x := ⟨_, rfl⟩
      rw [hx] at hlt hnx ⊢
      obtain ⟨q1, q2⟩ := upd_step hlt hc8
      have hi := Crc.idx_lt (x := x) hc8
      have hgt := lg _ hi
      obtain ⟨m, hm⟩ : ∃ m, (x % 256) ^^^ c = m := ⟨_, rfl⟩
      rw [hm] at q1 q2 hi hgt
      have e1 : ((x % 256 : Nat) : Int) = (x : Int) % 256 := by omega
      rw [e1] at q1
      by_cases hx8 : x ≤ 255
      · have e2 : (x : Int) % 256 = x := by omega
        rw [e2] at q1
        repeat (first | (refine nf1_sound rfl ?_; simp [go_sem, ↓iO, iO, tN, hc, q1, hgt, q2]; (repeat (refine anI ?_)); try (refine ⟨dcK, ?_⟩)) | ((first | refine itePos (by omega) ?_ | refine iteNeg (by omega) ?_); try simp [go_sem, ↓iO, iO, tN, hc, q1, hgt, q2]) | (refine ⟨dcK, ?_⟩))
        rw [RoundQ_normal]; refine ⟨j + 1, [(603, some 603)], ?_, ?_, ?_⟩
        · omega
        · omega
        simp [go_sem, ↓iO, iO, tN, hnx]
      · have ew := u8_wrap (x : Int)
        repeat (first | (refine nf1_sound rfl ?_; simp [go_sem, ↓iO, iO, tN, hc, ew, q1, hgt, q2]; (repeat (refine anI ?_)); try (refine ⟨dcK, ?_⟩)) | ((first | refine itePos (by omega) ?_ | refine iteNeg (by omega) ?_); try simp [go_sem, ↓iO, iO, tN, hc, ew, q1, hgt, q2]) | (refine ⟨dcK, ?_⟩))
        rw [RoundQ_normal]; refine ⟨j + 1, [(603, some 603)], ?_, ?_, ?_⟩
        · omega
        · omega
        simp [go_sem, ↓iO, iO, tN, hnx]
    · obtain rfl : j = bs.length := by omega
      rw [List.take_length] at hlt ⊢
      have hsum : Crc.sum bs = 4294967295 - Crc.run bs := rfl
      have hn := not_u32 hlt
      rw [← hsum] at hn
      repeat (first | (refine nf1_sound rfl ?_; simp [go_sem, ↓iO, iO, tN, hn]; (repeat (refine anI ?_)); try (refine ⟨dcK, ?_⟩)) | ((first | refine itePos (by omega) ?_ | refine iteNeg (by omega) ?_); try simp [go_sem, ↓iO, iO, tN, hn]) | (refine ⟨dcK, ?_⟩))
      first | rw [RetQ_ret] | rw [RetQ_normal]
      refine ⟨[], ?_⟩
      simp [go_sem, ↓iO, iO, tN]
end Go.Proofs.Ytopmmodcaoaaeaa
