/- PutInt as a contract. No condition. -/
import Derived.Test.YtgncmbjkahpdiaaFacts
import Derived.Test.YtgncmbjkahpdiaaWBits
namespace Go.Proofs.Ytgncmbjkahpdiaa
open Go.RowKit Sy
set_option linter.unusedVariables false
set_option linter.unusedSimpArgs false
@[go_sem] def encUs (l : List Nat) : T := .sl 1 (l.map encU)
@[go_sem] def blkU (l : List Nat) : Blk := .list 5 1 (l.map encU)
@[go_sem] theorem flat_encU : ∀ l : List Nat, flatTs (l.map encU)
  | [] => by simp [flatTs]
  | p :: r => by simp [flatTs, flatT, encU, flat_encU r]
def putZ (z : Int) : List Nat := Wire.put (Wire.fold z)
set_option maxRecDepth 100000 in
set_option maxHeartbeats 8000000 in
theorem put_fn (bs : List Nat) (z : Int) (hb : bs.length ≤ 1099511627776) (h1 : -9223372036854775808 ≤ z) (h2 : z ≤ 9223372036854775807) :
    FnOk Try.prog 26 [.t (encUs bs), .t (.int z)] [] (.own 1000) [(1000, blkU (bs ++ putZ z))] := by
  have hlt := Wire.fold_lt h1 h2
  have hp10 := Wire.put_len10 hlt
  by_cases hz : 0 ≤ z
  · have hx := fold_pos hz h2
    unfold putZ
    obtain ⟨F, hF⟩ : ∃ F, Wire.fold z = F := ⟨_, rfl⟩
    rw [hF] at hx hlt hp10 ⊢
    refine FnOk.intro fact_mixed Try.func26 rfl Try.ntmps26 (by rfl) (by simp) ?_
    repeat (first | (refine nf1_sound rfl ?_; simp [go_sem, ↓IntWalk.iteOmega, IntWalk.iteOmega, IntWalk.toNatUp, hx]; (repeat (refine And.intro (by omega) ?_)); try (refine ⟨DrawChk_of (by kernel_rfl), ?_⟩)) | (refine itePos (by omega) ?_; try simp [go_sem, ↓IntWalk.iteOmega, IntWalk.iteOmega, IntWalk.toNatUp, hx]) | (refine iteNeg (by omega) ?_; try simp [go_sem, ↓IntWalk.iteOmega, IntWalk.iteOmega, IntWalk.toNatUp, hx]) | (refine ⟨DrawChk_of (by kernel_rfl), ?_⟩))
    refine nf1_sound' _ _ _ ?_; simp only [nf1]
    refine CW.loop (ι := Nat × List Nat) (fun p => ⟨[(5, .t (.lit (.int .u64 p.1))), (6, .own 500)], [(500, blkU (bs ++ p.2))]⟩) (fun p => p.2 ++ Wire.put p.1 = Wire.put F ∧ p.1 < 18446744073709551616) (fun p => p.1) (F, []) [(500, some 115)] ⟨by simp, hlt⟩ ?_ ?_
    · simp [go_sem, ↓IntWalk.iteOmega, IntWalk.iteOmega, IntWalk.toNatUp]
    rintro ⟨u, q⟩ ⟨hq, hu⟩
    dsimp only at hq hu ⊢
    have hqs : q.length ≤ 10 := by
      have := congrArg List.length hq
      rw [List.length_append] at this
      have := Wire.put_pos u
      omega
    by_cases hb2 : 128 ≤ u
    · have ho := or_128 (c := u % 256) (by omega)
      have ew := u8_wrap u
      have e3 : (u : Int) % 256 = ((u % 256 : Nat) : Int) := by omega
      have e5 : u % 256 % 128 = u % 128 := by omega
      rw [e3] at ew
      rw [e5] at ho
      rw [Wire.put_big hb2] at hq
      by_cases hu8 : u ≤ 255
      · have e4 : u % 256 = u := by omega
        rw [e4] at ho
        repeat (first | (refine nf1_sound rfl ?_; simp [go_sem, ↓IntWalk.iteOmega, IntWalk.iteOmega, IntWalk.toNatUp, ho]; (repeat (refine And.intro (by omega) ?_)); try (refine ⟨DrawChk_of (by kernel_rfl), ?_⟩)) | (refine itePos (by omega) ?_; try simp [go_sem, ↓IntWalk.iteOmega, IntWalk.iteOmega, IntWalk.toNatUp, ho]) | (refine iteNeg (by omega) ?_; try simp [go_sem, ↓IntWalk.iteOmega, IntWalk.iteOmega, IntWalk.toNatUp, ho]) | (refine ⟨DrawChk_of (by kernel_rfl), ?_⟩))
        rw [RoundQ_normal]; refine ⟨(u / 128, q ++ [u % 128 + 128]), [(500, some 125)], ?_, ?_, ?_⟩
        · exact ⟨by simpa using hq, by dsimp only; omega⟩
        · dsimp only
          omega
        simp [go_sem, ↓IntWalk.iteOmega, IntWalk.iteOmega, IntWalk.toNatUp]
      · have e6 : bits BinOp.or IntKind.u8 ((u : Int) % 256) 128 = ((u % 128 + 128 : Nat) : Int) := by rw [e3, ho]
        repeat (first | (refine nf1_sound rfl ?_; simp [go_sem, ↓IntWalk.iteOmega, IntWalk.iteOmega, IntWalk.toNatUp, ew]; (repeat (refine And.intro (by omega) ?_)); try (refine ⟨DrawChk_of (by kernel_rfl), ?_⟩)) | (refine itePos (by omega) ?_; try simp [go_sem, ↓IntWalk.iteOmega, IntWalk.iteOmega, IntWalk.toNatUp, ew]) | (refine iteNeg (by omega) ?_; try simp [go_sem, ↓IntWalk.iteOmega, IntWalk.iteOmega, IntWalk.toNatUp, ew]) | (refine ⟨DrawChk_of (by kernel_rfl), ?_⟩))
        rw [RoundQ_normal]; refine ⟨(u / 128, q ++ [u % 128 + 128]), [(500, some 125)], ?_, ?_, ?_⟩
        · exact ⟨by simpa using hq, by dsimp only; omega⟩
        · dsimp only
          omega
        simp [go_sem, ↓IntWalk.iteOmega, IntWalk.iteOmega, IntWalk.toNatUp]
        rw [e6]
        rfl
    · rw [Wire.put_small (by omega)] at hq
      repeat (first | (refine nf1_sound rfl ?_; simp [go_sem, ↓IntWalk.iteOmega, IntWalk.iteOmega, IntWalk.toNatUp]; (repeat (refine And.intro (by omega) ?_)); try (refine ⟨DrawChk_of (by kernel_rfl), ?_⟩)) | (refine itePos (by omega) ?_; try simp [go_sem, ↓IntWalk.iteOmega, IntWalk.iteOmega, IntWalk.toNatUp]) | (refine iteNeg (by omega) ?_; try simp [go_sem, ↓IntWalk.iteOmega, IntWalk.iteOmega, IntWalk.toNatUp]) | (refine ⟨DrawChk_of (by kernel_rfl), ?_⟩))
      first | rw [RetQ_ret] | rw [RetQ_normal]
      refine ⟨[(1000, some 130)], ?_⟩
      simp [go_sem, ↓IntWalk.iteOmega, IntWalk.iteOmega, IntWalk.toNatUp]
      rw [← hq]
      simp [go_sem, ↓IntWalk.iteOmega, IntWalk.iteOmega, IntWalk.toNatUp]
  · have hx := fold_neg (show z < 0 by omega) h1
    have w1 : IntKind.u64.wrap z = z + 18446744073709551616 := by rw [u64_wrap]; omega
    have w2 : IntKind.u64.wrap ((z + 18446744073709551616) * 2) = 2 * z + 18446744073709551616 := by rw [u64_wrap]; omega
    have w3 : IntKind.u64.wrap (z / 9223372036854775808) = 18446744073709551615 := by rw [u64_wrap]; omega
    unfold putZ
    obtain ⟨F, hF⟩ : ∃ F, Wire.fold z = F := ⟨_, rfl⟩
    rw [hF] at hx hlt hp10 ⊢
    refine FnOk.intro fact_mixed Try.func26 rfl Try.ntmps26 (by rfl) (by simp) ?_
    repeat (first | (refine nf1_sound rfl ?_; simp [go_sem, ↓IntWalk.iteOmega, IntWalk.iteOmega, IntWalk.toNatUp, w1, w2, w3, hx]; (repeat (refine And.intro (by omega) ?_)); try (refine ⟨DrawChk_of (by kernel_rfl), ?_⟩)) | (refine itePos (by omega) ?_; try simp [go_sem, ↓IntWalk.iteOmega, IntWalk.iteOmega, IntWalk.toNatUp, w1, w2, w3, hx]) | (refine iteNeg (by omega) ?_; try simp [go_sem, ↓IntWalk.iteOmega, IntWalk.iteOmega, IntWalk.toNatUp, w1, w2, w3, hx]) | (refine ⟨DrawChk_of (by kernel_rfl), ?_⟩))
    refine nf1_sound' _ _ _ ?_; simp only [nf1]
    refine CW.loop (ι := Nat × List Nat) (fun p => ⟨[(5, .t (.lit (.int .u64 p.1))), (6, .own 500)], [(500, blkU (bs ++ p.2))]⟩) (fun p => p.2 ++ Wire.put p.1 = Wire.put F ∧ p.1 < 18446744073709551616) (fun p => p.1) (F, []) [(500, some 115)] ⟨by simp, hlt⟩ ?_ ?_
    · simp [go_sem, ↓IntWalk.iteOmega, IntWalk.iteOmega, IntWalk.toNatUp]
    rintro ⟨u, q⟩ ⟨hq, hu⟩
    dsimp only at hq hu ⊢
    have hqs : q.length ≤ 10 := by
      have := congrArg List.length hq
      rw [List.length_append] at this
      have := Wire.put_pos u
      omega
    by_cases hb2 : 128 ≤ u
    · have ho := or_128 (c := u % 256) (by omega)
      have ew := u8_wrap u
      have e3 : (u : Int) % 256 = ((u % 256 : Nat) : Int) := by omega
      have e5 : u % 256 % 128 = u % 128 := by omega
      rw [e3] at ew
      rw [e5] at ho
      rw [Wire.put_big hb2] at hq
      by_cases hu8 : u ≤ 255
      · have e4 : u % 256 = u := by omega
        rw [e4] at ho
        repeat (first | (refine nf1_sound rfl ?_; simp [go_sem, ↓IntWalk.iteOmega, IntWalk.iteOmega, IntWalk.toNatUp, ho]; (repeat (refine And.intro (by omega) ?_)); try (refine ⟨DrawChk_of (by kernel_rfl), ?_⟩)) | (refine itePos (by omega) ?_; try simp [go_sem, ↓IntWalk.iteOmega, IntWalk.iteOmega, IntWalk.toNatUp, ho]) | (refine iteNeg (by omega) ?_; try simp [go_sem, ↓IntWalk.iteOmega, IntWalk.iteOmega, IntWalk.toNatUp, ho]) | (refine ⟨DrawChk_of (by kernel_rfl), ?_⟩))
        rw [RoundQ_normal]; refine ⟨(u / 128, q ++ [u % 128 + 128]), [(500, some 125)], ?_, ?_, ?_⟩
        · exact ⟨by simpa using hq, by dsimp only; omega⟩
        · dsimp only
          omega
        simp [go_sem, ↓IntWalk.iteOmega, IntWalk.iteOmega, IntWalk.toNatUp]
      · have e6 : bits BinOp.or IntKind.u8 ((u : Int) % 256) 128 = ((u % 128 + 128 : Nat) : Int) := by rw [e3, ho]
        repeat (first | (refine nf1_sound rfl ?_; simp [go_sem, ↓IntWalk.iteOmega, IntWalk.iteOmega, IntWalk.toNatUp, ew]; (repeat (refine And.intro (by omega) ?_)); try (refine ⟨DrawChk_of (by kernel_rfl), ?_⟩)) | (refine itePos (by omega) ?_; try simp [go_sem, ↓IntWalk.iteOmega, IntWalk.iteOmega, IntWalk.toNatUp, ew]) | (refine iteNeg (by omega) ?_; try simp [go_sem, ↓IntWalk.iteOmega, IntWalk.iteOmega, IntWalk.toNatUp, ew]) | (refine ⟨DrawChk_of (by kernel_rfl), ?_⟩))
        rw [RoundQ_normal]; refine ⟨(u / 128, q ++ [u % 128 + 128]), [(500, some 125)], ?_, ?_, ?_⟩
        · exact ⟨by simpa using hq, by dsimp only; omega⟩
        · dsimp only
          omega
        simp [go_sem, ↓IntWalk.iteOmega, IntWalk.iteOmega, IntWalk.toNatUp]
        rw [e6]
        rfl
    · rw [Wire.put_small (by omega)] at hq
      repeat (first | (refine nf1_sound rfl ?_; simp [go_sem, ↓IntWalk.iteOmega, IntWalk.iteOmega, IntWalk.toNatUp]; (repeat (refine And.intro (by omega) ?_)); try (refine ⟨DrawChk_of (by kernel_rfl), ?_⟩)) | (refine itePos (by omega) ?_; try simp [go_sem, ↓IntWalk.iteOmega, IntWalk.iteOmega, IntWalk.toNatUp]) | (refine iteNeg (by omega) ?_; try simp [go_sem, ↓IntWalk.iteOmega, IntWalk.iteOmega, IntWalk.toNatUp]) | (refine ⟨DrawChk_of (by kernel_rfl), ?_⟩))
      first | rw [RetQ_ret] | rw [RetQ_normal]
      refine ⟨[(1000, some 130)], ?_⟩
      simp [go_sem, ↓IntWalk.iteOmega, IntWalk.iteOmega, IntWalk.toNatUp]
      rw [← hq]
      simp [go_sem, ↓IntWalk.iteOmega, IntWalk.iteOmega, IntWalk.toNatUp]
end Go.Proofs.Ytgncmbjkahpdiaa
