/- The law JournalBytes. No condition. -/
import Derived.Test.YtgncmbjkahpdiaaJoSizes
namespace Go.Proofs.Ytgncmbjkahpdiaa
open Go.RowKit Sy
set_option linter.unusedVariables false
set_option linter.unusedSimpArgs false
theorem zeros_b8 (n : Nat) : Bytes (List.replicate n 0) := fun c hc => by rw [List.eq_of_mem_replicate hc]; omega
/-- What the loop puts together: frames of zeros. -/
theorem zframes_ex (l : List Nat) : ∃ Y : Nat → List Nat, Y 0 = [] ∧ (∀ k c, l[k]? = some c → Y (k + 1) = Y k ++ fr (List.replicate (c % 70) 0)) ∧ (∀ k, (Y k).length ≤ 80 * k) ∧ ∀ k, Bytes (Y k) := by
  refine ⟨fun k => frs ((l.take k).map fun c => List.replicate (c % 70) 0), by simp [frs], fun k c h => ?_, fun k => ?_, fun k => ?_⟩
  · dsimp only
    rw [take_snoc h, List.map_append, frs_app]
    simp [frs]
  · dsimp only
    have : ∀ m : List Nat, (frs (m.map fun c => List.replicate (c % 70) 0)).length ≤ 80 * m.length := by
      intro m
      induction m with
      | nil => simp [frs]
      | cons c r ih =>
        have h2 := fr_len300 (b := List.replicate (c % 70) 0) (by simp; omega)
        rw [List.length_replicate] at h2
        rw [List.map_cons, frs_cons, List.length_append, List.length_cons]
        omega
    have h := this (l.take k)
    rw [List.length_take] at h
    omega
  · exact frs_b8 fun b hb => by
      obtain ⟨c, _, rfl⟩ := List.mem_map.1 hb
      exact zeros_b8 _
theorem rem_any {x n : Int} (hn : 1 ≤ n) : ∃ q, (-n < q ∧ q < n) ∧ ∀ K : Value → Prop, binV .rem (.int .i64 x) (.int .i64 n) K = K (.int .i64 q) := by
  have h1 := Int.emod_nonneg x (show n ≠ 0 by omega)
  have h2 := Int.emod_lt_of_pos x (show 0 < n by omega)
  by_cases h : 0 ≤ x
  · refine ⟨x % n, by omega, fun K => ?_⟩
    unfold binV
    dsimp only
    rw [if_pos ⟨h, hn⟩]
    simp
  · refine ⟨x.tmod n, ?_, fun K => ?_⟩
    · rw [Int.tmod_eq_emod]
      split <;> omega
    · unfold binV
      dsimp only
      rw [if_neg (by omega), if_neg (by omega)]
      simp
theorem rem_pos {x n : Int} (hx : 0 ≤ x) (hn : 1 ≤ n) : ∃ j : Nat, (j : Int) < n ∧ ∀ K : Value → Prop, binV .rem (.int .i64 x) (.int .i64 n) K = K (.int .i64 (j : Int)) := by
  have h1 := Int.emod_nonneg x (show n ≠ 0 by omega)
  have h2 := Int.emod_lt_of_pos x (show 0 < n by omega)
  obtain ⟨j, hj⟩ : ∃ j : Nat, x % n = (j : Int) := ⟨(x % n).toNat, by omega⟩
  refine ⟨j, by omega, fun K => ?_⟩
  unfold binV
  dsimp only
  rw [if_pos ⟨hx, hn⟩, hj]
  simp
set_option maxRecDepth 100000 in
set_option maxHeartbeats 16000000 in
theorem jbytes_fn (l : List Nat) (at_ : Int) (by_ how : Nat) (hl : l.length ≤ 9223372036854775807) (hl8 : ∀ c ∈ l, c < 256) (hby : by_ < 256) (hhow : how < 256) :
    FnOk Try.prog 5 [.t (encUs l), .t (.int at_), .t (.lit (.int .u8 by_)), .t (.lit (.int .u8 how))] [] (.t (.bool true)) [] := by
  by_cases hl20 : 20 < l.length
  · refine FnOk.intro fact_mixed Try.func5 rfl Try.ntmps5 (by rfl) (by simp) ?_
    repeat (first | (refine nf1_sound rfl ?_; simp [go_sem, ↓IntWalk.iteOmega, IntWalk.iteOmega, IntWalk.toNatUp]; (repeat (refine And.intro (by omega) ?_)); try (refine ⟨DrawChk_of (by kernel_rfl), ?_⟩)) | (refine itePos (by omega) ?_; try simp [go_sem, ↓IntWalk.iteOmega, IntWalk.iteOmega, IntWalk.toNatUp]) | (refine iteNeg (by omega) ?_; try simp [go_sem, ↓IntWalk.iteOmega, IntWalk.iteOmega, IntWalk.toNatUp]) | (refine ⟨DrawChk_of (by kernel_rfl), ?_⟩))
    refine CallK.fn (awake_fn) [] [] [] (by kernel_rfl) (by simp [go_sem, ↓IntWalk.iteOmega, IntWalk.iteOmega, IntWalk.toNatUp]) (by simp [go_sem, ↓IntWalk.iteOmega, IntWalk.iteOmega, IntWalk.toNatUp]) (by simp [go_sem, ↓IntWalk.iteOmega, IntWalk.iteOmega, IntWalk.toNatUp]) (Or.inl rfl) ?_
    simp [go_sem, ↓IntWalk.iteOmega, IntWalk.iteOmega, IntWalk.toNatUp]
    repeat (refine And.intro (by omega) ?_)
    try (refine ⟨DrawChk_of (by kernel_rfl), ?_⟩)
    repeat (first | (refine nf1_sound rfl ?_; simp [go_sem, ↓IntWalk.iteOmega, IntWalk.iteOmega, IntWalk.toNatUp]; (repeat (refine And.intro (by omega) ?_)); try (refine ⟨DrawChk_of (by kernel_rfl), ?_⟩)) | (refine itePos (by omega) ?_; try simp [go_sem, ↓IntWalk.iteOmega, IntWalk.iteOmega, IntWalk.toNatUp]) | (refine iteNeg (by omega) ?_; try simp [go_sem, ↓IntWalk.iteOmega, IntWalk.iteOmega, IntWalk.toNatUp]) | (refine ⟨DrawChk_of (by kernel_rfl), ?_⟩))
    first | rw [RetQ_ret] | rw [RetQ_normal]
    refine ⟨[], ?_⟩
    simp [go_sem, ↓IntWalk.iteOmega, IntWalk.iteOmega, IntWalk.toNatUp]
  obtain ⟨Y, y0, ys, yl, y8⟩ := zframes_ex l
  refine FnOk.intro fact_mixed Try.func5 rfl Try.ntmps5 (by rfl) (by simp) ?_
  repeat (first | (refine nf1_sound rfl ?_; simp [go_sem, ↓IntWalk.iteOmega, IntWalk.iteOmega, IntWalk.toNatUp]; (repeat (refine And.intro (by omega) ?_)); try (refine ⟨DrawChk_of (by kernel_rfl), ?_⟩)) | (refine itePos (by omega) ?_; try simp [go_sem, ↓IntWalk.iteOmega, IntWalk.iteOmega, IntWalk.toNatUp]) | (refine iteNeg (by omega) ?_; try simp [go_sem, ↓IntWalk.iteOmega, IntWalk.iteOmega, IntWalk.toNatUp]) | (refine ⟨DrawChk_of (by kernel_rfl), ?_⟩))
  refine nf1_sound' _ _ _ ?_; simp only [nf1]
  refine CW.loop (ι := Nat) (fun i => ⟨[(0, .t (encUs l)), (1, .t (.int at_)), (2, .t (.lit (.int .u8 by_))), (3, .t (.lit (.int .u8 how))), (9, .own 509), (10, .t (.int i))], [(509, blkU (Y i))]⟩) (fun i => i ≤ l.length) (fun i => l.length - i) 0 [(509, none)] (by omega) ?_ ?_
  · simp [go_sem, ↓IntWalk.iteOmega, IntWalk.iteOmega, IntWalk.toNatUp, y0]
  intro i hi
  have hYl := yl i
  have hY8 := y8 i
  by_cases hil : i < l.length
  · obtain ⟨c, hc⟩ := has_get hil
    have hc8 := hl8 c (mem_get hc)
    have hy := ys i c hc
    have h70 : ((c : Int) % 70).toNat = c % 70 := by omega
    obtain ⟨m, hm⟩ : ∃ m, c % 70 = m := ⟨_, rfl⟩
    rw [hm] at hy h70
    have hzr : List.replicate m (T.lit (.int .u8 0)) = (List.replicate m 0).map encU := by rw [List.map_replicate]; rfl
    have hzl : (List.replicate m 0).length = m := List.length_replicate
    have cf := frame_fn (List.replicate m 0) (by omega) _ _ (frame_ok (by omega))
    have hfl := fr_len300 (b := List.replicate m 0) (by omega)
    obtain ⟨Z, hZ⟩ : ∃ Z, List.replicate m 0 = Z := ⟨_, rfl⟩
    rw [hZ] at cf hzr hzl hy hfl
    obtain ⟨q, hq⟩ : ∃ q, fr Z = q := ⟨_, rfl⟩
    rw [hq] at hy cf hfl
    obtain ⟨V, hV⟩ : ∃ V, Y i = V := ⟨_, rfl⟩
    rw [hV] at hy hYl ⊢
    clear hZ hV hq
    repeat (first | (refine nf1_sound rfl ?_; simp [go_sem, ↓IntWalk.iteOmega, IntWalk.iteOmega, IntWalk.toNatUp, hc, h70, hzr]; (repeat (refine And.intro (by omega) ?_)); try (refine ⟨DrawChk_of (by kernel_rfl), ?_⟩)) | (refine itePos (by omega) ?_; try simp [go_sem, ↓IntWalk.iteOmega, IntWalk.iteOmega, IntWalk.toNatUp, hc, h70, hzr]) | (refine iteNeg (by omega) ?_; try simp [go_sem, ↓IntWalk.iteOmega, IntWalk.iteOmega, IntWalk.toNatUp, hc, h70, hzr]) | (refine ⟨DrawChk_of (by kernel_rfl), ?_⟩))
    refine CallK.fn (cf) [(1000, 136)] [135] [] (by kernel_rfl) (by simp [go_sem, ↓IntWalk.iteOmega, IntWalk.iteOmega, IntWalk.toNatUp, hzr]) (by simp [go_sem, ↓IntWalk.iteOmega, IntWalk.iteOmega, IntWalk.toNatUp, hzr]) (by simp [go_sem, ↓IntWalk.iteOmega, IntWalk.iteOmega, IntWalk.toNatUp, hzr]) (Or.inr ⟨by simp [go_sem, ↓IntWalk.iteOmega, IntWalk.iteOmega, IntWalk.toNatUp, hzr], by simp [go_sem, ↓IntWalk.iteOmega, IntWalk.iteOmega, IntWalk.toNatUp, hzr]⟩) ?_
    simp [go_sem, ↓IntWalk.iteOmega, IntWalk.iteOmega, IntWalk.toNatUp, hzr]
    repeat (refine And.intro (by omega) ?_)
    try (refine ⟨DrawChk_of (by kernel_rfl), ?_⟩)
    repeat (first | (refine nf1_sound rfl ?_; simp [go_sem, ↓IntWalk.iteOmega, IntWalk.iteOmega, IntWalk.toNatUp]; (repeat (refine And.intro (by omega) ?_)); try (refine ⟨DrawChk_of (by kernel_rfl), ?_⟩)) | (refine itePos (by omega) ?_; try simp [go_sem, ↓IntWalk.iteOmega, IntWalk.iteOmega, IntWalk.toNatUp]) | (refine iteNeg (by omega) ?_; try simp [go_sem, ↓IntWalk.iteOmega, IntWalk.iteOmega, IntWalk.toNatUp]) | (refine ⟨DrawChk_of (by kernel_rfl), ?_⟩))
    rw [RoundQ_normal]; refine ⟨i + 1, [(509, some 143)], ?_, ?_, ?_⟩
    · omega
    · omega
    simp [go_sem, ↓IntWalk.iteOmega, IntWalk.iteOmega, IntWalk.toNatUp, hy]
  · obtain rfl : i = l.length := by omega
    obtain ⟨B, hB⟩ : ∃ B, Y l.length = B := ⟨_, rfl⟩
    rw [hB] at hYl hY8 ⊢
    clear y0 ys yl y8 hB
    iterate 2 (refine nf1_sound rfl ?_; simp [go_sem, ↓IntWalk.iteOmega, IntWalk.iteOmega, IntWalk.toNatUp]; (repeat (refine And.intro (by omega) ?_)); try (refine ⟨DrawChk_of (by kernel_rfl), ?_⟩))
    iterate 1 (refine nf1_sound rfl ?_; simp [go_sem, ↓IntWalk.iteOmega, IntWalk.iteOmega, IntWalk.toNatUp]; (repeat (refine And.intro (by omega) ?_)); try (refine ⟨DrawChk_of (by kernel_rfl), ?_⟩))
    refine CW.cut (ι := List Nat) (fun D => ⟨[(9, .t (encUs D))], []⟩) (fun D => Bytes D ∧ D.length ≤ 2000) ?_ ?_
    · by_cases h0 : B.length = 0
      · obtain ⟨D, hD, hD8⟩ : ∃ D, D = B ∧ Bytes D := ⟨_, rfl, hY8⟩
        have hDl : D.length ≤ 2000 := by rw [hD]; omega
        repeat (first | (refine nf1_sound rfl ?_; simp [go_sem, ↓IntWalk.iteOmega, IntWalk.iteOmega, IntWalk.toNatUp]; (repeat (refine And.intro (by omega) ?_)); try (refine ⟨DrawChk_of (by kernel_rfl), ?_⟩)) | (refine itePos (by omega) ?_; try simp [go_sem, ↓IntWalk.iteOmega, IntWalk.iteOmega, IntWalk.toNatUp]) | (refine iteNeg (by omega) ?_; try simp [go_sem, ↓IntWalk.iteOmega, IntWalk.iteOmega, IntWalk.toNatUp]) | (refine ⟨DrawChk_of (by kernel_rfl), ?_⟩))
        rw [CutQ_normal]; refine ⟨D, [], ?_, ?_⟩
        · exact ⟨hD8, hDl⟩
        simp [go_sem, ↓IntWalk.iteOmega, IntWalk.iteOmega, IntWalk.toNatUp, hD]
      · obtain ⟨q1, hq1, hr1⟩ := rem_any (x := at_) (n := B.length) (by omega)
        obtain ⟨j, hj, hr2⟩ := rem_pos (x := q1 + B.length) (n := B.length) (by omega) (by omega)
        have hj2 : j < B.length := by omega
        have hc4 : (how : Int) % 4 = 0 ∨ (how : Int) % 4 = 1 ∨ (how : Int) % 4 = 2 ∨ (how : Int) % 4 = 3 := by omega
        rcases hc4 with h4 | h4 | h4 | h4
        · obtain ⟨c, hc⟩ := has_get hj2
          obtain ⟨D, hD, hD8⟩ : ∃ D, B.set j by_ = D ∧ Bytes D := ⟨_, rfl, fun z hz => by
            rcases List.mem_or_eq_of_mem_set hz with h | h
            · exact hY8 z h
            · rw [h]; exact hby⟩
          have hDl : D.length ≤ 2000 := by rw [← hD, List.length_set]; omega
          have hDs : (B.map encU).set j (T.lit (.int .u8 by_)) = D.map encU := by rw [← hD, List.map_set]; rfl
          repeat (first | (refine nf1_sound rfl ?_; simp [go_sem, ↓IntWalk.iteOmega, IntWalk.iteOmega, IntWalk.toNatUp, ↓hr1, ↓hr2, h4, hc, hDs]; (repeat (refine And.intro (by omega) ?_)); try (refine ⟨DrawChk_of (by kernel_rfl), ?_⟩)) | (refine itePos (by omega) ?_; try simp [go_sem, ↓IntWalk.iteOmega, IntWalk.iteOmega, IntWalk.toNatUp, ↓hr1, ↓hr2, h4, hc, hDs]) | (refine iteNeg (by omega) ?_; try simp [go_sem, ↓IntWalk.iteOmega, IntWalk.iteOmega, IntWalk.toNatUp, ↓hr1, ↓hr2, h4, hc, hDs]) | (refine ⟨DrawChk_of (by kernel_rfl), ?_⟩))
          rw [CutQ_normal]; refine ⟨D, [], ?_, ?_⟩
          · exact ⟨hD8, hDl⟩
          simp [go_sem, ↓IntWalk.iteOmega, IntWalk.iteOmega, IntWalk.toNatUp, hDs]
        · obtain ⟨D, hD, hD8⟩ : ∃ D, B.take j ++ B.drop (j + 1) = D ∧ Bytes D := ⟨_, rfl, fun z hz => by
            rcases List.mem_append.1 hz with h | h
            · exact hY8 z (List.mem_of_mem_take h)
            · exact hY8 z (List.mem_of_mem_drop h)⟩
          have hDl : D.length ≤ 2000 := by rw [← hD, List.length_append, List.length_take, List.length_drop]; omega
          have hjn : ((j : Int) + 1).toNat = j + 1 := by omega
          have hDs : List.take j (B.map encU) ++ List.take (B.length - (j + 1)) (List.drop (j + 1) (B.map encU)) = D.map encU := by
            rw [← hD, List.map_append, List.map_take, List.map_drop, List.take_of_length_le (l := List.drop (j + 1) (B.map encU)) (by simp)]
          iterate 8 (refine nf1_sound rfl ?_; simp [go_sem, ↓IntWalk.iteOmega, IntWalk.iteOmega, IntWalk.toNatUp, ↓hr1, ↓hr2, h4]; (repeat (refine And.intro (by omega) ?_)); try (refine ⟨DrawChk_of (by kernel_rfl), ?_⟩))
          refine CW.weak (ρ := [(509, some 509)]) (σ' := ⟨[(9, .wn 509 [] 0 B.length), (13, .t (.int j))], [(509, blkU B)]⟩) ?_ ?_
          · simp [go_sem, ↓IntWalk.iteOmega, IntWalk.iteOmega, IntWalk.toNatUp]
            try omega
          repeat (first | (refine nf1_sound rfl ?_; simp [go_sem, ↓IntWalk.iteOmega, IntWalk.iteOmega, IntWalk.toNatUp, hjn, hDs]; (repeat (refine And.intro (by omega) ?_)); try (refine ⟨DrawChk_of (by kernel_rfl), ?_⟩)) | (refine itePos (by omega) ?_; try simp [go_sem, ↓IntWalk.iteOmega, IntWalk.iteOmega, IntWalk.toNatUp, hjn, hDs]) | (refine iteNeg (by omega) ?_; try simp [go_sem, ↓IntWalk.iteOmega, IntWalk.iteOmega, IntWalk.toNatUp, hjn, hDs]) | (refine ⟨DrawChk_of (by kernel_rfl), ?_⟩))
          rw [CutQ_normal]; refine ⟨D, [], ?_, ?_⟩
          · exact ⟨hD8, hDl⟩
          simp [go_sem, ↓IntWalk.iteOmega, IntWalk.iteOmega, IntWalk.toNatUp, hDs]
        · have hp8 : Bytes (putZ ((by_ : Int) - 100)) := put_b8 _
          have hp10 : (putZ ((by_ : Int) - 100)).length ≤ 10 := Wire.put_len10 (Wire.fold_lt (by omega) (by omega))
          have cp := rput_fn [] ((by_ : Int) - 100) (by simp) (by omega) (by omega)
          rw [List.nil_append] at cp
          obtain ⟨p, hp⟩ : ∃ p, putZ ((by_ : Int) - 100) = p := ⟨_, rfl⟩
          rw [hp] at cp hp8 hp10
          obtain ⟨D, hD, hD8⟩ : ∃ D, p ++ B = D ∧ Bytes D := ⟨_, rfl, bytes_app hp8 hY8⟩
          have hDl : D.length ≤ 2000 := by rw [← hD, List.length_append]; omega
          have hDs : p.map encU ++ B.map encU = D.map encU := by rw [← hD, List.map_append]
          repeat (first | (refine nf1_sound rfl ?_; simp [go_sem, ↓IntWalk.iteOmega, IntWalk.iteOmega, IntWalk.toNatUp, ↓hr1, ↓hr2, h4]; (repeat (refine And.intro (by omega) ?_)); try (refine ⟨DrawChk_of (by kernel_rfl), ?_⟩)) | (refine itePos (by omega) ?_; try simp [go_sem, ↓IntWalk.iteOmega, IntWalk.iteOmega, IntWalk.toNatUp, ↓hr1, ↓hr2, h4]) | (refine iteNeg (by omega) ?_; try simp [go_sem, ↓IntWalk.iteOmega, IntWalk.iteOmega, IntWalk.toNatUp, ↓hr1, ↓hr2, h4]) | (refine ⟨DrawChk_of (by kernel_rfl), ?_⟩))
          refine CallK.fn (cp) [(1000, 183)] [] [] (by kernel_rfl) (by simp [go_sem, ↓IntWalk.iteOmega, IntWalk.iteOmega, IntWalk.toNatUp, hDs]) (by simp [go_sem, ↓IntWalk.iteOmega, IntWalk.iteOmega, IntWalk.toNatUp, hDs]) (by simp [go_sem, ↓IntWalk.iteOmega, IntWalk.iteOmega, IntWalk.toNatUp, hDs]) (Or.inl rfl) ?_
          simp [go_sem, ↓IntWalk.iteOmega, IntWalk.iteOmega, IntWalk.toNatUp, hDs]
          repeat (refine And.intro (by omega) ?_)
          try (refine ⟨DrawChk_of (by kernel_rfl), ?_⟩)
          repeat (first | (refine nf1_sound rfl ?_; simp [go_sem, ↓IntWalk.iteOmega, IntWalk.iteOmega, IntWalk.toNatUp, hDs]; (repeat (refine And.intro (by omega) ?_)); try (refine ⟨DrawChk_of (by kernel_rfl), ?_⟩)) | (refine itePos (by omega) ?_; try simp [go_sem, ↓IntWalk.iteOmega, IntWalk.iteOmega, IntWalk.toNatUp, hDs]) | (refine iteNeg (by omega) ?_; try simp [go_sem, ↓IntWalk.iteOmega, IntWalk.iteOmega, IntWalk.toNatUp, hDs]) | (refine ⟨DrawChk_of (by kernel_rfl), ?_⟩))
          rw [CutQ_normal]; refine ⟨D, [], ?_, ?_⟩
          · exact ⟨hD8, hDl⟩
          simp [go_sem, ↓IntWalk.iteOmega, IntWalk.iteOmega, IntWalk.toNatUp, hDs]
        · obtain ⟨D, hD, hD8⟩ : ∃ D, B.take j = D ∧ Bytes D := ⟨_, rfl, fun z hz => hY8 z (List.mem_of_mem_take hz)⟩
          have hDl : D.length ≤ 2000 := by rw [← hD, List.length_take]; omega
          have hDs : List.take j (B.map encU) = D.map encU := by rw [← hD, List.map_take]
          repeat (first | (refine nf1_sound rfl ?_; simp [go_sem, ↓IntWalk.iteOmega, IntWalk.iteOmega, IntWalk.toNatUp, ↓hr1, ↓hr2, h4, hDs]; (repeat (refine And.intro (by omega) ?_)); try (refine ⟨DrawChk_of (by kernel_rfl), ?_⟩)) | (refine itePos (by omega) ?_; try simp [go_sem, ↓IntWalk.iteOmega, IntWalk.iteOmega, IntWalk.toNatUp, ↓hr1, ↓hr2, h4, hDs]) | (refine iteNeg (by omega) ?_; try simp [go_sem, ↓IntWalk.iteOmega, IntWalk.iteOmega, IntWalk.toNatUp, ↓hr1, ↓hr2, h4, hDs]) | (refine ⟨DrawChk_of (by kernel_rfl), ?_⟩))
          rw [CutQ_normal]; refine ⟨D, [], ?_, ?_⟩
          · exact ⟨hD8, hDl⟩
          simp [go_sem, ↓IntWalk.iteOmega, IntWalk.iteOmega, IntWalk.toNatUp, hDs]
    · rintro D ⟨hD8, hDl⟩
      obtain ⟨y, k, hyk⟩ : ∃ y k, readV D = (y, k) := ⟨_, _, rfl⟩
      have c1 := read_fn D (by omega) hD8 y k hyk
      have c2 := rread_fn D (by omega) hD8 y k hyk
      have sf := sameFrames_fn y (by have := read_count hyk; omega)
      clear hyk
      repeat (first | (refine nf1_sound rfl ?_; simp [go_sem, ↓IntWalk.iteOmega, IntWalk.iteOmega, IntWalk.toNatUp]; (repeat (refine And.intro (by omega) ?_)); try (refine ⟨DrawChk_of (by kernel_rfl), ?_⟩)) | (refine itePos (by omega) ?_; try simp [go_sem, ↓IntWalk.iteOmega, IntWalk.iteOmega, IntWalk.toNatUp]) | (refine iteNeg (by omega) ?_; try simp [go_sem, ↓IntWalk.iteOmega, IntWalk.iteOmega, IntWalk.toNatUp]) | (refine ⟨DrawChk_of (by kernel_rfl), ?_⟩))
      refine CallK.fn (c1) [(1000, 188)] [] [] (by kernel_rfl) (by simp [go_sem, ↓IntWalk.iteOmega, IntWalk.iteOmega, IntWalk.toNatUp]) (by simp [go_sem, ↓IntWalk.iteOmega, IntWalk.iteOmega, IntWalk.toNatUp]) (by simp [go_sem, ↓IntWalk.iteOmega, IntWalk.iteOmega, IntWalk.toNatUp]) (Or.inl rfl) ?_
      simp [go_sem, ↓IntWalk.iteOmega, IntWalk.iteOmega, IntWalk.toNatUp]
      repeat (refine And.intro (by omega) ?_)
      try (refine ⟨DrawChk_of (by kernel_rfl), ?_⟩)
      repeat (first | (refine nf1_sound rfl ?_; simp [go_sem, ↓IntWalk.iteOmega, IntWalk.iteOmega, IntWalk.toNatUp]; (repeat (refine And.intro (by omega) ?_)); try (refine ⟨DrawChk_of (by kernel_rfl), ?_⟩)) | (refine itePos (by omega) ?_; try simp [go_sem, ↓IntWalk.iteOmega, IntWalk.iteOmega, IntWalk.toNatUp]) | (refine iteNeg (by omega) ?_; try simp [go_sem, ↓IntWalk.iteOmega, IntWalk.iteOmega, IntWalk.toNatUp]) | (refine ⟨DrawChk_of (by kernel_rfl), ?_⟩))
      refine CallK.fn (c2) [(1000, 193)] [] [] (by kernel_rfl) (by simp [go_sem, ↓IntWalk.iteOmega, IntWalk.iteOmega, IntWalk.toNatUp]) (by simp [go_sem, ↓IntWalk.iteOmega, IntWalk.iteOmega, IntWalk.toNatUp]) (by simp [go_sem, ↓IntWalk.iteOmega, IntWalk.iteOmega, IntWalk.toNatUp]) (Or.inl rfl) ?_
      simp [go_sem, ↓IntWalk.iteOmega, IntWalk.iteOmega, IntWalk.toNatUp]
      repeat (refine And.intro (by omega) ?_)
      try (refine ⟨DrawChk_of (by kernel_rfl), ?_⟩)
      refine CW.weak (ρ := []) (σ' := ⟨[(14, .t (encUss y)), (15, .t (.int k)), (16, .t (encUss y)), (17, .t (.int k))], []⟩) ?_ ?_
      · simp [go_sem, ↓IntWalk.iteOmega, IntWalk.iteOmega, IntWalk.toNatUp]
      repeat (first | (refine nf1_sound rfl ?_; simp [go_sem, ↓IntWalk.iteOmega, IntWalk.iteOmega, IntWalk.toNatUp]; (repeat (refine And.intro (by omega) ?_)); try (refine ⟨DrawChk_of (by kernel_rfl), ?_⟩)) | (refine itePos (by omega) ?_; try simp [go_sem, ↓IntWalk.iteOmega, IntWalk.iteOmega, IntWalk.toNatUp]) | (refine iteNeg (by omega) ?_; try simp [go_sem, ↓IntWalk.iteOmega, IntWalk.iteOmega, IntWalk.toNatUp]) | (refine ⟨DrawChk_of (by kernel_rfl), ?_⟩))
      refine CallK.fn (sf) [] [] [] (by kernel_rfl) (by simp [go_sem, ↓IntWalk.iteOmega, IntWalk.iteOmega, IntWalk.toNatUp]) (by simp [go_sem, ↓IntWalk.iteOmega, IntWalk.iteOmega, IntWalk.toNatUp]) (by simp [go_sem, ↓IntWalk.iteOmega, IntWalk.iteOmega, IntWalk.toNatUp]) (Or.inl rfl) ?_
      simp [go_sem, ↓IntWalk.iteOmega, IntWalk.iteOmega, IntWalk.toNatUp]
      repeat (refine And.intro (by omega) ?_)
      try (refine ⟨DrawChk_of (by kernel_rfl), ?_⟩)
      repeat (first | (refine nf1_sound rfl ?_; simp [go_sem, ↓IntWalk.iteOmega, IntWalk.iteOmega, IntWalk.toNatUp]; (repeat (refine And.intro (by omega) ?_)); try (refine ⟨DrawChk_of (by kernel_rfl), ?_⟩)) | (refine itePos (by omega) ?_; try simp [go_sem, ↓IntWalk.iteOmega, IntWalk.iteOmega, IntWalk.toNatUp]) | (refine iteNeg (by omega) ?_; try simp [go_sem, ↓IntWalk.iteOmega, IntWalk.iteOmega, IntWalk.toNatUp]) | (refine ⟨DrawChk_of (by kernel_rfl), ?_⟩))
      refine CallK.fn (awake_fn) [] [] [] (by kernel_rfl) (by simp [go_sem, ↓IntWalk.iteOmega, IntWalk.iteOmega, IntWalk.toNatUp]) (by simp [go_sem, ↓IntWalk.iteOmega, IntWalk.iteOmega, IntWalk.toNatUp]) (by simp [go_sem, ↓IntWalk.iteOmega, IntWalk.iteOmega, IntWalk.toNatUp]) (Or.inl rfl) ?_
      simp [go_sem, ↓IntWalk.iteOmega, IntWalk.iteOmega, IntWalk.toNatUp]
      repeat (refine And.intro (by omega) ?_)
      try (refine ⟨DrawChk_of (by kernel_rfl), ?_⟩)
      repeat (first | (refine nf1_sound rfl ?_; simp [go_sem, ↓IntWalk.iteOmega, IntWalk.iteOmega, IntWalk.toNatUp]; (repeat (refine And.intro (by omega) ?_)); try (refine ⟨DrawChk_of (by kernel_rfl), ?_⟩)) | (refine itePos (by omega) ?_; try simp [go_sem, ↓IntWalk.iteOmega, IntWalk.iteOmega, IntWalk.toNatUp]) | (refine iteNeg (by omega) ?_; try simp [go_sem, ↓IntWalk.iteOmega, IntWalk.iteOmega, IntWalk.toNatUp]) | (refine ⟨DrawChk_of (by kernel_rfl), ?_⟩))
      first | rw [RetQ_ret] | rw [RetQ_normal]
      refine ⟨[], ?_⟩
      simp [go_sem, ↓IntWalk.iteOmega, IntWalk.iteOmega, IntWalk.toNatUp]
theorem jbytes_all (x0 x1 x2 x3 : T) (h0 : InSh (.sl (.int .u8)) x0) (h1 : InSh (.int .i64) x1) (h2 : InSh (.int .u8) x2) (h3 : InSh (.int .u8) x3) :
    FnOk Try.prog 5 [.t x0, .t x1, .t x2, .t x3] [] (.t (.bool true)) [] := by
  obtain ⟨l, rfl, hl, hl8⟩ := bytes_in h0
  obtain ⟨a, rfl, _⟩ := wint_in h1
  obtain ⟨b, rfl, hb⟩ := wu8_in h2
  obtain ⟨c, rfl, hc⟩ := wu8_in h3
  exact jbytes_fn l a b c hl hl8 hb hc
end Go.Proofs.Ytgncmbjkahpdiaa
