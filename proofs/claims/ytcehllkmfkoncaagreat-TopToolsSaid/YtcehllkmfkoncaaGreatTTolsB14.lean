/- Several texts of this proof, one behind the other. No condition. -/
import Derived.Test.YtcehllkmfkoncaaGreatSyY
import Derived.Test.YtcehllkmfkoncaaGreatFacts
import Derived.Test.YtcehllkmfkoncaaGreatSyR
import Derived.OrdersIn
import Derived.RangeFuncCalls
/- slices.Repeat of one valve, three times. No condition. -/
namespace Go.Proofs.YtcehllkmfkoncaaGreat
open Go.RowKit Sy
open Go.IntWalk renaming iteOmega → iO, toNatUp → tN
set_option linter.unusedVariables false
set_option linter.unusedSimpArgs false
abbrev vlv : T := .agg [.int 1, .int 0, .lit (.bool false), .lit (.bool false)]
abbrev vlz : T := .agg [.int 0, .int 0, .lit (.bool false), .lit (.bool false)]
theorem mul13 : FnOk Tryz.prog 80 [.t (.lit (.int .u64 1)), .t (.lit (.int .u64 3))] [] (.tup [.t (.lit (.int .u64 0)), .t (.lit (.int .u64 3))]) [] := evF_spec fact_mixed noKn_ok 30 _ _ _ _ _ (by kernel_rfl : evF Tryz.prog noKn [] 200 30 80 [.t (.lit (.int .u64 1)), .t (.lit (.int .u64 3))] [] = some (.tup [.t (.lit (.int .u64 0)), .t (.lit (.int .u64 3))], []))
def repL : Nat → List T
  | 1 => [vlv, vlz, vlz]
  | 2 => [vlv, vlv, vlz]
  | _ => [vlv, vlv, vlv]
set_option maxRecDepth 100000 in
set_option maxHeartbeats 4000000 in
theorem rep_vlv : FnOk Tryz.prog 40 [.t (.sl 4 [vlv]), .t (.int 3)] [] (.t (.sl 4 [vlv, vlv, vlv])) [] := by
  have c := mul13
  refine FnOk.intro fact_mixed Tryz.func40 rfl Tryz.ntmps40 (by rfl) (by simp) ?_
  repeat (first | (refine nf1_sound rfl ?_; simp [go_sem, ↓iO, iO, tN]; (repeat (refine anI ?_)); try (refine ⟨dcK, ?_⟩)) | ((first | refine itePos (by omega) ?_ | refine iteNeg (by omega) ?_); try simp [go_sem, ↓iO, iO, tN]) | (refine ⟨dcK, ?_⟩))
  refine CallK.fn (c) [] [] [] (by kernel_rfl) ?_ ?_ ?_ (Or.inl rfl) ?_ <;> simp [go_sem, ↓iO, iO, tN]
  repeat (refine anI ?_)
  try (refine ⟨dcK, ?_⟩)
  repeat (first | (refine nf1_sound rfl ?_; simp [go_sem, ↓iO, iO, tN]; (repeat (refine anI ?_)); try (refine ⟨dcK, ?_⟩)) | ((first | refine itePos (by omega) ?_ | refine iteNeg (by omega) ?_); try simp [go_sem, ↓iO, iO, tN]) | (refine ⟨dcK, ?_⟩))
  refine nf1_sound' _ _ _ ?_; simp only [nf1]
  refine CW.loop (ι := Nat) (fun k => ⟨[(7, .wn 507 [7] 0 3), (8, .t (.int k))], [(507, .list 100 4 (repL k))]⟩) (fun k => 1 ≤ k ∧ k ≤ 3) (fun k => 3 - k) 1 [(507, some 130)] (by omega) ?_ ?_
  · simp [go_sem, ↓iO, iO, tN, repL]
  rintro k ⟨hk1, hk⟩
  have h3 : k = 1 ∨ k = 2 ∨ k = 3 := by omega
  rcases h3 with rfl | rfl | rfl
  · repeat (first | (refine nf1_sound rfl ?_; simp [go_sem, ↓iO, iO, tN, repL]; (repeat (refine anI ?_)); try (refine ⟨dcK, ?_⟩)) | ((first | refine itePos (by omega) ?_ | refine iteNeg (by omega) ?_); try simp [go_sem, ↓iO, iO, tN, repL]) | (refine ⟨dcK, ?_⟩))
    rw [RoundQ_normal]; refine ⟨2, [(507, some 507)], ?_, ?_, ?_⟩
    · omega
    · omega
    simp [go_sem, ↓iO, iO, tN, repL]
  · repeat (first | (refine nf1_sound rfl ?_; simp [go_sem, ↓iO, iO, tN, repL]; (repeat (refine anI ?_)); try (refine ⟨dcK, ?_⟩)) | ((first | refine itePos (by omega) ?_ | refine iteNeg (by omega) ?_); try simp [go_sem, ↓iO, iO, tN, repL]) | (refine ⟨dcK, ?_⟩))
    rw [RoundQ_normal]; refine ⟨3, [(507, some 507)], ?_, ?_, ?_⟩
    · omega
    · omega
    simp [go_sem, ↓iO, iO, tN, repL]
  · repeat (first | (refine nf1_sound rfl ?_; simp [go_sem, ↓iO, iO, tN, repL]; (repeat (refine anI ?_)); try (refine ⟨dcK, ?_⟩)) | ((first | refine itePos (by omega) ?_ | refine iteNeg (by omega) ?_); try simp [go_sem, ↓iO, iO, tN, repL]) | (refine ⟨dcK, ?_⟩))
    first | rw [RetQ_ret] | rw [RetQ_normal]
    refine ⟨[], ?_⟩
    simp [go_sem, ↓iO, iO, tN, repL]
set_option maxRecDepth 100000 in
set_option maxHeartbeats 4000000 in
theorem clb_fn : FnOk Tryz.prog 50 [.t (.sl 1 [])] [] (.t (.sl 1 [])) [] := by
  refine FnOk.intro fact_mixed Tryz.func50 rfl Tryz.ntmps50 (by rfl) (by simp) ?_
  iterate 1 (refine nf1_sound rfl ?_; simp [go_sem, ↓iO, iO, tN]; (repeat (refine anI ?_)); try (refine ⟨dcK, ?_⟩))
  refine CW.seq (CW.seq (CW.nilTest (k := 1) (xs := []) (e := 4) (by simp [go_sem]) (by simp [go_sem]) ?_ ?_))
  · intro hx
    simp [go_sem, ↓iO, iO, tN]
    repeat (first | (refine nf1_sound rfl ?_; simp [go_sem, ↓iO, iO, tN]; (repeat (refine anI ?_)); try (refine ⟨dcK, ?_⟩)) | ((first | refine itePos (by omega) ?_ | refine iteNeg (by omega) ?_); try simp [go_sem, ↓iO, iO, tN]) | (refine ⟨dcK, ?_⟩))
    first | rw [RetQ_ret] | rw [RetQ_normal]
    refine ⟨[], ?_⟩
    simp [go_sem, ↓iO, iO, tN]
  · simp [go_sem, ↓iO, iO, tN]
    repeat (first | (refine nf1_sound rfl ?_; simp [go_sem, ↓iO, iO, tN]; (repeat (refine anI ?_)); try (refine ⟨dcK, ?_⟩)) | ((first | refine itePos (by omega) ?_ | refine iteNeg (by omega) ?_); try simp [go_sem, ↓iO, iO, tN]) | (refine ⟨dcK, ?_⟩))
    first | rw [RetQ_ret] | rw [RetQ_normal]
    refine ⟨[], ?_⟩
    simp [go_sem, ↓iO, iO, tN]
theorem aw_rep : FnOk Tryz.prog 40 (([.sl 4 [vlv], .int 3] : List T).map S.t) [] (.t (.sl 4 [vlv, vlv, vlv])) [] := rep_vlv
theorem aw_clb : FnOk Tryz.prog 50 (([.sl 1 []] : List T).map S.t) [] (.t (.sl 1 [])) [] := clb_fn
end Go.Proofs.YtcehllkmfkoncaaGreat
/- Calls whose arguments are known: contracts that the kernel finds. Printed by a program (evgen.py). No condition. -/
namespace Go.Proofs.YtcehllkmfkoncaaGreat
open Go.RowKit Sy
set_option linter.unusedVariables false
set_option maxRecDepth 100000
set_option maxHeartbeats 4000000
abbrev nilS : T := .lit (.slice none 0 0)
abbrev net1 : T := .agg [.sl 1 [.lit (.string (str [97])), .lit (.string (str [98]))], .sl 7 [(.agg [(.lit (.string (str [103]))), (.int 0), (.int 1), (.int 20), (.int 0), (.int 0), (.sl 3 [(.agg [(.int 0), (.int 0), (.int 1000000)]), (.agg [(.int 20), (.int 0), (.int 1000000)])])])], .sl 3 [(.agg [(.lit (.string (str [112]))), (.int 0), (.int 300000)]), (.agg [(.lit (.string (str [113]))), (.int 1), (.int 0)])], .lit (.slice .none 0 0), .int 0, .int 0]
abbrev pl0 : T := .agg [.sl 1 [.int 0], .sl 1 [.int 0, .int 0], .sl 1 []]
abbrev pl5 : T := .agg [.sl 1 [.int 5], .sl 1 [.int 5, .int (-5)], nilS]
abbrev v0 : T := .agg [.int 1, .int 0, .lit (.bool false), .lit (.bool false)]
abbrev d0 : T := .agg [.sl 4 [v0, v0, v0], pl0]
abbrev pth : T := .agg [.int 0, .int 1, .sl 2 [.agg [.int 0, .lit (.bool false)]], .int 5]
abbrev pl5e : T := .agg [.sl 1 [.int 5], .sl 1 [.int 5, .int (-5)], .sl 1 []]
abbrev zp : T := .agg [.int 0, .int 0, nilS, .int 0]
abbrev steps : T := .sl 7 [(.agg [(.int 1), (.int 0), (.int 0), zp]), (.agg [(.int 1), (.int 1), (.int 0), zp]), (.agg [(.int 1), (.int 2), (.int 0), zp]), (.agg [(.int 6), (.int 0), (.int 1), zp]), (.agg [(.int 5), (.int 0), (.int 5), (.agg [(.int 0), (.int 1), (.sl 2 [(.agg [(.int 0), (.lit (.bool .false))])]), (.int 0)])]), (.agg [(.int 6), (.int 0), (.int 1), zp])]
def aw_netL : List Ent := []
theorem aw_net : FnOk Tryz.prog 23 (([net1] : List T).map S.t) [] (.t (.int 0)) [] := evF_spec fact_mixed (knL_ok (l := aw_netL) trivial) 30 _ _ _ _ _ (by kernel_rfl : evF Tryz.prog (knL aw_netL) [60, 7] 200 30 23 (([net1] : List T).map S.t) [] = some ((.t (.int 0)), []))
abbrev aw_netE : Ent := ⟨23, [net1], (.t (.int 0)), []⟩
def aw_singleL : List Ent := [aw_netE]
theorem aw_single : FnOk Tryz.prog 7 (([.int 20] : List T).map S.t) [] (.t (.agg [(.sl 1 [(.lit (.string (str [97]))), (.lit (.string (str [98])))]), (.sl 7 [(.agg [(.lit (.string (str [103]))), (.int 0), (.int 1), (.int 20), (.int 0), (.int 0), (.sl 3 [(.agg [(.int 0), (.int 0), (.int 1000000)]), (.agg [(.int 20), (.int 0), (.int 1000000)])])])]), (.sl 3 [(.agg [(.lit (.string (str [112]))), (.int 0), (.int 300000)]), (.agg [(.lit (.string (str [113]))), (.int 1), (.int 0)])]), (.lit (.slice .none 0 0)), (.int 0), (.int 0)])) [] := evF_spec fact_mixed (knL_ok (l := aw_singleL) ⟨aw_net, trivial⟩) 30 _ _ _ _ _ (by kernel_rfl : evF Tryz.prog (knL aw_singleL) [60, 7] 200 30 7 (([.int 20] : List T).map S.t) [] = some ((.t (.agg [(.sl 1 [(.lit (.string (str [97]))), (.lit (.string (str [98])))]), (.sl 7 [(.agg [(.lit (.string (str [103]))), (.int 0), (.int 1), (.int 20), (.int 0), (.int 0), (.sl 3 [(.agg [(.int 0), (.int 0), (.int 1000000)]), (.agg [(.int 20), (.int 0), (.int 1000000)])])])]), (.sl 3 [(.agg [(.lit (.string (str [112]))), (.int 0), (.int 300000)]), (.agg [(.lit (.string (str [113]))), (.int 1), (.int 0)])]), (.lit (.slice .none 0 0)), (.int 0), (.int 0)])), []))
abbrev aw_singleE : Ent := ⟨7, [.int 20], (.t (.agg [(.sl 1 [(.lit (.string (str [97]))), (.lit (.string (str [98])))]), (.sl 7 [(.agg [(.lit (.string (str [103]))), (.int 0), (.int 1), (.int 20), (.int 0), (.int 0), (.sl 3 [(.agg [(.int 0), (.int 0), (.int 1000000)]), (.agg [(.int 20), (.int 0), (.int 1000000)])])])]), (.sl 3 [(.agg [(.lit (.string (str [112]))), (.int 0), (.int 300000)]), (.agg [(.lit (.string (str [113]))), (.int 1), (.int 0)])]), (.lit (.slice .none 0 0)), (.int 0), (.int 0)])), []⟩
def aw_fc0L : List Ent := [aw_netE, aw_singleE]
theorem aw_fc0 : FnOk Tryz.prog 67 (([net1 , pl0] : List T).map S.t) [] (.t (.int 0)) [] := evF_spec fact_mixed (knL_ok (l := aw_fc0L) ⟨aw_net, aw_single, trivial⟩) 30 _ _ _ _ _ (by kernel_rfl : evF Tryz.prog (knL aw_fc0L) [60, 7] 200 30 67 (([net1 , pl0] : List T).map S.t) [] = some ((.t (.int 0)), []))
abbrev aw_fc0E : Ent := ⟨67, [net1 , pl0], (.t (.int 0)), []⟩
def aw_fc5L : List Ent := [aw_netE, aw_singleE, aw_fc0E]
theorem aw_fc5 : FnOk Tryz.prog 67 (([net1 , pl5] : List T).map S.t) [] (.t (.int 0)) [] := evF_spec fact_mixed (knL_ok (l := aw_fc5L) ⟨aw_net, aw_single, aw_fc0, trivial⟩) 30 _ _ _ _ _ (by kernel_rfl : evF Tryz.prog (knL aw_fc5L) [60, 7] 200 30 67 (([net1 , pl5] : List T).map S.t) [] = some ((.t (.int 0)), []))
abbrev aw_fc5E : Ent := ⟨67, [net1 , pl5], (.t (.int 0)), []⟩
abbrev aw_repE : Ent := ⟨40, [.sl 4 [.agg [.int 1, .int 0, .lit (.bool false), .lit (.bool false)]] , .int 3], (.t (.sl 4 [.agg [.int 1, .int 0, .lit (.bool false), .lit (.bool false)], .agg [.int 1, .int 0, .lit (.bool false), .lit (.bool false)], .agg [.int 1, .int 0, .lit (.bool false), .lit (.bool false)]])), []⟩
def aw_idleL : List Ent := [aw_netE, aw_singleE, aw_fc0E, aw_fc5E, aw_repE]
theorem aw_idle : FnOk Tryz.prog 18 (([net1 , .int 1] : List T).map S.t) [] (.tup [(.t (.agg [(.sl 4 [(.agg [(.int 1), (.int 0), (.lit (.bool .false)), (.lit (.bool .false))]), (.agg [(.int 1), (.int 0), (.lit (.bool .false)), (.lit (.bool .false))]), (.agg [(.int 1), (.int 0), (.lit (.bool .false)), (.lit (.bool .false))])]), (.agg [(.sl 1 [(.int 0)]), (.sl 1 [(.int 0), (.int 0)]), (.sl 1 [])])])), (.t (.int 0))]) [] := evF_spec fact_mixed (knL_ok (l := aw_idleL) ⟨aw_net, aw_single, aw_fc0, aw_fc5, aw_rep, trivial⟩) 30 _ _ _ _ _ (by kernel_rfl : evF Tryz.prog (knL aw_idleL) [60, 7, 85, 54, 113, 18, 56, 20, 43, 83, 134, 86, 19, 51, 52] 200 30 18 (([net1 , .int 1] : List T).map S.t) [] = some ((.tup [(.t (.agg [(.sl 4 [(.agg [(.int 1), (.int 0), (.lit (.bool .false)), (.lit (.bool .false))]), (.agg [(.int 1), (.int 0), (.lit (.bool .false)), (.lit (.bool .false))]), (.agg [(.int 1), (.int 0), (.lit (.bool .false)), (.lit (.bool .false))])]), (.agg [(.sl 1 [(.int 0)]), (.sl 1 [(.int 0), (.int 0)]), (.sl 1 [])])])), (.t (.int 0))]), []))
abbrev aw_idleE : Ent := ⟨18, [net1 , .int 1], (.tup [(.t (.agg [(.sl 4 [(.agg [(.int 1), (.int 0), (.lit (.bool .false)), (.lit (.bool .false))]), (.agg [(.int 1), (.int 0), (.lit (.bool .false)), (.lit (.bool .false))]), (.agg [(.int 1), (.int 0), (.lit (.bool .false)), (.lit (.bool .false))])]), (.agg [(.sl 1 [(.int 0)]), (.sl 1 [(.int 0), (.int 0)]), (.sl 1 [])])])), (.t (.int 0))]), []⟩
def aw_need0L : List Ent := [aw_netE, aw_singleE, aw_fc0E, aw_fc5E, aw_repE, aw_idleE]
theorem aw_need0 : FnOk Tryz.prog 45 (([net1 , pl0] : List T).map S.t) [] (.tup [(.t (.agg [(.sl 1 [(.lit (.bool .false))]), (.sl 1 [(.lit (.bool .false)), (.lit (.bool .false))])])), (.t (.int 0))]) [] := evF_spec fact_mixed (knL_ok (l := aw_need0L) ⟨aw_net, aw_single, aw_fc0, aw_fc5, aw_rep, aw_idle, trivial⟩) 30 _ _ _ _ _ (by kernel_rfl : evF Tryz.prog (knL aw_need0L) [60, 7, 85, 54, 113, 18, 56, 20, 43, 83, 134, 86, 19, 51, 52] 200 30 45 (([net1 , pl0] : List T).map S.t) [] = some ((.tup [(.t (.agg [(.sl 1 [(.lit (.bool .false))]), (.sl 1 [(.lit (.bool .false)), (.lit (.bool .false))])])), (.t (.int 0))]), []))
abbrev aw_need0E : Ent := ⟨45, [net1 , pl0], (.tup [(.t (.agg [(.sl 1 [(.lit (.bool .false))]), (.sl 1 [(.lit (.bool .false)), (.lit (.bool .false))])])), (.t (.int 0))]), []⟩
def aw_need5L : List Ent := [aw_netE, aw_singleE, aw_fc0E, aw_fc5E, aw_repE, aw_idleE, aw_need0E]
theorem aw_need5 : FnOk Tryz.prog 45 (([net1 , pl5] : List T).map S.t) [] (.tup [(.t (.agg [(.sl 1 [(.lit (.bool .true))]), (.sl 1 [(.lit (.bool .true)), (.lit (.bool .true))])])), (.t (.int 0))]) [] := evF_spec fact_mixed (knL_ok (l := aw_need5L) ⟨aw_net, aw_single, aw_fc0, aw_fc5, aw_rep, aw_idle, aw_need0, trivial⟩) 30 _ _ _ _ _ (by kernel_rfl : evF Tryz.prog (knL aw_need5L) [60, 7, 85, 54, 113, 18, 56, 20, 43, 83, 134, 86, 19, 51, 52] 200 30 45 (([net1 , pl5] : List T).map S.t) [] = some ((.tup [(.t (.agg [(.sl 1 [(.lit (.bool .true))]), (.sl 1 [(.lit (.bool .true)), (.lit (.bool .true))])])), (.t (.int 0))]), []))
abbrev aw_need5E : Ent := ⟨45, [net1 , pl5], (.tup [(.t (.agg [(.sl 1 [(.lit (.bool .true))]), (.sl 1 [(.lit (.bool .true)), (.lit (.bool .true))])])), (.t (.int 0))]), []⟩
def aw_scheck0L : List Ent := [aw_netE, aw_singleE, aw_fc0E, aw_fc5E, aw_repE, aw_idleE, aw_need0E, aw_need5E]
theorem aw_scheck0 : FnOk Tryz.prog 81 (([net1 , d0] : List T).map S.t) [] (.t (.int 0)) [] := evF_spec fact_mixed (knL_ok (l := aw_scheck0L) ⟨aw_net, aw_single, aw_fc0, aw_fc5, aw_rep, aw_idle, aw_need0, aw_need5, trivial⟩) 30 _ _ _ _ _ (by kernel_rfl : evF Tryz.prog (knL aw_scheck0L) [60, 7, 85, 54, 113, 18, 56, 20, 43, 83, 134, 86, 19, 51, 52] 200 30 81 (([net1 , d0] : List T).map S.t) [] = some ((.t (.int 0)), []))
abbrev aw_scheck0E : Ent := ⟨81, [net1 , d0], (.t (.int 0)), []⟩
def aw_div0L : List Ent := [aw_netE, aw_singleE, aw_fc0E, aw_fc5E, aw_repE, aw_idleE, aw_need0E, aw_need5E, aw_scheck0E]
theorem aw_div0 : FnOk Tryz.prog 43 (([net1 , pl0] : List T).map S.t) [] (.tup [(.t (.lit (.slice .none 0 0))), (.t (.int 0))]) [] := evF_spec fact_mixed (knL_ok (l := aw_div0L) ⟨aw_net, aw_single, aw_fc0, aw_fc5, aw_rep, aw_idle, aw_need0, aw_need5, aw_scheck0, trivial⟩) 30 _ _ _ _ _ (by kernel_rfl : evF Tryz.prog (knL aw_div0L) [60, 7, 85, 54, 113, 18, 56, 20, 43, 83, 134, 86, 19, 51, 52] 200 30 43 (([net1 , pl0] : List T).map S.t) [] = some ((.tup [(.t (.lit (.slice .none 0 0))), (.t (.int 0))]), []))
abbrev aw_div0E : Ent := ⟨43, [net1 , pl0], (.tup [(.t (.lit (.slice .none 0 0))), (.t (.int 0))]), []⟩
def aw_div5L : List Ent := [aw_netE, aw_singleE, aw_fc0E, aw_fc5E, aw_repE, aw_idleE, aw_need0E, aw_need5E, aw_scheck0E, aw_div0E]
theorem aw_div5 : FnOk Tryz.prog 43 (([net1 , pl5] : List T).map S.t) [] (.tup [(.t (.sl 4 [(.agg [(.int 0), (.int 1), (.sl 2 [(.agg [(.int 0), (.lit (.bool .false))])]), (.int 5)])])), (.t (.int 0))]) [] := evF_spec fact_mixed (knL_ok (l := aw_div5L) ⟨aw_net, aw_single, aw_fc0, aw_fc5, aw_rep, aw_idle, aw_need0, aw_need5, aw_scheck0, aw_div0, trivial⟩) 30 _ _ _ _ _ (by kernel_rfl : evF Tryz.prog (knL aw_div5L) [60, 7, 85, 54, 113, 18, 56, 20, 43, 83, 134, 86, 19, 51, 52] 200 30 43 (([net1 , pl5] : List T).map S.t) [] = some ((.tup [(.t (.sl 4 [(.agg [(.int 0), (.int 1), (.sl 2 [(.agg [(.int 0), (.lit (.bool .false))])]), (.int 5)])])), (.t (.int 0))]), []))
abbrev aw_div5E : Ent := ⟨43, [net1 , pl5], (.tup [(.t (.sl 4 [(.agg [(.int 0), (.int 1), (.sl 2 [(.agg [(.int 0), (.lit (.bool .false))])]), (.int 5)])])), (.t (.int 0))]), []⟩
abbrev aw_clbE : Ent := ⟨50, [.sl 1 []], (.t (.sl 1 [])), []⟩
def aw_compL : List Ent := [aw_netE, aw_singleE, aw_fc0E, aw_fc5E, aw_repE, aw_idleE, aw_need0E, aw_need5E, aw_scheck0E, aw_div0E, aw_div5E, aw_clbE]
theorem aw_comp : FnOk Tryz.prog 19 (([net1 , d0 , pl5 , .int 5 , .int 1] : List T).map S.t) [] (.tup [(.t (.sl 7 [(.agg [(.int 1), (.int 0), (.int 0), (.agg [(.int 0), (.int 0), (.lit (.slice .none 0 0)), (.int 0)])]), (.agg [(.int 1), (.int 1), (.int 0), (.agg [(.int 0), (.int 0), (.lit (.slice .none 0 0)), (.int 0)])]), (.agg [(.int 1), (.int 2), (.int 0), (.agg [(.int 0), (.int 0), (.lit (.slice .none 0 0)), (.int 0)])]), (.agg [(.int 6), (.int 0), (.int 1), (.agg [(.int 0), (.int 0), (.lit (.slice .none 0 0)), (.int 0)])]), (.agg [(.int 5), (.int 0), (.int 5), (.agg [(.int 0), (.int 1), (.sl 2 [(.agg [(.int 0), (.lit (.bool .false))])]), (.int 0)])]), (.agg [(.int 6), (.int 0), (.int 1), (.agg [(.int 0), (.int 0), (.lit (.slice .none 0 0)), (.int 0)])])])), (.t (.int 0))]) [] := evF_spec fact_mixed (knL_ok (l := aw_compL) ⟨aw_net, aw_single, aw_fc0, aw_fc5, aw_rep, aw_idle, aw_need0, aw_need5, aw_scheck0, aw_div0, aw_div5, aw_clb, trivial⟩) 30 _ _ _ _ _ (by kernel_rfl : evF Tryz.prog (knL aw_compL) [60, 7, 85, 54, 113, 18, 56, 20, 43, 83, 134, 86, 19, 51, 52] 200 30 19 (([net1 , d0 , pl5 , .int 5 , .int 1] : List T).map S.t) [] = some ((.tup [(.t (.sl 7 [(.agg [(.int 1), (.int 0), (.int 0), (.agg [(.int 0), (.int 0), (.lit (.slice .none 0 0)), (.int 0)])]), (.agg [(.int 1), (.int 1), (.int 0), (.agg [(.int 0), (.int 0), (.lit (.slice .none 0 0)), (.int 0)])]), (.agg [(.int 1), (.int 2), (.int 0), (.agg [(.int 0), (.int 0), (.lit (.slice .none 0 0)), (.int 0)])]), (.agg [(.int 6), (.int 0), (.int 1), (.agg [(.int 0), (.int 0), (.lit (.slice .none 0 0)), (.int 0)])]), (.agg [(.int 5), (.int 0), (.int 5), (.agg [(.int 0), (.int 1), (.sl 2 [(.agg [(.int 0), (.lit (.bool .false))])]), (.int 0)])]), (.agg [(.int 6), (.int 0), (.int 1), (.agg [(.int 0), (.int 0), (.lit (.slice .none 0 0)), (.int 0)])])])), (.t (.int 0))]), []))
abbrev aw_compE : Ent := ⟨19, [net1 , d0 , pl5 , .int 5 , .int 1], (.tup [(.t (.sl 7 [(.agg [(.int 1), (.int 0), (.int 0), (.agg [(.int 0), (.int 0), (.lit (.slice .none 0 0)), (.int 0)])]), (.agg [(.int 1), (.int 1), (.int 0), (.agg [(.int 0), (.int 0), (.lit (.slice .none 0 0)), (.int 0)])]), (.agg [(.int 1), (.int 2), (.int 0), (.agg [(.int 0), (.int 0), (.lit (.slice .none 0 0)), (.int 0)])]), (.agg [(.int 6), (.int 0), (.int 1), (.agg [(.int 0), (.int 0), (.lit (.slice .none 0 0)), (.int 0)])]), (.agg [(.int 5), (.int 0), (.int 5), (.agg [(.int 0), (.int 1), (.sl 2 [(.agg [(.int 0), (.lit (.bool .false))])]), (.int 0)])]), (.agg [(.int 6), (.int 0), (.int 1), (.agg [(.int 0), (.int 0), (.lit (.slice .none 0 0)), (.int 0)])])])), (.t (.int 0))]), []⟩
def aw_fc5eL : List Ent := [aw_netE, aw_singleE, aw_fc0E, aw_fc5E, aw_repE, aw_idleE, aw_need0E, aw_need5E, aw_scheck0E, aw_div0E, aw_div5E, aw_clbE, aw_compE]
theorem aw_fc5e : FnOk Tryz.prog 67 (([net1 , pl5e] : List T).map S.t) [] (.t (.int 0)) [] := evF_spec fact_mixed (knL_ok (l := aw_fc5eL) ⟨aw_net, aw_single, aw_fc0, aw_fc5, aw_rep, aw_idle, aw_need0, aw_need5, aw_scheck0, aw_div0, aw_div5, aw_clb, aw_comp, trivial⟩) 30 _ _ _ _ _ (by kernel_rfl : evF Tryz.prog (knL aw_fc5eL) [60, 7, 85, 54, 113, 18, 56, 20, 43, 83, 134, 86, 19, 51, 52] 200 30 67 (([net1 , pl5e] : List T).map S.t) [] = some ((.t (.int 0)), []))
abbrev aw_fc5eE : Ent := ⟨67, [net1 , pl5e], (.t (.int 0)), []⟩
def aw_copyL : List Ent := [aw_netE, aw_singleE, aw_fc0E, aw_fc5E, aw_repE, aw_idleE, aw_need0E, aw_need5E, aw_scheck0E, aw_div0E, aw_div5E, aw_clbE, aw_compE, aw_fc5eE]
theorem aw_copy : FnOk Tryz.prog 55 (([d0] : List T).map S.t) [] (.ag [(.own 1000), (.ag [(.own 1001), (.own 1002), (.t (.sl 1 []))])]) [(1000, (.list 100 4 [(.agg [(.int 1), (.int 0), (.lit (.bool .false)), (.lit (.bool .false))]), (.agg [(.int 1), (.int 0), (.lit (.bool .false)), (.lit (.bool .false))]), (.agg [(.int 1), (.int 0), (.lit (.bool .false)), (.lit (.bool .false))])])), (1001, (.list 3 1 [(.int 0)])), (1002, (.list 3 1 [(.int 0), (.int 0)]))] := evF_spec fact_mixed (knL_ok (l := aw_copyL) ⟨aw_net, aw_single, aw_fc0, aw_fc5, aw_rep, aw_idle, aw_need0, aw_need5, aw_scheck0, aw_div0, aw_div5, aw_clb, aw_comp, aw_fc5e, trivial⟩) 30 _ _ _ _ _ (by kernel_rfl : evF Tryz.prog (knL aw_copyL) [60, 7, 85, 54, 113, 18, 56, 20, 43, 83, 134, 86, 19, 51, 52] 200 30 55 (([d0] : List T).map S.t) [] = some ((.ag [(.own 1000), (.ag [(.own 1001), (.own 1002), (.t (.sl 1 []))])]), [(1000, (.list 100 4 [(.agg [(.int 1), (.int 0), (.lit (.bool .false)), (.lit (.bool .false))]), (.agg [(.int 1), (.int 0), (.lit (.bool .false)), (.lit (.bool .false))]), (.agg [(.int 1), (.int 0), (.lit (.bool .false)), (.lit (.bool .false))])])), (1001, (.list 3 1 [(.int 0)])), (1002, (.list 3 1 [(.int 0), (.int 0)]))]))
abbrev aw_copyE : Ent := ⟨55, [d0], (.ag [(.own 1000), (.ag [(.own 1001), (.own 1002), (.t (.sl 1 []))])]), [(1000, (.list 100 4 [(.agg [(.int 1), (.int 0), (.lit (.bool .false)), (.lit (.bool .false))]), (.agg [(.int 1), (.int 0), (.lit (.bool .false)), (.lit (.bool .false))]), (.agg [(.int 1), (.int 0), (.lit (.bool .false)), (.lit (.bool .false))])])), (1001, (.list 3 1 [(.int 0)])), (1002, (.list 3 1 [(.int 0), (.int 0)]))]⟩
def aw_ap1L : List Ent := [aw_netE, aw_singleE, aw_fc0E, aw_fc5E, aw_repE, aw_idleE, aw_need0E, aw_need5E, aw_scheck0E, aw_div0E, aw_div5E, aw_clbE, aw_compE, aw_fc5eE, aw_copyE]
theorem aw_ap1 : FnOk Tryz.prog 56 (([net1 , d0 , .agg [.int 1, .int 0, .int 0, zp]] : List T).map S.t) [] (.tup [(.t (.agg [(.sl 4 [(.agg [(.int 1), (.int 0), (.lit (.bool .true)), (.lit (.bool .false))]), (.agg [(.int 1), (.int 0), (.lit (.bool .false)), (.lit (.bool .false))]), (.agg [(.int 1), (.int 0), (.lit (.bool .false)), (.lit (.bool .false))])]), (.agg [(.sl 1 [(.int 0)]), (.sl 1 [(.int 0), (.int 0)]), (.sl 1 [])])])), (.t (.int 0))]) [] := evF_spec fact_mixed (knL_ok (l := aw_ap1L) ⟨aw_net, aw_single, aw_fc0, aw_fc5, aw_rep, aw_idle, aw_need0, aw_need5, aw_scheck0, aw_div0, aw_div5, aw_clb, aw_comp, aw_fc5e, aw_copy, trivial⟩) 30 _ _ _ _ _ (by kernel_rfl : evF Tryz.prog (knL aw_ap1L) [60, 7, 85, 54, 113, 18, 56, 20, 43, 83, 134, 86, 19, 51, 52] 200 30 56 (([net1 , d0 , .agg [.int 1, .int 0, .int 0, zp]] : List T).map S.t) [] = some ((.tup [(.t (.agg [(.sl 4 [(.agg [(.int 1), (.int 0), (.lit (.bool .true)), (.lit (.bool .false))]), (.agg [(.int 1), (.int 0), (.lit (.bool .false)), (.lit (.bool .false))]), (.agg [(.int 1), (.int 0), (.lit (.bool .false)), (.lit (.bool .false))])]), (.agg [(.sl 1 [(.int 0)]), (.sl 1 [(.int 0), (.int 0)]), (.sl 1 [])])])), (.t (.int 0))]), []))
abbrev aw_ap1E : Ent := ⟨56, [net1 , d0 , .agg [.int 1, .int 0, .int 0, zp]], (.tup [(.t (.agg [(.sl 4 [(.agg [(.int 1), (.int 0), (.lit (.bool .true)), (.lit (.bool .false))]), (.agg [(.int 1), (.int 0), (.lit (.bool .false)), (.lit (.bool .false))]), (.agg [(.int 1), (.int 0), (.lit (.bool .false)), (.lit (.bool .false))])]), (.agg [(.sl 1 [(.int 0)]), (.sl 1 [(.int 0), (.int 0)]), (.sl 1 [])])])), (.t (.int 0))]), []⟩
def aw_runL : List Ent := [aw_netE, aw_singleE, aw_fc0E, aw_fc5E, aw_repE, aw_idleE, aw_need0E, aw_need5E, aw_scheck0E, aw_div0E, aw_div5E, aw_clbE, aw_compE, aw_fc5eE, aw_copyE, aw_ap1E]
theorem aw_run : FnOk Tryz.prog 20 (([net1 , d0 , steps] : List T).map S.t) [] (.tup [(.t (.agg [(.sl 4 [(.agg [(.int 1), (.int 1), (.lit (.bool .true)), (.lit (.bool .false))]), (.agg [(.int 1), (.int 1), (.lit (.bool .true)), (.lit (.bool .false))]), (.agg [(.int 1), (.int 1), (.lit (.bool .true)), (.lit (.bool .false))])]), (.agg [(.sl 1 [(.int 5)]), (.sl 1 [(.int 5), (.int (-5))]), (.sl 1 [])])])), (.t (.int 6)), (.t (.int 0))]) [] := evF_spec fact_mixed (knL_ok (l := aw_runL) ⟨aw_net, aw_single, aw_fc0, aw_fc5, aw_rep, aw_idle, aw_need0, aw_need5, aw_scheck0, aw_div0, aw_div5, aw_clb, aw_comp, aw_fc5e, aw_copy, aw_ap1, trivial⟩) 30 _ _ _ _ _ (by kernel_rfl : evF Tryz.prog (knL aw_runL) [60, 7, 85, 54, 113, 18, 56, 20, 43, 83, 134, 86, 19, 51, 52] 200 30 20 (([net1 , d0 , steps] : List T).map S.t) [] = some ((.tup [(.t (.agg [(.sl 4 [(.agg [(.int 1), (.int 1), (.lit (.bool .true)), (.lit (.bool .false))]), (.agg [(.int 1), (.int 1), (.lit (.bool .true)), (.lit (.bool .false))]), (.agg [(.int 1), (.int 1), (.lit (.bool .true)), (.lit (.bool .false))])]), (.agg [(.sl 1 [(.int 5)]), (.sl 1 [(.int 5), (.int (-5))]), (.sl 1 [])])])), (.t (.int 6)), (.t (.int 0))]), []))
abbrev aw_runE : Ent := ⟨20, [net1 , d0 , steps], (.tup [(.t (.agg [(.sl 4 [(.agg [(.int 1), (.int 1), (.lit (.bool .true)), (.lit (.bool .false))]), (.agg [(.int 1), (.int 1), (.lit (.bool .true)), (.lit (.bool .false))]), (.agg [(.int 1), (.int 1), (.lit (.bool .true)), (.lit (.bool .false))])]), (.agg [(.sl 1 [(.int 5)]), (.sl 1 [(.int 5), (.int (-5))]), (.sl 1 [])])])), (.t (.int 6)), (.t (.int 0))]), []⟩
def aw_ordL : List Ent := [aw_netE, aw_singleE, aw_fc0E, aw_fc5E, aw_repE, aw_idleE, aw_need0E, aw_need5E, aw_scheck0E, aw_div0E, aw_div5E, aw_clbE, aw_compE, aw_fc5eE, aw_copyE, aw_ap1E, aw_runE]
theorem aw_ord : FnOk Tryz.prog 70 (([net1 , pl5e] : List T).map S.t) [] (.tup [(.t (.sl 1 [(.int 0), (.int 1)])), (.t (.int 0))]) [] := evF_spec fact_mixed (knL_ok (l := aw_ordL) ⟨aw_net, aw_single, aw_fc0, aw_fc5, aw_rep, aw_idle, aw_need0, aw_need5, aw_scheck0, aw_div0, aw_div5, aw_clb, aw_comp, aw_fc5e, aw_copy, aw_ap1, aw_run, trivial⟩) 30 _ _ _ _ _ (by kernel_rfl : evF Tryz.prog (knL aw_ordL) [60, 7, 85, 54, 113, 18, 56, 20, 43, 83, 134, 86, 19, 51, 52] 200 30 70 (([net1 , pl5e] : List T).map S.t) [] = some ((.tup [(.t (.sl 1 [(.int 0), (.int 1)])), (.t (.int 0))]), []))
abbrev aw_ordE : Ent := ⟨70, [net1 , pl5e], (.tup [(.t (.sl 1 [(.int 0), (.int 1)])), (.t (.int 0))]), []⟩
end Go.Proofs.YtcehllkmfkoncaaGreat
/- The network of one segment (capacity c, a plan of rate r): what the kernel finds for any c. No condition. -/
namespace Go.Proofs.YtcehllkmfkoncaaGreat
open Go.RowKit Sy
set_option linter.unusedVariables false
set_option maxRecDepth 100000
set_option maxHeartbeats 4000000
abbrev segC (c : Int) : T := .agg [.lit (.string (str [103])), .int 0, .int 1, .int c, .int 0, .int 0, .sl 3 [.agg [.int 0, .int 0, .int 1000000], .agg [.int c, .int 0, .int 1000000]]]
abbrev portsC : List T := [.agg [.lit (.string (str [112])), .int 0, .int 300000], .agg [.lit (.string (str [113])), .int 1, .int 0]]
abbrev nodesC : List T := [.lit (.string (str [97])), .lit (.string (str [98]))]
abbrev netCl (c : Int) : List T := [.sl 1 nodesC, .sl 7 [segC c], .sl 3 portsC, .lit (.slice none 0 0), .int 0, .int 0]
abbrev netC (c : Int) : T := .agg (netCl c)
abbrev plRl (r : Int) : List T := [.sl 1 [.int r], .sl 1 [.int r, .int (-r)], .lit (.slice none 0 0)]
abbrev plR (r : Int) : T := .agg (plRl r)
abbrev namesC : List T := [.sl 1 nodesC, .sl 1 [.lit (.string (str [103]))], .sl 1 [.lit (.string (str [112])), .lit (.string (str [113]))], .lit (.slice none 0 0)]
abbrev arrR (r : Int) : List T := .int r :: .int r :: List.replicate 22 (.int 0)
theorem nt_lim (c : Int) : FnOk Tryz.prog 59 (([netC c] : List T).map S.t) [] (.t (.bool true)) [] := evF_spec fact_mixed noKn_ok 30 _ _ _ _ _ (by kernel_rfl : evF Tryz.prog noKn [] 200 30 59 (([netC c] : List T).map S.t) [] = some (.t (.bool true), []))
theorem nt_tw (c : Int) : FnOk Tryz.prog 64 (([netC c] : List T).map S.t) [] (.t (.bool false)) [] := evF_spec fact_mixed noKn_ok 30 _ _ _ _ _ (by kernel_rfl : evF Tryz.prog noKn [60] 200 30 64 (([netC c] : List T).map S.t) [] = some (.t (.bool false), []))
theorem nt_kw (c : Int) : FnOk Tryz.prog 65 (([netC c] : List T).map S.t) [] (.t (.bool true)) [] := evF_spec fact_mixed noKn_ok 30 _ _ _ _ _ (by kernel_rfl : evF Tryz.prog noKn [] 200 30 65 (([netC c] : List T).map S.t) [] = some (.t (.bool true), []))
theorem nt_nm (c : Int) : FnOk Tryz.prog 60 (([netC c] : List T).map S.t) [] (.t (.agg namesC)) [] := evF_spec fact_mixed noKn_ok 30 _ _ _ _ _ (by kernel_rfl : evF Tryz.prog noKn [60] 200 30 60 (([netC c] : List T).map S.t) [] = some (.t (.agg namesC), []))
theorem nt_cn (l : T) (h : l ∈ namesC) : FnOk Tryz.prog 61 [.t l, .fn 62 []] [] (.t (.bool false)) [] := by
  simp only [namesC, List.mem_cons, List.not_mem_nil, or_false] at h
  rcases h with rfl | rfl | rfl | rfl
  · exact evF_spec fact_mixed noKn_ok 30 _ _ _ _ _ (by kernel_rfl : evF Tryz.prog noKn [] 200 30 61 [.t (.sl 1 nodesC), .fn 62 []] [] = some (.t (.bool false), []))
  · exact evF_spec fact_mixed noKn_ok 30 _ _ _ _ _ (by kernel_rfl : evF Tryz.prog noKn [] 200 30 61 [.t (.sl 1 [.lit (.string (str [103]))]), .fn 62 []] [] = some (.t (.bool false), []))
  · exact evF_spec fact_mixed noKn_ok 30 _ _ _ _ _ (by kernel_rfl : evF Tryz.prog noKn [] 200 30 61 [.t (.sl 1 [.lit (.string (str [112])), .lit (.string (str [113]))]), .fn 62 []] [] = some (.t (.bool false), []))
  · exact evF_spec fact_mixed noKn_ok 30 _ _ _ _ _ (by kernel_rfl : evF Tryz.prog noKn [] 200 30 61 [.t (.lit (.slice none 0 0)), .fn 62 []] [] = some (.t (.bool false), []))
theorem nt_cp : FnOk Tryz.prog 105 [.t (.sl 3 portsC), .fn 106 []] [] (.t (.bool false)) [] := evF_spec fact_mixed noKn_ok 30 _ _ _ _ _ (by kernel_rfl : evF Tryz.prog noKn [] 200 30 105 [.t (.sl 3 portsC), .fn 106 []] [] = some (.t (.bool false), []))
theorem nt_cs : FnOk Tryz.prog 108 [.t (.lit (.slice none 0 0)), .fn 109 []] [] (.t (.bool false)) [] := evF_spec fact_mixed noKn_ok 30 _ _ _ _ _ (by kernel_rfl : evF Tryz.prog noKn [] 200 30 108 [.t (.lit (.slice none 0 0)), .fn 109 []] [] = some (.t (.bool false), []))
theorem nt_or_0 (c : Int) : evF Tryz.prog noKn [113] 200 30 113 (([netC c, plR 0] : List T).map S.t) [] = some (.t (.sl 1 [.int 0, .int 1]), []) := by kernel_rfl
theorem nt_or_1 (c : Int) : evF Tryz.prog noKn [113] 200 30 113 (([netC c, plR 1] : List T).map S.t) [] = some (.t (.sl 1 [.int 0, .int 1]), []) := by kernel_rfl
theorem nt_or_2 (c : Int) : evF Tryz.prog noKn [113] 200 30 113 (([netC c, plR 2] : List T).map S.t) [] = some (.t (.sl 1 [.int 0, .int 1]), []) := by kernel_rfl
theorem nt_or_3 (c : Int) : evF Tryz.prog noKn [113] 200 30 113 (([netC c, plR 3] : List T).map S.t) [] = some (.t (.sl 1 [.int 0, .int 1]), []) := by kernel_rfl
theorem nt_or_4 (c : Int) : evF Tryz.prog noKn [113] 200 30 113 (([netC c, plR 4] : List T).map S.t) [] = some (.t (.sl 1 [.int 0, .int 1]), []) := by kernel_rfl
theorem nt_or_5 (c : Int) : evF Tryz.prog noKn [113] 200 30 113 (([netC c, plR 5] : List T).map S.t) [] = some (.t (.sl 1 [.int 0, .int 1]), []) := by kernel_rfl
theorem nt_or_6 (c : Int) : evF Tryz.prog noKn [113] 200 30 113 (([netC c, plR 6] : List T).map S.t) [] = some (.t (.sl 1 [.int 0, .int 1]), []) := by kernel_rfl
theorem nt_or_7 (c : Int) : evF Tryz.prog noKn [113] 200 30 113 (([netC c, plR 7] : List T).map S.t) [] = some (.t (.sl 1 [.int 0, .int 1]), []) := by kernel_rfl
theorem nt_or_8 (c : Int) : evF Tryz.prog noKn [113] 200 30 113 (([netC c, plR 8] : List T).map S.t) [] = some (.t (.sl 1 [.int 0, .int 1]), []) := by kernel_rfl
theorem nt_or_9 (c : Int) : evF Tryz.prog noKn [113] 200 30 113 (([netC c, plR 9] : List T).map S.t) [] = some (.t (.sl 1 [.int 0, .int 1]), []) := by kernel_rfl
theorem nt_or_10 (c : Int) : evF Tryz.prog noKn [113] 200 30 113 (([netC c, plR 10] : List T).map S.t) [] = some (.t (.sl 1 [.int 0, .int 1]), []) := by kernel_rfl
theorem nt_or_11 (c : Int) : evF Tryz.prog noKn [113] 200 30 113 (([netC c, plR 11] : List T).map S.t) [] = some (.t (.sl 1 [.int 0, .int 1]), []) := by kernel_rfl
theorem nt_or (c r : Int) (h0 : 0 ≤ r) (h1 : r ≤ 11) : FnOk Tryz.prog 113 [.t (netC c), .t (plR r)] [] (.t (.sl 1 [.int 0, .int 1])) [] := by
  obtain ⟨k, rfl⟩ : ∃ k : Nat, r = k := ⟨r.toNat, by omega⟩
  have h2 : k = 0 ∨ k = 1 ∨ k = 2 ∨ k = 3 ∨ k = 4 ∨ k = 5 ∨ k = 6 ∨ k = 7 ∨ k = 8 ∨ k = 9 ∨ k = 10 ∨ k = 11 := by omega
  rcases h2 with rfl | rfl | rfl | rfl | rfl | rfl | rfl | rfl | rfl | rfl | rfl | rfl
  · exact evF_spec fact_mixed noKn_ok 30 _ _ _ _ _ (nt_or_0 c)
  · exact evF_spec fact_mixed noKn_ok 30 _ _ _ _ _ (nt_or_1 c)
  · exact evF_spec fact_mixed noKn_ok 30 _ _ _ _ _ (nt_or_2 c)
  · exact evF_spec fact_mixed noKn_ok 30 _ _ _ _ _ (nt_or_3 c)
  · exact evF_spec fact_mixed noKn_ok 30 _ _ _ _ _ (nt_or_4 c)
  · exact evF_spec fact_mixed noKn_ok 30 _ _ _ _ _ (nt_or_5 c)
  · exact evF_spec fact_mixed noKn_ok 30 _ _ _ _ _ (nt_or_6 c)
  · exact evF_spec fact_mixed noKn_ok 30 _ _ _ _ _ (nt_or_7 c)
  · exact evF_spec fact_mixed noKn_ok 30 _ _ _ _ _ (nt_or_8 c)
  · exact evF_spec fact_mixed noKn_ok 30 _ _ _ _ _ (nt_or_9 c)
  · exact evF_spec fact_mixed noKn_ok 30 _ _ _ _ _ (nt_or_10 c)
  · exact evF_spec fact_mixed noKn_ok 30 _ _ _ _ _ (nt_or_11 c)
theorem nt_su_0 (c : Int) : evF Tryz.prog noKn [] 200 30 112 (([netC c, plR 0] : List T).map S.t) [] = some (.t (.agg [.agg (arrR 0), .agg (arrR 0)]), []) := by kernel_rfl
theorem nt_su_1 (c : Int) : evF Tryz.prog noKn [] 200 30 112 (([netC c, plR 1] : List T).map S.t) [] = some (.t (.agg [.agg (arrR 1), .agg (arrR 1)]), []) := by kernel_rfl
theorem nt_su_2 (c : Int) : evF Tryz.prog noKn [] 200 30 112 (([netC c, plR 2] : List T).map S.t) [] = some (.t (.agg [.agg (arrR 2), .agg (arrR 2)]), []) := by kernel_rfl
theorem nt_su_3 (c : Int) : evF Tryz.prog noKn [] 200 30 112 (([netC c, plR 3] : List T).map S.t) [] = some (.t (.agg [.agg (arrR 3), .agg (arrR 3)]), []) := by kernel_rfl
theorem nt_su_4 (c : Int) : evF Tryz.prog noKn [] 200 30 112 (([netC c, plR 4] : List T).map S.t) [] = some (.t (.agg [.agg (arrR 4), .agg (arrR 4)]), []) := by kernel_rfl
theorem nt_su_5 (c : Int) : evF Tryz.prog noKn [] 200 30 112 (([netC c, plR 5] : List T).map S.t) [] = some (.t (.agg [.agg (arrR 5), .agg (arrR 5)]), []) := by kernel_rfl
theorem nt_su_6 (c : Int) : evF Tryz.prog noKn [] 200 30 112 (([netC c, plR 6] : List T).map S.t) [] = some (.t (.agg [.agg (arrR 6), .agg (arrR 6)]), []) := by kernel_rfl
theorem nt_su_7 (c : Int) : evF Tryz.prog noKn [] 200 30 112 (([netC c, plR 7] : List T).map S.t) [] = some (.t (.agg [.agg (arrR 7), .agg (arrR 7)]), []) := by kernel_rfl
theorem nt_su_8 (c : Int) : evF Tryz.prog noKn [] 200 30 112 (([netC c, plR 8] : List T).map S.t) [] = some (.t (.agg [.agg (arrR 8), .agg (arrR 8)]), []) := by kernel_rfl
theorem nt_su_9 (c : Int) : evF Tryz.prog noKn [] 200 30 112 (([netC c, plR 9] : List T).map S.t) [] = some (.t (.agg [.agg (arrR 9), .agg (arrR 9)]), []) := by kernel_rfl
theorem nt_su_10 (c : Int) : evF Tryz.prog noKn [] 200 30 112 (([netC c, plR 10] : List T).map S.t) [] = some (.t (.agg [.agg (arrR 10), .agg (arrR 10)]), []) := by kernel_rfl
theorem nt_su_11 (c : Int) : evF Tryz.prog noKn [] 200 30 112 (([netC c, plR 11] : List T).map S.t) [] = some (.t (.agg [.agg (arrR 11), .agg (arrR 11)]), []) := by kernel_rfl
theorem nt_su (c r : Int) (h0 : 0 ≤ r) (h1 : r ≤ 11) : FnOk Tryz.prog 112 [.t (netC c), .t (plR r)] [] (.t (.agg [.agg (arrR r), .agg (arrR r)])) [] := by
  obtain ⟨k, rfl⟩ : ∃ k : Nat, r = k := ⟨r.toNat, by omega⟩
  have h2 : k = 0 ∨ k = 1 ∨ k = 2 ∨ k = 3 ∨ k = 4 ∨ k = 5 ∨ k = 6 ∨ k = 7 ∨ k = 8 ∨ k = 9 ∨ k = 10 ∨ k = 11 := by omega
  rcases h2 with rfl | rfl | rfl | rfl | rfl | rfl | rfl | rfl | rfl | rfl | rfl | rfl
  · exact evF_spec fact_mixed noKn_ok 30 _ _ _ _ _ (nt_su_0 c)
  · exact evF_spec fact_mixed noKn_ok 30 _ _ _ _ _ (nt_su_1 c)
  · exact evF_spec fact_mixed noKn_ok 30 _ _ _ _ _ (nt_su_2 c)
  · exact evF_spec fact_mixed noKn_ok 30 _ _ _ _ _ (nt_su_3 c)
  · exact evF_spec fact_mixed noKn_ok 30 _ _ _ _ _ (nt_su_4 c)
  · exact evF_spec fact_mixed noKn_ok 30 _ _ _ _ _ (nt_su_5 c)
  · exact evF_spec fact_mixed noKn_ok 30 _ _ _ _ _ (nt_su_6 c)
  · exact evF_spec fact_mixed noKn_ok 30 _ _ _ _ _ (nt_su_7 c)
  · exact evF_spec fact_mixed noKn_ok 30 _ _ _ _ _ (nt_su_8 c)
  · exact evF_spec fact_mixed noKn_ok 30 _ _ _ _ _ (nt_su_9 c)
  · exact evF_spec fact_mixed noKn_ok 30 _ _ _ _ _ (nt_su_10 c)
  · exact evF_spec fact_mixed noKn_ok 30 _ _ _ _ _ (nt_su_11 c)
end Go.Proofs.YtcehllkmfkoncaaGreat
/- Symbolic execution within the round of a range over a function. No condition. -/
namespace Go.Proofs.YtcehllkmfkoncaaGreat.Sy
open Go.RowKit
set_option linter.unusedVariables false
set_option linter.unusedSimpArgs false

theorem r_rows {P : Program} {row : String} {args : Array Value} {w : World} {R : Value → World → Prop} {n l : Nat} (h : Rows P row args w R) : RowsIn (Fence.wide.inRound l) n P row args w R :=
  fun c cs _ => let ⟨v, w', r, s⟩ := h c cs; ⟨v, w', r, stepsIn_wide.2 s⟩
def onlyN (Q : Exit → Act → World → Prop) : Exit → Act → World → Prop
  | .normal, a, w => Q .normal a w
  | .panic c, a, w => Q (.panic c) a w
  | _, _, _ => False
theorem onlyN_out (Q : Exit → Act → World → Prop) : ¬ LetsOut (onlyN Q) := fun h => by
  obtain ⟨a, w, h⟩ := h; exact h
theorem r_op {P : Program} {o : Oper} {a : Act} {w : World} {K K' : Act → World → Prop} {Q : Exit → Act → World → Prop} {l n : Nat} (hd : ∀ c, o.op ≠ .defer c) (hK : ∀ a w, K a w → K' a w) (h : o.wp P a w K (onlyN Q)) : o.wpIn (Fence.wide.inRound l) n P a w K' Q := by
  refine ⟨fun _ _ => trivial, ?_⟩
  rw [Oper.semAt_eq _ _ _ hd]
  unfold Oper.wp at h
  generalize (execOp a.eval o).run P w = r at *
  cases r with
  | ok x w' =>
    cases x <;> simp only [Oper.upon, Oper.uponIn] at h ⊢
    case value => exact hK _ _ h
    case skip => exact hK _ _ h
    case defer => exact hK _ _ h
    case enter f args =>
      refine ⟨fun h => by simp [Fence.wide] at h, CallsIn.inRound l (callsIn_wide.2 (Calls.mono h fun e w'' he => ?_))⟩
      cases e with
      | returned v => exact hK _ _ he
      | panicked c => exact he
      | outgrown => exact (onlyN_out Q he).elim
    case row row args => exact ⟨fun h => by simp [Fence.wide] at h, r_rows (Rows.mono h fun v w'' he => hK _ _ he)⟩
  | halt x w' => cases x <;> simp only [Oper.upon, Oper.uponIn] at h ⊢ <;> first | exact h | cases h
theorem r_any {P : Program} {ops : Array Oper} {Q : Exit → Act → World → Prop} {l n : Nat} (hd : ∀ o ∈ ops.toList, ∀ c, o.op ≠ .defer c) : ∀ (fuel : Nat) (listed : Array Bool) (a : Act) (w : World), wpAny P .any ops (onlyN Q) fuel listed a w → wpAnyIn (Fence.wide.inRound l) n P .any ops Q fuel listed a w
  | 0, _, _, _, h => h
  | fuel + 1, listed, a, w, h => by
    refine ⟨h.1, fun i hi => ?_⟩
    have h2 := h.2 i hi
    unfold wpOp at h2
    unfold wpOpIn
    split
    · rename_i ho
      rw [ho] at h2
      exact r_any hd fuel _ _ _ h2
    · rename_i o ho
      rw [ho] at h2
      simp only at h2
      split
      · rename_i hw
        rw [if_pos hw] at h2
        rcases h2 with h2 | ⟨_, h2⟩
        · exact r_op (hd o (by obtain ⟨h, e⟩ := Array.getElem?_eq_some_iff.1 ho; rw [← e]; simp)) (fun a w => r_any hd fuel _ _ _) h2
        · exact (onlyN_out Q h2).elim
      · rename_i hw
        rw [if_neg hw] at h2
        exact ⟨fun _ _ => trivial, r_any hd fuel _ _ _ h2⟩
theorem r_ops {P : Program} {ops : Array Oper} {Q : Exit → Act → World → Prop} {r n : Nat} (hd : ∀ o ∈ ops.toList, ∀ c, o.op ≠ .defer c) : ∀ (l : List Nat) (a : Act) (w : World), wpOps P ops (onlyN Q) l a w → wpOpsIn (Fence.wide.inRound r) n P ops Q l a w
  | [], a, w, h => h
  | i :: l, a, w, h => by
    unfold wpOps at h
    unfold wpOpsIn
    split
    · rename_i ho
      rw [ho] at h
      exact r_ops hd l a w h
    · rename_i o ho
      rw [ho] at h
      simp only at h
      split
      · rename_i hw
        rw [if_pos hw] at h
        rcases h with h | ⟨_, h⟩
        · exact r_op (hd o (by obtain ⟨h, e⟩ := Array.getElem?_eq_some_iff.1 ho; rw [← e]; simp)) (fun a w => r_ops hd l a w) h
        · exact (onlyN_out Q h).elim
      · rename_i hw
        rw [if_neg hw] at h
        exact ⟨fun _ _ => trivial, r_ops hd l _ w h⟩
/-- Code that is walked in a round: no loop, no jump, nothing put off. -/
def flatO (ops : Array Oper) : Bool := ops.toList.all fun o => match o.op with
  | .defer _ => false
  | _ => true
theorem flatO_spec {ops : Array Oper} (h : flatO ops = true) : ∀ o ∈ ops.toList, ∀ c, o.op ≠ .defer c := fun o ho c e => by
  have := List.all_eq_true.1 h o ho
  rw [e] at this
  cases this
def flatC : Code → Bool
  | .skip => true
  | .region _ ops _ => flatO ops
  | .seq a b => flatC a && flatC b
  | .cond _ a b => flatC a && flatC b
  | .block _ c => flatC c
  | .exit _ => true
  | .ret => true
  | _ => false
/-- CW within a round. -/
def CR (N : Nat) (P : Program) (r n : Nat) (c : Code) (Q : Exit → St → Prop) (σ : St) : Prop :=
  ∀ (W : World) (G0 : Gh) (A : Nat → Prop) (a : Act) (w : World), Sat N W G0 A σ a w → c.wpIn (Fence.wide.inRound r) n P (fun e a' w' => ∃ σ', Q e σ' ∧ Sat N W G0 A σ' a' w') a w
theorem nf_round {N : Nat} {P : Program} (hm : P.follows .mixedOrders = true) (r n : Nat) : ∀ (c : Code) (Q : Exit → St → Prop) (σ : St), okCode N c = true → flatC c = true → nf N P [] c Q σ → CR N P r n c Q σ
  | .skip, Q, σ, _, _, h => fun W G0 A a w hs => wpIn_skip ⟨σ, h, hs⟩
  | .region id ops false, Q, σ, hc, hf, h => by
    intro W G0 A a w hs
    obtain ⟨G, hs⟩ := hs
    simp only [okCode] at hc
    simp only [flatC] at hf
    simp only [nf] at h
    obtain ⟨es, σ', h1, h2⟩ := opsK_spec (okOps_spec hc) h
    refine wpIn_region (r_ops (flatO_spec hf) _ _ _ ?_)
    have := chain_plain (N := N) (W := W) (G0 := G0) (A := A) (Q := onlyN fun e a' w' => ∃ σ', Q e σ' ∧ Sat N W G0 A σ' a' w') (k := 0) (fun j oj t hj ht => okOps_get hc (by simpa using hj) ht) h1 (fun j => by simp) (fun G a w hs' => ⟨σ', h2, G, hs'⟩) G a w hs
    rw [Array.length_toList] at this
    rw [List.range_eq_range']
    exact this
  | .region id ops true, Q, σ, hc, hf, h => by
    intro W G0 A a w hs
    obtain ⟨G, hs⟩ := hs
    simp only [okCode] at hc
    simp only [flatC] at hf
    simp only [nf] at h
    obtain ⟨es, σ', h1, h2, h3⟩ := opsK_spec (okOps_spec hc) h
    simp only [DrawChk, List.append_nil, List.reverse_reverse, Bool.and_eq_true] at h2
    refine wpIn_region_any hm (r_any (flatO_spec hf) _ _ _ _ ?_)
    have := any_draws (N := N) (W := W) (G0 := G0) (A := A) (Q := onlyN fun e a' w' => ∃ σ', Q e σ' ∧ Sat N W G0 A σ' a' w') (fun j oj t hj ht => okOps_get hc hj ht) h1 h2.1
      (fun e he l hl => ⟨chain_nw h1 e he l hl, nwsOk_spec h2.2 e (by simpa using he) l hl⟩) (fun G a w hs' => ⟨σ', h3, G, hs'⟩) hs
    exact this
  | .seq x y, Q, σ, hc, hf, h => by
    intro W G0 A a w hs
    simp only [okCode, Bool.and_eq_true] at hc
    simp only [flatC, Bool.and_eq_true] at hf
    have hst : stops [] x = false := by unfold stops; split <;> simp
    simp only [nf, hst] at h
    refine wpIn_seq (wpIn_mono (nf_round hm r n x _ σ hc.1 hf.1 h W G0 A a w hs) ?_)
    rintro e a w ⟨σ', h1, h2⟩
    cases e <;> first | exact nf_round hm r n y Q σ' hc.2 hf.2 h1 W G0 A a w h2 | exact ⟨σ', h1, h2⟩
  | .cond c x y, Q, σ, hc, hf, h => by
    intro W G0 A a w hs
    simp only [okCode, Bool.and_eq_true] at hc
    simp only [flatC, Bool.and_eq_true] at hf
    simp only [nf] at h
    split at h
    · rename_i v hv
      obtain ⟨G, hs'⟩ := hs
      have h1 := hs'.eval c
      rw [hv] at h1
      unfold RepS at h1; unfold Rep at h1
      refine wpIn_cond h1.1 ?_
      cases v
      · exact nf_round hm r n y Q σ hc.2 hf.2 h W G0 A a w ⟨G, hs'⟩
      · exact nf_round hm r n x Q σ hc.1 hf.1 h W G0 A a w ⟨G, hs'⟩
    · exact h.elim
  | .block id c, Q, σ, hc, hf, h => by
    intro W G0 A a w hs
    simp only [okCode] at hc
    simp only [flatC] at hf
    simp only [nf] at h
    refine wpIn_block (wpIn_mono (nf_round hm r n c _ σ hc hf h W G0 A a w hs) ?_)
    rintro e a w ⟨σ', h1, h2⟩
    cases e with
    | exit i =>
      simp only [BlockQ] at h1
      simp only [Exit.inBlock]
      split
      · rename_i e; rw [if_pos e] at h1; exact ⟨σ', h1, h2⟩
      · rename_i e; rw [if_neg e] at h1; exact ⟨σ', h1, h2⟩
    | _ => exact ⟨σ', h1, h2⟩
  | .exit id, Q, σ, _, _, h => fun W G0 A a w hs => wpIn_exit ⟨σ, h, hs⟩
  | .ret, Q, σ, _, _, h => fun W G0 A a w hs => wpIn_ret ⟨σ, h, hs⟩
  | .loop _, Q, σ, _, hf, _ => by simp only [flatC] at hf; cases hf
  | .scope _, Q, σ, _, hf, _ => by simp only [flatC] at hf; cases hf
  | .rangeFunc _ _ _ _, Q, σ, _, hf, _ => by simp only [flatC] at hf; cases hf
  | .label _, Q, σ, _, hf, _ => by simp only [flatC] at hf; cases hf
  | .goto _, Q, σ, _, hf, _ => by simp only [flatC] at hf; cases hf
  | .refuse _, Q, σ, _, hf, _ => by simp only [flatC] at hf; cases hf
end Go.Proofs.YtcehllkmfkoncaaGreat.Sy
/- Symbolic execution: ranges over functions. No condition. -/
namespace Go.Proofs.YtcehllkmfkoncaaGreat.Sy
open Go.RowKit
set_option linter.unusedVariables false
set_option linter.unusedSimpArgs false

/-- What an iterator does: it gives ys, one by one, as long as the rounds say so. F0: memory that it reads and that no round writes; Rd: what it reads. -/
def IterOk (P : Program) (gf : FuncId) (lb : Array Value) (ys : List (List Value)) (F0 : Nat → Prop) (Rd0 Rd : World → Prop) : Prop :=
  ∀ (l : Nat) (J : Nat → World → Prop) (Jx : World → Prop) (W : World), Rd0 W →
    (∀ k A B, J k A → Below A.heap.size A B → J k B) → (∀ A B, Jx A → Below A.heap.size A B → Jx B) → (∀ k A, J k A → Rd A) →
    (∀ k y A, ys[k]? = some y → J k A → YieldAt Fence.wide 7 P l y.toArray A fun e B => (∀ b o, F0 b → B.cell? ⟨b, o, none⟩ = A.cell? ⟨b, o, none⟩) ∧ ((e = .returned (.bool true) ∧ J (k + 1) B) ∨ (e = .returned (.bool false) ∧ Jx B))) →
    J 0 W → CallsIn Fence.wide 8 P gf (#[.func (.yield l) #[] #[]] ++ lb) W fun e B => (∃ v, e = .returned v) ∧ (J ys.length B ∨ Jx B)

/-- Whatever is no cells, but the loop's record, lies as it lay. -/
def KA (l : Nat) (A W' : World) : Prop := ∀ (k : Nat) (o : Obj), k ≠ l → A.heap[k]? = some o → o.isCells = false → W'.heap[k]? = some o
/-- How a round may be left. -/
def roundEnd (l : Nat) (o' : Obj) (F0 : Nat → Prop) (A : World) (I : World → Prop) (Ix : Code → World → Prop) (e : Exit) (w' : World) : Prop :=
  KA l A w' ∧ w'.heap[l]? = some o' ∧ (∀ b o, F0 b → w'.cell? ⟨b, o, none⟩ = A.cell? ⟨b, o, none⟩) ∧ match e with
    | .normal => I w'
    | .ret => Ix .ret w'
    | .exit id => Ix (.exit id) w'
    | _ => False

theorem wpIn_range {P : Program} {g : Operand} {ps : Array Tmp} {assign body : Code} {Q : Exit → Act → World → Prop} {a : Act} {w : World} {gf : FuncId} {lb : Array Value} {ys : List (List Value)} {F0 : Nat → Prop} {Rd0 Rd : World → Prop}
    (hg : a.eval g = .func (.func gf) #[] lb) (eg : ∀ args w, (callFunc gf args).run P w = .ok (.enter gf args) w) (hit : IterOk P gf lb ys F0 Rd0 Rd) (hps : ∀ y ∈ ys, y.length = ps.size)
    (I : Nat → World → Prop) (Ix : Code → World → Prop)
    (hIb : ∀ k A B, I k A → Below A.heap.size A B → I k B) (hIp : ∀ k A D o o', I k A → A.heap[D]? = some o → o.isCells = false → o'.isCells = false → w.heap.size ≤ D → I k (A.putObj D o'))
    (hXb : ∀ c A B, Ix c A → Below A.heap.size A B → Ix c B) (hXp : ∀ c A D o o', Ix c A → A.heap[D]? = some o → o.isCells = false → o'.isCells = false → w.heap.size ≤ D → Ix c (A.putObj D o'))
    (hRd : ∀ k A, I k A → Rd A) (hRd0 : ∀ B, Below w.heap.size w B → Rd0 B) (h0 : I 0 w)
    (hround : ∀ (l k : Nat) (y : List Value) (A : World), ys[k]? = some y → I k A → w.heap.size ≤ l → (∃ r, A.heap[l]? = some (.loop r)) →
      assign.wpIn (Fence.wide.inRound l) 7 P (Exit.then (fun a1 w1 => KA l A w1 ∧ w1.heap[l]? = A.heap[l]? ∧ ∀ o' : Obj, o'.isCells = false → body.wpIn (Fence.wide.inRound l) 7 P (fun e _ w' => roundEnd l o' F0 A (I (k + 1)) Ix e w') a1 (w1.putObj l o')) (fun _ _ _ => False))
        { tmps := (ps.zip y.toArray).foldl (fun t (p, v) => t.setIfInBounds p v) a.tmps, defers := [] } A)
    (hdone : ∀ (D : Nat) (W : World), w.heap.size ≤ D → I ys.length W → W.heap[D]? = some (Obj.deferred (some [])) → Q .normal { a with defers := { target := .collected D, args := #[] } :: a.defers } W)
    (hstop : ∀ (D : Nat) (c : Code) (W : World), w.heap.size ≤ D → Ix c W → W.heap[D]? = some (Obj.deferred (some [])) → c.wpIn Fence.wide 9 P Q { a with defers := { target := .collected D, args := #[] } :: a.defers } W) :
    (Code.rangeFunc g ps assign body).wpIn Fence.wide 9 P Q a w := by
  refine wpIn_rangeFunc ?_
  intro fn hfn
  obtain ⟨rec, hrec⟩ : ∃ rec : LoopState → Option Code → Loop, rec = fun st pe => { state := st, pending := pe, fn, tmps := a.tmps, params := ps, assign, body, defers := w.heap.size } := ⟨_, rfl⟩
  obtain ⟨W1, hW1⟩ : ∃ W1, (w.alloc (.deferred (some []))).alloc (.loop (rec .ready none)) = W1 := ⟨_, rfl⟩
  have hL1 : W1.heap[w.heap.size + 1]? = some (Obj.loop (rec .ready none)) := by
    rw [← hW1]; have := World.alloc_heap_new (w.alloc (.deferred (some []))) (.loop (rec .ready none)); rwa [World.size_alloc] at this
  have hK1 : W1.heap[w.heap.size]? = some (Obj.deferred (some [])) := by
    rw [← hW1]; exact (Below.heap_alloc _ _ _ (by simp)).trans (World.alloc_heap_new w _)
  have hb1 : Below w.heap.size w W1 := by
    rw [← hW1]; exact ((Below.refl _ w).alloc (Nat.le_refl _) _).alloc (by simp) _
  have hI1 : I 0 W1 := hIb _ _ _ h0 hb1
  refine ⟨w.heap.size + 1, [{ target := .collected w.heap.size, args := #[] }], W1, { target := .fn (.func gf) lb, args := #[.func (.yield (w.heap.size + 1)) #[] #[]] }, W1, gf,
    #[.func (.yield (w.heap.size + 1)) #[] #[]] ++ lb, W1, ?_, ?_, ?_, ?_, fun _ => by omega, ?_⟩
  · rw [← hW1, hrec]; exact run_enterLoop_outer _ _ _ _ _
  · simp only [resolve, hg]
    simp [go_sem]
  · intro f' hf'; trivial
  · simp [invoke, go_sem, eg]
  · refine (hit (w.heap.size + 1)
      (fun k W => I k W ∧ W.heap[w.heap.size + 1]? = some (Obj.loop (rec .ready none)) ∧ W.heap[w.heap.size]? = some (Obj.deferred (some [])))
      (fun W => ∃ c, Ix c W ∧ W.heap[w.heap.size + 1]? = some (Obj.loop (rec .done (some c))) ∧ W.heap[w.heap.size]? = some (Obj.deferred (some [])))
      W1 (hRd0 _ hb1)
      (fun k A B hs hb => ⟨hIb _ _ _ hs.1 hb, (hb.block _ (Array.getElem?_eq_some_iff.1 hs.2.1).1).trans hs.2.1, (hb.block _ (Array.getElem?_eq_some_iff.1 hs.2.2).1).trans hs.2.2⟩)
      (fun A B hs hb => by
        obtain ⟨c, hc, hl, hk⟩ := hs
        exact ⟨c, hXb c _ _ hc hb, (hb.block _ (Array.getElem?_eq_some_iff.1 hl).1).trans hl, (hb.block _ (Array.getElem?_eq_some_iff.1 hk).1).trans hk⟩)
      (fun k A hs => hRd k A hs.1) ?_ ⟨hI1, hL1, hK1⟩).mono ?_
    · rintro k y W hy ⟨hi, hl, hk⟩
      have hlt : w.heap.size + 1 < W.heap.size := (Array.getElem?_eq_some_iff.1 hl).1
      have hys := run_yield (P := P) (args := y.toArray) hl (by rw [hrec]; simpa using hps y (List.mem_of_getElem? hy))
      rw [hrec] at hys
      refine ⟨fn, _, assign, body, hys, roundIn_of_wpIn hfn (wpIn_mono (hround (w.heap.size + 1) k y W hy hi (by omega) ⟨_, hl⟩) ?_)⟩
      rintro e a1 Wa hp
      cases e with
      | normal =>
        obtain ⟨hkfa, hla, hbody⟩ := hp
        have hl1 := hla.trans hl
        have hk1 := hkfa _ _ (by omega) hk rfl
        have hlt1 : w.heap.size + 1 < Wa.heap.size := (Array.getElem?_eq_some_iff.1 hl1).1
        refine ⟨_, run_beginRound hl1 (by rw [hrec]), ?_⟩
        have hl2 : (Wa.putObj (w.heap.size + 1) (.loop { rec .ready none with state := .busy })).heap[w.heap.size + 1]? = some (Obj.loop { rec .ready none with state := .busy }) := World.putObj_heap_same hlt1
        have hk2 : (Wa.putObj (w.heap.size + 1) (.loop { rec .ready none with state := .busy })).heap[w.heap.size]? = some (Obj.deferred (some [])) := (World.putObj_heap_other (by omega)).trans hk1
        refine wpIn_mono (hbody (.loop { rec .ready none with state := .busy }) rfl) ?_
        have fin : ∀ (jump : Option Code) (W3 : World), W3.heap[w.heap.size + 1]? = some (Obj.loop { rec .ready none with state := .busy }) → KA (w.heap.size + 1) W W3 →
            (Instr.endRound (w.heap.size + 1) jump).run P W3 = .ok (.bool jump.isNone) (W3.putObj (w.heap.size + 1) (.loop (rec (if jump.isNone then .ready else .done) jump))) ∧
            (W3.putObj (w.heap.size + 1) (.loop (rec (if jump.isNone then .ready else .done) jump))).heap[w.heap.size + 1]? = some (Obj.loop (rec (if jump.isNone then .ready else .done) jump)) ∧
            (W3.putObj (w.heap.size + 1) (.loop (rec (if jump.isNone then .ready else .done) jump))).heap[w.heap.size]? = some (Obj.deferred (some [])) := fun jump W3 hl3 hk3 => by
          have := run_endRound (P := P) jump hl3
          rw [hrec] at this ⊢
          exact ⟨this, World.putObj_heap_same (Array.getElem?_eq_some_iff.1 hl3).1, (World.putObj_heap_other (by omega)).trans (hk3 _ _ (by omega) hk rfl)⟩
        have cellS : ∀ (W3 : World) (o' : Obj), W3.heap[w.heap.size + 1]? = some (Obj.loop { rec .ready none with state := .busy }) → o'.isCells = false → ∀ b o, (W3.putObj (w.heap.size + 1) o').cell? ⟨b, o, none⟩ = W3.cell? ⟨b, o, none⟩ := fun W3 o' h1 h2 b o => cell_putObj h1 rfl h2 b o
        rintro e a3 W3 ⟨hk3, hl3, hF3, hp⟩
        cases e with
        | normal =>
          obtain ⟨hr, hl4, hk4⟩ := fin none W3 hl3 hk3
          exact ⟨_, _, hr, fun b o hb => (cellS W3 _ hl3 rfl b o).trans (hF3 b o hb), .inl ⟨rfl, hIp _ _ _ _ _ hp hl3 rfl rfl (by omega), hl4, hk4⟩⟩
        | ret =>
          obtain ⟨hr, hl4, hk4⟩ := fin (some .ret) W3 hl3 hk3
          exact ⟨_, _, hr, fun b o hb => (cellS W3 _ hl3 rfl b o).trans (hF3 b o hb), .inr ⟨rfl, .ret, hXp _ _ _ _ _ hp hl3 rfl rfl (by omega), hl4, hk4⟩⟩
        | exit id =>
          obtain ⟨hr, hl4, hk4⟩ := fin (some (.exit id)) W3 hl3 hk3
          exact ⟨_, _, hr, fun b o hb => (cellS W3 _ hl3 rfl b o).trans (hF3 b o hb), .inr ⟨rfl, .exit id, hXp _ _ _ _ _ hp hl3 rfl rfl (by omega), hl4, hk4⟩⟩
        | goto t => exact hp.elim
        | panic ch => exact hp.elim
        | outgrown => exact hp.elim
      | _ => exact hp.elim
    · rintro e W2 ⟨⟨v, rfl⟩, (⟨hi, hl, hk⟩ | ⟨c, hi, hl, hk⟩)⟩
      · exact ⟨none, _, by have := run_endLoop (P := P) hl (by rw [hrec]; simp); rw [hrec] at this; exact this, hdone _ _ (Nat.le_refl _) (hIp _ _ _ _ _ hi hl rfl rfl (by omega)) ((World.putObj_heap_other (by omega)).trans hk)⟩
      · exact ⟨some c, _, by have := run_endLoop (P := P) hl (by rw [hrec]; simp); rw [hrec] at this; exact this, hstop _ c _ (Nat.le_refl _) (hXp _ _ _ _ _ hi hl rfl rfl (by omega)) ((World.putObj_heap_other (by omega)).trans hk)⟩
end Go.Proofs.YtcehllkmfkoncaaGreat.Sy
