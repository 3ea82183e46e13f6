/- Several texts of this proof, one behind the other. No condition. -/
import Derived.Test.YtcehllkmfkoncaaGreatTTolsB22
import Derived.Test.YtcehllkmfkoncaaGreatTTolsB23
import Derived.Test.YtcehllkmfkoncaaGreatTTolsB18
import Derived.Test.YtcehllkmfkoncaaGreatTTolsB17
/- The tool on the network of one segment: tool.Launch, Move, Received as contracts. No condition. -/
namespace Go.Proofs.YtcehllkmfkoncaaGreat
open Go.RowKit Sy
open Go.IntWalk renaming iteOmega → iO, toNatUp → tN
set_option linter.unusedVariables false
set_option linter.unusedSimpArgs false
abbrev wayC : List T := [.agg [.int 0, .lit (.bool false)]]
abbrev tlC (h a : Int) : T := .agg [.sl 2 wayC, .int h, .int a]
abbrev wayB : Blk := .list 42 2 wayC
set_option maxRecDepth 100000 in
set_option maxHeartbeats 4000000 in
theorem copied_fn (h a : Int) : FnOk Tryz.prog 25 [.t (tlC h a)] [] (.ag [.own 1000, .t (.int h), .t (.int a)]) [(1000, wayB)] := by
  refine FnOk.intro fact_mixed Tryz.func25 rfl Tryz.ntmps25 (by rfl) (by simp) ?_
  repeat (first | (refine nf1_sound rfl ?_; simp [go_sem, ↓iO, iO, tN]; (repeat (refine anI ?_)); try (refine ⟨dcK, ?_⟩)) | ((first | refine itePos (by omega) ?_ | refine iteNeg (by omega) ?_); try simp [go_sem, ↓iO, iO, tN]) | (refine ⟨dcK, ?_⟩))
  first | rw [RetQ_ret] | rw [RetQ_normal]
  refine ⟨[(1000, some 107)], ?_⟩
  simp [go_sem, ↓iO, iO, tN]
set_option maxRecDepth 100000 in
set_option maxHeartbeats 4000000 in
theorem received_fn (h a : Int) (b : Bool) (hb : decide (h = 1) = b) : FnOk Tryz.prog 14 [.t (tlC h a)] [] (.t (.bool b)) [] := by
  subst hb
  refine FnOk.intro fact_mixed Tryz.func14 rfl Tryz.ntmps14 (by rfl) (by simp) ?_
  repeat (first | (refine nf1_sound rfl ?_; simp [go_sem, ↓iO, iO, tN]; (repeat (refine anI ?_)); try (refine ⟨dcK, ?_⟩)) | ((first | refine itePos (by omega) ?_ | refine iteNeg (by omega) ?_); try simp [go_sem, ↓iO, iO, tN]) | (refine ⟨dcK, ?_⟩))
  first | rw [RetQ_ret] | rw [RetQ_normal]
  refine ⟨[], ?_⟩
  simp [go_sem, ↓iO, iO, tN]
set_option maxRecDepth 100000 in
set_option maxHeartbeats 8000000 in
theorem tvalid_fn (c a : Int) (h0 : 0 ≤ a) (h1 : a ≤ c) (h2 : c ≤ 200) : FnOk Tryz.prog 24 [.t (netC c), .t (tlC 0 a)] [] (.t (.bool true)) [] := by
  refine FnOk.intro fact_mixed Tryz.func24 rfl Tryz.ntmps24 (by rfl) (by simp) ?_
  repeat (first | (refine nf1_sound rfl ?_; simp [go_sem, ↓iO, iO, tN]; (repeat (refine anI ?_)); try (refine ⟨dcK, ?_⟩)) | ((first | refine itePos (by omega) ?_ | refine iteNeg (by omega) ?_); try simp [go_sem, ↓iO, iO, tN]) | (refine ⟨dcK, ?_⟩))
  refine nf1_sound' _ _ _ ?_; simp only [nf1]
  refine CW.loop (ι := Nat) (fun k => ⟨[(2, .pt 102 [] 0), (3, .pt 103 [] 0), (5, .t (.int (2 * k - 1))), (21, .t (.sl 2 wayC)), (22, .t (.int 1)), (23, .t (.int k))], [(102, .box 32 (.t (netC c))), (103, .box 37 (.t (tlC 0 a)))]⟩) (fun k => k ≤ 1) (fun k => 1 - k) 0 [(102, some 102), (103, some 103)] (by omega) ?_ ?_
  · simp [go_sem, ↓iO, iO, tN]
  intro k hk
  by_cases hb : k < 1
  · obtain rfl : k = 0 := by omega
    repeat (first | (refine nf1_sound rfl ?_; simp [go_sem, ↓iO, iO, tN]; (repeat (refine anI ?_)); try (refine ⟨dcK, ?_⟩)) | ((first | refine itePos (by omega) ?_ | refine iteNeg (by omega) ?_); try simp [go_sem, ↓iO, iO, tN]) | (refine ⟨dcK, ?_⟩))
    rw [RoundQ_normal]; refine ⟨1, [(102, some 102), (103, some 103)], ?_, ?_, ?_⟩
    · omega
    · omega
    simp [go_sem, ↓iO, iO, tN]
  · obtain rfl : k = 1 := by omega
    repeat (first | (refine nf1_sound rfl ?_; simp [go_sem, ↓iO, iO, tN, h0, h1]; (repeat (refine anI ?_)); try (refine ⟨dcK, ?_⟩)) | ((first | refine itePos (by omega) ?_ | refine iteNeg (by omega) ?_); try simp [go_sem, ↓iO, iO, tN, h0, h1]) | (refine ⟨dcK, ?_⟩))
    first | rw [RetQ_ret] | rw [RetQ_normal]
    refine ⟨[], ?_⟩
    simp [go_sem, ↓iO, iO, tN, h0, h1]
set_option maxRecDepth 100000 in
set_option maxHeartbeats 4000000 in
theorem tcheck1_fn (c a : Int) (h0 : 0 ≤ a) (h1 : a ≤ c) (h2 : c ≤ 200) : FnOk Tryz.prog 69 [.t (tlC 0 a), .pt 0 [] 0] [(0, .box 32 (.t (netC c)))] (.t (.bool false)) [(0, .box 32 (.t (netC c)))] := by
  have c1 := tvalid_fn c a h0 h1 h2
  refine FnOk.intro fact_mixed Tryz.func69 rfl Tryz.ntmps69 (by rfl) (by simp) ?_
  repeat (first | (refine nf1_sound rfl ?_; simp [go_sem, ↓iO, iO, tN]; (repeat (refine anI ?_)); try (refine ⟨dcK, ?_⟩)) | ((first | refine itePos (by omega) ?_ | refine iteNeg (by omega) ?_); try simp [go_sem, ↓iO, iO, tN]) | (refine ⟨dcK, ?_⟩))
  refine CallK.fn (c1) [] [] [] (by kernel_rfl) ?_ ?_ ?_ (Or.inl rfl) ?_ <;> simp [go_sem, ↓iO, iO, tN]
  repeat (refine anI ?_)
  try (refine ⟨dcK, ?_⟩)
  repeat (first | (refine nf1_sound rfl ?_; simp [go_sem, ↓iO, iO, tN]; (repeat (refine anI ?_)); try (refine ⟨dcK, ?_⟩)) | ((first | refine itePos (by omega) ?_ | refine iteNeg (by omega) ?_); try simp [go_sem, ↓iO, iO, tN]) | (refine ⟨dcK, ?_⟩))
  first | rw [RetQ_ret] | rw [RetQ_normal]
  refine ⟨[(0, some 0)], ?_⟩
  simp [go_sem, ↓iO, iO, tN]
set_option maxRecDepth 100000 in
set_option maxHeartbeats 4000000 in
theorem tidx_fn (c a : Int) (h0 : 0 ≤ a) (h1 : a ≤ c) (h2 : c ≤ 200) : FnOk Tryz.prog 114 [.t (.sl 3 [tlC 0 a]), .fn 69 [.pt 0 [] 0]] [(0, .box 32 (.t (netC c)))] (.t (.int (-1))) [(0, .box 32 (.t (netC c)))] := by
  have c1 := tcheck1_fn c a h0 h1 h2
  refine FnOk.intro fact_mixed Tryz.func114 rfl Tryz.ntmps114 (by rfl) (by simp) ?_
  repeat (first | (refine nf1_sound rfl ?_; simp [go_sem, ↓iO, iO, tN]; (repeat (refine anI ?_)); try (refine ⟨dcK, ?_⟩)) | ((first | refine itePos (by omega) ?_ | refine iteNeg (by omega) ?_); try simp [go_sem, ↓iO, iO, tN]) | (refine ⟨dcK, ?_⟩))
  refine nf1_sound' _ _ _ ?_; simp only [nf1]
  refine CW.loop (ι := Nat) (fun k => ⟨[(0, .t (.sl 3 [tlC 0 a])), (1, .fn 69 [.pt 0 [] 0]), (7, .t (.int 1)), (8, .t (.int k))], [(0, .box 32 (.t (netC c)))]⟩) (fun k => k ≤ 1) (fun k => 1 - k) 0 [(0, some 0)] (by omega) ?_ ?_
  · simp [go_sem, ↓iO, iO, tN]
  intro k hk
  by_cases hb : k < 1
  · obtain rfl : k = 0 := by omega
    repeat (first | (refine nf1_sound rfl ?_; simp [go_sem, ↓iO, iO, tN]; (repeat (refine anI ?_)); try (refine ⟨dcK, ?_⟩)) | ((first | refine itePos (by omega) ?_ | refine iteNeg (by omega) ?_); try simp [go_sem, ↓iO, iO, tN]) | (refine ⟨dcK, ?_⟩))
    refine CallK.fn (c1) [(0, 0)] [] [] (by kernel_rfl) ?_ ?_ ?_ (Or.inl rfl) ?_ <;> simp [go_sem, ↓iO, iO, tN]
    repeat (refine anI ?_)
    try (refine ⟨dcK, ?_⟩)
    repeat (first | (refine nf1_sound rfl ?_; simp [go_sem, ↓iO, iO, tN]; (repeat (refine anI ?_)); try (refine ⟨dcK, ?_⟩)) | ((first | refine itePos (by omega) ?_ | refine iteNeg (by omega) ?_); try simp [go_sem, ↓iO, iO, tN]) | (refine ⟨dcK, ?_⟩))
    rw [RoundQ_normal]; refine ⟨1, [(0, some 0)], ?_, ?_, ?_⟩
    · omega
    · omega
    simp [go_sem, ↓iO, iO, tN]
  · obtain rfl : k = 1 := by omega
    repeat (first | (refine nf1_sound rfl ?_; simp [go_sem, ↓iO, iO, tN]; (repeat (refine anI ?_)); try (refine ⟨dcK, ?_⟩)) | ((first | refine itePos (by omega) ?_ | refine iteNeg (by omega) ?_); try simp [go_sem, ↓iO, iO, tN]) | (refine ⟨dcK, ?_⟩))
    first | rw [RetQ_ret] | rw [RetQ_normal]
    refine ⟨[(0, some 0)], ?_⟩
    simp [go_sem, ↓iO, iO, tN]
set_option maxRecDepth 100000 in
set_option maxHeartbeats 4000000 in
theorem tcont_fn (c a : Int) (h0 : 0 ≤ a) (h1 : a ≤ c) (h2 : c ≤ 200) : FnOk Tryz.prog 68 [.t (.sl 3 [tlC 0 a]), .fn 69 [.pt 0 [] 0]] [(0, .box 32 (.t (netC c)))] (.t (.bool false)) [(0, .box 32 (.t (netC c)))] := by
  have c1 := tidx_fn c a h0 h1 h2
  refine FnOk.intro fact_mixed Tryz.func68 rfl Tryz.ntmps68 (by rfl) (by simp) ?_
  repeat (first | (refine nf1_sound rfl ?_; simp [go_sem, ↓iO, iO, tN]; (repeat (refine anI ?_)); try (refine ⟨dcK, ?_⟩)) | ((first | refine itePos (by omega) ?_ | refine iteNeg (by omega) ?_); try simp [go_sem, ↓iO, iO, tN]) | (refine ⟨dcK, ?_⟩))
  refine CallK.fn (c1) [(0, 0)] [] [] (by kernel_rfl) ?_ ?_ ?_ (Or.inl rfl) ?_ <;> simp [go_sem, ↓iO, iO, tN]
  repeat (refine anI ?_)
  try (refine ⟨dcK, ?_⟩)
  repeat (first | (refine nf1_sound rfl ?_; simp [go_sem, ↓iO, iO, tN]; (repeat (refine anI ?_)); try (refine ⟨dcK, ?_⟩)) | ((first | refine itePos (by omega) ?_ | refine iteNeg (by omega) ?_); try simp [go_sem, ↓iO, iO, tN]) | (refine ⟨dcK, ?_⟩))
  first | rw [RetQ_ret] | rw [RetQ_normal]
  refine ⟨[(0, some 0)], ?_⟩
  simp [go_sem, ↓iO, iO, tN]
set_option maxRecDepth 100000 in
set_option maxHeartbeats 4000000 in
theorem tcheck_fn (c r a : Int) (hc : 20 ≤ c) (h2 : c ≤ 200) (r0 : 0 ≤ r) (r1 : r ≤ 11) (h0 : 0 ≤ a) (h1 : a ≤ c) : FnOk Tryz.prog 28 [.t (netC c), .t (plR r), .t (.sl 3 [tlC 0 a])] [] (.t (.int 0)) [] := by
  have c1 := ncheck_fn c hc h2
  have c2 := fcheck_fn c r hc h2 r0 r1
  have c3 := tcont_fn c a h0 h1 h2
  refine FnOk.intro fact_mixed Tryz.func28 rfl Tryz.ntmps28 (by rfl) (by simp) ?_
  repeat (first | (refine nf1_sound rfl ?_; simp [go_sem, ↓iO, iO, tN]; (repeat (refine anI ?_)); try (refine ⟨dcK, ?_⟩)) | ((first | refine itePos (by omega) ?_ | refine iteNeg (by omega) ?_); try simp [go_sem, ↓iO, iO, tN]) | (refine ⟨dcK, ?_⟩))
  refine CallK.fn (c1) [] [] [] (by kernel_rfl) ?_ ?_ ?_ (Or.inl rfl) ?_ <;> simp [go_sem, ↓iO, iO, tN]
  repeat (refine anI ?_)
  try (refine ⟨dcK, ?_⟩)
  repeat (first | (refine nf1_sound rfl ?_; simp [go_sem, ↓iO, iO, tN]; (repeat (refine anI ?_)); try (refine ⟨dcK, ?_⟩)) | ((first | refine itePos (by omega) ?_ | refine iteNeg (by omega) ?_); try simp [go_sem, ↓iO, iO, tN]) | (refine ⟨dcK, ?_⟩))
  refine CallK.fn (c2) [] [] [] (by kernel_rfl) ?_ ?_ ?_ (Or.inl rfl) ?_ <;> simp [go_sem, ↓iO, iO, tN]
  repeat (refine anI ?_)
  try (refine ⟨dcK, ?_⟩)
  repeat (first | (refine nf1_sound rfl ?_; simp [go_sem, ↓iO, iO, tN]; (repeat (refine anI ?_)); try (refine ⟨dcK, ?_⟩)) | ((first | refine itePos (by omega) ?_ | refine iteNeg (by omega) ?_); try simp [go_sem, ↓iO, iO, tN]) | (refine ⟨dcK, ?_⟩))
  refine CallK.fn (c3) [(0, 103)] [] [] (by kernel_rfl) ?_ ?_ ?_ (Or.inl rfl) ?_ <;> simp [go_sem, ↓iO, iO, tN]
  repeat (refine anI ?_)
  try (refine ⟨dcK, ?_⟩)
  repeat (first | (refine nf1_sound rfl ?_; simp [go_sem, ↓iO, iO, tN]; (repeat (refine anI ?_)); try (refine ⟨dcK, ?_⟩)) | ((first | refine itePos (by omega) ?_ | refine iteNeg (by omega) ?_); try simp [go_sem, ↓iO, iO, tN]) | (refine ⟨dcK, ?_⟩))
  first | rw [RetQ_ret] | rw [RetQ_normal]
  refine ⟨[], ?_⟩
  simp [go_sem, ↓iO, iO, tN]
/-- Where the tool is behind a tick. -/
def mvH (c r a : Int) : Int := if c < a + r then 1 else 0
def mvA (c r a : Int) : Int := if c < a + r then 0 else a + r
set_option maxRecDepth 100000 in
set_option maxHeartbeats 8000000 in
theorem moved_fn (c r a : Int) (hc : 20 ≤ c) (h2 : c ≤ 200) (r0 : 0 ≤ r) (r1 : r ≤ 11) (h0 : 0 ≤ a) (h1 : a ≤ c) : FnOk Tryz.prog 29 [.t (netC c), .t (plR r), .t (tlC 0 a)] [] (.ag [.own 1000, .t (.int (mvH c r a)), .t (.int (mvA c r a))]) [(1000, wayB)] := by
  have c1 := copied_fn 0 a
  have c2 := received_fn 0 a false rfl
  have e1 : max 0 (a + r) = a + r := by omega
  by_cases h : c < a + r
  · have e2 : mvH c r a = 1 := if_pos h
    have e3 : mvA c r a = 0 := if_pos h
    rw [e2, e3]
    refine FnOk.intro fact_mixed Tryz.func29 rfl Tryz.ntmps29 (by rfl) (by simp) ?_
    repeat (first | (refine nf1_sound rfl ?_; simp [go_sem, ↓iO, iO, tN]; (repeat (refine anI ?_)); try (refine ⟨dcK, ?_⟩)) | ((first | refine itePos (by omega) ?_ | refine iteNeg (by omega) ?_); try simp [go_sem, ↓iO, iO, tN]) | (refine ⟨dcK, ?_⟩))
    refine CallK.fn (c1) [(1000, 600)] [] [] (by kernel_rfl) ?_ ?_ ?_ (Or.inl rfl) ?_ <;> simp [go_sem, ↓iO, iO, tN, e1]
    repeat (refine anI ?_)
    try (refine ⟨dcK, ?_⟩)
    repeat (first | (refine nf1_sound rfl ?_; simp [go_sem, ↓iO, iO, tN, e1]; (repeat (refine anI ?_)); try (refine ⟨dcK, ?_⟩)) | ((first | refine itePos (by omega) ?_ | refine iteNeg (by omega) ?_); try simp [go_sem, ↓iO, iO, tN, e1]) | (refine ⟨dcK, ?_⟩))
    refine CallK.fn (c2) [] [600] [] (by kernel_rfl) ?_ ?_ ?_ (Or.inr ⟨?_, ?_⟩) ?_ <;> simp [go_sem, ↓iO, iO, tN, e1, h]
    repeat (refine anI ?_)
    try (refine ⟨dcK, ?_⟩)
    repeat (first | (refine nf1_sound rfl ?_; simp [go_sem, ↓iO, iO, tN, e1, h]; (repeat (refine anI ?_)); try (refine ⟨dcK, ?_⟩)) | ((first | refine itePos (by omega) ?_ | refine iteNeg (by omega) ?_); try simp [go_sem, ↓iO, iO, tN, e1, h]) | (refine ⟨dcK, ?_⟩))
    first | rw [RetQ_ret] | rw [RetQ_normal]
    refine ⟨[(1000, some 600)], ?_⟩
    simp [go_sem, ↓iO, iO, tN]
  · have e2 : mvH c r a = 0 := if_neg h
    have e3 : mvA c r a = a + r := if_neg h
    rw [e2, e3]
    refine FnOk.intro fact_mixed Tryz.func29 rfl Tryz.ntmps29 (by rfl) (by simp) ?_
    repeat (first | (refine nf1_sound rfl ?_; simp [go_sem, ↓iO, iO, tN]; (repeat (refine anI ?_)); try (refine ⟨dcK, ?_⟩)) | ((first | refine itePos (by omega) ?_ | refine iteNeg (by omega) ?_); try simp [go_sem, ↓iO, iO, tN]) | (refine ⟨dcK, ?_⟩))
    refine CallK.fn (c1) [(1000, 600)] [] [] (by kernel_rfl) ?_ ?_ ?_ (Or.inl rfl) ?_ <;> simp [go_sem, ↓iO, iO, tN, e1]
    repeat (refine anI ?_)
    try (refine ⟨dcK, ?_⟩)
    repeat (first | (refine nf1_sound rfl ?_; simp [go_sem, ↓iO, iO, tN, e1]; (repeat (refine anI ?_)); try (refine ⟨dcK, ?_⟩)) | ((first | refine itePos (by omega) ?_ | refine iteNeg (by omega) ?_); try simp [go_sem, ↓iO, iO, tN, e1]) | (refine ⟨dcK, ?_⟩))
    refine CallK.fn (c2) [] [600] [] (by kernel_rfl) ?_ ?_ ?_ (Or.inr ⟨?_, ?_⟩) ?_ <;> simp [go_sem, ↓iO, iO, tN, e1, h]
    repeat (refine anI ?_)
    try (refine ⟨dcK, ?_⟩)
    repeat (first | (refine nf1_sound rfl ?_; simp [go_sem, ↓iO, iO, tN, e1, h]; (repeat (refine anI ?_)); try (refine ⟨dcK, ?_⟩)) | ((first | refine itePos (by omega) ?_ | refine iteNeg (by omega) ?_); try simp [go_sem, ↓iO, iO, tN, e1, h]) | (refine ⟨dcK, ?_⟩))
    first | rw [RetQ_ret] | rw [RetQ_normal]
    refine ⟨[(1000, some 600)], ?_⟩
    simp [go_sem, ↓iO, iO, tN]
set_option maxRecDepth 100000 in
set_option maxHeartbeats 4000000 in
theorem move_fn (c r a : Int) (hc : 20 ≤ c) (h2 : c ≤ 200) (r0 : 0 ≤ r) (r1 : r ≤ 11) (h0 : 0 ≤ a) (h1 : a ≤ c) : FnOk Tryz.prog 12 [.t (netC c), .t (plR r), .t (tlC 0 a)] [] (.tup [.ag [.own 1000, .t (.int (mvH c r a)), .t (.int (mvA c r a))], .t (.int 0)]) [(1000, wayB)] := by
  have c1 := tcheck_fn c r a hc h2 r0 r1 h0 h1
  have c2 := moved_fn c r a hc h2 r0 r1 h0 h1
  refine FnOk.intro fact_mixed Tryz.func12 rfl Tryz.ntmps12 (by rfl) (by simp) ?_
  repeat (first | (refine nf1_sound rfl ?_; simp [go_sem, ↓iO, iO, tN]; (repeat (refine anI ?_)); try (refine ⟨dcK, ?_⟩)) | ((first | refine itePos (by omega) ?_ | refine iteNeg (by omega) ?_); try simp [go_sem, ↓iO, iO, tN]) | (refine ⟨dcK, ?_⟩))
  refine CallK.fn (c1) [] [112] [] (by kernel_rfl) ?_ ?_ ?_ (Or.inr ⟨?_, ?_⟩) ?_ <;> simp [go_sem, ↓iO, iO, tN]
  repeat (refine anI ?_)
  try (refine ⟨dcK, ?_⟩)
  repeat (first | (refine nf1_sound rfl ?_; simp [go_sem, ↓iO, iO, tN]; (repeat (refine anI ?_)); try (refine ⟨dcK, ?_⟩)) | ((first | refine itePos (by omega) ?_ | refine iteNeg (by omega) ?_); try simp [go_sem, ↓iO, iO, tN]) | (refine ⟨dcK, ?_⟩))
  refine CallK.fn (c2) [(1000, 600)] [] [] (by kernel_rfl) ?_ ?_ ?_ (Or.inl rfl) ?_ <;> simp [go_sem, ↓iO, iO, tN]
  repeat (refine anI ?_)
  try (refine ⟨dcK, ?_⟩)
  repeat (first | (refine nf1_sound rfl ?_; simp [go_sem, ↓iO, iO, tN]; (repeat (refine anI ?_)); try (refine ⟨dcK, ?_⟩)) | ((first | refine itePos (by omega) ?_ | refine iteNeg (by omega) ?_); try simp [go_sem, ↓iO, iO, tN]) | (refine ⟨dcK, ?_⟩))
  first | rw [RetQ_ret] | rw [RetQ_normal]
  refine ⟨[(1000, some 600)], ?_⟩
  simp [go_sem, ↓iO, iO, tN]
set_option maxRecDepth 100000 in
set_option maxHeartbeats 4000000 in
theorem launch_fn (c : Int) (hc : 20 ≤ c) (h2 : c ≤ 200) : FnOk Tryz.prog 9 [.t (netC c), .t (.sl 2 wayC)] [] (.tup [.ag [.own 1000, .t (.int 0), .t (.int 0)], .t (.int 0)]) [(1000, wayB)] := by
  have c1 := ncheck_fn c hc h2
  have c2 := tvalid_fn c 0 (by omega) (by omega) h2
  have c3 := copied_fn 0 0
  refine FnOk.intro fact_mixed Tryz.func9 rfl Tryz.ntmps9 (by rfl) (by simp) ?_
  repeat (first | (refine nf1_sound rfl ?_; simp [go_sem, ↓iO, iO, tN]; (repeat (refine anI ?_)); try (refine ⟨dcK, ?_⟩)) | ((first | refine itePos (by omega) ?_ | refine iteNeg (by omega) ?_); try simp [go_sem, ↓iO, iO, tN]) | (refine ⟨dcK, ?_⟩))
  refine CallK.fn (c1) [] [] [] (by kernel_rfl) ?_ ?_ ?_ (Or.inl rfl) ?_ <;> simp [go_sem, ↓iO, iO, tN]
  repeat (refine anI ?_)
  try (refine ⟨dcK, ?_⟩)
  repeat (first | (refine nf1_sound rfl ?_; simp [go_sem, ↓iO, iO, tN]; (repeat (refine anI ?_)); try (refine ⟨dcK, ?_⟩)) | ((first | refine itePos (by omega) ?_ | refine iteNeg (by omega) ?_); try simp [go_sem, ↓iO, iO, tN]) | (refine ⟨dcK, ?_⟩))
  refine CallK.fn (c2) [] [] [] (by kernel_rfl) ?_ ?_ ?_ (Or.inl rfl) ?_ <;> simp [go_sem, ↓iO, iO, tN]
  repeat (refine anI ?_)
  try (refine ⟨dcK, ?_⟩)
  repeat (first | (refine nf1_sound rfl ?_; simp [go_sem, ↓iO, iO, tN]; (repeat (refine anI ?_)); try (refine ⟨dcK, ?_⟩)) | ((first | refine itePos (by omega) ?_ | refine iteNeg (by omega) ?_); try simp [go_sem, ↓iO, iO, tN]) | (refine ⟨dcK, ?_⟩))
  refine CallK.fn (c3) [(1000, 600)] [] [] (by kernel_rfl) ?_ ?_ ?_ (Or.inl rfl) ?_ <;> simp [go_sem, ↓iO, iO, tN]
  repeat (refine anI ?_)
  try (refine ⟨dcK, ?_⟩)
  repeat (first | (refine nf1_sound rfl ?_; simp [go_sem, ↓iO, iO, tN]; (repeat (refine anI ?_)); try (refine ⟨dcK, ?_⟩)) | ((first | refine itePos (by omega) ?_ | refine iteNeg (by omega) ?_); try simp [go_sem, ↓iO, iO, tN]) | (refine ⟨dcK, ?_⟩))
  first | rw [RetQ_ret] | rw [RetQ_normal]
  refine ⟨[(1000, some 600)], ?_⟩
  simp [go_sem, ↓iO, iO, tN]
end Go.Proofs.YtcehllkmfkoncaaGreat
/- forecast.Distance on the network of one segment. No condition. -/
namespace Go.Proofs.YtcehllkmfkoncaaGreat
open Go.RowKit Sy
open Go.IntWalk renaming iteOmega → iO, toNatUp → tN
set_option linter.unusedVariables false
set_option linter.unusedSimpArgs false
theorem leads_fn (c : Int) : FnOk Tryz.prog 37 [.t (netC c), .t (.sl 2 wayC)] [] (.t (.bool true)) [] := evF_spec fact_mixed noKn_ok 30 _ _ _ _ _ (by kernel_rfl : evF Tryz.prog noKn [] 200 30 37 [.t (netC c), .t (.sl 2 wayC)] [] = some (.t (.bool true), []))
set_option maxRecDepth 100000 in
theorem flit1_fn (p : Int × Int) : FnOk Tryz.prog 125 [.t (encP p)] [] (.t (.int p.2)) [] := by
  refine FnOk.intro fact_mixed Tryz.func125 rfl Tryz.ntmps125 (by rfl) (by simp) ?_
  repeat (first | (refine nf1_sound rfl ?_; simp [go_sem, ↓iO, iO, tN]; (repeat (refine anI ?_)); try (refine ⟨dcK, ?_⟩)) | ((first | refine itePos (by omega) ?_ | refine iteNeg (by omega) ?_); try simp [go_sem, ↓iO, iO, tN]) | (refine ⟨dcK, ?_⟩))
  first | rw [RetQ_ret] | rw [RetQ_normal]
  refine ⟨[], ?_⟩
  simp [go_sem, ↓iO, iO, tN]
set_option maxRecDepth 100000 in
set_option maxHeartbeats 4000000 in
theorem fvols_fn (l : List (Int × Int)) (h : Pc.Sane l) : FnOk Tryz.prog 124 [.t (encPs l), .fn 125 []] [] (.t (.int (Pc.vol l))) [] := by
  have hlen := h.len
  refine FnOk.intro fact_mixed Tryz.func124 rfl Tryz.ntmps124 (by rfl) (by simp) ?_
  repeat (first | (refine nf1_sound rfl ?_; simp [go_sem, ↓iO, iO, tN]; (repeat (refine anI ?_)); try (refine ⟨dcK, ?_⟩)) | ((first | refine itePos (by omega) ?_ | refine iteNeg (by omega) ?_); try simp [go_sem, ↓iO, iO, tN]) | (refine ⟨dcK, ?_⟩))
  refine nf1_sound' _ _ _ ?_; simp only [nf1]
  refine CW.loop (ι := Nat) (fun k => ⟨[(1, .fn 125 []), (5, .t (.int (Pc.vol (l.take k)))), (8, .t (encPs l)), (9, .t (.int l.length)), (10, .t (.int k))], []⟩) (fun k => k ≤ l.length) (fun k => l.length - k) 0 [] (by omega) ?_ ?_
  · simp [go_sem, ↓iO, iO, tN, Pc.vol]
  intro k hk
  by_cases hb : k < l.length
  · obtain ⟨p, hp⟩ := has_get hb
    have hs := Pc.vol_snoc hp
    have hv := (h.take k).vol
    have hv2 := (h.take (k + 1)).vol
    have hu := flit1_fn p
    obtain ⟨p1, p2⟩ := p
    dsimp only at hs hu
    obtain ⟨V, hV⟩ : ∃ V, Pc.vol (l.take k) = V := ⟨_, rfl⟩
    rw [hV] at hs hv ⊢
    rw [hs] at hv2
    repeat (first | (refine nf1_sound rfl ?_; simp [go_sem, ↓iO, iO, tN, hp]; (repeat (refine anI ?_)); try (refine ⟨dcK, ?_⟩)) | ((first | refine itePos (by omega) ?_ | refine iteNeg (by omega) ?_); try simp [go_sem, ↓iO, iO, tN, hp]) | (refine ⟨dcK, ?_⟩))
    refine CallK.fn (hu) [] [] [] (by kernel_rfl) ?_ ?_ ?_ (Or.inl rfl) ?_ <;> simp [go_sem, ↓iO, iO, tN]
    repeat (refine anI ?_)
    try (refine ⟨dcK, ?_⟩)
    repeat (first | (refine nf1_sound rfl ?_; simp [go_sem, ↓iO, iO, tN]; (repeat (refine anI ?_)); try (refine ⟨dcK, ?_⟩)) | ((first | refine itePos (by omega) ?_ | refine iteNeg (by omega) ?_); try simp [go_sem, ↓iO, iO, tN]) | (refine ⟨dcK, ?_⟩))
    rw [RoundQ_normal]; refine ⟨k + 1, [], ?_, ?_, ?_⟩
    · omega
    · omega
    simp [go_sem, ↓iO, iO, tN, hs]
  · obtain rfl : k = l.length := by omega
    rw [List.take_length]
    repeat (first | (refine nf1_sound rfl ?_; simp [go_sem, ↓iO, iO, tN]; (repeat (refine anI ?_)); try (refine ⟨dcK, ?_⟩)) | ((first | refine itePos (by omega) ?_ | refine iteNeg (by omega) ?_); try simp [go_sem, ↓iO, iO, tN]) | (refine ⟨dcK, ?_⟩))
    first | rw [RetQ_ret] | rw [RetQ_normal]
    refine ⟨[], ?_⟩
    simp [go_sem, ↓iO, iO, tN]
set_option maxRecDepth 100000 in
theorem flit_fn (l : List (Int × Int)) (h : Pc.Sane l) : FnOk Tryz.prog 79 [.t (encPs l)] [] (.t (.int (Pc.vol l))) [] := by
  have c := fvols_fn l h
  refine FnOk.intro fact_mixed Tryz.func79 rfl Tryz.ntmps79 (by rfl) (by simp) ?_
  repeat (first | (refine nf1_sound rfl ?_; simp [go_sem, ↓iO, iO, tN]; (repeat (refine anI ?_)); try (refine ⟨dcK, ?_⟩)) | ((first | refine itePos (by omega) ?_ | refine iteNeg (by omega) ?_); try simp [go_sem, ↓iO, iO, tN]) | (refine ⟨dcK, ?_⟩))
  refine CallK.fn (c) [] [] [] (by kernel_rfl) ?_ ?_ ?_ (Or.inl rfl) ?_ <;> simp [go_sem, ↓iO, iO, tN]
  repeat (refine anI ?_)
  try (refine ⟨dcK, ?_⟩)
  repeat (first | (refine nf1_sound rfl ?_; simp [go_sem, ↓iO, iO, tN]; (repeat (refine anI ?_)); try (refine ⟨dcK, ?_⟩)) | ((first | refine itePos (by omega) ?_ | refine iteNeg (by omega) ?_); try simp [go_sem, ↓iO, iO, tN]) | (refine ⟨dcK, ?_⟩))
  first | rw [RetQ_ret] | rw [RetQ_normal]
  refine ⟨[], ?_⟩
  simp [go_sem, ↓iO, iO, tN]
set_option maxRecDepth 100000 in
set_option maxHeartbeats 4000000 in
theorem front_no (f : List (Int × Int)) (h : Pc.Vd f) (b : Int) (hn : ∀ p ∈ f, p.1 ≠ b) : FnOk Tryz.prog 38 [.t (encPs f), .t (.int b), .t (.bool false)] [] (.tup [.t (.int 0), .t (.bool false)]) [] := by
  have hlen := h.len
  refine FnOk.intro fact_mixed Tryz.func38 rfl Tryz.ntmps38 (by rfl) (by simp) ?_
  repeat (first | (refine nf1_sound rfl ?_; simp [go_sem, ↓iO, iO, tN]; (repeat (refine anI ?_)); try (refine ⟨dcK, ?_⟩)) | ((first | refine itePos (by omega) ?_ | refine iteNeg (by omega) ?_); try simp [go_sem, ↓iO, iO, tN]) | (refine ⟨dcK, ?_⟩))
  refine nf1_sound' _ _ _ ?_; simp only [nf1]
  refine CW.loop (ι := Nat) (fun k => ⟨[(0, .t (encPs f)), (1, .t (.int b)), (10, .t (.int ((k : Int) - 1)))], []⟩) (fun k => k ≤ f.length) (fun k => k) f.length [] (by omega) ?_ ?_
  · simp [go_sem, ↓iO, iO, tN]
  intro k hk
  by_cases hb : 0 < k
  · obtain ⟨p, hp⟩ : ∃ p, f[k - 1]? = some p := has_get (by omega)
    have hpn := hn p (mem_get hp)
    obtain ⟨p1, p2⟩ := p
    dsimp only at hpn
    have e1 : ((k : Int) - 1).toNat = k - 1 := by omega
    repeat (first | (refine nf1_sound rfl ?_; simp [go_sem, ↓iO, iO, tN, hp, hb, e1, hpn]; (repeat (refine anI ?_)); try (refine ⟨dcK, ?_⟩)) | ((first | refine itePos (by omega) ?_ | refine iteNeg (by omega) ?_); try simp [go_sem, ↓iO, iO, tN, hp, hb, e1, hpn]) | (refine ⟨dcK, ?_⟩))
    rw [RoundQ_normal]; refine ⟨k - 1, [], ?_, ?_, ?_⟩
    · omega
    · omega
    simp [go_sem, ↓iO, iO, tN]
    omega
  · obtain rfl : k = 0 := by omega
    repeat (first | (refine nf1_sound rfl ?_; simp [go_sem, ↓iO, iO, tN]; (repeat (refine anI ?_)); try (refine ⟨dcK, ?_⟩)) | ((first | refine itePos (by omega) ?_ | refine iteNeg (by omega) ?_); try simp [go_sem, ↓iO, iO, tN]) | (refine ⟨dcK, ?_⟩))
    first | rw [RetQ_ret] | rw [RetQ_normal]
    refine ⟨[], ?_⟩
    simp [go_sem, ↓iO, iO, tN]
set_option maxRecDepth 100000 in
set_option maxHeartbeats 4000000 in
theorem front_hd (b v : Int) (q : List (Int × Int)) (h : Pc.Vd ((b, v) :: q)) (hn : ∀ p ∈ q, p.1 ≠ b) : FnOk Tryz.prog 38 [.t (encPs ((b, v) :: q)), .t (.int b), .t (.bool false)] [] (.tup [.t (.int (Pc.vol q)), .t (.bool true)]) [] := by
  have hlen := h.len
  have hsq : Pc.Sane q := ⟨by have := h.sane.len; simp at this; omega, fun p hp => h.sane.each p (by simp [hp])⟩
  have cf := flit_fn q hsq
  obtain ⟨f, hf⟩ : ∃ f, (b, v) :: q = f := ⟨_, rfl⟩
  have hf1 : f.drop 1 = q := by rw [← hf]; rfl
  have hf0 : f[0]? = some (b, v) := by rw [← hf]; rfl
  have hfk : ∀ k p, 0 < k → f[k]? = some p → p.1 ≠ b := by
    intro k p hk hp
    rw [← hf] at hp
    cases k with
    | zero => omega
    | succ k => exact hn p (mem_get (by simpa using hp))
  rw [hf] at hlen ⊢
  refine FnOk.intro fact_mixed Tryz.func38 rfl Tryz.ntmps38 (by rfl) (by simp) ?_
  repeat (first | (refine nf1_sound rfl ?_; simp [go_sem, ↓iO, iO, tN]; (repeat (refine anI ?_)); try (refine ⟨dcK, ?_⟩)) | ((first | refine itePos (by omega) ?_ | refine iteNeg (by omega) ?_); try simp [go_sem, ↓iO, iO, tN]) | (refine ⟨dcK, ?_⟩))
  refine nf1_sound' _ _ _ ?_; simp only [nf1]
  refine CW.loop (ι := Nat) (fun k => ⟨[(0, .t (encPs f)), (1, .t (.int b)), (10, .t (.int ((k : Int) - 1)))], []⟩) (fun k => 0 < k ∧ k ≤ f.length) (fun k => k) f.length [] ⟨by rw [← hf]; simp, by omega⟩ ?_ ?_
  · simp [go_sem, ↓iO, iO, tN]
  rintro k ⟨hk0, hk⟩
  by_cases hb : 1 < k
  · obtain ⟨p, hp⟩ : ∃ p, f[k - 1]? = some p := has_get (by omega)
    have hpn := hfk (k - 1) p (by omega) hp
    obtain ⟨p1, p2⟩ := p
    dsimp only at hpn
    have e1 : ((k : Int) - 1).toNat = k - 1 := by omega
    repeat (first | (refine nf1_sound rfl ?_; simp [go_sem, ↓iO, iO, tN, hp, hb, e1, hpn]; (repeat (refine anI ?_)); try (refine ⟨dcK, ?_⟩)) | ((first | refine itePos (by omega) ?_ | refine iteNeg (by omega) ?_); try simp [go_sem, ↓iO, iO, tN, hp, hb, e1, hpn]) | (refine ⟨dcK, ?_⟩))
    rw [RoundQ_normal]; refine ⟨k - 1, [], ?_, ?_, ?_⟩
    · omega
    · omega
    simp [go_sem, ↓iO, iO, tN]
    omega
  · obtain rfl : k = 1 := by omega
    have hft : ((f.map encP).take f.length).tail = q.map encP := by rw [List.take_of_length_le (by simp), ← hf]; rfl
    repeat (first | (refine nf1_sound rfl ?_; simp [go_sem, ↓iO, iO, tN, hf0]; (repeat (refine anI ?_)); try (refine ⟨dcK, ?_⟩)) | ((first | refine itePos (by omega) ?_ | refine iteNeg (by omega) ?_); try simp [go_sem, ↓iO, iO, tN, hf0]) | (refine ⟨dcK, ?_⟩))
    refine CallK.fn (cf) [] [] [] (by kernel_rfl) ?_ ?_ ?_ (Or.inl rfl) ?_ <;> simp [go_sem, ↓iO, iO, tN, hft]
    repeat (refine anI ?_)
    try (refine ⟨dcK, ?_⟩)
    repeat (first | (refine nf1_sound rfl ?_; simp [go_sem, ↓iO, iO, tN]; (repeat (refine anI ?_)); try (refine ⟨dcK, ?_⟩)) | ((first | refine itePos (by omega) ?_ | refine iteNeg (by omega) ?_); try simp [go_sem, ↓iO, iO, tN]) | (refine ⟨dcK, ?_⟩))
    first | rw [RetQ_ret] | rw [RetQ_normal]
    refine ⟨[], ?_⟩
    simp [go_sem, ↓iO, iO, tN]
set_option maxRecDepth 100000 in
set_option maxHeartbeats 8000000 in
theorem dist_hit (c b v : Int) (f : List (Int × Int)) (h0 : 20 ≤ c) (h2 : c ≤ 200) (hf : Pc.Vd f) (hv : Pc.vol f = c)
    (hfr : FnOk Tryz.prog 38 [.t (encPs f), .t (.int b), .t (.bool false)] [] (.tup [.t (.int v), .t (.bool true)]) []) (hv0 : 0 ≤ v ∧ v ≤ 1000000) :
    FnOk Tryz.prog 17 [.t (netC c), .t (.sl 1 [encPs f]), .t (.sl 2 wayC), .t (.int b)] [] (.tup [.t (.int v), .t (.bool true), .t (.int 0)]) [] := by
  have c1 := ncheck_fn c h0 h2
  have c2 : FnOk Tryz.prog 36 [.t (netC c), .t (.sl 1 [encPs f])] [] (.t (.int 0)) [] := acheck_fn (dC c 0 [0, 0]) (dP_ok (.lit (.slice none 0 0)) rfl c 0 [0, 0] (by omega) (by omega) rfl (fun x hx => by simp at hx; omega)) (dC_netC c 0 _ h0 h2) [f] ⟨rfl, fun g hg => by simp at hg; subst hg; exact hf, fun i g s hi hs => by
      match i, hi, hs with
      | 0, hi, hs => simp at hi; simp [dC, dP] at hs; subst hi; subst hs; exact hv
      | i + 1, hi, hs => simp at hi⟩
  have c3 := leads_fn c
  refine FnOk.intro fact_mixed Tryz.func17 rfl Tryz.ntmps17 (by rfl) (by simp) ?_
  repeat (first | (refine nf1_sound rfl ?_; simp [go_sem, ↓iO, iO, tN]; (repeat (refine anI ?_)); try (refine ⟨dcK, ?_⟩)) | ((first | refine itePos (by omega) ?_ | refine iteNeg (by omega) ?_); try simp [go_sem, ↓iO, iO, tN]) | (refine ⟨dcK, ?_⟩))
  refine CallK.fn (c1) [] [] [] (by kernel_rfl) ?_ ?_ ?_ (Or.inl rfl) ?_ <;> simp [go_sem, ↓iO, iO, tN]
  repeat (refine anI ?_)
  try (refine ⟨dcK, ?_⟩)
  repeat (first | (refine nf1_sound rfl ?_; simp [go_sem, ↓iO, iO, tN]; (repeat (refine anI ?_)); try (refine ⟨dcK, ?_⟩)) | ((first | refine itePos (by omega) ?_ | refine iteNeg (by omega) ?_); try simp [go_sem, ↓iO, iO, tN]) | (refine ⟨dcK, ?_⟩))
  refine CallK.fn (c2) [] [] [] (by kernel_rfl) ?_ ?_ ?_ (Or.inl rfl) ?_ <;> simp [go_sem, ↓iO, iO, tN]
  repeat (refine anI ?_)
  try (refine ⟨dcK, ?_⟩)
  repeat (first | (refine nf1_sound rfl ?_; simp [go_sem, ↓iO, iO, tN]; (repeat (refine anI ?_)); try (refine ⟨dcK, ?_⟩)) | ((first | refine itePos (by omega) ?_ | refine iteNeg (by omega) ?_); try simp [go_sem, ↓iO, iO, tN]) | (refine ⟨dcK, ?_⟩))
  refine CallK.fn (c3) [] [] [] (by kernel_rfl) ?_ ?_ ?_ (Or.inl rfl) ?_ <;> simp [go_sem, ↓iO, iO, tN]
  repeat (refine anI ?_)
  try (refine ⟨dcK, ?_⟩)
  repeat (first | (refine nf1_sound rfl ?_; simp [go_sem, ↓iO, iO, tN]; (repeat (refine anI ?_)); try (refine ⟨dcK, ?_⟩)) | ((first | refine itePos (by omega) ?_ | refine iteNeg (by omega) ?_); try simp [go_sem, ↓iO, iO, tN]) | (refine ⟨dcK, ?_⟩))
  refine nf1_sound' _ _ _ ?_; simp only [nf1]
  refine CW.loop (ι := Nat) (fun k => ⟨[(1, .t (.sl 1 [encPs f])), (2, .t (.sl 2 wayC)), (3, .t (.int b)), (4, .pt 104 [] 0), (13, .t (.int ((1 - (k : Int)) * c))), (14, .t (.int ((k : Int) - 1)))], [(104, .box 32 (.t (netC c)))]⟩) (fun k => k = 1) (fun k => k) 1 [(104, some 104)] rfl ?_ ?_
  · simp [go_sem, ↓iO, iO, tN]
  rintro k rfl
  repeat (first | (refine nf1_sound rfl ?_; simp [go_sem, ↓iO, iO, tN]; (repeat (refine anI ?_)); try (refine ⟨dcK, ?_⟩)) | ((first | refine itePos (by omega) ?_ | refine iteNeg (by omega) ?_); try simp [go_sem, ↓iO, iO, tN]) | (refine ⟨dcK, ?_⟩))
  refine CallK.fn (hfr) [] [] [] (by kernel_rfl) ?_ ?_ ?_ (Or.inl rfl) ?_ <;> simp [go_sem, ↓iO, iO, tN]
  repeat (refine anI ?_)
  try (refine ⟨dcK, ?_⟩)
  repeat (first | (refine nf1_sound rfl ?_; simp [go_sem, ↓iO, iO, tN]; (repeat (refine anI ?_)); try (refine ⟨dcK, ?_⟩)) | ((first | refine itePos (by omega) ?_ | refine iteNeg (by omega) ?_); try simp [go_sem, ↓iO, iO, tN]) | (refine ⟨dcK, ?_⟩))
  first | rw [RetQ_ret] | rw [RetQ_normal]
  refine ⟨[], ?_⟩
  simp [go_sem, ↓iO, iO, tN]
set_option maxRecDepth 100000 in
set_option maxHeartbeats 8000000 in
theorem dist_miss (c b : Int) (f : List (Int × Int)) (h0 : 20 ≤ c) (h2 : c ≤ 200) (hf : Pc.Vd f) (hv : Pc.vol f = c)
    (hfr : FnOk Tryz.prog 38 [.t (encPs f), .t (.int b), .t (.bool false)] [] (.tup [.t (.int 0), .t (.bool false)]) []) :
    FnOk Tryz.prog 17 [.t (netC c), .t (.sl 1 [encPs f]), .t (.sl 2 wayC), .t (.int b)] [] (.tup [.t (.int 0), .t (.bool false), .t (.int 0)]) [] := by
  have c1 := ncheck_fn c h0 h2
  have c2 : FnOk Tryz.prog 36 [.t (netC c), .t (.sl 1 [encPs f])] [] (.t (.int 0)) [] := acheck_fn (dC c 0 [0, 0]) (dP_ok (.lit (.slice none 0 0)) rfl c 0 [0, 0] (by omega) (by omega) rfl (fun x hx => by simp at hx; omega)) (dC_netC c 0 _ h0 h2) [f] ⟨rfl, fun g hg => by simp at hg; subst hg; exact hf, fun i g s hi hs => by
      match i, hi, hs with
      | 0, hi, hs => simp at hi; simp [dC, dP] at hs; subst hi; subst hs; exact hv
      | i + 1, hi, hs => simp at hi⟩
  have c3 := leads_fn c
  refine FnOk.intro fact_mixed Tryz.func17 rfl Tryz.ntmps17 (by rfl) (by simp) ?_
  repeat (first | (refine nf1_sound rfl ?_; simp [go_sem, ↓iO, iO, tN]; (repeat (refine anI ?_)); try (refine ⟨dcK, ?_⟩)) | ((first | refine itePos (by omega) ?_ | refine iteNeg (by omega) ?_); try simp [go_sem, ↓iO, iO, tN]) | (refine ⟨dcK, ?_⟩))
  refine CallK.fn (c1) [] [] [] (by kernel_rfl) ?_ ?_ ?_ (Or.inl rfl) ?_ <;> simp [go_sem, ↓iO, iO, tN]
  repeat (refine anI ?_)
  try (refine ⟨dcK, ?_⟩)
  repeat (first | (refine nf1_sound rfl ?_; simp [go_sem, ↓iO, iO, tN]; (repeat (refine anI ?_)); try (refine ⟨dcK, ?_⟩)) | ((first | refine itePos (by omega) ?_ | refine iteNeg (by omega) ?_); try simp [go_sem, ↓iO, iO, tN]) | (refine ⟨dcK, ?_⟩))
  refine CallK.fn (c2) [] [] [] (by kernel_rfl) ?_ ?_ ?_ (Or.inl rfl) ?_ <;> simp [go_sem, ↓iO, iO, tN]
  repeat (refine anI ?_)
  try (refine ⟨dcK, ?_⟩)
  repeat (first | (refine nf1_sound rfl ?_; simp [go_sem, ↓iO, iO, tN]; (repeat (refine anI ?_)); try (refine ⟨dcK, ?_⟩)) | ((first | refine itePos (by omega) ?_ | refine iteNeg (by omega) ?_); try simp [go_sem, ↓iO, iO, tN]) | (refine ⟨dcK, ?_⟩))
  refine CallK.fn (c3) [] [] [] (by kernel_rfl) ?_ ?_ ?_ (Or.inl rfl) ?_ <;> simp [go_sem, ↓iO, iO, tN]
  repeat (refine anI ?_)
  try (refine ⟨dcK, ?_⟩)
  repeat (first | (refine nf1_sound rfl ?_; simp [go_sem, ↓iO, iO, tN]; (repeat (refine anI ?_)); try (refine ⟨dcK, ?_⟩)) | ((first | refine itePos (by omega) ?_ | refine iteNeg (by omega) ?_); try simp [go_sem, ↓iO, iO, tN]) | (refine ⟨dcK, ?_⟩))
  refine nf1_sound' _ _ _ ?_; simp only [nf1]
  refine CW.loop (ι := Nat) (fun k => ⟨[(1, .t (.sl 1 [encPs f])), (2, .t (.sl 2 wayC)), (3, .t (.int b)), (4, .pt 104 [] 0), (13, .t (.int ((1 - (k : Int)) * c))), (14, .t (.int ((k : Int) - 1)))], [(104, .box 32 (.t (netC c)))]⟩) (fun k => k ≤ 1) (fun k => k) 1 [(104, some 104)] (by omega) ?_ ?_
  · simp [go_sem, ↓iO, iO, tN]
  intro k hk
  by_cases hb : 0 < k
  · obtain rfl : k = 1 := by omega
    repeat (first | (refine nf1_sound rfl ?_; simp [go_sem, ↓iO, iO, tN]; (repeat (refine anI ?_)); try (refine ⟨dcK, ?_⟩)) | ((first | refine itePos (by omega) ?_ | refine iteNeg (by omega) ?_); try simp [go_sem, ↓iO, iO, tN]) | (refine ⟨dcK, ?_⟩))
    refine CallK.fn (hfr) [] [] [] (by kernel_rfl) ?_ ?_ ?_ (Or.inl rfl) ?_ <;> simp [go_sem, ↓iO, iO, tN]
    repeat (refine anI ?_)
    try (refine ⟨dcK, ?_⟩)
    repeat (first | (refine nf1_sound rfl ?_; simp [go_sem, ↓iO, iO, tN]; (repeat (refine anI ?_)); try (refine ⟨dcK, ?_⟩)) | ((first | refine itePos (by omega) ?_ | refine iteNeg (by omega) ?_); try simp [go_sem, ↓iO, iO, tN]) | (refine ⟨dcK, ?_⟩))
    rw [RoundQ_normal]; refine ⟨0, [(104, some 104)], ?_, ?_, ?_⟩
    · omega
    · omega
    simp [go_sem, ↓iO, iO, tN]
  · obtain rfl : k = 0 := by omega
    repeat (first | (refine nf1_sound rfl ?_; simp [go_sem, ↓iO, iO, tN]; (repeat (refine anI ?_)); try (refine ⟨dcK, ?_⟩)) | ((first | refine itePos (by omega) ?_ | refine iteNeg (by omega) ?_); try simp [go_sem, ↓iO, iO, tN]) | (refine ⟨dcK, ?_⟩))
    first | rw [RetQ_ret] | rw [RetQ_normal]
    refine ⟨[], ?_⟩
    simp [go_sem, ↓iO, iO, tN]
end Go.Proofs.YtcehllkmfkoncaaGreat
/- The reference's Valid as a contract. No condition. -/
namespace Go.Proofs.YtcehllkmfkoncaaGreat
open Go.RowKit Sy
open Go.IntWalk renaming iteOmega → iO, toNatUp → tN
set_option linter.unusedVariables false
set_option linter.unusedSimpArgs false
set_option linter.unusedVariables false
set_option linter.unusedSimpArgs false
set_option maxRecDepth 100000 in
set_option maxHeartbeats 8000000 in
theorem rvalid_fn (l : List (Int × Int)) (hl : l.length ≤ 1000000) (b : Bool) (hv : Pc.valid l = b) : FnOk Tryz.prog 32 [.t (encPs l)] [] (.t (.bool b)) [] := by
  refine FnOk.intro fact_mixed Tryz.func32 rfl Tryz.ntmps32 (by rfl) (by simp) ?_
  by_cases h2 : l.length ≤ 200
  · repeat (first | (refine nf1_sound rfl ?_; simp [go_sem, ↓iO, iO, tN]; (repeat (refine anI ?_)); try (refine ⟨dcK, ?_⟩)) | ((first | refine itePos (by omega) ?_ | refine iteNeg (by omega) ?_); try simp [go_sem, ↓iO, iO, tN]) | (refine ⟨dcK, ?_⟩))
    refine nf1_sound' _ _ _ ?_; simp only [nf1]
    refine CW.loop (ι := Nat) (fun k => ⟨[(0, .t (encPs l)), (3, .t (.int (Pc.vol (l.take k)))), (9, .t (encPs l)), (10, .t (.int l.length)), (11, .t (.int k))], []⟩) (fun k => k ≤ l.length ∧ ∀ i, i < k → Pc.OkAt l i) (fun k => l.length - k) 0 [] ⟨by omega, fun i hi => absurd hi (by omega)⟩ ?_ ?_
    · simp [go_sem, ↓iO, iO, tN, Pc.vol]
    rintro k ⟨hk, ho⟩
    have hvs := (ok_take h2 ho).vol
    by_cases hb : k < l.length
    · obtain ⟨p, hp⟩ := has_get hb
      have hsn := Pc.vol_snoc hp
      obtain ⟨V, hV⟩ : ∃ V, Pc.vol (l.take k) = V := ⟨_, rfl⟩
      rw [hV] at hvs hsn ⊢
      obtain ⟨p1, p2⟩ := p
      dsimp only at hsn
      have bad : ¬ ((0 ≤ p1 ∧ p1 < 1000) ∧ 1 ≤ p2 ∧ p2 ≤ 1000000) → b = false := fun h => by
        rw [← hv]; exact Pc.valid_f fun hh => h (by have := (hh.ok k hb _ hp).1; dsimp only at this; omega)
      by_cases h1 : 0 ≤ p1 ∧ p1 < 1000
      · have c1 := proper_fn' p1 true (decide_eq_true h1)
        by_cases h3 : 1 ≤ p2
        · by_cases h4 : p2 ≤ 1000000
          · rcases k with _ | j
            · have hok : Pc.OkAt l 0 := fun x hx => by
                rw [hp] at hx; obtain rfl := Option.some.inj hx
                exact ⟨by dsimp only; omega, fun _ h0 => by omega⟩
              repeat (first | (refine nf1_sound rfl ?_; simp [go_sem, ↓iO, iO, tN, hp]; (repeat (refine anI ?_)); try (refine ⟨dcK, ?_⟩)) | ((first | refine itePos (by omega) ?_ | refine iteNeg (by omega) ?_); try simp [go_sem, ↓iO, iO, tN, hp]) | (refine ⟨dcK, ?_⟩))
              refine CallK.fn (c1) [] [] [] (by kernel_rfl) ?_ ?_ ?_ (Or.inl rfl) ?_ <;> simp [go_sem, ↓iO, iO, tN, hp]
              repeat (refine anI ?_)
              try (refine ⟨dcK, ?_⟩)
              repeat (first | (refine nf1_sound rfl ?_; simp [go_sem, ↓iO, iO, tN, hp]; (repeat (refine anI ?_)); try (refine ⟨dcK, ?_⟩)) | ((first | refine itePos (by omega) ?_ | refine iteNeg (by omega) ?_); try simp [go_sem, ↓iO, iO, tN, hp]) | (refine ⟨dcK, ?_⟩))
              rw [RoundQ_normal]; refine ⟨1, [], ?_, ?_, ?_⟩
              · exact ⟨by omega, ok_snoc ho hok⟩
              · omega
              simp [go_sem, ↓iO, iO, tN, hsn]
            · obtain ⟨q, hq⟩ := has_get (show j < l.length by omega)
              obtain ⟨q1, q2⟩ := q
              by_cases he : p1 = q1
              · have hn : b = false := by
                  rw [← hv]; exact Pc.valid_f fun h => (h.ok (j + 1) hb _ hp).2 _ (by omega) hq he.symm
                subst hn
                repeat (first | (refine nf1_sound rfl ?_; simp [go_sem, ↓iO, iO, tN, hp, hq]; (repeat (refine anI ?_)); try (refine ⟨dcK, ?_⟩)) | ((first | refine itePos (by omega) ?_ | refine iteNeg (by omega) ?_); try simp [go_sem, ↓iO, iO, tN, hp, hq]) | (refine ⟨dcK, ?_⟩))
                refine CallK.fn (c1) [] [] [] (by kernel_rfl) ?_ ?_ ?_ (Or.inl rfl) ?_ <;> simp [go_sem, ↓iO, iO, tN, hp, hq]
                repeat (refine anI ?_)
                try (refine ⟨dcK, ?_⟩)
                repeat (first | (refine nf1_sound rfl ?_; simp [go_sem, ↓iO, iO, tN, hp, hq]; (repeat (refine anI ?_)); try (refine ⟨dcK, ?_⟩)) | ((first | refine itePos (by omega) ?_ | refine iteNeg (by omega) ?_); try simp [go_sem, ↓iO, iO, tN, hp, hq]) | (refine ⟨dcK, ?_⟩))
                first | rw [RetQ_ret] | rw [RetQ_normal]
                refine ⟨[], ?_⟩
                simp [go_sem, ↓iO, iO, tN]
              · have hok : Pc.OkAt l (j + 1) := fun x hx => by
                  rw [hp] at hx; obtain rfl := Option.some.inj hx
                  refine ⟨by dsimp only; omega, fun y _ hy => ?_⟩
                  rw [Nat.add_sub_cancel, hq] at hy; obtain rfl := Option.some.inj hy
                  exact fun h => he h.symm
                repeat (first | (refine nf1_sound rfl ?_; simp [go_sem, ↓iO, iO, tN, hp, hq]; (repeat (refine anI ?_)); try (refine ⟨dcK, ?_⟩)) | ((first | refine itePos (by omega) ?_ | refine iteNeg (by omega) ?_); try simp [go_sem, ↓iO, iO, tN, hp, hq]) | (refine ⟨dcK, ?_⟩))
                refine CallK.fn (c1) [] [] [] (by kernel_rfl) ?_ ?_ ?_ (Or.inl rfl) ?_ <;> simp [go_sem, ↓iO, iO, tN, hp, hq]
                repeat (refine anI ?_)
                try (refine ⟨dcK, ?_⟩)
                repeat (first | (refine nf1_sound rfl ?_; simp [go_sem, ↓iO, iO, tN, hp, hq]; (repeat (refine anI ?_)); try (refine ⟨dcK, ?_⟩)) | ((first | refine itePos (by omega) ?_ | refine iteNeg (by omega) ?_); try simp [go_sem, ↓iO, iO, tN, hp, hq]) | (refine ⟨dcK, ?_⟩))
                rw [RoundQ_normal]; refine ⟨j + 1 + 1, [], ?_, ?_, ?_⟩
                · exact ⟨by omega, ok_snoc ho hok⟩
                · omega
                simp [go_sem, ↓iO, iO, tN, hsn]
          · obtain rfl := bad (by omega)
            repeat (first | (refine nf1_sound rfl ?_; simp [go_sem, ↓iO, iO, tN, hp]; (repeat (refine anI ?_)); try (refine ⟨dcK, ?_⟩)) | ((first | refine itePos (by omega) ?_ | refine iteNeg (by omega) ?_); try simp [go_sem, ↓iO, iO, tN, hp]) | (refine ⟨dcK, ?_⟩))
            refine CallK.fn (c1) [] [] [] (by kernel_rfl) ?_ ?_ ?_ (Or.inl rfl) ?_ <;> simp [go_sem, ↓iO, iO, tN, hp]
            repeat (refine anI ?_)
            try (refine ⟨dcK, ?_⟩)
            repeat (first | (refine nf1_sound rfl ?_; simp [go_sem, ↓iO, iO, tN, hp]; (repeat (refine anI ?_)); try (refine ⟨dcK, ?_⟩)) | ((first | refine itePos (by omega) ?_ | refine iteNeg (by omega) ?_); try simp [go_sem, ↓iO, iO, tN, hp]) | (refine ⟨dcK, ?_⟩))
            first | rw [RetQ_ret] | rw [RetQ_normal]
            refine ⟨[], ?_⟩
            simp [go_sem, ↓iO, iO, tN]
        · obtain rfl := bad (by omega)
          repeat (first | (refine nf1_sound rfl ?_; simp [go_sem, ↓iO, iO, tN, hp]; (repeat (refine anI ?_)); try (refine ⟨dcK, ?_⟩)) | ((first | refine itePos (by omega) ?_ | refine iteNeg (by omega) ?_); try simp [go_sem, ↓iO, iO, tN, hp]) | (refine ⟨dcK, ?_⟩))
          refine CallK.fn (c1) [] [] [] (by kernel_rfl) ?_ ?_ ?_ (Or.inl rfl) ?_ <;> simp [go_sem, ↓iO, iO, tN, hp]
          repeat (refine anI ?_)
          try (refine ⟨dcK, ?_⟩)
          repeat (first | (refine nf1_sound rfl ?_; simp [go_sem, ↓iO, iO, tN, hp]; (repeat (refine anI ?_)); try (refine ⟨dcK, ?_⟩)) | ((first | refine itePos (by omega) ?_ | refine iteNeg (by omega) ?_); try simp [go_sem, ↓iO, iO, tN, hp]) | (refine ⟨dcK, ?_⟩))
          first | rw [RetQ_ret] | rw [RetQ_normal]
          refine ⟨[], ?_⟩
          simp [go_sem, ↓iO, iO, tN]
      · have c1 := proper_fn' p1 false (decide_eq_false h1)
        obtain rfl := bad (fun h => h1 h.1)
        repeat (first | (refine nf1_sound rfl ?_; simp [go_sem, ↓iO, iO, tN, hp]; (repeat (refine anI ?_)); try (refine ⟨dcK, ?_⟩)) | ((first | refine itePos (by omega) ?_ | refine iteNeg (by omega) ?_); try simp [go_sem, ↓iO, iO, tN, hp]) | (refine ⟨dcK, ?_⟩))
        refine CallK.fn (c1) [] [] [] (by kernel_rfl) ?_ ?_ ?_ (Or.inl rfl) ?_ <;> simp [go_sem, ↓iO, iO, tN, hp]
        repeat (refine anI ?_)
        try (refine ⟨dcK, ?_⟩)
        repeat (first | (refine nf1_sound rfl ?_; simp [go_sem, ↓iO, iO, tN, hp]; (repeat (refine anI ?_)); try (refine ⟨dcK, ?_⟩)) | ((first | refine itePos (by omega) ?_ | refine iteNeg (by omega) ?_); try simp [go_sem, ↓iO, iO, tN, hp]) | (refine ⟨dcK, ?_⟩))
        first | rw [RetQ_ret] | rw [RetQ_normal]
        refine ⟨[], ?_⟩
        simp [go_sem, ↓iO, iO, tN]
    · obtain rfl : k = l.length := by omega
      rw [List.take_length] at hvs ⊢
      by_cases h : Pc.vol l ≤ 1000000
      · rw [Pc.valid_t ⟨h2, ho, h⟩] at hv
        subst hv
        repeat (first | (refine nf1_sound rfl ?_; simp [go_sem, ↓iO, iO, tN]; (repeat (refine anI ?_)); try (refine ⟨dcK, ?_⟩)) | ((first | refine itePos (by omega) ?_ | refine iteNeg (by omega) ?_); try simp [go_sem, ↓iO, iO, tN]) | (refine ⟨dcK, ?_⟩))
        first | rw [RetQ_ret] | rw [RetQ_normal]
        refine ⟨[], ?_⟩
        simp [go_sem, ↓iO, iO, tN]
        exact h
      · rw [Pc.valid_f fun hh => h hh.vol] at hv
        subst hv
        repeat (first | (refine nf1_sound rfl ?_; simp [go_sem, ↓iO, iO, tN]; (repeat (refine anI ?_)); try (refine ⟨dcK, ?_⟩)) | ((first | refine itePos (by omega) ?_ | refine iteNeg (by omega) ?_); try simp [go_sem, ↓iO, iO, tN]) | (refine ⟨dcK, ?_⟩))
        first | rw [RetQ_ret] | rw [RetQ_normal]
        refine ⟨[], ?_⟩
        simp [go_sem, ↓iO, iO, tN]
        try omega
  · rw [Pc.valid_f fun h => h2 h.len] at hv
    subst hv
    repeat (first | (refine nf1_sound rfl ?_; simp [go_sem, ↓iO, iO, tN]; (repeat (refine anI ?_)); try (refine ⟨dcK, ?_⟩)) | ((first | refine itePos (by omega) ?_ | refine iteNeg (by omega) ?_); try simp [go_sem, ↓iO, iO, tN]) | (refine ⟨dcK, ?_⟩))
    first | rw [RetQ_ret] | rw [RetQ_normal]
    refine ⟨[], ?_⟩
    simp [go_sem, ↓iO, iO, tN]
/-- The volume of a fill, 0 if it is none. -/
noncomputable def volV (l : List (Int × Int)) : Int := if Pc.valid l = true then Pc.vol l else 0
noncomputable def atV (l : List (Int × Int)) (x : Int) : Int := if Pc.valid l = true ∧ 0 ≤ x then Pc.atIn l x else -1
noncomputable def batV (l : List (Int × Int)) (b : Int) : Int := if Pc.valid l = true then Pc.of_ l b else 0
theorem nvalid {l : List (Int × Int)} (h : ¬ Pc.valid l = true) : Pc.valid l = false := by cases hv : Pc.valid l <;> simp_all
end Go.Proofs.YtcehllkmfkoncaaGreat
/- The reference's Volume, Batch, At as contracts. No condition. -/
namespace Go.Proofs.YtcehllkmfkoncaaGreat
open Go.RowKit Sy
open Go.IntWalk renaming iteOmega → iO, toNatUp → tN
set_option linter.unusedVariables false
set_option linter.unusedSimpArgs false
set_option maxRecDepth 100000 in
theorem rvolume_fn (l : List (Int × Int)) (hl : l.length ≤ 1000000) (v : Int) (hv : volV l = v) : FnOk Tryz.prog 22 [.t (encPs l)] [] (.t (.int v)) [] := by
  unfold volV at hv
  by_cases h : Pc.valid l = true
  · rw [if_pos h] at hv
    subst hv
    refine FnOk.intro fact_mixed Tryz.func22 rfl Tryz.ntmps22 (by rfl) (by simp) ?_
    repeat (first | (refine nf1_sound rfl ?_; simp [go_sem, ↓iO, iO, tN]; (repeat (refine anI ?_)); try (refine ⟨dcK, ?_⟩)) | ((first | refine itePos (by omega) ?_ | refine iteNeg (by omega) ?_); try simp [go_sem, ↓iO, iO, tN]) | (refine ⟨dcK, ?_⟩))
    refine CallK.fn (rvalid_fn l hl true h) [] [] [] (by kernel_rfl) ?_ ?_ ?_ (Or.inl rfl) ?_ <;> simp [go_sem, ↓iO, iO, tN]
    repeat (refine anI ?_)
    try (refine ⟨dcK, ?_⟩)
    repeat (first | (refine nf1_sound rfl ?_; simp [go_sem, ↓iO, iO, tN]; (repeat (refine anI ?_)); try (refine ⟨dcK, ?_⟩)) | ((first | refine itePos (by omega) ?_ | refine iteNeg (by omega) ?_); try simp [go_sem, ↓iO, iO, tN]) | (refine ⟨dcK, ?_⟩))
    refine CallK.fn (sum_fn l (Pc.valid_iff.1 h).sane) [] [] [] (by kernel_rfl) ?_ ?_ ?_ (Or.inl rfl) ?_ <;> simp [go_sem, ↓iO, iO, tN]
    repeat (refine anI ?_)
    try (refine ⟨dcK, ?_⟩)
    repeat (first | (refine nf1_sound rfl ?_; simp [go_sem, ↓iO, iO, tN]; (repeat (refine anI ?_)); try (refine ⟨dcK, ?_⟩)) | ((first | refine itePos (by omega) ?_ | refine iteNeg (by omega) ?_); try simp [go_sem, ↓iO, iO, tN]) | (refine ⟨dcK, ?_⟩))
    first | rw [RetQ_ret] | rw [RetQ_normal]
    refine ⟨[], ?_⟩
    simp [go_sem, ↓iO, iO, tN]
  · rw [if_neg h] at hv
    subst hv
    refine FnOk.intro fact_mixed Tryz.func22 rfl Tryz.ntmps22 (by rfl) (by simp) ?_
    repeat (first | (refine nf1_sound rfl ?_; simp [go_sem, ↓iO, iO, tN]; (repeat (refine anI ?_)); try (refine ⟨dcK, ?_⟩)) | ((first | refine itePos (by omega) ?_ | refine iteNeg (by omega) ?_); try simp [go_sem, ↓iO, iO, tN]) | (refine ⟨dcK, ?_⟩))
    refine CallK.fn (rvalid_fn l hl false (nvalid h)) [] [] [] (by kernel_rfl) ?_ ?_ ?_ (Or.inl rfl) ?_ <;> simp [go_sem, ↓iO, iO, tN]
    repeat (refine anI ?_)
    try (refine ⟨dcK, ?_⟩)
    repeat (first | (refine nf1_sound rfl ?_; simp [go_sem, ↓iO, iO, tN]; (repeat (refine anI ?_)); try (refine ⟨dcK, ?_⟩)) | ((first | refine itePos (by omega) ?_ | refine iteNeg (by omega) ?_); try simp [go_sem, ↓iO, iO, tN]) | (refine ⟨dcK, ?_⟩))
    first | rw [RetQ_ret] | rw [RetQ_normal]
    refine ⟨[], ?_⟩
    simp [go_sem, ↓iO, iO, tN]
set_option maxRecDepth 100000 in
theorem rbatch_fn (l : List (Int × Int)) (b : Int) (hl : l.length ≤ 1000000) (v : Int) (hv : batV l b = v) : FnOk Tryz.prog 15 [.t (encPs l), .t (.int b)] [] (.t (.int v)) [] := by
  unfold batV at hv
  by_cases h : Pc.valid l = true
  · rw [if_pos h] at hv
    subst hv
    refine FnOk.intro fact_mixed Tryz.func15 rfl Tryz.ntmps15 (by rfl) (by simp) ?_
    repeat (first | (refine nf1_sound rfl ?_; simp [go_sem, ↓iO, iO, tN]; (repeat (refine anI ?_)); try (refine ⟨dcK, ?_⟩)) | ((first | refine itePos (by omega) ?_ | refine iteNeg (by omega) ?_); try simp [go_sem, ↓iO, iO, tN]) | (refine ⟨dcK, ?_⟩))
    refine CallK.fn (rvalid_fn l hl true h) [] [] [] (by kernel_rfl) ?_ ?_ ?_ (Or.inl rfl) ?_ <;> simp [go_sem, ↓iO, iO, tN]
    repeat (refine anI ?_)
    try (refine ⟨dcK, ?_⟩)
    repeat (first | (refine nf1_sound rfl ?_; simp [go_sem, ↓iO, iO, tN]; (repeat (refine anI ?_)); try (refine ⟨dcK, ?_⟩)) | ((first | refine itePos (by omega) ?_ | refine iteNeg (by omega) ?_); try simp [go_sem, ↓iO, iO, tN]) | (refine ⟨dcK, ?_⟩))
    refine CallK.fn (of_fn l b (Pc.valid_iff.1 h).sane) [] [] [] (by kernel_rfl) ?_ ?_ ?_ (Or.inl rfl) ?_ <;> simp [go_sem, ↓iO, iO, tN]
    repeat (refine anI ?_)
    try (refine ⟨dcK, ?_⟩)
    repeat (first | (refine nf1_sound rfl ?_; simp [go_sem, ↓iO, iO, tN]; (repeat (refine anI ?_)); try (refine ⟨dcK, ?_⟩)) | ((first | refine itePos (by omega) ?_ | refine iteNeg (by omega) ?_); try simp [go_sem, ↓iO, iO, tN]) | (refine ⟨dcK, ?_⟩))
    first | rw [RetQ_ret] | rw [RetQ_normal]
    refine ⟨[], ?_⟩
    simp [go_sem, ↓iO, iO, tN]
  · rw [if_neg h] at hv
    subst hv
    refine FnOk.intro fact_mixed Tryz.func15 rfl Tryz.ntmps15 (by rfl) (by simp) ?_
    repeat (first | (refine nf1_sound rfl ?_; simp [go_sem, ↓iO, iO, tN]; (repeat (refine anI ?_)); try (refine ⟨dcK, ?_⟩)) | ((first | refine itePos (by omega) ?_ | refine iteNeg (by omega) ?_); try simp [go_sem, ↓iO, iO, tN]) | (refine ⟨dcK, ?_⟩))
    refine CallK.fn (rvalid_fn l hl false (nvalid h)) [] [] [] (by kernel_rfl) ?_ ?_ ?_ (Or.inl rfl) ?_ <;> simp [go_sem, ↓iO, iO, tN]
    repeat (refine anI ?_)
    try (refine ⟨dcK, ?_⟩)
    repeat (first | (refine nf1_sound rfl ?_; simp [go_sem, ↓iO, iO, tN]; (repeat (refine anI ?_)); try (refine ⟨dcK, ?_⟩)) | ((first | refine itePos (by omega) ?_ | refine iteNeg (by omega) ?_); try simp [go_sem, ↓iO, iO, tN]) | (refine ⟨dcK, ?_⟩))
    first | rw [RetQ_ret] | rw [RetQ_normal]
    refine ⟨[], ?_⟩
    simp [go_sem, ↓iO, iO, tN]
end Go.Proofs.YtcehllkmfkoncaaGreat
/- ref.Joined, ref.Split as contracts. No condition. -/
namespace Go.Proofs.YtcehllkmfkoncaaGreat
open Go.RowKit Sy
open Go.IntWalk renaming iteOmega → iO, toNatUp → tN
set_option linter.unusedVariables false
set_option linter.unusedSimpArgs false
set_option maxRecDepth 100000 in
set_option maxHeartbeats 4000000 in
theorem joined_fn (l : List (Int × Int)) (h : Pc.Sane l) : FnOk Tryz.prog 35 [.t (encPs l)] [] (.own 1000) [(1000, blkP (Pc.join l))] := by
  have hlen := h.len
  refine FnOk.intro fact_mixed Tryz.func35 rfl Tryz.ntmps35 (by rfl) (by simp) ?_
  repeat (first | (refine nf1_sound rfl ?_; simp [go_sem, ↓iO, iO, tN]; (repeat (refine anI ?_)); try (refine ⟨dcK, ?_⟩)) | ((first | refine itePos (by omega) ?_ | refine iteNeg (by omega) ?_); try simp [go_sem, ↓iO, iO, tN]) | (refine ⟨dcK, ?_⟩))
  refine nf1_sound' _ _ _ ?_; simp only [nf1]
  refine CW.loop (ι := Nat) (fun k => ⟨[(3, .own 500), (6, .t (encPs l)), (7, .t (.int l.length)), (8, .t (.int k))], [(500, blkP (Pc.join (l.take k)))]⟩) (fun k => k ≤ l.length) (fun k => l.length - k) 0 [(500, none)] (by omega) ?_ ?_
  · simp [go_sem, ↓iO, iO, tN, Pc.join]
  intro k hk
  by_cases hb : k < l.length
  · obtain ⟨p, hp⟩ := has_get hb
    have hs := Pc.join_snoc hp
    have hpv := h.each p (mem_get hp)
    have hjl := Pc.join_length (l.take k)
    rw [List.length_take] at hjl
    have hje := join_each (h.take k)
    obtain ⟨out, hout⟩ : ∃ out, out = Pc.join (l.take k) := ⟨_, rfl⟩
    rw [← hout] at hs hjl hje
    by_cases hz : p.2 = 0
    · rw [Pc.jstep_zero hz] at hs
      repeat (first | (refine nf1_sound rfl ?_; simp [go_sem, ↓iO, iO, tN, hp, hz, ← hout]; (repeat (refine anI ?_)); try (refine ⟨dcK, ?_⟩)) | ((first | refine itePos (by omega) ?_ | refine iteNeg (by omega) ?_); try simp [go_sem, ↓iO, iO, tN, hp, hz, ← hout]) | (refine ⟨dcK, ?_⟩))
      rw [RoundQ_normal]; refine ⟨k + 1, [(500, some 500)], ?_, ?_, ?_⟩
      · omega
      · omega
      simp [go_sem, ↓iO, iO, tN, hs, ← hout]
    · rcases List.eq_nil_or_concat out with rfl | ⟨o, q, rfl⟩
      · rw [Pc.jstep_new hz (by simp)] at hs
        repeat (first | (refine nf1_sound rfl ?_; simp [go_sem, ↓iO, iO, tN, hp, hz, ← hout]; (repeat (refine anI ?_)); try (refine ⟨dcK, ?_⟩)) | ((first | refine itePos (by omega) ?_ | refine iteNeg (by omega) ?_); try simp [go_sem, ↓iO, iO, tN, hp, hz, ← hout]) | (refine ⟨dcK, ?_⟩))
        rw [RoundQ_normal]; refine ⟨k + 1, [(500, some 115)], ?_, ?_, ?_⟩
        · omega
        · omega
        simp [go_sem, ↓iO, iO, tN, hs, ← hout]
      · simp only [List.concat_eq_append] at *
        simp only [List.length_append, List.length_singleton] at hjl
        have hq := hje q (by simp)
        by_cases he : q.1 = p.1
        · rw [Pc.jstep_same hz (by simp) he, List.dropLast_concat] at hs
          repeat (first | (refine nf1_sound rfl ?_; simp [go_sem, ↓iO, iO, tN, hp, hz, ← hout, he]; (repeat (refine anI ?_)); try (refine ⟨dcK, ?_⟩)) | ((first | refine itePos (by omega) ?_ | refine iteNeg (by omega) ?_); try simp [go_sem, ↓iO, iO, tN, hp, hz, ← hout, he]) | (refine ⟨dcK, ?_⟩))
          rw [RoundQ_normal]; refine ⟨k + 1, [(500, some 500)], ?_, ?_, ?_⟩
          · omega
          · omega
          simp [go_sem, ↓iO, iO, tN, hs, ← hout, he]
        · rw [Pc.jstep_new hz (by simpa using he)] at hs
          repeat (first | (refine nf1_sound rfl ?_; simp [go_sem, ↓iO, iO, tN, hp, hz, ← hout, he]; (repeat (refine anI ?_)); try (refine ⟨dcK, ?_⟩)) | ((first | refine itePos (by omega) ?_ | refine iteNeg (by omega) ?_); try simp [go_sem, ↓iO, iO, tN, hp, hz, ← hout, he]) | (refine ⟨dcK, ?_⟩))
          rw [RoundQ_normal]; refine ⟨k + 1, [(500, some 115)], ?_, ?_, ?_⟩
          · omega
          · omega
          simp [go_sem, ↓iO, iO, tN, hs, ← hout, he]
  · obtain rfl : k = l.length := by omega
    repeat (first | (refine nf1_sound rfl ?_; simp [go_sem, ↓iO, iO, tN]; (repeat (refine anI ?_)); try (refine ⟨dcK, ?_⟩)) | ((first | refine itePos (by omega) ?_ | refine iteNeg (by omega) ?_); try simp [go_sem, ↓iO, iO, tN]) | (refine ⟨dcK, ?_⟩))
    first | rw [RetQ_ret] | rw [RetQ_normal]
    refine ⟨[(1000, some 500)], ?_⟩
    simp [go_sem, ↓iO, iO, tN, List.take_length]
end Go.Proofs.YtcehllkmfkoncaaGreat
/- The reference's Shift and Push as contracts. No condition. -/
namespace Go.Proofs.YtcehllkmfkoncaaGreat
open Go.RowKit Sy
open Go.IntWalk renaming iteOmega → iO, toNatUp → tN
set_option linter.unusedVariables false
set_option linter.unusedSimpArgs false
end Go.Proofs.YtcehllkmfkoncaaGreat
/- Volume, Batch, At for any pieces. No condition. -/
namespace Go.Proofs.YtcehllkmfkoncaaGreat
open Go.RowKit Sy
open Go.IntWalk renaming iteOmega → iO, toNatUp → tN
set_option linter.unusedVariables false
set_option linter.unusedSimpArgs false
set_option maxRecDepth 100000 in
theorem volume_any (l : List (Int × Int)) (hl : l.length ≤ 1000000) (v : Int) (hv : volV l = v) : FnOk Tryz.prog 78 [.t (encPs l)] [] (.t (.int v)) [] := by
  unfold volV at hv
  by_cases h : Pc.valid l = true
  · rw [if_pos h] at hv
    subst hv
    exact volume_fn l (Pc.valid_iff.1 h)
  · rw [if_neg h] at hv
    subst hv
    refine FnOk.intro fact_mixed Tryz.func78 rfl Tryz.ntmps78 (by rfl) (by simp) ?_
    repeat (first | (refine nf1_sound rfl ?_; simp [go_sem, ↓iO, iO, tN]; (repeat (refine anI ?_)); try (refine ⟨dcK, ?_⟩)) | ((first | refine itePos (by omega) ?_ | refine iteNeg (by omega) ?_); try simp [go_sem, ↓iO, iO, tN]) | (refine ⟨dcK, ?_⟩))
    refine CallK.fn (valid_fn' l hl false (nvalid h)) [] [] [] (by kernel_rfl) ?_ ?_ ?_ (Or.inl rfl) ?_ <;> simp [go_sem, ↓iO, iO, tN]
    repeat (refine anI ?_)
    try (refine ⟨dcK, ?_⟩)
    repeat (first | (refine nf1_sound rfl ?_; simp [go_sem, ↓iO, iO, tN]; (repeat (refine anI ?_)); try (refine ⟨dcK, ?_⟩)) | ((first | refine itePos (by omega) ?_ | refine iteNeg (by omega) ?_); try simp [go_sem, ↓iO, iO, tN]) | (refine ⟨dcK, ?_⟩))
    first | rw [RetQ_ret] | rw [RetQ_normal]
    refine ⟨[], ?_⟩
    simp [go_sem, ↓iO, iO, tN]
end Go.Proofs.YtcehllkmfkoncaaGreat
