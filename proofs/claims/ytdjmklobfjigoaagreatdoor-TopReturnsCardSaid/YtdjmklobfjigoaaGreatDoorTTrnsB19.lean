/- Several texts of this proof, one behind the other. No condition. -/
import Derived.Test.YtdjmklobfjigoaaGreatDoorTTrnsB18
import Derived.Test.YtdjmklobfjigoaaGreatDoorTTrnsB15
import Derived.Test.YtdjmklobfjigoaaGreatDoorTTrnsB16
import Derived.Test.YtdjmklobfjigoaaGreatDoorTTrnsB17
import Derived.Test.YtdjmklobfjigoaaGreatDoorTTrnsB8
import Derived.Test.YtdjmklobfjigoaaGreatDoorTTrnsB10
set_option maxRecDepth 100000
set_option maxHeartbeats 16000000
set_option linter.unusedVariables false
set_option linter.unusedSimpArgs false
namespace Go.Proofs.YtdjmklobfjigoaaGreatDoor
open Go.RowKit Sy
open Go.IntWalk renaming iteOmega → iO, toNatUp → tN
set_option maxRecDepth 100000
abbrev txtR : T := .lit (.string (str [110, 101, 116, 119, 111, 114, 107, 32, 48, 32, 48, 10, 110, 111, 100, 101, 32, 97, 10, 110, 111, 100, 101, 32, 98, 10, 115, 101, 103, 109, 101, 110, 116, 32, 115, 32, 97, 32, 98, 32, 49, 48, 32, 48, 32, 48, 10, 112, 111, 105, 110, 116, 32, 48, 32, 48, 32, 57, 48, 48, 48, 48, 48, 10, 112, 111, 105, 110, 116, 32, 49, 48, 32, 48, 32, 57, 48, 48, 48, 48, 48, 10, 112, 111, 114, 116, 32, 105, 110, 32, 97, 32, 51, 48, 48, 48, 48, 48, 10, 112, 111, 114, 116, 32, 111, 117, 116, 32, 98, 32, 48, 10]))
abbrev linesR : List T := [.sl 1 [.lit (.string (str [110, 101, 116, 119, 111, 114, 107])), .lit (.string (str [48])), .lit (.string (str [48]))], .sl 1 [.lit (.string (str [110, 111, 100, 101])), .lit (.string (str [97]))], .sl 1 [.lit (.string (str [110, 111, 100, 101])), .lit (.string (str [98]))], .sl 1 [.lit (.string (str [115, 101, 103, 109, 101, 110, 116])), .lit (.string (str [115])), .lit (.string (str [97])), .lit (.string (str [98])), .lit (.string (str [49, 48])), .lit (.string (str [48])), .lit (.string (str [48]))], .sl 1 [.lit (.string (str [112, 111, 105, 110, 116])), .lit (.string (str [48])), .lit (.string (str [48])), .lit (.string (str [57, 48, 48, 48, 48, 48]))], .sl 1 [.lit (.string (str [112, 111, 105, 110, 116])), .lit (.string (str [49, 48])), .lit (.string (str [48])), .lit (.string (str [57, 48, 48, 48, 48, 48]))], .sl 1 [.lit (.string (str [112, 111, 114, 116])), .lit (.string (str [105, 110])), .lit (.string (str [97])), .lit (.string (str [51, 48, 48, 48, 48, 48]))], .sl 1 [.lit (.string (str [112, 111, 114, 116])), .lit (.string (str [111, 117, 116])), .lit (.string (str [98])), .lit (.string (str [48]))]]
abbrev netR : T := .agg [.sl 1 [.lit (.string (str [97])), .lit (.string (str [98]))], .sl 7 [.agg [.lit (.string (str [115])), .int 0, .int 1, .int 10, .int 0, .int 0, .sl 3 [.agg [.int 0, .int 0, .int 900000], .agg [.int 10, .int 0, .int 900000]]]], .sl 3 [.agg [.lit (.string (str [105, 110])), .int 0, .int 300000], .agg [.lit (.string (str [111, 117, 116])), .int 1, .int 0]], .lit (.slice none 0 0), .int 0, .int 0]
theorem split_fn : FnOk Tryz.prog 53 [.t txtR] [] (.tup [.own 500, .t (.int 0)]) [(500, .list 26 1 linesR)] := evF_spec fact_mixed (knS_ok noKn_ok) 20 _ _ _ _ _ (by kernel_rfl : evF Tryz.prog (knS noKn) [] 200 20 53 [.t txtR] [] = some (.tup [.own 500, .t (.int 0)], [(500, .list 26 1 linesR)]))
theorem ln1_fn : FnOk Tryz.prog 54 [.pt 0 [] 0, .t (.sl 1 [.lit (.string (str [110, 101, 116, 119, 111, 114, 107])), .lit (.string (str [48])), .lit (.string (str [48]))])] [(0, .box 106 (.t (.agg [.agg [.lit (.slice none 0 0), .lit (.slice none 0 0), .lit (.slice none 0 0), .lit (.slice none 0 0), .int 0, .int 0], .int 0, .lit (.string (str []))])))] (.t (.int 0)) [(0, .box 106 (.t (.agg [.agg [.lit (.slice none 0 0), .lit (.slice none 0 0), .lit (.slice none 0 0), .lit (.slice none 0 0), .int 0, .int 0], .int 1, .lit (.string (str [110, 101, 116, 119, 111, 114, 107]))])))] := knLine_ok (kn := knS noKn) (fz := []) (fuel := 200) (n := 20) (knS_ok noKn_ok) (by kernel_rfl)
theorem ln2_fn : FnOk Tryz.prog 54 [.pt 0 [] 0, .t (.sl 1 [.lit (.string (str [110, 111, 100, 101])), .lit (.string (str [97]))])] [(0, .box 106 (.t (.agg [.agg [.lit (.slice none 0 0), .lit (.slice none 0 0), .lit (.slice none 0 0), .lit (.slice none 0 0), .int 0, .int 0], .int 1, .lit (.string (str [110, 101, 116, 119, 111, 114, 107]))])))] (.t (.int 0)) [(0, .box 106 (.ag [.ag [.own 1000, .t (.lit (.slice none 0 0)), .t (.lit (.slice none 0 0)), .t (.lit (.slice none 0 0)), .t (.int 0), .t (.int 0)], .t (.int 2), .t (.lit (.string (str [110, 111, 100, 101])))])), (1000, .list 9 1 [.lit (.string (str [97]))])] := knLine_ok (kn := knS noKn) (fz := []) (fuel := 200) (n := 20) (knS_ok noKn_ok) (by kernel_rfl)
theorem ln3_fn : FnOk Tryz.prog 54 [.pt 0 [] 0, .t (.sl 1 [.lit (.string (str [110, 111, 100, 101])), .lit (.string (str [98]))])] [(0, .box 106 (.ag [.ag [.own 1, .t (.lit (.slice none 0 0)), .t (.lit (.slice none 0 0)), .t (.lit (.slice none 0 0)), .t (.int 0), .t (.int 0)], .t (.int 2), .t (.lit (.string (str [110, 111, 100, 101])))])), (1, .list 9 1 [.lit (.string (str [97]))])] (.t (.int 0)) [(0, .box 106 (.ag [.ag [.own 1000, .t (.lit (.slice none 0 0)), .t (.lit (.slice none 0 0)), .t (.lit (.slice none 0 0)), .t (.int 0), .t (.int 0)], .t (.int 2), .t (.lit (.string (str [110, 111, 100, 101])))])), (1000, .list 9 1 [.lit (.string (str [97])), .lit (.string (str [98]))])] := knLine_ok (kn := knS noKn) (fz := []) (fuel := 200) (n := 20) (knS_ok noKn_ok) (by kernel_rfl)
theorem ln4_fn : FnOk Tryz.prog 54 [.pt 0 [] 0, .t (.sl 1 [.lit (.string (str [115, 101, 103, 109, 101, 110, 116])), .lit (.string (str [115])), .lit (.string (str [97])), .lit (.string (str [98])), .lit (.string (str [49, 48])), .lit (.string (str [48])), .lit (.string (str [48]))])] [(0, .box 106 (.t (.agg [.agg [.sl 1 [.lit (.string (str [97])), .lit (.string (str [98]))], .lit (.slice none 0 0), .lit (.slice none 0 0), .lit (.slice none 0 0), .int 0, .int 0], .int 2, .lit (.string (str [110, 111, 100, 101]))])))] (.t (.int 0)) [(0, .box 106 (.ag [.ag [.t (.sl 1 [.lit (.string (str [97])), .lit (.string (str [98]))]), .own 1000, .t (.lit (.slice none 0 0)), .t (.lit (.slice none 0 0)), .t (.int 0), .t (.int 0)], .t (.int 3), .t (.lit (.string (str [115, 101, 103, 109, 101, 110, 116])))])), (1000, .list 38 7 [.agg [.lit (.string (str [115])), .int 0, .int 1, .int 10, .int 0, .int 0, .lit (.slice none 0 0)]])] := knLine_ok (kn := knS noKn) (fz := []) (fuel := 200) (n := 20) (knS_ok noKn_ok) (by kernel_rfl)
theorem ln7_fn : FnOk Tryz.prog 54 [.pt 0 [] 0, .t (.sl 1 [.lit (.string (str [112, 111, 114, 116])), .lit (.string (str [105, 110])), .lit (.string (str [97])), .lit (.string (str [51, 48, 48, 48, 48, 48]))])] [(0, .box 106 (.t (.agg [.agg [.sl 1 [.lit (.string (str [97])), .lit (.string (str [98]))], .sl 7 [.agg [.lit (.string (str [115])), .int 0, .int 1, .int 10, .int 0, .int 0, .sl 3 [.agg [.int 0, .int 0, .int 900000], .agg [.int 10, .int 0, .int 900000]]]], .lit (.slice none 0 0), .lit (.slice none 0 0), .int 0, .int 0], .int 3, .lit (.string (str [112, 111, 105, 110, 116]))])))] (.t (.int 0)) [(0, .box 106 (.ag [.ag [.t (.sl 1 [.lit (.string (str [97])), .lit (.string (str [98]))]), .t (.sl 7 [.agg [.lit (.string (str [115])), .int 0, .int 1, .int 10, .int 0, .int 0, .sl 3 [.agg [.int 0, .int 0, .int 900000], .agg [.int 10, .int 0, .int 900000]]]]), .own 1000, .t (.lit (.slice none 0 0)), .t (.int 0), .t (.int 0)], .t (.int 4), .t (.lit (.string (str [112, 111, 114, 116])))])), (1000, .list 28 3 [.agg [.lit (.string (str [105, 110])), .int 0, .int 300000]])] := knLine_ok (kn := knS noKn) (fz := []) (fuel := 200) (n := 20) (knS_ok noKn_ok) (by kernel_rfl)
theorem ln8_fn : FnOk Tryz.prog 54 [.pt 0 [] 0, .t (.sl 1 [.lit (.string (str [112, 111, 114, 116])), .lit (.string (str [111, 117, 116])), .lit (.string (str [98])), .lit (.string (str [48]))])] [(0, .box 106 (.ag [.ag [.t (.sl 1 [.lit (.string (str [97])), .lit (.string (str [98]))]), .t (.sl 7 [.agg [.lit (.string (str [115])), .int 0, .int 1, .int 10, .int 0, .int 0, .sl 3 [.agg [.int 0, .int 0, .int 900000], .agg [.int 10, .int 0, .int 900000]]]]), .own 1, .t (.lit (.slice none 0 0)), .t (.int 0), .t (.int 0)], .t (.int 4), .t (.lit (.string (str [112, 111, 114, 116])))])), (1, .list 28 3 [.agg [.lit (.string (str [105, 110])), .int 0, .int 300000]])] (.t (.int 0)) [(0, .box 106 (.ag [.ag [.t (.sl 1 [.lit (.string (str [97])), .lit (.string (str [98]))]), .t (.sl 7 [.agg [.lit (.string (str [115])), .int 0, .int 1, .int 10, .int 0, .int 0, .sl 3 [.agg [.int 0, .int 0, .int 900000], .agg [.int 10, .int 0, .int 900000]]]]), .own 1000, .t (.lit (.slice none 0 0)), .t (.int 0), .t (.int 0)], .t (.int 4), .t (.lit (.string (str [112, 111, 114, 116])))])), (1000, .list 28 3 [.agg [.lit (.string (str [105, 110])), .int 0, .int 300000], .agg [.lit (.string (str [111, 117, 116])), .int 1, .int 0]])] := knLine_ok (kn := knS noKn) (fz := []) (fuel := 200) (n := 20) (knS_ok noKn_ok) (by kernel_rfl)
theorem num0_fn : NumC [48] 0 := evF_spec fact_mixed (knS_ok noKn_ok) 20 _ _ _ _ _ (by kernel_rfl : evF Tryz.prog (knS noKn) [] 200 20 78 [.t (.lit (.string (str [48])))] [] = some (.tup [.t (.int 0), .t (.int 0)], []))
theorem num10_fn : NumC [49, 48] 10 := evF_spec fact_mixed (knS_ok noKn_ok) 20 _ _ _ _ _ (by kernel_rfl : evF Tryz.prog (knS noKn) [] 200 20 78 [.t (.lit (.string (str [49, 48])))] [] = some (.tup [.t (.int 10), .t (.int 0)], []))
theorem num900000_fn : NumC [57, 48, 48, 48, 48, 48] 900000 := evF_spec fact_mixed (knS_ok noKn_ok) 20 _ _ _ _ _ (by kernel_rfl : evF Tryz.prog (knS noKn) [] 200 20 78 [.t (.lit (.string (str [57, 48, 48, 48, 48, 48])))] [] = some (.tup [.t (.int 900000), .t (.int 0)], []))
theorem chkR_fn : FnOk Tryz.prog 45 [.t netR] [] (.t (.int 0)) [] := evF_spec fact_mixed (knS_ok noKn_ok) 20 _ _ _ _ _ (by kernel_rfl : evF Tryz.prog (knS noKn) [56] 200 20 45 [.t netR] [] = some (.t (.int 0), []))
def rdH : Nat → List (Nat × Blk)
  | 0 => [(507, .box 106 (.t (.agg [.agg [.lit (.slice none 0 0), .lit (.slice none 0 0), .lit (.slice none 0 0), .lit (.slice none 0 0), .int 0, .int 0], .int 0, .lit (.string (str []))])))]
  | 1 => [(507, .box 106 (.t (.agg [.agg [.lit (.slice none 0 0), .lit (.slice none 0 0), .lit (.slice none 0 0), .lit (.slice none 0 0), .int 0, .int 0], .int 1, .lit (.string (str [110, 101, 116, 119, 111, 114, 107]))])))]
  | 2 => [(507, .box 106 (.ag [.ag [.own 508, .t (.lit (.slice none 0 0)), .t (.lit (.slice none 0 0)), .t (.lit (.slice none 0 0)), .t (.int 0), .t (.int 0)], .t (.int 2), .t (.lit (.string (str [110, 111, 100, 101])))])), (508, .list 9 1 [.lit (.string (str [97]))])]
  | 3 => [(507, .box 106 (.t (.agg [.agg [.sl 1 [.lit (.string (str [97])), .lit (.string (str [98]))], .lit (.slice none 0 0), .lit (.slice none 0 0), .lit (.slice none 0 0), .int 0, .int 0], .int 2, .lit (.string (str [110, 111, 100, 101]))])))]
  | 4 => [(507, .box 106 (.ag [.ag [.t (.sl 1 [.lit (.string (str [97])), .lit (.string (str [98]))]), .own 508, .t (.lit (.slice none 0 0)), .t (.lit (.slice none 0 0)), .t (.int 0), .t (.int 0)], .t (.int 3), .t (.lit (.string (str [115, 101, 103, 109, 101, 110, 116])))])), (508, .list 38 7 [.agg [.lit (.string (str [115])), .int 0, .int 1, .int 10, .int 0, .int 0, .lit (.slice none 0 0)]])]
  | 5 => [(507, .box 106 (.ag [.ag [.t (.sl 1 [.lit (.string (str [97])), .lit (.string (str [98]))]), .own 508, .t (.lit (.slice none 0 0)), .t (.lit (.slice none 0 0)), .t (.int 0), .t (.int 0)], .t (.int 3), .t (.lit (.string (str [112, 111, 105, 110, 116])))])), (508, segR [.agg [.int 0, .int 0, .int 900000]])]
  | 6 => [(507, .box 106 (.t (.agg [.agg [.sl 1 [.lit (.string (str [97])), .lit (.string (str [98]))], .sl 7 [.agg [.lit (.string (str [115])), .int 0, .int 1, .int 10, .int 0, .int 0, .sl 3 [.agg [.int 0, .int 0, .int 900000], .agg [.int 10, .int 0, .int 900000]]]], .lit (.slice none 0 0), .lit (.slice none 0 0), .int 0, .int 0], .int 3, .lit (.string (str [112, 111, 105, 110, 116]))])))]
  | 7 => [(507, .box 106 (.ag [.ag [.t (.sl 1 [.lit (.string (str [97])), .lit (.string (str [98]))]), .t (.sl 7 [.agg [.lit (.string (str [115])), .int 0, .int 1, .int 10, .int 0, .int 0, .sl 3 [.agg [.int 0, .int 0, .int 900000], .agg [.int 10, .int 0, .int 900000]]]]), .own 508, .t (.lit (.slice none 0 0)), .t (.int 0), .t (.int 0)], .t (.int 4), .t (.lit (.string (str [112, 111, 114, 116])))])), (508, .list 28 3 [.agg [.lit (.string (str [105, 110])), .int 0, .int 300000]])]
  | _ => [(507, .box 106 (.t (.agg [.agg [.sl 1 [.lit (.string (str [97])), .lit (.string (str [98]))], .sl 7 [.agg [.lit (.string (str [115])), .int 0, .int 1, .int 10, .int 0, .int 0, .sl 3 [.agg [.int 0, .int 0, .int 900000], .agg [.int 10, .int 0, .int 900000]]]], .sl 3 [.agg [.lit (.string (str [105, 110])), .int 0, .int 300000], .agg [.lit (.string (str [111, 117, 116])), .int 1, .int 0]], .lit (.slice none 0 0), .int 0, .int 0], .int 4, .lit (.string (str [112, 111, 114, 116]))])))]
theorem parse_fn : FnOk Tryz.prog 33 [.t txtR] [] (.tup [.t netR, .t (.int 0), .t (.int 0)]) [] := by
  have cs := split_fn
  have cc := chkR_fn
  refine FnOk.intro fact_mixed Tryz.func33 rfl Tryz.ntmps33 (by rfl) (by simp) ?_
  repeat (first | (refine nf1_sound rfl ?_; simp [go_sem, ↓iO, iO, tN]) | refine anI ?_ | refine ⟨dcK, ?_⟩ | ((first | refine iP ?_ | refine iN ?_); try simp [go_sem, ↓iO, iO, tN]))
  refine CallK.fn (cs) [(500, 600)] [] [] (by kernel_rfl) ?_ ?_ ?_ (Or.inl rfl) ?_ <;> simp [go_sem, ↓iO, iO, tN]
  repeat (refine anI ?_)
  try (refine ⟨dcK, ?_⟩)
  repeat (first | (refine nf1_sound rfl ?_; simp [go_sem, ↓iO, iO, tN]) | refine anI ?_ | refine ⟨dcK, ?_⟩ | ((first | refine iP ?_ | refine iN ?_); try simp [go_sem, ↓iO, iO, tN]))
  refine nf1_sound' _ _ _ ?_; simp only [nf1]
  refine CW.loop (ι := Nat) (fun k => ⟨[(2, .pt 502 [] 0), (7, .pt 507 [] 0), (23, .t (.sl 1 linesR)), (24, .t (.int 8)), (25, .t (.int k))], (502, .box 33 (.t (.agg [.lit (.slice none 0 0), .lit (.slice none 0 0), .lit (.slice none 0 0), .lit (.slice none 0 0), .int 0, .int 0]))) :: rdH k⟩) (fun k => k ≤ 8) (fun k => 8 - k) 0 [(502, some 102), (507, some 122)] (by omega) ?_ ?_
  · simp [go_sem, ↓iO, iO, tN, rdH]
    rfl
  intro k hk
  have h9 : k = 0 ∨ k = 1 ∨ k = 2 ∨ k = 3 ∨ k = 4 ∨ k = 5 ∨ k = 6 ∨ k = 7 ∨ k = 8 := by omega
  rcases h9 with rfl | rfl | rfl | rfl | rfl | rfl | rfl | rfl | rfl
  · have cl := ln1_fn
    repeat (first | (refine nf1_sound rfl ?_; simp [go_sem, ↓iO, iO, tN, rdH]) | refine anI ?_ | refine ⟨dcK, ?_⟩ | ((first | refine iP ?_ | refine iN ?_); try simp [go_sem, ↓iO, iO, tN, rdH]))
    refine CallK.fn (cl) [(0, 507)] [] [] (by kernel_rfl) ?_ ?_ ?_ (Or.inl rfl) ?_ <;> simp [go_sem, ↓iO, iO, tN]
    repeat (refine anI ?_)
    try (refine ⟨dcK, ?_⟩)
    repeat (first | (refine nf1_sound rfl ?_; simp [go_sem, ↓iO, iO, tN]) | refine anI ?_ | refine ⟨dcK, ?_⟩ | ((first | refine iP ?_ | refine iN ?_); try simp [go_sem, ↓iO, iO, tN]))
    rw [RoundQ_normal]; refine ⟨1, [(502, some 502), (507, some 507)], ?_, ?_, ?_⟩
    · omega
    · omega
    simp [go_sem, ↓iO, iO, tN, rdH]
  · have cl := ln2_fn
    repeat (first | (refine nf1_sound rfl ?_; simp [go_sem, ↓iO, iO, tN, rdH]) | refine anI ?_ | refine ⟨dcK, ?_⟩ | ((first | refine iP ?_ | refine iN ?_); try simp [go_sem, ↓iO, iO, tN, rdH]))
    refine CallK.fn (cl) [(0, 507), (1000, 610)] [] [] (by kernel_rfl) ?_ ?_ ?_ (Or.inl rfl) ?_ <;> simp [go_sem, ↓iO, iO, tN]
    repeat (refine anI ?_)
    try (refine ⟨dcK, ?_⟩)
    repeat (first | (refine nf1_sound rfl ?_; simp [go_sem, ↓iO, iO, tN]) | refine anI ?_ | refine ⟨dcK, ?_⟩ | ((first | refine iP ?_ | refine iN ?_); try simp [go_sem, ↓iO, iO, tN]))
    rw [RoundQ_normal]; refine ⟨2, [(502, some 502), (507, some 507), (508, some 610)], ?_, ?_, ?_⟩
    · omega
    · omega
    simp [go_sem, ↓iO, iO, tN, rdH]
  · have cl := ln3_fn
    repeat (first | (refine nf1_sound rfl ?_; simp [go_sem, ↓iO, iO, tN, rdH]) | refine anI ?_ | refine ⟨dcK, ?_⟩ | ((first | refine iP ?_ | refine iN ?_); try simp [go_sem, ↓iO, iO, tN, rdH]))
    refine CallK.fn (cl) [(0, 507), (1, 508), (1000, 610)] [] [] (by kernel_rfl) ?_ ?_ ?_ (Or.inl rfl) ?_ <;> simp [go_sem, ↓iO, iO, tN]
    repeat (refine anI ?_)
    try (refine ⟨dcK, ?_⟩)
    repeat (first | (refine nf1_sound rfl ?_; simp [go_sem, ↓iO, iO, tN]) | refine anI ?_ | refine ⟨dcK, ?_⟩ | ((first | refine iP ?_ | refine iN ?_); try simp [go_sem, ↓iO, iO, tN]))
    rw [RoundQ_normal]; refine ⟨3, [(502, some 502), (507, some 507)], ?_, ?_, ?_⟩
    · omega
    · omega
    simp [go_sem, ↓iO, iO, tN, rdH]
  · have cl := ln4_fn
    repeat (first | (refine nf1_sound rfl ?_; simp [go_sem, ↓iO, iO, tN, rdH]) | refine anI ?_ | refine ⟨dcK, ?_⟩ | ((first | refine iP ?_ | refine iN ?_); try simp [go_sem, ↓iO, iO, tN, rdH]))
    refine CallK.fn (cl) [(0, 507), (1000, 610)] [] [] (by kernel_rfl) ?_ ?_ ?_ (Or.inl rfl) ?_ <;> simp [go_sem, ↓iO, iO, tN]
    repeat (refine anI ?_)
    try (refine ⟨dcK, ?_⟩)
    repeat (first | (refine nf1_sound rfl ?_; simp [go_sem, ↓iO, iO, tN]) | refine anI ?_ | refine ⟨dcK, ?_⟩ | ((first | refine iP ?_ | refine iN ?_); try simp [go_sem, ↓iO, iO, tN]))
    rw [RoundQ_normal]; refine ⟨4, [(502, some 502), (507, some 507), (508, some 610)], ?_, ?_, ?_⟩
    · omega
    · omega
    simp [go_sem, ↓iO, iO, tN, rdH]
  · have cl := pline_fn [48] [48] [57, 48, 48, 48, 48, 48] 0 0 900000 num0_fn num0_fn num900000_fn [] (by simp) (by simp)
    refine CW.toRows 508 [.fw segF 35 3 []] (e := 38) (s := 7) (xs := [.agg [.lit (.string (str [115])), .int 0, .int 1, .int 10, .int 0, .int 0, .lit (.slice none 0 0)]]) (by rfl) (by rfl) (fun i x u h1 h2 => ?_) ?_
    · match i, h1, h2 with
      | 0, h1, h2 => cases h1; cases h2; unfold relTU; rfl
      | i + 1, h1, h2 => cases h1
    simp [go_sem, ↓iO, iO, tN, rdH]
    repeat (first | (refine nf1_sound rfl ?_; simp [go_sem, ↓iO, iO, tN, rdH]) | refine anI ?_ | refine ⟨dcK, ?_⟩ | ((first | refine iP ?_ | refine iN ?_); try simp [go_sem, ↓iO, iO, tN, rdH]))
    refine CallK.fn (cl) [(0, 507), (2, 508)] [] [] (by kernel_rfl) ?_ ?_ ?_ (Or.inl rfl) ?_ <;> simp [go_sem, ↓iO, iO, tN]
    repeat (refine anI ?_)
    try (refine ⟨dcK, ?_⟩)
    repeat (first | (refine nf1_sound rfl ?_; simp [go_sem, ↓iO, iO, tN]) | refine anI ?_ | refine ⟨dcK, ?_⟩ | ((first | refine iP ?_ | refine iN ?_); try simp [go_sem, ↓iO, iO, tN]))
    rw [RoundQ_normal]; refine ⟨5, [(502, some 502), (507, some 507), (508, some 508)], ?_, ?_, ?_⟩
    · omega
    · omega
    simp [go_sem, ↓iO, iO, tN, rdH]
  · have cl := pline2_fn [49, 48] [48] [57, 48, 48, 48, 48, 48] 10 0 900000 num10_fn num0_fn num900000_fn [.agg [.int 0, .int 0, .int 900000]] (by simp) (by simp [T.width, T.widths])
    repeat (first | (refine nf1_sound rfl ?_; simp [go_sem, ↓iO, iO, tN, rdH]) | refine anI ?_ | refine ⟨dcK, ?_⟩ | ((first | refine iP ?_ | refine iN ?_); try simp [go_sem, ↓iO, iO, tN, rdH]))
    refine CallK.fn (cl) [(0, 507), (2, 508)] [] [] (by kernel_rfl) ?_ ?_ ?_ (Or.inl rfl) ?_ <;> simp [go_sem, ↓iO, iO, tN]
    repeat (refine anI ?_)
    try (refine ⟨dcK, ?_⟩)
    repeat (first | (refine nf1_sound rfl ?_; simp [go_sem, ↓iO, iO, tN]) | refine anI ?_ | refine ⟨dcK, ?_⟩ | ((first | refine iP ?_ | refine iN ?_); try simp [go_sem, ↓iO, iO, tN]))
    rw [RoundQ_normal]; refine ⟨6, [(502, some 502), (507, some 507)], ?_, ?_, ?_⟩
    · omega
    · omega
    simp [go_sem, ↓iO, iO, tN, rdH]
  · have cl := ln7_fn
    repeat (first | (refine nf1_sound rfl ?_; simp [go_sem, ↓iO, iO, tN, rdH]) | refine anI ?_ | refine ⟨dcK, ?_⟩ | ((first | refine iP ?_ | refine iN ?_); try simp [go_sem, ↓iO, iO, tN, rdH]))
    refine CallK.fn (cl) [(0, 507), (1000, 610)] [] [] (by kernel_rfl) ?_ ?_ ?_ (Or.inl rfl) ?_ <;> simp [go_sem, ↓iO, iO, tN]
    repeat (refine anI ?_)
    try (refine ⟨dcK, ?_⟩)
    repeat (first | (refine nf1_sound rfl ?_; simp [go_sem, ↓iO, iO, tN]) | refine anI ?_ | refine ⟨dcK, ?_⟩ | ((first | refine iP ?_ | refine iN ?_); try simp [go_sem, ↓iO, iO, tN]))
    rw [RoundQ_normal]; refine ⟨7, [(502, some 502), (507, some 507), (508, some 610)], ?_, ?_, ?_⟩
    · omega
    · omega
    simp [go_sem, ↓iO, iO, tN, rdH]
  · have cl := ln8_fn
    repeat (first | (refine nf1_sound rfl ?_; simp [go_sem, ↓iO, iO, tN, rdH]) | refine anI ?_ | refine ⟨dcK, ?_⟩ | ((first | refine iP ?_ | refine iN ?_); try simp [go_sem, ↓iO, iO, tN, rdH]))
    refine CallK.fn (cl) [(0, 507), (1, 508), (1000, 610)] [] [] (by kernel_rfl) ?_ ?_ ?_ (Or.inl rfl) ?_ <;> simp [go_sem, ↓iO, iO, tN]
    repeat (refine anI ?_)
    try (refine ⟨dcK, ?_⟩)
    repeat (first | (refine nf1_sound rfl ?_; simp [go_sem, ↓iO, iO, tN]) | refine anI ?_ | refine ⟨dcK, ?_⟩ | ((first | refine iP ?_ | refine iN ?_); try simp [go_sem, ↓iO, iO, tN]))
    rw [RoundQ_normal]; refine ⟨8, [(502, some 502), (507, some 507)], ?_, ?_, ?_⟩
    · omega
    · omega
    simp [go_sem, ↓iO, iO, tN, rdH]
  · repeat (first | (refine nf1_sound rfl ?_; simp [go_sem, ↓iO, iO, tN, rdH]) | refine anI ?_ | refine ⟨dcK, ?_⟩ | ((first | refine iP ?_ | refine iN ?_); try simp [go_sem, ↓iO, iO, tN, rdH]))
    refine CallK.fn (cc) [] [] [] (by kernel_rfl) ?_ ?_ ?_ (Or.inl rfl) ?_ <;> simp [go_sem, ↓iO, iO, tN]
    repeat (refine anI ?_)
    try (refine ⟨dcK, ?_⟩)
    repeat (first | (refine nf1_sound rfl ?_; simp [go_sem, ↓iO, iO, tN]) | refine anI ?_ | refine ⟨dcK, ?_⟩ | ((first | refine iP ?_ | refine iN ?_); try simp [go_sem, ↓iO, iO, tN]))
    first | rw [RetQ_ret] | rw [RetQ_normal]
    refine ⟨[], ?_⟩
    simp [go_sem, ↓iO, iO, tN]
set_option maxRecDepth 100000
abbrev dR : LineD := { nodes := .sl 1 [.lit (.string (str [97])), .lit (.string (str [98]))], segs := [(⟨[115], 0, 1, 10, 0, 0⟩, [(0, 0, 900000), (10, 0, 900000)])], ports := [([105, 110], 0, 300000), ([111, 117, 116], 1, 0)], stat := .lit (.slice none 0 0), vap := .int 0, stl := .int 0, rates := [4], prates := [4, -4], pumps := .lit (.slice none 0 0), feeds := [2, 0] }
abbrev plR4 : T := .agg [.sl 1 [.int 4], .sl 1 [.int 4, .int (-4)], .lit (.slice none 0 0)]
theorem dR_ok : LineOk dR := ⟨rfl, rfl, rfl, rfl, rfl, rfl, rfl, rfl, by simp, by simp, by simp, by simp, by simp, by simp, by simp⟩
theorem ordR_fn : FnOk Tryz.prog 48 [.t (.agg dR.net), .t (.agg dR.plan)] [] (.tup [.t (.sl 1 (([0, 1] : List Int).map encI)), .t (.int 0)]) [] := evF_spec fact_mixed (knS_ok noKn_ok) 20 _ _ _ _ _ (by kernel_rfl : evF Tryz.prog (knS noKn) [56, 65] 200 20 48 [.t netR, .t plR4] [] = some (.tup [.t (.sl 1 [.int 0, .int 1]), .t (.int 0)], []))
def fR : Nat → Fi
  | 0 => [some [(1, 10)]]
  | 1 => [some [(2, 4), (1, 6)]]
  | 2 => [some [(2, 8), (1, 2)]]
  | _ => [some [(2, 10)]]
def gR : Nat → Fi
  | 0 => []
  | 1 => [some [(1, 4)]]
  | 2 => [some [(1, 4)]]
  | _ => [some [(1, 2), (2, 2)]]
def oR : Nat → Fi
  | 0 => []
  | 1 => [none, some [(1, 4)]]
  | 2 => [none, some [(1, 4)]]
  | _ => [none, some [(1, 2), (2, 2)]]
theorem tickR {f n o : List (Int × Int)} (hf : Pc.Vd f) (hl : f.length ≤ 10) (ho : Pc.Vd o) (hov : Pc.vol o = 4) (h : Pc.shift f [(2, 4)] false = (n, o)) : TickC dR [0, 1] [some f] [some n] [some o.reverse] [none, some o.reverse] := by
  intro gi oo
  have hp := push_at hf (vd_one (b := 2) (r := 4) (by omega) (by omega) (by omega)) (by simp; omega) h
  have hrv := vd_rev ho
  have h0 : NodeC dR _ 0 [some f] [none] [none, none] _ _ _ := node_seg dR dR_ok (.sl 1 (([0, 1] : List Int).map encI)) rfl [some f] [none] [none, none] 0 rfl rfl rfl [(2, 4)] rfl (by simp [dR, segYs, tgt, endA, endB]) (vd_one (by omega) (by omega) (by omega)) (by simp) 0 4 rfl rfl (by omega) (by omega) rfl f n o rfl hf hp
  have h1 : NodeC dR _ 1 [some n] [some o.reverse] [none, none] _ _ _ := node_prt dR dR_ok (.sl 1 (([0, 1] : List Int).map encI)) rfl [some n] [some o.reverse] [none, none] 1 rfl rfl rfl o.reverse (by unfold comesV; simp [dR, prtYs, segYs, prtPc, gvAt, tgt, endA, endB, absI]) (by
    intro z hz p hp
    have hz2 : z = (0, 4) := by simpa [dR, segYs, tgt, endA, endB, absI, show max (4 : Int) (-4) = 4 by decide] using hz
    subst hz2
    have : p ∈ o.reverse := hp
    have := hrv.each p this
    omega) hrv (fun e => by have h5 := vol_rev o; rw [e, hov] at h5; simp [Pc.vol] at h5) 1 4 rfl rfl (by omega) (by omega) (by rw [vol_rev, hov])
  exact tick_fn dR dR_ok [0, 1] (by simp) gi oo
    (fun k => match k with | 0 => [some f] | _ + 1 => [some n]) (fun k => match k with | 0 => [none] | _ + 1 => [some o.reverse]) (fun k => match k with | 0 => [none, none] | 1 => [none, none] | _ + 2 => [none, some o.reverse]) rfl rfl
    (fun k node hk => by
      match k, hk with
      | 0, hk => simp at hk; subst hk; exact h0
      | 1, hk => simp at hk; subst hk; exact h1
      | k + 2, hk => simp at hk)
theorem vdR (l : List (Int × Int)) (h : (l.all fun p => decide (0 ≤ p.1 ∧ p.1 < 1000 ∧ 0 < p.2)) = true) (hl : l.length ≤ 2) (hv : Pc.vol l ≤ 1000) (hn : ∀ p q, l = [p, q] → p.1 ≠ q.1) : Pc.Vd l := by
  match l, hl with
  | [], _ => exact Pc.vd_of_canon trivial (by simp) (by simp) (by simp [Pc.vol])
  | [p], _ =>
    simp at h
    exact Pc.vd_of_canon ⟨by omega, by simp, trivial⟩ (fun x hx => by simp at hx; subst hx; omega) (by simp) (by omega)
  | [p, q], _ =>
    simp at h
    exact Pc.vd_of_canon ⟨by omega, by simpa using hn p q rfl, by omega, by simp, trivial⟩ (fun x hx => by simp at hx; rcases hx with rfl | rfl <;> omega) (by simp) (by omega)
theorem oR_ok (k i : Nat) (hk : k < 3) : Pc.Sane (allV oR (k + 1) i) ∧ (Pc.join (allV oR (k + 1) i)).length ≤ 200 := by
  have h : (allV oR (k + 1) i).length ≤ 4 ∧ ∀ p ∈ allV oR (k + 1) i, p = (1, 4) ∨ p = (1, 2) ∨ p = (2, 2) := by
    match k, i, hk with
    | 0, 0, _ => simp [allV, oR]
    | 0, 1, _ => simp [allV, oR]
    | 0, i + 2, _ => simp [allV, oR]
    | 1, 0, _ => simp [allV, oR]
    | 1, 1, _ => simp [allV, oR]
    | 1, i + 2, _ => simp [allV, oR]
    | 2, 0, _ => simp [allV, oR]
    | 2, 1, _ => simp [allV, oR]
    | 2, i + 2, _ => simp [allV, oR]
    | k + 3, _, hk => omega
  refine ⟨⟨by omega, fun p hp => ?_⟩, ?_⟩
  · rcases h.2 p hp with rfl | rfl | rfl <;> simp
  · have := Pc.join_length (allV oR (k + 1) i); omega
theorem arunR_fn : FnOk Tryz.prog 16 [.t netR, .t (.sl 1 [.sl 2 [.agg [.int 1, .int 10]]]), .t plR4, .t (.sl 1 [.int 2, .int 0]), .t (.int 3)] [] (.tup [.own 1000, .t (.sl 1 [.sl 2 [], .sl 2 [.agg [.int 1, .int 10], .agg [.int 2, .int 2]]]), .t (.int 0)]) [(1000, .list 41 1 [.sl 2 [.agg [.int 2, .int 10]]])] :=
  arun_fn dR dR_ok chkR_fn [[(1, 10)]] ⟨rfl, fun g hg => by simp at hg; subst hg; exact vdR _ (by decide) (by simp) (by decide) (by simp), fun i g s hi hs => by
      match i, hi, hs with
      | 0, hi, hs => simp at hi; simp [dR] at hs; subst hi; subst hs; rfl
      | i + 1, hi, hs => simp at hi⟩ [0, 1] ordR_fn (fun x hx => by simp [dR] at hx; omega) 3 (by omega) fR gR oR rfl rfl rfl (fun k => by match k with | 0 => rfl | 1 => rfl | k + 2 => rfl)
    (fun k hk => by
      match k, hk with
      | 0, _ => exact tickR (o := [(1, 4)]) (vdR _ (by decide) (by simp) (by decide) (by simp)) (by simp) (vdR _ (by decide) (by simp) (by decide) (by simp)) rfl (by decide)
      | 1, _ => exact tickR (o := [(1, 4)]) (vdR _ (by decide) (by simp) (by decide) (by simp)) (by simp) (vdR _ (by decide) (by simp) (by decide) (by simp)) rfl (by decide)
      | 2, _ => exact tickR (o := [(2, 2), (1, 2)]) (vdR _ (by decide) (by simp) (by decide) (by simp)) (by simp) (vdR _ (by decide) (by simp) (by decide) (by simp)) rfl (by decide)
      | k + 3, hk => omega)
    (fun k i hk => (oR_ok k i hk).1) (fun k i p hk hp => by
      match k, i, hp with
      | 0, 0, hp => simp [oR] at hp
      | 0, 1, hp => simp [oR] at hp; subst hp; simp
      | 0, i + 2, hp => simp [oR] at hp
      | 1, 0, hp => simp [oR] at hp
      | 1, 1, hp => simp [oR] at hp; subst hp; simp
      | 1, i + 2, hp => simp [oR] at hp
      | k + 2, 0, hp => simp [oR] at hp
      | k + 2, 1, hp => simp [oR] at hp; rcases hp with rfl | rfl <;> simp
      | k + 2, i + 2, hp => simp [oR] at hp) (fun k i hk => (oR_ok k i hk).2)
theorem sameR_fn : FnOk Tryz.prog 17 [.t (.sl 2 [.agg [.int 1, .int 10], .agg [.int 2, .int 2]]), .t (.sl 2 [.agg [.int 1, .int 10], .agg [.int 2, .int 2]])] [] (.t (.bool true)) [] := evF_spec fact_mixed noKn_ok 20 _ _ _ _ _ (by kernel_rfl : evF Tryz.prog noKn [] 200 20 17 [.t (.sl 2 [.agg [.int 1, .int 10], .agg [.int 2, .int 2]]), .t (.sl 2 [.agg [.int 1, .int 10], .agg [.int 2, .int 2]])] [] = some (.t (.bool true), []))
theorem batR_fn : FnOk Tryz.prog 18 [.t (.sl 2 [.agg [.int 2, .int 10]]), .t (.int 2)] [] (.t (.int 10)) [] := evF_spec fact_mixed noKn_ok 20 _ _ _ _ _ (by kernel_rfl : evF Tryz.prog noKn [] 200 20 18 [.t (.sl 2 [.agg [.int 2, .int 10]]), .t (.int 2)] [] = some (.t (.int 10), []))
theorem running_fn : FnOk Tryz.prog 13 [] [] (.t (.bool true)) [] := by
  have c1 := parse_fn
  have c2 := arunR_fn
  have c3 := batR_fn
  have c4 := sameR_fn
  refine FnOk.intro fact_mixed Tryz.func13 rfl Tryz.ntmps13 (by rfl) (by simp) ?_
  repeat (first | (refine nf1_sound rfl ?_; simp [go_sem, ↓iO, iO, tN]) | refine anI ?_ | refine ⟨dcK, ?_⟩ | ((first | refine iP ?_ | refine iN ?_); try simp [go_sem, ↓iO, iO, tN]))
  refine CallK.fn (c1) [] [] [] (by kernel_rfl) ?_ ?_ ?_ (Or.inl rfl) ?_ <;> simp [go_sem, ↓iO, iO, tN]
  repeat (refine anI ?_)
  try (refine ⟨dcK, ?_⟩)
  · kernel_rfl
  repeat (first | (refine nf1_sound rfl ?_; simp [go_sem, ↓iO, iO, tN]) | refine anI ?_ | refine ⟨dcK, ?_⟩ | ((first | refine iP ?_ | refine iN ?_); try simp [go_sem, ↓iO, iO, tN]))
  refine CallK.fn (c2) [(1000, 600)] [] [116, 117, 118, 120] (by kernel_rfl) ?_ ?_ ?_ (Or.inl rfl) ?_ <;> simp [go_sem, ↓iO, iO, tN]
  repeat (refine anI ?_)
  try (refine ⟨dcK, ?_⟩)
  repeat (first | (refine nf1_sound rfl ?_; simp [go_sem, ↓iO, iO, tN]) | refine anI ?_ | refine ⟨dcK, ?_⟩ | ((first | refine iP ?_ | refine iN ?_); try simp [go_sem, ↓iO, iO, tN]))
  refine CallK.fn (c3) [] [] [] (by kernel_rfl) ?_ ?_ ?_ (Or.inl rfl) ?_ <;> simp [go_sem, ↓iO, iO, tN]
  repeat (refine anI ?_)
  try (refine ⟨dcK, ?_⟩)
  repeat (first | (refine nf1_sound rfl ?_; simp [go_sem, ↓iO, iO, tN]) | refine anI ?_ | refine ⟨dcK, ?_⟩ | ((first | refine iP ?_ | refine iN ?_); try simp [go_sem, ↓iO, iO, tN]))
  refine CallK.fn (c4) [] [154] [] (by kernel_rfl) ?_ ?_ ?_ (Or.inr ⟨?_, ?_⟩) ?_ <;> simp [go_sem, ↓iO, iO, tN]
  repeat (refine anI ?_)
  try (refine ⟨dcK, ?_⟩)
  repeat (first | (refine nf1_sound rfl ?_; simp [go_sem, ↓iO, iO, tN]) | refine anI ?_ | refine ⟨dcK, ?_⟩ | ((first | refine iP ?_ | refine iN ?_); try simp [go_sem, ↓iO, iO, tN]))
  first | rw [RetQ_ret] | rw [RetQ_normal]
  refine ⟨[], ?_⟩
  simp [go_sem, ↓iO, iO, tN]
end Go.Proofs.YtdjmklobfjigoaaGreatDoor
namespace Go.Proofs.YtdjmklobfjigoaaGreatDoor
open Go.RowKit Sy Dl
open Go.IntWalk renaming iteOmega → iO, toNatUp → tN
theorem sgc_ln {l : List Int} {m : Nat} {K : Nat → Nat} {S : Nat → Sgm} (h1 : 1 ≤ m ∧ m ≤ 4) (h : ∀ j, SrcOk l (K j) ∧ SgC l j (K j) (S j) (K (j + 1))) : LnOk m S := by
  have g : ∀ i, i < m → _ := fun i hi => (h i).2 (by omega)
  exact ⟨h1.1, h1.2, fun i hi => (g i hi).1, fun i hi => (g i hi).2.1, fun i hi => (g i hi).2.2.1, fun i hi => (g i hi).2.2.2.1⟩
theorem minR_le {S : Nat → Sgm} {r : Int} : ∀ {m i : Nat}, i < m → minR S r m ≤ (S i).1.cp
  | 0, i, h => by omega
  | m + 1, i, h => by
    simp only [minR]
    by_cases e : i = m
    · subst e; omega
    · have := minR_le (S := S) (r := r) (m := m) (i := i) (by omega); omega
theorem minR_bd {m : Nat} {S : Nat → Sgm} {r : Int} (h1 : 1 ≤ r ∧ r ≤ 1000) (hc : ∀ i, i < m → 1 ≤ (S i).1.cp) : 1 ≤ minR S r m ∧ minR S r m ≤ r := by
  induction m with
  | zero => simp only [minR]; omega
  | succ m ih =>
    have := ih fun i hi => hc i (by omega)
    have := hc m (by omega)
    simp only [minR]; omega
theorem ln_names (m : Nat) (S : Nat → Sgm) : (lnNet m S).nn.map encS = (List.range (m + 1)).map ndT := by
  simp only [lnNet, List.map_map]
  rfl
theorem ln_segs (m : Nat) (S : Nat → Sgm) : (lnNet m S).segs.map encSg = (List.range m).map fun i => encSg (S i) := by
  simp only [lnNet, List.map_map]
  rfl
theorem ln_rates (m : Nat) (S : Nat → Sgm) (r : Int) : (lnRates m S r).map encI = (List.range m).map fun i => .int (rtI S r i) := by
  simp only [lnRates, List.map_map]
  rfl
theorem ln_ports (m : Nat) (S : Nat → Sgm) : (lnNet m S).ports.map encPr = [.agg [.lit (.string ⟨#[113, 97]⟩), .int 0, .int 0], .agg [.lit (.string ⟨#[113, 98]⟩), .int m, .int 0]] := rfl
theorem lf_of {m : Nat} {S : Nat → Sgm} {fl : List (List (Int × Int))} {b : Int} (hl : fl.length = (lnNet m S).segs.length) (h : ∀ (i : Nat) f s, fl[i]? = some f → (lnNet m S).segs[i]? = some s → Pc.Vd f ∧ Pc.vol f = s.1.cp ∧ f.length ≤ 12 ∧ ∀ p ∈ f, 0 ≤ p.1 ∧ p.1 < b) :
    LfOk m S fl ∧ ∀ (i : Nat) f, fl[i]? = some f → ∀ p ∈ f, 0 ≤ p.1 ∧ p.1 < b := by
  have e : (lnNet m S).segs.length = m := by simp [lnNet]
  have g : ∀ (i : Nat) f, fl[i]? = some f → (lnNet m S).segs[i]? = some (S i) := fun i f hf => by
    have hi : i < m := by have := (List.getElem?_eq_some_iff.1 hf).1; omega
    simp [lnNet, hi]
  refine ⟨⟨by omega, fun i f hf => ?_⟩, fun i f hf => (h i f _ hf (g i f hf)).2.2.2⟩
  have := h i f _ hf (g i f hf)
  exact ⟨this.1, this.2.1, this.2.2.1⟩
theorem same_fn (f : List (Int × Int)) (h : f.length ≤ 1000000) : FnOk Tryz.prog 17 [.t (encPs f), .t (encPs f)] [] (.t (.bool true)) [] := by
  refine FnOk.intro fact_mixed Tryz.func17 rfl Tryz.ntmps17 (by rfl) (by simp) ?_
  repeat (first | (refine nf1_sound rfl ?_; simp [go_sem, ↓iO, iO, tN]) | refine anI ?_ | refine ⟨dcK, ?_⟩ | ((first | refine iP ?_ | refine iN ?_); try simp [go_sem, ↓iO, iO, tN]))
  refine nf1_sound' _ _ _ ?_; simp only [nf1]
  refine CW.loop (ι := Nat) (fun k => ⟨[(0, .t (encPs f)), (1, .t (encPs f)), (12, .t (.int f.length)), (13, .t (.int k))], []⟩) (fun k => k ≤ f.length) (fun k => f.length - k) 0 [] (by omega) ?_ ?_
  · simp [go_sem, ↓iO, iO, tN]
  intro k hk
  by_cases hb : k < f.length
  · obtain ⟨p, hp⟩ := has_get hb
    repeat (first | (refine nf1_sound rfl ?_; simp [go_sem, ↓iO, iO, tN, hp]) | refine anI ?_ | refine ⟨dcK, ?_⟩ | ((first | refine iP ?_ | refine iN ?_); try simp [go_sem, ↓iO, iO, tN, hp]))
    rw [RoundQ_normal]; refine ⟨k + 1, [], ?_, ?_, ?_⟩
    · omega
    · omega
    simp [go_sem, ↓iO, iO, tN]
  · obtain rfl : k = f.length := by omega
    repeat (first | (refine nf1_sound rfl ?_; simp [go_sem, ↓iO, iO, tN]) | refine anI ?_ | refine ⟨dcK, ?_⟩ | ((first | refine iP ?_ | refine iN ?_); try simp [go_sem, ↓iO, iO, tN]))
    first | rw [RetQ_ret] | rw [RetQ_normal]
    refine ⟨[], ?_⟩
    simp [go_sem, ↓iO, iO, tN]
theorem returns_fn (l : List Int) (hl : l.length ≤ 9223372036854775807) (wf : ∀ z ∈ l, -9223372036854775808 ≤ z ∧ z ≤ 9223372036854775807) (u : Int) (hu : 0 ≤ u ∧ u ≤ 255) : FnOk Tryz.prog 4 [.t (encIs l), .t (.lit (.int .u8 u))] [] (.t (.bool true)) [] := by
  have c1 := new_fn l hl
  have h0 := new_ok wf
  obtain ⟨s, hs⟩ : ∃ s, newL2 l = s := ⟨_, rfl⟩
  rw [hs] at c1 h0
  have c2 := range_fn s 0 1 9 h0 (by omega) (by omega) (by omega)
  have b2 := rangeV_range (l := s) (k := 0) (lo := 1) (hi := 9) (by omega)
  obtain ⟨R0, hR0⟩ : ∃ R, rangeV s 0 1 9 = R := ⟨_, rfl⟩
  rw [hR0] at c2 b2
  obtain ⟨m, K, S, hm, hKS, c3⟩ := line_ex s _ h0.next R0 (by omega)
  have hS := sgc_ln hm hKS
  have bR := minR_bd (m := m) (S := S) (r := R0) (by omega) fun i hi => (hS.pipe i hi).cap.1
  have bC : ∀ i, i < m → minR S R0 m ≤ (S i).1.cp := fun i hi => minR_le hi
  obtain ⟨r, hr⟩ : ∃ r : Nat, minR S R0 m = (r : Int) := ⟨(minR S R0 m).toNat, by omega⟩
  rw [hr] at c3 bR bC
  obtain ⟨k', fl, hk', hfl, hfe, c4⟩ := fills_ex s (K m) (hKS m).1 (lnNet m S) (lnNet_ok hS) 3 (by omega) (by omega)
  obtain ⟨hF, hb⟩ := lf_of hfl hfe
  obtain ⟨t, ht⟩ : ∃ t : Nat, u % 12 = (t : Int) := ⟨(u % 12).toNat, by omega⟩
  have t9 : t ≤ 11 := by omega
  have c5 := line_run hS hF (r := r) (by omega) bC (by omega) (t := t) (by omega) (b := 5) (by omega)
  have hX := lnX_ok hS hF (n := t * r) (by have := Nat.mul_le_mul t9 (by omega : r ≤ 1000); omega) (b := 5) (by omega)
  have hn0 : t * r ≤ 11 * 1000 := Nat.mul_le_mul t9 (by omega)
  have hXl := lnX_len hF (t * r) 5
  have hself := lnFs_self hF (t * r) 5
  obtain ⟨n, hn⟩ : ∃ n, t * r = n := ⟨_, rfl⟩
  rw [hn] at c5 hX hn0 hXl hself
  obtain ⟨X, hXX⟩ : ∃ X, lnX m S fl n 5 = X := ⟨_, rfl⟩
  rw [hXX] at c5 hX hXl hself
  obtain ⟨PL, hPL⟩ : ∃ PL, rle (win X (preS (lnC S) m) n) = PL := ⟨_, rfl⟩
  have hpos : ∀ p ∈ PL, 0 < p.2 := fun p hp => (rle_canon _).pos p (by rw [hPL]; exact hp)
  have hlit : Pc.litres PL = win X (preS (lnC S) m) n := by rw [← hPL, rle_lit]
  have hlitl : (Pc.litres PL).length = n := by rw [hlit, win_len (by omega)]
  have hPn : PL.length ≤ 90 := by rw [← hPL]; exact win_rn hX _ _
  have hPe : ∀ p ∈ PL, (0 ≤ p.1 ∧ p.1 < 1000) ∧ 1 ≤ p.2 ∧ p.2 ≤ 1000000 := fun p hp => (win_vd hX (preS (lnC S) m) n).each p (by rw [hPL]; exact hp)
  obtain ⟨OL, hOL⟩ : ∃ OL, PL.reverse = OL := ⟨_, rfl⟩
  have oll : OL.length = PL.length := by rw [← hOL, List.length_reverse]
  rw [stW, hPL, hOL] at c5
  have hp0 : posR PL PL.length = 0 := by unfold posR; simp [Pc.vol]
  have hpn : posR PL 0 = n := by
    have h1 := Pc.litres_length PL fun p hp => Int.le_of_lt (hpos p hp)
    unfold posR
    rw [Nat.sub_zero, List.take_length]
    omega
  have hple := posR_le hpos
  rw [hlitl] at hple
  have flen : fl.length = m := hF.len
  obtain ⟨FS, hFS⟩ : ∃ FS : Nat → List (List (Int × Int)), ∀ p, lnFs m S X p = FS p := ⟨_, fun _ => rfl⟩
  rw [hFS] at c5 hself
  have e3 := ln_ports m S
  simp only [LineD.net, LineD.plan, lnD, ln_names, ln_segs, e3, ln_rates, blkG, map_some] at c5
  simp only [NetD.l, ln_names, ln_segs, e3] at c4
  have e5 : (lnNet m S).stns.map encSn = [] := rfl
  have e6 : (lnNet m S).vap = 0 ∧ (lnNet m S).stl = 0 := ⟨rfl, rfl⟩
  rw [e5, e6.1, e6.2] at c4
  obtain ⟨V, hV⟩ : ∃ V : Nat → Nat → List T, ∀ (ρ j : Nat), ((List.range j).map fun i => T.int (rtI S (-(ρ : Int)) i)) = V ρ j := ⟨_, fun _ _ => rfl⟩
  have V0 : ∀ ρ, V ρ 0 = [] := fun ρ => by rw [← hV]; rfl
  have Vs : ∀ ρ j, V ρ (j + 1) = V ρ j ++ [.int (rtI S (-(ρ : Int)) j)] := fun ρ j => by rw [← hV, map_range_succ, hV]
  have Vl : ∀ ρ j, (V ρ j).length = j := fun ρ j => by rw [← hV]; simp
  have ct : ∀ (p ρ : Nat) (b : Int), 0 < ρ → ρ ≤ r → p + ρ ≤ n → (0 ≤ b ∧ b < 1000) → win X (p + preS (lnC S) m) ρ = List.replicate ρ b → _ := fun p ρ b h1 h2 h3 h4 h5 =>
    line_back hS hX (p := p) h1 (fun i hi => by have := bC i hi; omega) (by omega) (by omega) h4 h5
  simp only [hFS, LineD.net, LineD.plan, lnD, ln_names, ln_segs, e3, ln_rates, blkG, map_some, hV] at ct
  obtain ⟨NN, hNN⟩ : ∃ X, (List.range (m + 1)).map ndT = X := ⟨_, rfl⟩
  obtain ⟨GG, hGG⟩ : ∃ X, ((List.range m).map fun i => encSg (S i)) = X := ⟨_, rfl⟩
  obtain ⟨RR, hRR⟩ : ∃ X, ((List.range m).map fun i => T.int (rtI S (r : Int) i)) = X := ⟨_, rfl⟩
  have rg : ∀ i, i < m → RR[i]? = some (.int (rtI S (r : Int) i)) := fun i hi => by rw [← hRR]; simp [hi]
  have rl : RR.length = m := by rw [← hRR]; simp
  rw [hNN, hGG, hRR] at c3 c5
  rw [hNN, hGG] at c4
  simp only [hNN, hGG] at ct
  refine FnOk.intro fact_mixed Tryz.func4 rfl Tryz.ntmps4 (by rfl) (by simp) ?_
  repeat (first | (refine nf1_sound rfl ?_; simp [go_sem, ↓iO, iO, tN]) | refine anI ?_ | refine ⟨dcK, ?_⟩ | ((first | refine iP ?_ | refine iN ?_); try simp [go_sem, ↓iO, iO, tN]))
  refine CallK.fn (c1) [(1000, 124)] [] [] (by kernel_rfl) ?_ ?_ ?_ (Or.inl rfl) ?_ <;> simp [go_sem, ↓iO, iO, tN]
  repeat (refine anI ?_)
  try (refine ⟨dcK, ?_⟩)
  repeat (first | (refine nf1_sound rfl ?_; simp [go_sem, ↓iO, iO, tN]) | refine anI ?_ | refine ⟨dcK, ?_⟩ | ((first | refine iP ?_ | refine iN ?_); try simp [go_sem, ↓iO, iO, tN]))
  refine CallK.fn (c2) [(0, 124)] [] [] (by kernel_rfl) ?_ ?_ ?_ (Or.inl rfl) ?_ <;> simp [go_sem, ↓iO, iO, tN]
  repeat (refine anI ?_)
  try (refine ⟨dcK, ?_⟩)
  refine CallK.fn (c3) [(0, 124)] [] [] (by kernel_rfl) ?_ ?_ ?_ (Or.inl rfl) ?_ <;> simp [go_sem, ↓iO, iO, tN]
  repeat (refine anI ?_)
  try (refine ⟨dcK, ?_⟩)
  repeat (first | (refine nf1_sound rfl ?_; simp [go_sem, ↓iO, iO, tN]) | refine anI ?_ | refine ⟨dcK, ?_⟩ | ((first | refine iP ?_ | refine iN ?_); try simp [go_sem, ↓iO, iO, tN]))
  refine CallK.fn (c4) [(0, 124)] [] [] (by kernel_rfl) ?_ ?_ ?_ (Or.inl rfl) ?_ <;> simp [go_sem, ↓iO, iO, tN]
  repeat (refine anI ?_)
  try (refine ⟨dcK, ?_⟩)
  repeat (first | (refine nf1_sound rfl ?_; simp [go_sem, ↓iO, iO, tN, ht]) | refine anI ?_ | refine ⟨dcK, ?_⟩ | ((first | refine iP ?_ | refine iN ?_); try simp [go_sem, ↓iO, iO, tN, ht]))
  refine CallK.fn (c5) [(1000, 600)] [] [142] (by kernel_rfl) ?_ ?_ ?_ (Or.inl rfl) ?_ <;> simp [go_sem, ↓iO, iO, tN]
  repeat (refine anI ?_)
  try (refine ⟨dcK, ?_⟩)
  repeat (first | (refine nf1_sound rfl ?_; simp [go_sem, ↓iO, iO, tN, oll]) | refine anI ?_ | refine ⟨dcK, ?_⟩ | ((first | refine iP ?_ | refine iN ?_); try simp [go_sem, ↓iO, iO, tN, oll]))
  refine nf1_sound' _ _ _ ?_; simp only [nf1]
  refine CW.loop (ι := Nat) (fun j => ⟨[(6, .pt 506 [] 0), (7, .pt 507 [] 0), (8, .t (.sl 1 (fl.map encPs))), (10, .t (.sl 1 ((FS (posR PL j)).map encPs))), (11, .t (.sl 1 [encPs [], encPs OL])), (13, .t (.int ((j : Int) - 1)))], [(506, .box 33 (.t (.agg [.sl 1 NN, .sl 7 GG, .sl 3 [.agg [.lit (.string ⟨#[113, 97]⟩), .int 0, .int 0], .agg [.lit (.string ⟨#[113, 98]⟩), .int m, .int 0]], .lit (.slice none 0 0), .int 0, .int 0]))), (507, .box 45 (.t (.agg [.sl 1 RR, .sl 1 [.int r, .int (-(r : Int))], .lit (.slice none 0 0)])))]⟩)
    (fun j => j ≤ PL.length) (fun j => j) PL.length [(506, some 106), (507, some 107)] (by omega) ?_ ?_
  · simp [go_sem, ↓iO, iO, tN, hp0]
  intro j hj
  cases j with
  | zero =>
    rw [hpn, hself]
    repeat (first | (refine nf1_sound rfl ?_; simp [go_sem, ↓iO, iO, tN]) | refine anI ?_ | refine ⟨dcK, ?_⟩ | ((first | refine iP ?_ | refine iN ?_); try simp [go_sem, ↓iO, iO, tN]))
    refine nf1_sound' _ _ _ ?_; simp only [nf1]
    refine CW.loop (ι := Nat) (fun i => ⟨[(8, .t (.sl 1 (fl.map encPs))), (10, .t (.sl 1 (fl.map encPs))), (140, .t (.int m)), (141, .t (.int i))], []⟩) (fun i => i ≤ m) (fun i => m - i) 0 [] (by omega) ?_ ?_
    · simp [go_sem, ↓iO, iO, tN, flen]
    intro i hi
    by_cases hb2 : i < m
    · obtain ⟨f, hf⟩ : ∃ f, fl[i]? = some f := has_get (by omega)
      have hfl := (hF.at_ i f hf).2.2
      have cs := same_fn f (by omega)
      repeat (first | (refine nf1_sound rfl ?_; simp [go_sem, ↓iO, iO, tN, hf]) | refine anI ?_ | refine ⟨dcK, ?_⟩ | ((first | refine iP ?_ | refine iN ?_); try simp [go_sem, ↓iO, iO, tN, hf]))
      refine CallK.fn (cs) [] [] [] (by kernel_rfl) ?_ ?_ ?_ (Or.inl rfl) ?_ <;> simp [go_sem, ↓iO, iO, tN, hf]
      repeat (refine anI ?_)
      try (refine ⟨dcK, ?_⟩)
      repeat (first | (refine nf1_sound rfl ?_; simp [go_sem, ↓iO, iO, tN, hf]) | refine anI ?_ | refine ⟨dcK, ?_⟩ | ((first | refine iP ?_ | refine iN ?_); try simp [go_sem, ↓iO, iO, tN, hf]))
      rw [RoundQ_normal]; refine ⟨i + 1, [], ?_, ?_, ?_⟩
      · omega
      · omega
      simp [go_sem, ↓iO, iO, tN]
    · obtain rfl : i = m := by omega
      have crun := running_fn
      repeat (first | (refine nf1_sound rfl ?_; simp [go_sem, ↓iO, iO, tN]) | refine anI ?_ | refine ⟨dcK, ?_⟩ | ((first | refine iP ?_ | refine iN ?_); try simp [go_sem, ↓iO, iO, tN]))
      refine CallK.fn (crun) [] [] [] (by kernel_rfl) ?_ ?_ ?_ (Or.inl rfl) ?_ <;> simp [go_sem, ↓iO, iO, tN]
      repeat (refine anI ?_)
      try (refine ⟨dcK, ?_⟩)
      repeat (first | (refine nf1_sound rfl ?_; simp [go_sem, ↓iO, iO, tN]) | refine anI ?_ | refine ⟨dcK, ?_⟩ | ((first | refine iP ?_ | refine iN ?_); try simp [go_sem, ↓iO, iO, tN]))
      first | rw [RetQ_ret] | rw [RetQ_normal]
      refine ⟨[], ?_⟩
      simp [go_sem, ↓iO, iO, tN]
  | succ j =>
    have ej : (((j + 1 : Nat) : Int) - 1) = (j : Int) := by omega
    obtain ⟨⟨b, v⟩, hp⟩ : ∃ p, OL[j]? = some p := has_get (by omega)
    obtain ⟨hps, hpg, hv0⟩ := posR_step hpos (by rw [hOL]; exact hp)
    have hpe := hPe (b, v) (List.mem_of_getElem? hpg)
    dsimp only at hpe
    have hpj := hple j
    rw [ej]
    repeat (first | (refine nf1_sound rfl ?_; simp [go_sem, ↓iO, iO, tN, hp]) | refine anI ?_ | refine ⟨dcK, ?_⟩ | ((first | refine iP ?_ | refine iN ?_); try simp [go_sem, ↓iO, iO, tN, hp]))
    refine nf1_sound' _ _ _ ?_; simp only [nf1]
    refine CW.loop (ι := Nat) (fun a => ⟨[(6, .pt 506 [] 0), (7, .pt 507 [] 0), (8, .t (.sl 1 (fl.map encPs))), (10, .t (.sl 1 ((FS (posR PL (j + 1) + a)).map encPs))), (11, .t (.sl 1 [encPs [], encPs OL])), (13, .t (.int j)), (14, .t (.int (v - a)))], [(506, .box 33 (.t (.agg [.sl 1 NN, .sl 7 GG, .sl 3 [.agg [.lit (.string ⟨#[113, 97]⟩), .int 0, .int 0], .agg [.lit (.string ⟨#[113, 98]⟩), .int m, .int 0]], .lit (.slice none 0 0), .int 0, .int 0]))), (507, .box 45 (.t (.agg [.sl 1 RR, .sl 1 [.int r, .int (-(r : Int))], .lit (.slice none 0 0)])))]⟩)
      (fun a => (a : Int) ≤ v) (fun a => v.toNat - a) 0 [(506, some 506), (507, some 507)] (by omega) ?_ ?_
    · simp [go_sem, ↓iO, iO, tN]
    intro a ha
    by_cases hav : (a : Int) < v
    · obtain ⟨ρ, hρ⟩ : ∃ ρ : Nat, min (v - (a : Int)) (r : Int) = (ρ : Int) := ⟨(min (v - (a : Int)) (r : Int)).toNat, by omega⟩
      have hlw := litres_win hpos hpg (a := a) (r := ρ) (by omega)
      rw [hlit, win_win X (by unfold posR at hps hpj; omega)] at hlw
      obtain ⟨O, c6⟩ := ct (posR PL (j + 1) + a) ρ b (by omega) (by omega) (by omega) hpe.1 hlw
      have V0' := V0 ρ
      have Vl' := Vl ρ
      have Vs' := Vs ρ
      obtain ⟨V2, hV2⟩ : ∃ V2, V ρ = V2 := ⟨_, rfl⟩
      rw [hV2] at c6 V0' Vl' Vs'
      simp only [List.map_cons, List.map_nil, encI, Int.neg_neg] at c6
      obtain ⟨V3, hV3⟩ : ∃ V3, V2 m = V3 := ⟨_, rfl⟩
      rw [hV3] at c6
      repeat (first | (refine nf1_sound rfl ?_; simp [go_sem, ↓iO, iO, tN, hp, hρ]) | refine anI ?_ | refine ⟨dcK, ?_⟩ | ((first | refine iP ?_ | refine iN ?_); try simp [go_sem, ↓iO, iO, tN, hp, hρ]))
      refine nf1_sound' _ _ _ ?_; simp only [nf1]
      refine CW.loop (ι := Nat) (fun q => ⟨[(6, .pt 506 [] 0), (7, .pt 507 [] 0), (8, .t (.sl 1 (fl.map encPs))), (10, .t (.sl 1 ((FS (posR PL (j + 1) + a)).map encPs))), (11, .t (.sl 1 [encPs [], encPs OL])), (13, .t (.int j)), (14, .t (.int (v - a))), (15, .t (.int ρ)), (16, .pt 516 [] 0), (90, .t (.sl 1 RR)), (91, .t (.int m)), (92, .t (.int q))], [(506, .box 33 (.t (.agg [.sl 1 NN, .sl 7 GG, .sl 3 [.agg [.lit (.string ⟨#[113, 97]⟩), .int 0, .int 0], .agg [.lit (.string ⟨#[113, 98]⟩), .int m, .int 0]], .lit (.slice none 0 0), .int 0, .int 0]))), (507, .box 45 (.t (.agg [.sl 1 RR, .sl 1 [.int r, .int (-(r : Int))], .lit (.slice none 0 0)]))), (516, .box 45 (.ag [.own 560, .t (.sl 1 [.int (-(ρ : Int)), .int ρ]), .t (.lit (.slice none 0 0))])), (560, .list 3 1 (V2 q))]⟩)
        (fun q => q ≤ m) (fun q => m - q) 0 [(506, some 506), (507, some 507), (516, some 116), (560, none)] (by omega) ?_ ?_
      · simp [go_sem, ↓iO, iO, tN, V0', rl]
      intro q hq
      have vl := Vl' q
      by_cases hb3 : q < m
      · have r1 := rg q hb3
        have vs := Vs' q
        obtain ⟨V1, hV1⟩ : ∃ X, V2 q = X := ⟨_, rfl⟩
        rw [hV1] at vl vs ⊢
        simp only [rtI] at r1 vs
        by_cases hlt : (S q).1.fr < (S q).1.to
        · rw [if_pos hlt] at r1 vs
          repeat (first | (refine nf1_sound rfl ?_; simp [go_sem, ↓iO, iO, tN, r1, vl]) | refine anI ?_ | refine ⟨dcK, ?_⟩ | ((first | refine iP ?_ | refine iN ?_); try simp [go_sem, ↓iO, iO, tN, r1, vl]))
          rw [RoundQ_normal]; refine ⟨q + 1, [(506, some 506), (507, some 507), (516, some 516), (560, some 203)], ?_, ?_, ?_⟩
          · omega
          · omega
          simp [go_sem, ↓iO, iO, tN, vs]
        · rw [if_neg hlt] at r1 vs
          repeat (first | (refine nf1_sound rfl ?_; simp [go_sem, ↓iO, iO, tN, r1, vl]) | refine anI ?_ | refine ⟨dcK, ?_⟩ | ((first | refine iP ?_ | refine iN ?_); try simp [go_sem, ↓iO, iO, tN, r1, vl]))
          rw [RoundQ_normal]; refine ⟨q + 1, [(506, some 506), (507, some 507), (516, some 516), (560, some 209)], ?_, ?_, ?_⟩
          · omega
          · omega
          simp [go_sem, ↓iO, iO, tN, vs]
      · obtain rfl : q = m := by omega
        rw [hV3]
        repeat (first | (refine nf1_sound rfl ?_; simp [go_sem, ↓iO, iO, tN, hp]) | refine anI ?_ | refine ⟨dcK, ?_⟩ | ((first | refine iP ?_ | refine iN ?_); try simp [go_sem, ↓iO, iO, tN, hp]))
        refine CallK.fn (c6) [(1000, 600), (1001, 601)] [] [560, 223] (by kernel_rfl) ?_ ?_ ?_ (Or.inl rfl) ?_ <;> simp [go_sem, ↓iO, iO, tN]
        repeat (refine anI ?_)
        try (refine ⟨dcK, ?_⟩)
        repeat (first | (refine nf1_sound rfl ?_; simp [go_sem, ↓iO, iO, tN, hp]) | refine anI ?_ | refine ⟨dcK, ?_⟩ | ((first | refine iP ?_ | refine iN ?_); try simp [go_sem, ↓iO, iO, tN, hp]))
        rw [RoundQ_normal]; refine ⟨a + ρ, [(506, some 506), (507, some 507)], ?_, ?_, ?_⟩
        · omega
        · omega
        simp [go_sem, ↓iO, iO, tN]
        exact ⟨by rw [Nat.add_assoc], by omega⟩
    · obtain rfl : (a : Int) = v := by omega
      repeat (first | (refine nf1_sound rfl ?_; simp [go_sem, ↓iO, iO, tN]) | refine anI ?_ | refine ⟨dcK, ?_⟩ | ((first | refine iP ?_ | refine iN ?_); try simp [go_sem, ↓iO, iO, tN]))
      rw [RoundQ_normal]; refine ⟨j, [(506, some 506), (507, some 507)], ?_, ?_, ?_⟩
      · omega
      · omega
      simp [go_sem, ↓iO, iO, tN]
      rw [show posR PL (j + 1) + a = posR PL j by omega]
end Go.Proofs.YtdjmklobfjigoaaGreatDoor
namespace Go.Proofs.YtdjmklobfjigoaaGreatDoor
open Go.RowKit Sy
theorem u8_in {x : T} (h : InSh (.int .u8) x) : ∃ n, x = .lit (.int .u8 n) ∧ 0 ≤ n ∧ n ≤ 255 := by
  obtain ⟨n, rfl, hw⟩ := insh_int h
  exact ⟨n, rfl, by simpa [Lit.wf, IntKind.min, IntKind.max, IntKind.signed, IntKind.bits] using hw⟩
theorem i64s_in {x : T} (h : InSh (.sl (.int .i64)) x) : ∃ l, x = encIs l ∧ l.length ≤ 9223372036854775807 ∧ ∀ z ∈ l, -9223372036854775808 ≤ z ∧ z ≤ 9223372036854775807 := by
  obtain ⟨xs, rfl, hl, hx⟩ := insh_sl h
  obtain ⟨l, rfl, hq⟩ := insh_list (en := encI) (Q := fun z => -9223372036854775808 ≤ z ∧ z ≤ 9223372036854775807) (fun y hy => by
    obtain ⟨n, rfl, hw⟩ := insh_int hy
    exact ⟨n, rfl, wf_i64 hw⟩) xs hx
  exact ⟨l, rfl, by rw [List.length_map] at hl; unfold maxLen at hl; omega, hq⟩
theorem returns_all (x0 x1 : T) (i0 : InSh (.sl (.int .i64)) x0) (i1 : InSh (.int .u8) x1) : FnOk Tryz.prog 4 [.t x0, .t x1] [] (.t (.bool true)) [] := by
  obtain ⟨l, rfl, hl, wf⟩ := i64s_in i0
  obtain ⟨u, rfl, h1, h2⟩ := u8_in i1
  exact returns_fn l hl wf u ⟨h1, h2⟩
end Go.Proofs.YtdjmklobfjigoaaGreatDoor
