/- The law IntakeParts: a stream gives the same in whatever parts it is fed. No condition. -/
import Derived.Test.YtopmmodcaoaaeaaInK
import Derived.Test.YtopmmodcaoaaeaaKArg
namespace Go.Proofs.Ytopmmodcaoaaeaa
open Go.RowKit Sy
open Go.IntWalk (iteOmega toNatUp)
set_option linter.unusedVariables false
set_option linter.unusedSimpArgs false
/-- What is still to come, when given was. -/
structure PartI (B : List Nat) (I : In) (all : List Tg) (s : In) (b : List Nat) (given : List Tg) : Prop where
  ok : InOk s
  t8 : ∀ c ∈ s.tail, c < 256
  b8 : ∀ c ∈ b, c < 256
  bl : b.length ≤ 30000
  st : (feedV s b).1 = I
  al : given ++ (feedV s b).2 = all
theorem PartI.step {B : List Nat} {I : In} {all : List Tg} {s : In} {b : List Nat} {given : List Tg} (h : PartI B I all s b given) (k : Nat) : PartI B I all (feedV s (b.take k)).1 (b.drop k) (given ++ (feedV s (b.take k)).2) := by
  have h2 := feed_two h.ok (b.take k) (b.drop k)
  rw [List.take_append_drop] at h2
  have h3 := h.st
  have h4 := h.al
  rw [h2] at h3 h4
  exact ⟨feedV_ok h.ok _, feedV_8 h.t8 (fun c hc => h.b8 c (List.mem_of_mem_take hc)), fun c hc => h.b8 c (List.mem_of_mem_drop hc), by have := h.bl; simp; omega, h3, by rw [List.append_assoc]; exact h4⟩
set_option maxRecDepth 100000 in
set_option maxHeartbeats 16000000 in
theorem parts_fn (l cuts : List Int) (cnt : Nat) (hl : l.length ≤ 9223372036854775807) (wl : ∀ z ∈ l, -9223372036854775808 ≤ z ∧ z ≤ 9223372036854775807) (hcl : cuts.length ≤ 9223372036854775807) (hc : cnt < 256) : FnOk Try.prog 7 [.t (encIs l), .t (encIs cuts), .t (.lit (.int .u8 cnt))] [] (.t (.bool true)) [] := by
  have hnl := new_fn l hl
  have hsr := new_ok wl
  obtain ⟨W, hW⟩ : ∃ W, newL2 l = W := ⟨_, rfl⟩
  rw [hW] at hnl hsr
  obtain ⟨win, hwin⟩ : ∃ n : Nat, n = cnt % 17 := ⟨_, rfl⟩
  have hw5 : win < 17 := by omega
  have hmod : (cnt : Int).tmod 17 = (win : Int) := by rw [Int.tmod_eq_emod_of_nonneg (by omega)]; omega
  have hmod2 : (cnt : Int) % 17 = (win : Int) := by omega
  have hwc : IntKind.i64.wrap (cnt : Int) = (cnt : Int) := by rw [IntKind.wrap_i64]; omega
  have cw := inew_fn (win : Int) ⟨win, [], []⟩ 0 (by unfold newV; rw [if_neg (by omega)])
  have ca := inawake_fn
  obtain ⟨K1, b1, n1, hk1, hb1, hn1, c1⟩ := stream_ex hsr
  obtain ⟨K2, b2, n2, hk2, hb2, hn2, c2⟩ := stream_ex hk1
  have l1 := hb1.len
  have l2 := hb2.len
  have hi0 : InOk ⟨win, [], []⟩ := inOk_of (by dsimp only; omega) (by dsimp only; omega) (by simp) (by simp) (.inl rfl) (by simp) trivial
  obtain ⟨B, hB⟩ : ∃ B, b1 ++ b2 = B := ⟨_, rfl⟩
  have hBl : B.length ≤ 30000 := by rw [← hB]; simp; omega
  have hB8 : ∀ c ∈ B, c < 256 := fun c hc => by
    rw [← hB] at hc
    rcases List.mem_append.1 hc with h | h
    · exact l1.2 c h
    · exact l2.2 c h
  have cf := feed_fn ⟨win, [], []⟩ B (hi0.sized (by simp)) (by omega) hB8 hi0
  have hI := feedV_ok hi0 B
  have hal := feedV_len hi0 B
  have hp0 : PartI B (feedV ⟨win, [], []⟩ B).1 (feedV ⟨win, [], []⟩ B).2 ⟨win, [], []⟩ B [] := ⟨hi0, by simp, hB8, hBl, rfl, rfl⟩
  obtain ⟨all, hall⟩ : ∃ o, (feedV ⟨win, [], []⟩ B).2 = o := ⟨_, rfl⟩
  obtain ⟨I, hIe⟩ : ∃ E : In, (feedV ⟨win, [], []⟩ B).1 = E := ⟨_, rfl⟩
  rw [hall] at cf hal hp0
  rw [hIe] at cf hI hp0
  have hall2 : all.length ≤ 600000 := by simp at hal; omega
  have csame := hI.same
  have htg := feedV_tgs hi0 (by simp) hB8
  rw [hall] at htg
  have cal := ralike_fn all (by omega) (fun t ht => by have := (htg t ht).ln; omega)
  have happ : b1.map encU ++ b2.map encU = B.map encU := by rw [← hB, List.map_append]
  have l22 := l2.1
  have l11 := l1.1
  clear htg hall hIe hB hb1 hb2 hB8 l1 l2 hal hI
  obtain ⟨i1, i2, i3⟩ := I
  refine FnOk.intro fact_mixed Try.func7 rfl Try.ntmps7 (by rfl) (by simp) ?_
  repeat (first | (refine nf1_sound rfl ?_; simp [go_sem, ↓iteOmega, iteOmega, toNatUp]; (repeat (refine And.intro (by omega) ?_)); try (refine ⟨DrawChk_of (by kernel_rfl), ?_⟩)) | (refine itePos (by omega) ?_; try simp [go_sem, ↓iteOmega, iteOmega, toNatUp]) | (refine iteNeg (by omega) ?_; try simp [go_sem, ↓iteOmega, iteOmega, toNatUp]) | (refine ⟨DrawChk_of (by kernel_rfl), ?_⟩))
  refine CallK.fn (hnl) [(1000, 605)] [] [] (by kernel_rfl) (by simp [go_sem, ↓iteOmega, iteOmega, toNatUp]) (by simp [go_sem, ↓iteOmega, iteOmega, toNatUp]) (by simp [go_sem, ↓iteOmega, iteOmega, toNatUp]) (Or.inl rfl) ?_
  simp [go_sem, ↓iteOmega, iteOmega, toNatUp]
  repeat (refine And.intro (by omega) ?_)
  try (refine ⟨DrawChk_of (by kernel_rfl), ?_⟩)
  repeat (first | (refine nf1_sound rfl ?_; simp [go_sem, ↓iteOmega, iteOmega, toNatUp]; (repeat (refine And.intro (by omega) ?_)); try (refine ⟨DrawChk_of (by kernel_rfl), ?_⟩)) | (refine itePos (by omega) ?_; try simp [go_sem, ↓iteOmega, iteOmega, toNatUp]) | (refine iteNeg (by omega) ?_; try simp [go_sem, ↓iteOmega, iteOmega, toNatUp]) | (refine ⟨DrawChk_of (by kernel_rfl), ?_⟩))
  refine CallK.fn (c1) [(0, 605), (1000, 626)] [] [] (by kernel_rfl) (by simp [go_sem, ↓iteOmega, iteOmega, toNatUp]) (by simp [go_sem, ↓iteOmega, iteOmega, toNatUp]) (by simp [go_sem, ↓iteOmega, iteOmega, toNatUp]) (Or.inl rfl) ?_
  simp [go_sem, ↓iteOmega, iteOmega, toNatUp]
  repeat (refine And.intro (by omega) ?_)
  try (refine ⟨DrawChk_of (by kernel_rfl), ?_⟩)
  refine CallK.fn (c2) [(0, 605), (1000, 628)] [] [] (by kernel_rfl) (by simp [go_sem, ↓iteOmega, iteOmega, toNatUp, happ]) (by simp [go_sem, ↓iteOmega, iteOmega, toNatUp, happ]) (by simp [go_sem, ↓iteOmega, iteOmega, toNatUp, happ]) (Or.inl rfl) ?_
  simp [go_sem, ↓iteOmega, iteOmega, toNatUp, happ]
  repeat (refine And.intro (by omega) ?_)
  try (refine ⟨DrawChk_of (by kernel_rfl), ?_⟩)
  repeat (first | (refine nf1_sound rfl ?_; simp [go_sem, ↓iteOmega, iteOmega, toNatUp, hmod, hmod2, hwc]; (repeat (refine And.intro (by omega) ?_)); try (refine ⟨DrawChk_of (by kernel_rfl), ?_⟩)) | (refine itePos (by omega) ?_; try simp [go_sem, ↓iteOmega, iteOmega, toNatUp, hmod, hmod2, hwc]) | (refine iteNeg (by omega) ?_; try simp [go_sem, ↓iteOmega, iteOmega, toNatUp, hmod, hmod2, hwc]) | (refine ⟨DrawChk_of (by kernel_rfl), ?_⟩))
  refine CallK.fn (cw) [] [] [] (by kernel_rfl) (by simp [go_sem, ↓iteOmega, iteOmega, toNatUp, hmod, hmod2, hwc]) (by simp [go_sem, ↓iteOmega, iteOmega, toNatUp, hmod, hmod2, hwc]) (by simp [go_sem, ↓iteOmega, iteOmega, toNatUp, hmod, hmod2, hwc]) (Or.inl rfl) ?_
  simp [go_sem, ↓iteOmega, iteOmega, toNatUp, hmod, hmod2, hwc]
  repeat (refine And.intro (by omega) ?_)
  try (refine ⟨DrawChk_of (by kernel_rfl), ?_⟩)
  refine nf_sound [4] _ _ _ ?_
  simp (maxSteps := 2000000) [go_sem, ↓iteOmega, iteOmega, toNatUp, go_sem, stops, firstReg]
  refine CW.weak (ρ := [(509, some 109)]) (σ' := ⟨[(1, .t (encIs cuts)), (8, .t (encUs B)), (9, .pt 509 [] 0), (10, .t (.int 0))], [(509, .box 29 (.t (.agg [.int win, encUs [], encWts []])))]⟩) ?_ ?_
  · simp [go_sem, ↓iteOmega, iteOmega, toNatUp, wkXs]
  repeat (first | (refine nf1_sound rfl ?_; simp [go_sem, ↓iteOmega, iteOmega, toNatUp]; (repeat (refine And.intro (by omega) ?_)); try (refine ⟨DrawChk_of (by kernel_rfl), ?_⟩)) | (refine itePos (by omega) ?_; try simp [go_sem, ↓iteOmega, iteOmega, toNatUp]) | (refine iteNeg (by omega) ?_; try simp [go_sem, ↓iteOmega, iteOmega, toNatUp]) | (refine ⟨DrawChk_of (by kernel_rfl), ?_⟩))
  refine CallK.fn (cf) [] [] [] (by kernel_rfl) (by simp [go_sem, ↓iteOmega, iteOmega, toNatUp]) (by simp [go_sem, ↓iteOmega, iteOmega, toNatUp]) (by simp [go_sem, ↓iteOmega, iteOmega, toNatUp]) (Or.inl rfl) ?_
  simp [go_sem, ↓iteOmega, iteOmega, toNatUp]
  repeat (refine And.intro (by omega) ?_)
  try (refine ⟨DrawChk_of (by kernel_rfl), ?_⟩)
  repeat (first | (refine nf1_sound rfl ?_; simp [go_sem, ↓iteOmega, iteOmega, toNatUp]; (repeat (refine And.intro (by omega) ?_)); try (refine ⟨DrawChk_of (by kernel_rfl), ?_⟩)) | (refine itePos (by omega) ?_; try simp [go_sem, ↓iteOmega, iteOmega, toNatUp]) | (refine iteNeg (by omega) ?_; try simp [go_sem, ↓iteOmega, iteOmega, toNatUp]) | (refine ⟨DrawChk_of (by kernel_rfl), ?_⟩))
  refine nf1_sound' _ _ _ ?_; simp only [nf1]
  refine CW.loop (ι := Nat × In × List Nat × List Tg) (fun j => ⟨[(1, .t (encIs cuts)), (8, .t (encUs j.2.2.1)), (9, .pt 509 [] 0), (11, .pt 511 [] 0), (12, .t (encTgs all)), (14, .own 514), (15, .t (.int j.1))], [(509, .box 29 (.t (encIn j.2.1))), (511, .box 29 (.t (.agg [.int i1, encUs i2, encWts i3]))), (514, blkTgs j.2.2.2)]⟩) (fun j => j.1 ≤ cuts.length ∧ j.1 ≤ 20 ∧ PartI B ⟨i1, i2, i3⟩ all j.2.1 j.2.2.1 j.2.2.2) (fun j => 20 - j.1) (0, ⟨win, [], []⟩, B, []) [(509, some 509), (511, some 111), (514, none)] ⟨Nat.zero_le _, by omega, hp0⟩ ?_ ?_
  · simp [go_sem, ↓iteOmega, iteOmega, toNatUp]
  rintro ⟨i, s, b, given⟩ ⟨h1, h2, h3⟩
  dsimp only at h1 h2 h3 ⊢
  have hbl := h3.bl
  have hgl : given.length + (feedV s b).2.length = all.length := by rw [← h3.al, List.length_append]
  by_cases hi : i < cuts.length ∧ i < 20
  · obtain ⟨hi1, hi2⟩ := hi
    obtain ⟨x, hx⟩ := has_get hi1
    have cm := mod_fn x ((b.length : Int) + 1) (by omega)
    have hr := modN_range (x := x) (n := (b.length : Int) + 1) (by omega)
    obtain ⟨q, hq⟩ : ∃ q, modN x ((b.length : Int) + 1) = q := ⟨_, rfl⟩
    rw [hq] at cm hr
    obtain ⟨k, rfl⟩ : ∃ k : Nat, q = (k : Int) := ⟨q.toNat, by omega⟩
    have hkb : k ≤ b.length := by omega
    have hnx := h3.step k
    have cf2 := feed_fn s (b.take k) (h3.ok.sized h3.t8) (by simp; omega) (fun c hc => h3.b8 c (List.mem_of_mem_take hc)) h3.ok
    have hgn : (given ++ (feedV s (b.take k)).2).length ≤ all.length := by have e := congrArg List.length hnx.al; rw [List.length_append] at e; omega
    obtain ⟨o, ho⟩ : ∃ o, (feedV s (b.take k)).2 = o := ⟨_, rfl⟩
    obtain ⟨S, hS⟩ : ∃ S, (feedV s (b.take k)).1 = S := ⟨_, rfl⟩
    obtain ⟨bt, hbt⟩ : ∃ x, b.take k = x := ⟨_, rfl⟩
    obtain ⟨bd, hbd⟩ : ∃ x, b.drop k = x := ⟨_, rfl⟩
    rw [ho, hS] at cf2 hnx
    rw [ho, List.length_append] at hgn
    rw [hbt] at cf2
    rw [hbd] at hnx
    have htk : (b.map encU).take k = bt.map encU := by rw [← hbt, List.map_take]
    have hdr : (b.map encU).drop k = bd.map encU := by rw [← hbd, List.map_drop]
    have hmin : min k b.length = k := by omega
    have hta : (b.map encU).take b.length = b.map encU := List.take_of_length_le (by simp)
    have hbtl : bt.length = k := by rw [← hbt]; simp; omega
    have hbdl : bd.length = b.length - k := by rw [← hbd]; simp
    clear hbt hbd ho hS hq hgl h3
    obtain ⟨s1, s2, s3⟩ := s
    obtain ⟨S1, S2, S3⟩ := S
    repeat (first | (refine nf1_sound rfl ?_; simp [go_sem, ↓iteOmega, iteOmega, toNatUp, hx]; (repeat (refine And.intro (by omega) ?_)); try (refine ⟨DrawChk_of (by kernel_rfl), ?_⟩)) | (refine itePos (by omega) ?_; try simp [go_sem, ↓iteOmega, iteOmega, toNatUp, hx]) | (refine iteNeg (by omega) ?_; try simp [go_sem, ↓iteOmega, iteOmega, toNatUp, hx]) | (refine ⟨DrawChk_of (by kernel_rfl), ?_⟩))
    refine CallK.fn (cm) [] [] [] (by kernel_rfl) (by simp [go_sem, ↓iteOmega, iteOmega, toNatUp]) (by simp [go_sem, ↓iteOmega, iteOmega, toNatUp]) (by simp [go_sem, ↓iteOmega, iteOmega, toNatUp]) (Or.inl rfl) ?_
    simp [go_sem, ↓iteOmega, iteOmega, toNatUp]
    repeat (refine And.intro (by omega) ?_)
    try (refine ⟨DrawChk_of (by kernel_rfl), ?_⟩)
    repeat (first | (refine nf1_sound rfl ?_; simp [go_sem, ↓iteOmega, iteOmega, toNatUp, htk, hmin, hbtl]; (repeat (refine And.intro (by omega) ?_)); try (refine ⟨DrawChk_of (by kernel_rfl), ?_⟩)) | (refine itePos (by omega) ?_; try simp [go_sem, ↓iteOmega, iteOmega, toNatUp, htk, hmin, hbtl]) | (refine iteNeg (by omega) ?_; try simp [go_sem, ↓iteOmega, iteOmega, toNatUp, htk, hmin, hbtl]) | (refine ⟨DrawChk_of (by kernel_rfl), ?_⟩))
    refine CallK.fn (cf2) [] [] [] (by kernel_rfl) (by simp [go_sem, ↓iteOmega, iteOmega, toNatUp, htk, hmin, hbtl]) (by simp [go_sem, ↓iteOmega, iteOmega, toNatUp, htk, hmin, hbtl]) (by simp [go_sem, ↓iteOmega, iteOmega, toNatUp, htk, hmin, hbtl]) (Or.inl rfl) ?_
    simp [go_sem, ↓iteOmega, iteOmega, toNatUp, htk, hmin, hbtl]
    repeat (refine And.intro (by omega) ?_)
    try (refine ⟨DrawChk_of (by kernel_rfl), ?_⟩)
    repeat (first | (refine nf1_sound rfl ?_; simp [go_sem, ↓iteOmega, iteOmega, toNatUp, hta, hdr, hbdl]; (repeat (refine And.intro (by omega) ?_)); try (refine ⟨DrawChk_of (by kernel_rfl), ?_⟩)) | (refine itePos (by omega) ?_; try simp [go_sem, ↓iteOmega, iteOmega, toNatUp, hta, hdr, hbdl]) | (refine iteNeg (by omega) ?_; try simp [go_sem, ↓iteOmega, iteOmega, toNatUp, hta, hdr, hbdl]) | (refine ⟨DrawChk_of (by kernel_rfl), ?_⟩))
    rw [RoundQ_normal]; refine ⟨(i + 1, ⟨S1, S2, S3⟩, bd, given ++ o), [(509, some 509), (511, some 511), (514, some 185)], ?_, ?_, ?_⟩
    · exact ⟨by dsimp only; omega, by dsimp only; omega, hnx⟩
    · dsimp only; omega
    simp [go_sem, ↓iteOmega, iteOmega, toNatUp, hta, hdr, hbdl]
  · have cf2 := feed_fn s b (h3.ok.sized h3.t8) (by omega) h3.b8 h3.ok
    rw [h3.st] at cf2
    have hal := h3.al
    obtain ⟨o, ho⟩ : ∃ o, (feedV s b).2 = o := ⟨_, rfl⟩
    rw [ho] at cf2 hal hgl
    have halm : given.map encTg ++ o.map encTg = all.map encTg := by rw [← hal, List.map_append]
    clear h3 ho
    obtain ⟨s1, s2, s3⟩ := s
    by_cases hi1 : i < cuts.length
    · have hi2 : ¬ i < 20 := fun h => hi ⟨hi1, h⟩
      repeat (first | (refine nf1_sound rfl ?_; simp [go_sem, ↓iteOmega, iteOmega, toNatUp, hi1, hi2]; (repeat (refine And.intro (by omega) ?_)); try (refine ⟨DrawChk_of (by kernel_rfl), ?_⟩)) | (refine itePos (by omega) ?_; try simp [go_sem, ↓iteOmega, iteOmega, toNatUp, hi1, hi2]) | (refine iteNeg (by omega) ?_; try simp [go_sem, ↓iteOmega, iteOmega, toNatUp, hi1, hi2]) | (refine ⟨DrawChk_of (by kernel_rfl), ?_⟩))
      refine CallK.fn (cf2) [] [] [] (by kernel_rfl) (by simp [go_sem, ↓iteOmega, iteOmega, toNatUp]) (by simp [go_sem, ↓iteOmega, iteOmega, toNatUp]) (by simp [go_sem, ↓iteOmega, iteOmega, toNatUp]) (Or.inl rfl) ?_
      simp [go_sem, ↓iteOmega, iteOmega, toNatUp]
      repeat (refine And.intro (by omega) ?_)
      try (refine ⟨DrawChk_of (by kernel_rfl), ?_⟩)
      repeat (first | (refine nf1_sound rfl ?_; simp [go_sem, ↓iteOmega, iteOmega, toNatUp, halm]; (repeat (refine And.intro (by omega) ?_)); try (refine ⟨DrawChk_of (by kernel_rfl), ?_⟩)) | (refine itePos (by omega) ?_; try simp [go_sem, ↓iteOmega, iteOmega, toNatUp, halm]) | (refine iteNeg (by omega) ?_; try simp [go_sem, ↓iteOmega, iteOmega, toNatUp, halm]) | (refine ⟨DrawChk_of (by kernel_rfl), ?_⟩))
      refine CallK.fn (cal) [] [198] [] (by kernel_rfl) (by simp [go_sem, ↓iteOmega, iteOmega, toNatUp]) (by simp [go_sem, ↓iteOmega, iteOmega, toNatUp]) (by simp [go_sem, ↓iteOmega, iteOmega, toNatUp]) (Or.inr ⟨by simp [go_sem, ↓iteOmega, iteOmega, toNatUp], by simp [go_sem, ↓iteOmega, iteOmega, toNatUp]⟩) ?_
      simp [go_sem, ↓iteOmega, iteOmega, toNatUp]
      repeat (refine And.intro (by omega) ?_)
      try (refine ⟨DrawChk_of (by kernel_rfl), ?_⟩)
      refine CallK.fn (csame) [] [] [] (by kernel_rfl) (by simp [go_sem, ↓iteOmega, iteOmega, toNatUp]) (by simp [go_sem, ↓iteOmega, iteOmega, toNatUp]) (by simp [go_sem, ↓iteOmega, iteOmega, toNatUp]) (Or.inl rfl) ?_
      simp [go_sem, ↓iteOmega, iteOmega, toNatUp]
      repeat (refine And.intro (by omega) ?_)
      try (refine ⟨DrawChk_of (by kernel_rfl), ?_⟩)
      refine CallK.fn (ca) [] [] [] (by kernel_rfl) (by simp [go_sem, ↓iteOmega, iteOmega, toNatUp]) (by simp [go_sem, ↓iteOmega, iteOmega, toNatUp]) (by simp [go_sem, ↓iteOmega, iteOmega, toNatUp]) (Or.inl rfl) ?_
      simp [go_sem, ↓iteOmega, iteOmega, toNatUp]
      repeat (refine And.intro (by omega) ?_)
      try (refine ⟨DrawChk_of (by kernel_rfl), ?_⟩)
      repeat (first | (refine nf1_sound rfl ?_; simp [go_sem, ↓iteOmega, iteOmega, toNatUp]; (repeat (refine And.intro (by omega) ?_)); try (refine ⟨DrawChk_of (by kernel_rfl), ?_⟩)) | (refine itePos (by omega) ?_; try simp [go_sem, ↓iteOmega, iteOmega, toNatUp]) | (refine iteNeg (by omega) ?_; try simp [go_sem, ↓iteOmega, iteOmega, toNatUp]) | (refine ⟨DrawChk_of (by kernel_rfl), ?_⟩))
      first | rw [RetQ_ret] | rw [RetQ_normal]
      refine ⟨[], ?_⟩
      simp [go_sem, ↓iteOmega, iteOmega, toNatUp]
    · repeat (first | (refine nf1_sound rfl ?_; simp [go_sem, ↓iteOmega, iteOmega, toNatUp, hi1]; (repeat (refine And.intro (by omega) ?_)); try (refine ⟨DrawChk_of (by kernel_rfl), ?_⟩)) | (refine itePos (by omega) ?_; try simp [go_sem, ↓iteOmega, iteOmega, toNatUp, hi1]) | (refine iteNeg (by omega) ?_; try simp [go_sem, ↓iteOmega, iteOmega, toNatUp, hi1]) | (refine ⟨DrawChk_of (by kernel_rfl), ?_⟩))
      refine CallK.fn (cf2) [] [] [] (by kernel_rfl) (by simp [go_sem, ↓iteOmega, iteOmega, toNatUp]) (by simp [go_sem, ↓iteOmega, iteOmega, toNatUp]) (by simp [go_sem, ↓iteOmega, iteOmega, toNatUp]) (Or.inl rfl) ?_
      simp [go_sem, ↓iteOmega, iteOmega, toNatUp]
      repeat (refine And.intro (by omega) ?_)
      try (refine ⟨DrawChk_of (by kernel_rfl), ?_⟩)
      repeat (first | (refine nf1_sound rfl ?_; simp [go_sem, ↓iteOmega, iteOmega, toNatUp, halm]; (repeat (refine And.intro (by omega) ?_)); try (refine ⟨DrawChk_of (by kernel_rfl), ?_⟩)) | (refine itePos (by omega) ?_; try simp [go_sem, ↓iteOmega, iteOmega, toNatUp, halm]) | (refine iteNeg (by omega) ?_; try simp [go_sem, ↓iteOmega, iteOmega, toNatUp, halm]) | (refine ⟨DrawChk_of (by kernel_rfl), ?_⟩))
      refine CallK.fn (cal) [] [198] [] (by kernel_rfl) (by simp [go_sem, ↓iteOmega, iteOmega, toNatUp]) (by simp [go_sem, ↓iteOmega, iteOmega, toNatUp]) (by simp [go_sem, ↓iteOmega, iteOmega, toNatUp]) (Or.inr ⟨by simp [go_sem, ↓iteOmega, iteOmega, toNatUp], by simp [go_sem, ↓iteOmega, iteOmega, toNatUp]⟩) ?_
      simp [go_sem, ↓iteOmega, iteOmega, toNatUp]
      repeat (refine And.intro (by omega) ?_)
      try (refine ⟨DrawChk_of (by kernel_rfl), ?_⟩)
      refine CallK.fn (csame) [] [] [] (by kernel_rfl) (by simp [go_sem, ↓iteOmega, iteOmega, toNatUp]) (by simp [go_sem, ↓iteOmega, iteOmega, toNatUp]) (by simp [go_sem, ↓iteOmega, iteOmega, toNatUp]) (Or.inl rfl) ?_
      simp [go_sem, ↓iteOmega, iteOmega, toNatUp]
      repeat (refine And.intro (by omega) ?_)
      try (refine ⟨DrawChk_of (by kernel_rfl), ?_⟩)
      refine CallK.fn (ca) [] [] [] (by kernel_rfl) (by simp [go_sem, ↓iteOmega, iteOmega, toNatUp]) (by simp [go_sem, ↓iteOmega, iteOmega, toNatUp]) (by simp [go_sem, ↓iteOmega, iteOmega, toNatUp]) (Or.inl rfl) ?_
      simp [go_sem, ↓iteOmega, iteOmega, toNatUp]
      repeat (refine And.intro (by omega) ?_)
      try (refine ⟨DrawChk_of (by kernel_rfl), ?_⟩)
      repeat (first | (refine nf1_sound rfl ?_; simp [go_sem, ↓iteOmega, iteOmega, toNatUp]; (repeat (refine And.intro (by omega) ?_)); try (refine ⟨DrawChk_of (by kernel_rfl), ?_⟩)) | (refine itePos (by omega) ?_; try simp [go_sem, ↓iteOmega, iteOmega, toNatUp]) | (refine iteNeg (by omega) ?_; try simp [go_sem, ↓iteOmega, iteOmega, toNatUp]) | (refine ⟨DrawChk_of (by kernel_rfl), ?_⟩))
      first | rw [RetQ_ret] | rw [RetQ_normal]
      refine ⟨[], ?_⟩
      simp [go_sem, ↓iteOmega, iteOmega, toNatUp]
theorem parts_all (x0 x1 x2 : T) (h0 : InSh (.sl (.int .i64)) x0) (h1 : InSh (.sl (.int .i64)) x1) (h2 : InSh (.int .u8) x2) :
    FnOk Try.prog 7 [.t x0, .t x1, .t x2] [] (.t (.bool true)) [] := by
  obtain ⟨l, rfl, hl, wl⟩ := ints_in h0
  obtain ⟨m, rfl, hm, wm⟩ := ints_in h1
  obtain ⟨n, rfl, hw⟩ := insh_int h2
  simp [Lit.wf, IntKind.min, IntKind.max, IntKind.signed, IntKind.bits] at hw
  obtain ⟨m, rfl⟩ : ∃ m : Nat, n = (m : Int) := ⟨n.toNat, by omega⟩
  exact parts_fn l _ m hl wl hm (by omega)
end Go.Proofs.Ytopmmodcaoaaeaa
