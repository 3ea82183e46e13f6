/- Several texts of this proof, one behind the other. No condition. -/
import Derived.Test.YtdjmklobfjigoaaGreatDoorTTrnsB10
set_option maxRecDepth 100000
set_option maxHeartbeats 16000000
set_option linter.unusedVariables false
set_option linter.unusedSimpArgs false
namespace Go.Proofs.YtdjmklobfjigoaaGreatDoor
open Go.RowKit Sy
open Go.IntWalk renaming iteOmega → iO, toNatUp → tN
attribute [go_sem] ThenB_normal EndQ_normal
structure LineD where
  nodes : T
  segs : List Sgm
  ports : List Prt
  stat : T
  vap : T
  stl : T
  rates : List Int
  prates : List Int
  pumps : T
  feeds : List Int
structure LineOk (d : LineD) : Prop where
  w1 : d.nodes.width = 1
  w2 : d.stat.width = 1
  w3 : d.vap.width = 1
  w4 : d.stl.width = 1
  w5 : d.pumps.width = 1
  lenR : d.rates.length = d.segs.length
  lenP : d.prates.length = d.ports.length
  lenF : d.feeds.length = d.ports.length
  neS : d.segs ≠ []
  neP : d.ports ≠ []
  maxS : d.segs.length ≤ 1000
  maxP : d.ports.length ≤ 1000
  bR : ∀ r ∈ d.rates, -1000000 ≤ r ∧ r ≤ 1000000
  bP : ∀ r ∈ d.prates, -1000000 ≤ r ∧ r ≤ 1000000
  bF : ∀ r ∈ d.feeds, -1000000 ≤ r ∧ r ≤ 1000000
@[go_sem] def LineD.net (d : LineD) : List T := [d.nodes, .sl 7 (d.segs.map encSg), .sl 3 (d.ports.map encPr), d.stat, d.vap, d.stl]
@[go_sem] def LineD.plan (d : LineD) : List T := [.sl 1 (d.rates.map encI), .sl 1 (d.prates.map encI), d.pumps]
theorem prtYs_get {node : Int} {inn : Bool} : ∀ {ps : List Prt} {rs : List Int} {k : Nat} {y : Nat × Int}, y ∈ prtYs node inn k ps rs → k ≤ y.1 ∧ y.1 < k + ps.length ∧ 0 < y.2 ∧ ∃ r ∈ rs, y.2 = absI r
  | [], rs, k, y, h => by simp [prtYs] at h
  | p :: ps, [], k, y, h => by simp [prtYs] at h
  | p :: ps, r :: rs, k, y, h => by
    simp only [prtYs] at h
    have go : y ∈ prtYs node inn (k + 1) ps rs → k ≤ y.1 ∧ y.1 < k + (p :: ps).length ∧ 0 < y.2 ∧ ∃ r' ∈ r :: rs, y.2 = absI r' := fun h => by
      obtain ⟨h1, h2, h3, r', h4, h5⟩ := prtYs_get h
      exact ⟨by omega, by simp only [List.length_cons]; omega, h3, r', by simp [h4], h5⟩
    split at h
    · rename_i hc
      rcases List.mem_cons.1 h with rfl | h
      · refine ⟨Nat.le_refl _, by simp, ?_, r, by simp, rfl⟩
        have := hc.2.1
        simp only [absI]; omega
      · exact go h
    · exact go h
theorem prtYs_len2 (node : Int) (inn : Bool) : ∀ (k : Nat) (ps : List Prt) (rs : List Int), (prtYs node inn k ps rs).length ≤ ps.length
  | k, [], rs => by simp [prtYs]
  | k, p :: ps, [] => by simp [prtYs]
  | k, p :: ps, r :: rs => by
    have := prtYs_len2 node inn (k + 1) ps rs
    simp only [prtYs]
    split <;> simp <;> omega
def prtPc (feeds : List Int) (ys : List (Nat × Int)) : List (Int × Int) := ys.map fun y => (feeds.getD y.1 0, y.2)
theorem segYs_get {node : Int} {inn : Bool} : ∀ {ps : List SegV} {rs : List Int} {k : Nat} {y : Nat × Int}, y ∈ segYs node inn k ps rs → k ≤ y.1 ∧ y.1 < k + ps.length ∧ 0 < y.2 ∧ ∃ r ∈ rs, y.2 = absI r
  | [], rs, k, y, h => by simp [segYs] at h
  | p :: ps, [], k, y, h => by simp [segYs] at h
  | p :: ps, r :: rs, k, y, h => by
    simp only [segYs] at h
    have go : y ∈ segYs node inn (k + 1) ps rs → k ≤ y.1 ∧ y.1 < k + (p :: ps).length ∧ 0 < y.2 ∧ ∃ r' ∈ r :: rs, y.2 = absI r' := fun h => by
      obtain ⟨h1, h2, h3, r', h4, h5⟩ := segYs_get h
      exact ⟨by omega, by simp only [List.length_cons]; omega, h3, r', by simp [h4], h5⟩
    split at h
    · rename_i hc
      rcases List.mem_cons.1 h with rfl | h
      · refine ⟨Nat.le_refl _, by simp, ?_, r, by simp, rfl⟩
        have := hc.1
        simp only [absI]; omega
      · exact go h
    · exact go h
def gvAt (gi : List (Option (List (Int × Int)))) (z : Nat × Int) : List (Int × Int) := (gi.getD z.1 none).getD []
def comesV (d : LineD) (gi : List (Option (List (Int × Int)))) (node : Int) : List (Int × Int) := prtPc d.feeds (prtYs node true 0 d.ports d.prates) ++ (segYs node true 0 (d.segs.map (·.1)) d.rates).flatMap (gvAt gi)
theorem stream_fn (d : LineD) (hd : LineOk d) (order : T) (w6 : order.width = 1) (fi gi oo : List (Option (List (Int × Int)))) (node : Int) (hg : gi.length = d.segs.length) (hS : Pc.Sane (comesV d gi node)) (hnz : ∀ z ∈ segYs node true 0 (d.segs.map (·.1)) d.rates, ∀ p ∈ gvAt gi z, p.2 ≠ 0) :
    FnOk Tryz.prog 67 [.pt 0 [] 0, .t (.int node)] [(0, lineB d.net d.plan (.sl 1 (d.feeds.map encI)) order), (1, blkG fi), (2, blkG gi), (3, blkG oo)]
      (.own 1000) [(0, lineB d.net d.plan (.sl 1 (d.feeds.map encI)) order), (1, blkG fi), (2, blkG gi), (3, blkG oo), (1000, blkP (Pc.join (comesV d gi node)))] := by
  unfold comesV at hS ⊢
  refine FnOk.intro fact_mixed Tryz.func67 rfl Tryz.ntmps67 (by rfl) (by simp) ?_
  repeat (first | (refine nf1_sound rfl ?_; simp [go_sem, ↓iO, iO, tN]) | refine anI ?_ | refine ⟨dcK, ?_⟩ | ((first | refine iP ?_ | refine iN ?_); try simp [go_sem, ↓iO, iO, tN]))
  refine CallK.fn (ports_fn d.net d.plan (.sl 1 (d.feeds.map encI)) order fi gi oo node true) [(0, 0), (1, 1), (2, 2), (3, 3), (1000, 500), (1001, 501), (1002, 502)] [] [] (by kernel_rfl) ?_ ?_ ?_ (Or.inl rfl) ?_ <;> simp [go_sem, ↓iO, iO, tN]
  repeat (refine anI ?_)
  try (refine ⟨dcK, ?_⟩)
  refine nf1_sound' _ _ _ ?_; simp only [nf1]
  obtain ⟨Y, hY⟩ : ∃ Y, prtYs node true 0 d.ports d.prates = Y := ⟨_, rfl⟩
  have hYg : ∀ y ∈ Y, y.1 < d.ports.length ∧ 0 < y.2 ∧ y.2 ≤ 1000000 := fun y hy => by
    rw [← hY] at hy
    obtain ⟨h1, h2, h3, r, h4, h5⟩ := prtYs_get hy
    have := hd.bP r h4
    unfold absI at h5
    exact ⟨by omega, h3, by omega⟩
  obtain ⟨pc, hpc⟩ : ∃ pc, prtPc d.feeds Y = pc := ⟨_, rfl⟩
  obtain ⟨Z, hZ⟩ : ∃ Z, segYs node true 0 (d.segs.map (·.1)) d.rates = Z := ⟨_, rfl⟩
  have hZg : ∀ z ∈ Z, z.1 < d.segs.length ∧ 0 < z.2 := fun y hy => by
    rw [← hZ] at hy
    obtain ⟨h1, h2, h3, _⟩ := segYs_get hy
    exact ⟨by simpa using h2, h3⟩
  rw [hY, hpc, hZ] at hS
  rw [hZ] at hnz
  rw [hY, hpc, hZ]
  refine CW.rangeF (N := 41) [(0, .pt 0 [] 0), (1, .t (.int node)), (2, .pt 102 [] 0), (5, .pt 105 [] 0), (11, .fn 98 [.pt 500 [] 0, .pt 501 [] 0, .pt 502 [] 0])]
    (fun k => [(0, lineB d.net d.plan (.sl 1 (d.feeds.map encI)) order), (1, blkG fi), (2, blkG gi), (3, blkG oo), (102, .box 71 (.pt 0 [] 0)), (105, .box 41 (.own 510)), (510, blkP (Pc.join (pc.take k))), (500, .box 71 (.pt 0 [] 0)), (501, .box 3 (.t (.int node))), (502, .box 4 (.t (.bool true)))])
    [(0, some 0), (1, some 1), (2, some 2), (3, some 3), (102, some 102), (105, some 105), (510, none), (500, some 500), (501, some 501), (502, some 502)]
    (lineI 500 501 502 0 (.t (.int node)) (.t (.bool true)) 3 4 d.net d.plan [.t (.sl 1 (d.feeds.map encI)), .t order, .own 1, .own 2, .own 3]) (Y.map encY)
    [(0, some 0), (1, some 1), (2, some 2), (3, some 3), (102, some 102), (105, some 105), (510, some 510), (500, some 500), (501, some 501), (502, some 502)]
    ?_ rfl (by kernel_rfl) (by kernel_rfl) (by kernel_rfl) (by kernel_rfl) (by kernel_rfl) (by kernel_rfl) (by kernel_rfl) ?_ ?_ ?_ rfl ?_ ?_ ?_
  · simp [go_sem, ↓iO, iO, tN, Pc.join]
  · intro y hy
    obtain ⟨z, _, rfl⟩ := List.mem_map.1 hy
    rfl
  · intro y hy v hv
    obtain ⟨z, _, rfl⟩ := List.mem_map.1 hy
    simp [encY] at hv
    rcases hv with rfl | rfl <;> rfl
  · rw [← hY]
    exact ports_iter 500 501 502 0 rfl node true d.nodes (.sl 7 (d.segs.map encSg)) d.stat d.ports d.vap d.stl (.sl 1 (d.rates.map encI)) d.pumps d.prates _ hd.w1 rfl rfl hd.w2 hd.w3 hd.w4 hd.lenP hd.neP hd.maxP (fun r hr => by have := hd.bP r hr; omega)
  · intro k hk
    simp [go_sem, ↓iO, iO, tN, lineI]
    rfl
  · intro k y hy
    obtain ⟨z, hz, rfl⟩ : ∃ z, Y[k]? = some z ∧ y = encY z := by
      rw [List.getElem?_map] at hy
      obtain ⟨z, h1, h2⟩ := Option.map_eq_some_iff.1 hy
      exact ⟨z, h1, h2.symm⟩
    obtain ⟨z1, z2⟩ := z
    obtain ⟨q1, q2, q3⟩ := hYg _ (List.mem_of_getElem? hz)
    dsimp only at q1 q2 q3
    obtain ⟨f, hf⟩ : ∃ f, d.feeds[z1]? = some f := has_get (by rw [hd.lenF]; exact q1)
    have hpk : pc[k]? = some (f, z2) := by rw [← hpc]; simp [prtPc, hz, List.getD, hf]
    have hlf := hd.lenF
    have hmx := hd.maxP
    have w1 := hd.w1
    have w2 := hd.w2
    have w3 := hd.w3
    have w4 := hd.w4
    have w5 := hd.w5
    have q4 : z1 < d.feeds.length := by omega
    have hf2 : d.feeds[z1] = f := by rw [List.getElem?_eq_getElem q4] at hf; exact Option.some.inj hf
    have j1 := join_fn (pc.take k) [(f, z2)] (by
      refine ⟨?_, fun p hp => ?_⟩
      · have : pc.length = Y.length := by rw [← hpc]; simp [prtPc]
        have h3 := prtYs_len2 node true 0 d.ports d.prates
        rw [hY] at h3
        simp; omega
      · rcases List.mem_append.1 hp with hp | hp
        · have hp := List.mem_of_mem_take hp
          rw [← hpc] at hp
          obtain ⟨y, hy, rfl⟩ := List.mem_map.1 hp
          have := hYg y hy
          dsimp only; omega
        · simp at hp; subst hp; dsimp only; omega) (by simp; omega)
    have e1 : pc.take k ++ [(f, z2)] = pc.take (k + 1) := by
      obtain ⟨hk, e⟩ := List.getElem?_eq_some_iff.1 hpk
      rw [List.take_succ_eq_append_getElem hk, e]
    rw [e1] at j1
    refine ⟨[(0, 0), (1, 1), (2, 2), (3, 3), (4, 102), (5, 105), (6, 510), (1000, 511)], [(2, .pt 4 [] 0), (5, .pt 5 [] 0)],
      [(0, lineB d.net d.plan (.sl 1 (d.feeds.map encI)) order), (1, blkG fi), (2, blkG gi), (3, blkG oo), (4, .box 71 (.pt 0 [] 0)), (5, .box 41 (.own 6)), (6, blkP (Pc.join (pc.take k)))],
      [(0, lineB d.net d.plan (.sl 1 (d.feeds.map encI)) order), (1, blkG fi), (2, blkG gi), (3, blkG oo), (4, .box 71 (.pt 0 [] 0)), (5, .box 41 (.own 1000)), (1000, blkP (Pc.join (pc.take (k + 1))))],
      [(0, some 0), (1, some 1), (2, some 2), (3, some 3), (102, some 102), (105, some 105), (510, some 511), (500, some 500), (501, some 501), (502, some 502)], ?_⟩
    refine ⟨by kernel_rfl, ?_, ?_, rfl, by kernel_rfl, ?_, ?_⟩
    · simp [go_sem, ↓iO, iO, tN]
    · simp [go_sem, ↓iO, iO, tN, slotsR, S.ren]
    · simp [go_sem, ↓iO, iO, tN, psS, encY, hf, w1, w2, w3, w4, w5, q4]
      repeat (refine anI ?_)
      refine CallK.fn (j1) [(0, 6), (1000, 600)] [124] [] (by kernel_rfl) ?_ ?_ ?_ (Or.inr ⟨?_, ?_⟩) ?_ <;> simp [go_sem, ↓iO, iO, tN, w1, w2, w3, w4, w5, hf, hf2]
      repeat (refine anI ?_)
      try (refine ⟨dcK, ?_⟩)
      refine ⟨[(0, some 0), (1, some 1), (2, some 2), (3, some 3), (4, some 4), (5, some 5), (1000, some 600)], ?_⟩
      simp [go_sem, ↓iO, iO, tN]
    · simp [go_sem, ↓iO, iO, tN]
  · have hpl : (Y.map encY).length = pc.length := by rw [← hpc]; simp [prtPc]
    rw [hpl]
    simp [go_sem, ↓iO, iO, tN, List.take_length]
    repeat (first | (refine nf1_sound rfl ?_; simp [go_sem, ↓iO, iO, tN]) | refine anI ?_ | refine ⟨dcK, ?_⟩ | ((first | refine iP ?_ | refine iN ?_); try simp [go_sem, ↓iO, iO, tN]))
    refine CallK.fn (segments_fn d.net d.plan (.sl 1 (d.feeds.map encI)) order fi gi oo node true) [(0, 0), (1, 1), (2, 2), (3, 3), (1000, 520), (1001, 521), (1002, 522)] [] [] (by kernel_rfl) ?_ ?_ ?_ (Or.inl rfl) ?_ <;> simp [go_sem, ↓iO, iO, tN]
    repeat (refine anI ?_)
    try (refine ⟨dcK, ?_⟩)
    refine nf1_sound' _ _ _ ?_; simp only [nf1]
    refine CW.rangeF (N := 41) [(0, .pt 0 [] 0), (1, .t (.int node)), (2, .pt 102 [] 0), (5, .pt 105 [] 0), (28, .fn 99 [.pt 520 [] 0, .pt 521 [] 0, .pt 522 [] 0])]
      (fun k => [(0, lineB d.net d.plan (.sl 1 (d.feeds.map encI)) order), (1, blkG fi), (2, blkG gi), (3, blkG oo), (102, .box 71 (.pt 0 [] 0)), (105, .box 41 (.own 510)), (510, blkP (Pc.join (pc ++ (Z.take k).flatMap (gvAt gi)))), (520, .box 71 (.pt 0 [] 0)), (521, .box 4 (.t (.bool true))), (522, .box 3 (.t (.int node)))])
      [(0, some 0), (1, some 1), (2, some 2), (3, some 3), (102, some 102), (105, some 105), (510, some 510), (520, some 520), (521, some 521), (522, some 522)]
      (lineI 520 521 522 0 (.t (.bool true)) (.t (.int node)) 4 3 d.net d.plan [.t (.sl 1 (d.feeds.map encI)), .t order, .own 1, .own 2, .own 3]) (Z.map encY)
      [(0, some 0), (1, some 1), (2, some 2), (3, some 3), (102, some 102), (105, some 105), (510, some 510), (520, some 520), (521, some 521), (522, some 522)]
      ?_ rfl (by kernel_rfl) (by kernel_rfl) (by kernel_rfl) (by kernel_rfl) (by kernel_rfl) (by kernel_rfl) (by kernel_rfl) ?_ ?_ ?_ rfl ?_ ?_ ?_
    · simp [go_sem, ↓iO, iO, tN]
    · intro y hy
      obtain ⟨z, _, rfl⟩ := List.mem_map.1 hy
      rfl
    · intro y hy v hv
      obtain ⟨z, _, rfl⟩ := List.mem_map.1 hy
      simp [encY] at hv
      rcases hv with rfl | rfl <;> rfl
    · rw [← hZ]
      exact segs_iter 520 521 522 0 rfl node true d.nodes (.sl 3 (d.ports.map encPr)) d.stat d.segs d.vap d.stl (.sl 1 (d.prates.map encI)) d.pumps d.rates _ hd.w1 rfl hd.w2 hd.w3 hd.w4 hd.lenR hd.neS hd.maxS (fun r hr => by have := hd.bR r hr; omega)
    · intro k hk
      simp [go_sem, ↓iO, iO, tN, lineI]
      rfl
    · intro k y hy
      obtain ⟨z, hz, rfl⟩ : ∃ z, Z[k]? = some z ∧ y = encY z := by
        rw [List.getElem?_map] at hy
        obtain ⟨z, h1, h2⟩ := Option.map_eq_some_iff.1 hy
        exact ⟨z, h1, h2.symm⟩
      obtain ⟨q1, q2⟩ := hZg _ (List.mem_of_getElem? hz)
      have hnz := hnz _ (List.mem_of_getElem? hz)
      obtain ⟨o, ho⟩ : ∃ o, gi[z.1]? = some o := has_get (by rw [hg]; exact q1)
      have hgv : gvAt gi z = o.getD [] := by unfold gvAt; rw [List.getD_eq_getElem?_getD, ho]; rfl
      have e1 : (Z.take (k + 1)).flatMap (gvAt gi) = (Z.take k).flatMap (gvAt gi) ++ gvAt gi z := by
        obtain ⟨hk, e⟩ := List.getElem?_eq_some_iff.1 hz
        rw [List.take_succ_eq_append_getElem hk, e, List.flatMap_append]; simp
      obtain ⟨z1, z2⟩ := z
      dsimp only at q1 q2 ho
      have j1 := join_fn (pc ++ (Z.take k).flatMap (gvAt gi)) (gvAt gi (z1, z2)) (by
        have h3 : pc ++ Z.flatMap (gvAt gi) = (pc ++ (Z.take k).flatMap (gvAt gi)) ++ gvAt gi (z1, z2) ++ (Z.drop (k + 1)).flatMap (gvAt gi) := by
          rw [List.append_assoc pc, ← e1, List.append_assoc, ← List.flatMap_append, List.take_append_drop]
        rw [h3] at hS
        exact ⟨by have := hS.len; simp only [List.length_append] at this ⊢; omega, fun p hp => hS.each p (List.mem_append_left _ hp)⟩) hnz
      rw [List.append_assoc, ← e1] at j1
      rw [hgv] at j1
      have w1 := hd.w1
      have w2 := hd.w2
      have w3 := hd.w3
      have w4 := hd.w4
      have w5 := hd.w5
      have hmx := hd.maxS
      have q4 : z1 < gi.length := by omega
      have hf2 : gi[z1] = o := by rw [List.getElem?_eq_getElem q4] at ho; exact Option.some.inj ho
      refine ⟨[(0, 0), (1, 1), (2, 2), (3, 3), (4, 102), (5, 105), (6, 510), (1000, 511)], [(2, .pt 4 [] 0), (5, .pt 5 [] 0)],
        [(0, lineB d.net d.plan (.sl 1 (d.feeds.map encI)) order), (1, blkG fi), (2, blkG gi), (3, blkG oo), (4, .box 71 (.pt 0 [] 0)), (5, .box 41 (.own 6)), (6, blkP (Pc.join (pc ++ (Z.take k).flatMap (gvAt gi))))],
        [(0, lineB d.net d.plan (.sl 1 (d.feeds.map encI)) order), (1, blkG fi), (2, blkG gi), (3, blkG oo), (4, .box 71 (.pt 0 [] 0)), (5, .box 41 (.own 1000)), (1000, blkP (Pc.join (pc ++ (Z.take (k + 1)).flatMap (gvAt gi))))],
        [(0, some 0), (1, some 1), (2, some 2), (3, some 3), (102, some 102), (105, some 105), (510, some 511), (520, some 520), (521, some 521), (522, some 522)], ?_⟩
      refine ⟨by kernel_rfl, ?_, ?_, rfl, by kernel_rfl, ?_, ?_⟩
      · simp [go_sem, ↓iO, iO, tN]
      · simp [go_sem, ↓iO, iO, tN, slotsR, S.ren]
      · obtain ⟨J, hJ⟩ : ∃ J, Pc.join (pc ++ (Z.take k).flatMap (gvAt gi)) = J := ⟨_, rfl⟩
        obtain ⟨J2, hJ2⟩ : ∃ J2, Pc.join (pc ++ (Z.take (k + 1)).flatMap (gvAt gi)) = J2 := ⟨_, rfl⟩
        rw [hJ, hJ2] at j1
        rw [hJ, hJ2]
        cases o with
        | none =>
          simp [go_sem, ↓iO, iO, tN, psS, encY, ho, w1, w2, w3, w4, w5, w6, q4, hf2, widths_gv, width_gv]
          repeat (refine anI ?_)
          refine CallK.fn (j1) [(0, 6), (1000, 600)] [] [] (by kernel_rfl) ?_ ?_ ?_ (Or.inl rfl) ?_ <;> simp [go_sem, ↓iO, iO, tN, w1, w2, w3, w4, w5, w6, ho, hf2]
          repeat (refine anI ?_)
          try (refine ⟨dcK, ?_⟩)
          refine ⟨[(0, some 0), (1, some 1), (2, some 2), (3, some 3), (4, some 4), (5, some 5), (1000, some 600)], ?_⟩
          simp [go_sem, ↓iO, iO, tN]
        | some l =>
          simp [go_sem, ↓iO, iO, tN, psS, encY, ho, w1, w2, w3, w4, w5, w6, q4, hf2, widths_gv, width_gv]
          repeat (refine anI ?_)
          refine CallK.fn (j1) [(0, 6), (1000, 600)] [] [] (by kernel_rfl) ?_ ?_ ?_ (Or.inl rfl) ?_ <;> simp [go_sem, ↓iO, iO, tN, w1, w2, w3, w4, w5, w6, ho, hf2]
          repeat (refine anI ?_)
          try (refine ⟨dcK, ?_⟩)
          refine ⟨[(0, some 0), (1, some 1), (2, some 2), (3, some 3), (4, some 4), (5, some 5), (1000, some 600)], ?_⟩
          simp [go_sem, ↓iO, iO, tN]
      · simp [go_sem, ↓iO, iO, tN]
    · have hpl : (Z.map encY).length = Z.length := by simp
      rw [hpl]
      simp [go_sem, ↓iO, iO, tN, List.take_length]
      repeat (first | (refine nf1_sound rfl ?_; simp [go_sem, ↓iO, iO, tN]) | refine anI ?_ | refine ⟨dcK, ?_⟩ | ((first | refine iP ?_ | refine iN ?_); try simp [go_sem, ↓iO, iO, tN]))
      first | rw [RetQ_ret] | rw [RetQ_normal]
      refine ⟨[(0, some 0), (1, some 1), (2, some 2), (3, some 3), (1000, some 510)], ?_⟩
      simp [go_sem, ↓iO, iO, tN]
theorem clone_fn (l : List (Int × Int)) (hl : l.length ≤ 1000000) : FnOk Tryz.prog 37 [.t (encPs l)] [] (.own 1000) [(1000, blkP l)] := by
  refine FnOk.intro fact_mixed Tryz.func37 rfl Tryz.ntmps37 (by rfl) (by simp) ?_
  iterate 1 (refine nf1_sound rfl ?_; simp [go_sem, ↓iO, iO, tN]; (repeat (refine anI ?_)); try (refine ⟨dcK, ?_⟩))
  refine CW.seq (CW.seq (CW.nilTest (k := 2) (xs := l.map encP) (e := 40) (by simp [go_sem]) (by simp [go_sem]) ?_ ?_))
  · intro hx
    have hx : l = [] := by simpa using hx
    simp [go_sem, ↓iO, iO, tN]
    repeat (first | (refine nf1_sound rfl ?_; simp [go_sem, ↓iO, iO, tN]) | refine anI ?_ | refine ⟨dcK, ?_⟩ | ((first | refine iP ?_ | refine iN ?_); try simp [go_sem, ↓iO, iO, tN]))
    first | rw [RetQ_ret] | rw [RetQ_normal]
    refine ⟨[(1000, none)], ?_⟩
    simp [go_sem, ↓iO, iO, tN, hx]
  · simp [go_sem, ↓iO, iO, tN]
    repeat (first | (refine nf1_sound rfl ?_; simp [go_sem, ↓iO, iO, tN]) | refine anI ?_ | refine ⟨dcK, ?_⟩ | ((first | refine iP ?_ | refine iN ?_); try simp [go_sem, ↓iO, iO, tN]))
    first | rw [RetQ_ret] | rw [RetQ_normal]
    refine ⟨[(1000, some 107)], ?_⟩
    simp [go_sem, ↓iO, iO, tN]
theorem cut_fn (l : List (Int × Int)) (k : Int) (h : Pc.Sane l) (hk : 0 ≤ k) (hk2 : k ≤ 1000000000000) : FnOk Tryz.prog 123 [.t (encPs l), .t (.int k)] [] (.tup [.own 1000, .own 1001])
    [(1000, blkP (Pc.join (Pc.heads l k))), (1001, blkP (Pc.join (Pc.tails l k)))] := by
  have hlen := h.len
  refine FnOk.intro fact_mixed Tryz.func123 rfl Tryz.ntmps123 (by rfl) (by simp) ?_
  repeat (first | (refine nf1_sound rfl ?_; simp [go_sem, ↓iO, iO, tN]) | refine anI ?_ | refine ⟨dcK, ?_⟩ | ((first | refine iP ?_ | refine iN ?_); try simp [go_sem, ↓iO, iO, tN]))
  refine CallK.fn (clone_fn l (by omega)) [(1000, 111)] [] [] (by kernel_rfl) ?_ ?_ ?_ (Or.inl rfl) ?_ <;> simp [go_sem, ↓iO, iO, tN]
  repeat (refine anI ?_)
  try (refine ⟨dcK, ?_⟩)
  refine CallK.fn (clone_fn l (by omega)) [(1000, 113)] [] [] (by kernel_rfl) ?_ ?_ ?_ (Or.inl rfl) ?_ <;> simp [go_sem, ↓iO, iO, tN]
  repeat (refine anI ?_)
  try (refine ⟨dcK, ?_⟩)
  repeat (first | (refine nf1_sound rfl ?_; simp [go_sem, ↓iO, iO, tN]) | refine anI ?_ | refine ⟨dcK, ?_⟩ | ((first | refine iP ?_ | refine iN ?_); try simp [go_sem, ↓iO, iO, tN]))
  refine nf1_sound' _ _ _ ?_; simp only [nf1]
  refine CW.loop (ι := Nat) (fun i => ⟨[(6, .own 500), (7, .own 501), (1, .t (.int (Pc.rest (l.take i) k))), (14, .t (encPs l)), (15, .t (.int l.length)), (16, .t (.int i))], [(500, blkP (Pc.heads (l.take i) k ++ l.drop i)), (501, blkP (Pc.tails (l.take i) k ++ l.drop i))]⟩)
    (fun i => i ≤ l.length) (fun i => l.length - i) 0 [(500, some 111), (501, some 113)] (by omega) ?_ ?_
  · simp [go_sem, ↓iO, iO, tN, Pc.heads, Pc.tails, Pc.rest]
  intro i hi
  have hrr := Pc.rest_range (l.take i) (fun p hp => ((h.take i).each p hp).1) k hk
  by_cases hb : i < l.length
  · obtain ⟨p, hp⟩ := has_get hb
    have hpv := h.each p (mem_get hp)
    have e1 := Pc.heads_snoc k hp
    have e2 := Pc.tails_snoc k hp
    have e3 := Pc.rest_snoc k hp
    have e4 := drop_get hp
    have l1 : (Pc.heads (l.take i) k).length = i := by rw [Pc.heads_length, List.length_take]; omega
    have l2 : (Pc.tails (l.take i) k).length = i := by rw [Pc.tails_length, List.length_take]; omega
    obtain ⟨hd, hhd⟩ : ∃ x, x = Pc.heads (l.take i) k := ⟨_, rfl⟩
    obtain ⟨tl, htl⟩ : ∃ x, x = Pc.tails (l.take i) k := ⟨_, rfl⟩
    obtain ⟨r, hr⟩ : ∃ x, x = Pc.rest (l.take i) k := ⟨_, rfl⟩
    obtain ⟨d, hdd⟩ : ∃ x, x = l.drop (i + 1) := ⟨_, rfl⟩
    rw [← hr] at e1 e2 e3 hrr
    rw [← hhd] at e1 l1
    rw [← htl] at e2 l2
    rw [← hdd] at e4
    have hdl : d.length = l.length - (i + 1) := by rw [hdd, List.length_drop]
    have hm : 0 ≤ min p.2 r ∧ min p.2 r ≤ p.2 ∧ min p.2 r ≤ r := by omega
    repeat (first | (refine nf1_sound rfl ?_; simp [go_sem, ↓iO, iO, tN, hp, ← hhd, ← htl, ← hr, e4, l1, l2]) | refine anI ?_ | refine ⟨dcK, ?_⟩ | ((first | refine iP ?_ | refine iN ?_); try simp [go_sem, ↓iO, iO, tN, hp, ← hhd, ← htl, ← hr, e4, l1, l2]))
    have hdm : (l.map encP).drop (i + 1) = d.map encP := by rw [hdd, List.map_drop]
    rw [RoundQ_normal]; refine ⟨i + 1, [(500, some 500), (501, some 501)], ?_, ?_, ?_⟩
    · omega
    · omega
    simp [go_sem, ↓iO, iO, tN, e1, e2, e3, hdm]
  · obtain rfl : i = l.length := by omega
    repeat (first | (refine nf1_sound rfl ?_; simp [go_sem, ↓iO, iO, tN]) | refine anI ?_ | refine ⟨dcK, ?_⟩ | ((first | refine iP ?_ | refine iN ?_); try simp [go_sem, ↓iO, iO, tN]))
    refine CallK.fn (merged_fn (Pc.heads l k) (heads_sane h hk)) [(1000, 150)] [500] [] (by kernel_rfl) ?_ ?_ ?_ (Or.inr ⟨?_, ?_⟩) ?_ <;> simp [go_sem, ↓iO, iO, tN]
    repeat (refine anI ?_)
    try (refine ⟨dcK, ?_⟩)
    refine CallK.fn (merged_fn (Pc.tails l k) (tails_sane h hk)) [(1000, 152)] [501] [] (by kernel_rfl) ?_ ?_ ?_ (Or.inr ⟨?_, ?_⟩) ?_ <;> simp [go_sem, ↓iO, iO, tN]
    repeat (refine anI ?_)
    try (refine ⟨dcK, ?_⟩)
    repeat (first | (refine nf1_sound rfl ?_; simp [go_sem, ↓iO, iO, tN]) | refine anI ?_ | refine ⟨dcK, ?_⟩ | ((first | refine iP ?_ | refine iN ?_); try simp [go_sem, ↓iO, iO, tN]))
    first | rw [RetQ_ret] | rw [RetQ_normal]
    refine ⟨[(1000, some 150), (1001, some 152)], ?_⟩
    simp [go_sem, ↓iO, iO, tN]
theorem litre_fn (p : Int × Int) : FnOk Tryz.prog 31 [.t (encP p)] [] (.t (.bool (decide (Lit p)))) [] := by
  refine FnOk.intro fact_mixed Tryz.func31 rfl Tryz.ntmps31 (by rfl) (by simp) ?_
  by_cases h1 : 0 ≤ p.1
  · by_cases h2 : p.1 < 1000
    · by_cases h3 : 0 ≤ p.2
      · by_cases h4 : p.2 ≤ 1000000
        · repeat (first | (refine nf1_sound rfl ?_; simp [go_sem, ↓iO, iO, tN]) | refine anI ?_ | refine ⟨dcK, ?_⟩ | ((first | refine iP ?_ | refine iN ?_); try simp [go_sem, ↓iO, iO, tN]))
          first | rw [RetQ_ret] | rw [RetQ_normal]
          refine ⟨[], ?_⟩
          simp [go_sem, ↓iO, iO, tN, h1, h2, h3, h4]
        · repeat (first | (refine nf1_sound rfl ?_; simp [go_sem, ↓iO, iO, tN]) | refine anI ?_ | refine ⟨dcK, ?_⟩ | ((first | refine iP ?_ | refine iN ?_); try simp [go_sem, ↓iO, iO, tN]))
          first | rw [RetQ_ret] | rw [RetQ_normal]
          refine ⟨[], ?_⟩
          simp [go_sem, ↓iO, iO, tN, h1, h2, h3, h4]
      · repeat (first | (refine nf1_sound rfl ?_; simp [go_sem, ↓iO, iO, tN]) | refine anI ?_ | refine ⟨dcK, ?_⟩ | ((first | refine iP ?_ | refine iN ?_); try simp [go_sem, ↓iO, iO, tN]))
        first | rw [RetQ_ret] | rw [RetQ_normal]
        refine ⟨[], ?_⟩
        simp [go_sem, ↓iO, iO, tN, h1, h2, h3]
    · repeat (first | (refine nf1_sound rfl ?_; simp [go_sem, ↓iO, iO, tN]) | refine anI ?_ | refine ⟨dcK, ?_⟩ | ((first | refine iP ?_ | refine iN ?_); try simp [go_sem, ↓iO, iO, tN]))
      first | rw [RetQ_ret] | rw [RetQ_normal]
      refine ⟨[], ?_⟩
      simp [go_sem, ↓iO, iO, tN, h1, h2]
  · repeat (first | (refine nf1_sound rfl ?_; simp [go_sem, ↓iO, iO, tN]) | refine anI ?_ | refine ⟨dcK, ?_⟩ | ((first | refine iP ?_ | refine iN ?_); try simp [go_sem, ↓iO, iO, tN]))
    first | rw [RetQ_ret] | rw [RetQ_normal]
    refine ⟨[], ?_⟩
    simp [go_sem, ↓iO, iO, tN, h1]
theorem total_fn (l : List (Int × Int)) (h : Pc.Sane l) : FnOk Tryz.prog 28 [.t (encPs l)] [] (.t (.int (Pc.vol l))) [] := by
  have hlen := h.len
  refine FnOk.intro fact_mixed Tryz.func28 rfl Tryz.ntmps28 (by rfl) (by simp) ?_
  repeat (first | (refine nf1_sound rfl ?_; simp [go_sem, ↓iO, iO, tN]) | refine anI ?_ | refine ⟨dcK, ?_⟩ | ((first | refine iP ?_ | refine iN ?_); try simp [go_sem, ↓iO, iO, tN]))
  refine nf1_sound' _ _ _ ?_; simp only [nf1]
  refine CW.loop (ι := Nat) (fun k => ⟨[(3, .t (.int (Pc.vol (l.take k)))), (6, .t (encPs l)), (7, .t (.int l.length)), (8, .t (.int k))], []⟩) (fun k => k ≤ l.length) (fun k => l.length - k) 0 [] (by omega) ?_ ?_
  · simp [go_sem, ↓iO, iO, tN, Pc.vol]
  intro k hk
  by_cases hb : k < l.length
  · obtain ⟨p, hp⟩ := has_get hb
    have hs := Pc.vol_snoc hp
    have hv := (h.take k).vol
    have hpv := h.each p (mem_get hp)
    repeat (first | (refine nf1_sound rfl ?_; simp [go_sem, ↓iO, iO, tN, hp]) | refine anI ?_ | refine ⟨dcK, ?_⟩ | ((first | refine iP ?_ | refine iN ?_); try simp [go_sem, ↓iO, iO, tN, hp]))
    rw [RoundQ_normal]; refine ⟨k + 1, [], ?_, ?_, ?_⟩
    · omega
    · omega
    simp [go_sem, ↓iO, iO, tN, hs]
  · obtain rfl : k = l.length := by omega
    repeat (first | (refine nf1_sound rfl ?_; simp [go_sem, ↓iO, iO, tN]) | refine anI ?_ | refine ⟨dcK, ?_⟩ | ((first | refine iP ?_ | refine iN ?_); try simp [go_sem, ↓iO, iO, tN]))
    first | rw [RetQ_ret] | rw [RetQ_normal]
    refine ⟨[], ?_⟩
    simp [go_sem, ↓iO, iO, tN, List.take_length]
theorem litre_fn' (p : Int × Int) (b : Bool) (h : decide (Lit p) = b) : FnOk Tryz.prog 31 [.t (encP p)] [] (.t (.bool b)) [] := h ▸ litre_fn p
theorem sane_of_ok {l : List (Int × Int)} (h : l.length ≤ 200) (ho : ∀ i, i < l.length → Pc.OkAt l i) : Pc.Sane l := by
  refine ⟨by omega, fun p hp => ?_⟩
  obtain ⟨i, hi⟩ := List.getElem?_of_mem hp
  have := (ho i (List.getElem?_eq_some_iff.1 hi).1 p hi).1
  omega
theorem ok_snoc {l : List (Int × Int)} {k : Nat} (h : ∀ i, i < k → Pc.OkAt l i) (hk : Pc.OkAt l k) : ∀ i, i < k + 1 → Pc.OkAt l i := fun i hi => by
  rcases Nat.lt_or_ge i k with h1 | h1
  · exact h i h1
  · obtain rfl : i = k := by omega
    exact hk
theorem valid_fn (l : List (Int × Int)) (hl : l.length ≤ 1000000) : FnOk Tryz.prog 27 [.t (encPs l)] [] (.t (.bool (Pc.valid l))) [] := by
  refine FnOk.intro fact_mixed Tryz.func27 rfl Tryz.ntmps27 (by rfl) (by simp) ?_
  by_cases h2 : l.length ≤ 200
  · repeat (first | (refine nf1_sound rfl ?_; simp [go_sem, ↓iO, iO, tN]) | refine anI ?_ | refine ⟨dcK, ?_⟩ | ((first | refine iP ?_ | refine iN ?_); try simp [go_sem, ↓iO, iO, tN]))
    refine nf1_sound' _ _ _ ?_; simp only [nf1]
    refine CW.loop (ι := Nat) (fun k => ⟨[(0, .t (encPs l)), (8, .t (encPs l)), (9, .t (.int l.length)), (10, .t (.int k))], []⟩) (fun k => k ≤ l.length ∧ ∀ i, i < k → Pc.OkAt l i) (fun k => l.length - k) 0 [] ⟨by omega, fun i hi => absurd hi (by omega)⟩ ?_ ?_
    · simp [go_sem, ↓iO, iO, tN]
    rintro k ⟨hk, ho⟩
    by_cases hb : k < l.length
    · obtain ⟨p, hp⟩ := has_get hb
      by_cases hL : Lit p
      · by_cases hz : p.2 = 0
        · have hn : Pc.valid l = false := Pc.valid_f fun h => by have := (h.ok k hb p hp).1; omega
          repeat (first | (refine nf1_sound rfl ?_; simp [go_sem, ↓iO, iO, tN, hp]) | refine anI ?_ | refine ⟨dcK, ?_⟩ | ((first | refine iP ?_ | refine iN ?_); try simp [go_sem, ↓iO, iO, tN, hp]))
          refine CallK.fn (litre_fn' p true (decide_eq_true hL)) [] [] [] (by kernel_rfl) ?_ ?_ ?_ (Or.inl rfl) ?_ <;> simp [go_sem, ↓iO, iO, tN, hp]
          repeat (refine anI ?_)
          try (refine ⟨dcK, ?_⟩)
          repeat (first | (refine nf1_sound rfl ?_; simp [go_sem, ↓iO, iO, tN, hp, hz]) | refine anI ?_ | refine ⟨dcK, ?_⟩ | ((first | refine iP ?_ | refine iN ?_); try simp [go_sem, ↓iO, iO, tN, hp, hz]))
          first | rw [RetQ_ret] | rw [RetQ_normal]
          refine ⟨[], ?_⟩
          simp [go_sem, ↓iO, iO, tN, hn]
        · rcases k with _ | j
          · have hok : Pc.OkAt l 0 := fun x hx => by
              rw [hp] at hx; obtain rfl := Option.some.inj hx
              exact ⟨by omega, fun _ h0 => by omega⟩
            repeat (first | (refine nf1_sound rfl ?_; simp [go_sem, ↓iO, iO, tN, hp]) | refine anI ?_ | refine ⟨dcK, ?_⟩ | ((first | refine iP ?_ | refine iN ?_); try simp [go_sem, ↓iO, iO, tN, hp]))
            refine CallK.fn (litre_fn' p true (decide_eq_true hL)) [] [] [] (by kernel_rfl) ?_ ?_ ?_ (Or.inl rfl) ?_ <;> simp [go_sem, ↓iO, iO, tN, hp]
            repeat (refine anI ?_)
            try (refine ⟨dcK, ?_⟩)
            repeat (first | (refine nf1_sound rfl ?_; simp [go_sem, ↓iO, iO, tN, hp, hz]) | refine anI ?_ | refine ⟨dcK, ?_⟩ | ((first | refine iP ?_ | refine iN ?_); try simp [go_sem, ↓iO, iO, tN, hp, hz]))
            rw [RoundQ_normal]; refine ⟨1, [], ?_, ?_, ?_⟩
            · exact ⟨by omega, ok_snoc ho hok⟩
            · omega
            simp [go_sem, ↓iO, iO, tN]
          · obtain ⟨q, hq⟩ := has_get (show j < l.length by omega)
            by_cases he : q.1 = p.1
            · have hn : Pc.valid l = false := Pc.valid_f fun h => (h.ok (j + 1) hb p hp).2 q (by omega) hq he
              repeat (first | (refine nf1_sound rfl ?_; simp [go_sem, ↓iO, iO, tN, hp, hq]) | refine anI ?_ | refine ⟨dcK, ?_⟩ | ((first | refine iP ?_ | refine iN ?_); try simp [go_sem, ↓iO, iO, tN, hp, hq]))
              refine CallK.fn (litre_fn' p true (decide_eq_true hL)) [] [] [] (by kernel_rfl) ?_ ?_ ?_ (Or.inl rfl) ?_ <;> simp [go_sem, ↓iO, iO, tN, hp, hq]
              repeat (refine anI ?_)
              try (refine ⟨dcK, ?_⟩)
              repeat (first | (refine nf1_sound rfl ?_; simp [go_sem, ↓iO, iO, tN, hp, hz, hq, he]) | refine anI ?_ | refine ⟨dcK, ?_⟩ | ((first | refine iP ?_ | refine iN ?_); try simp [go_sem, ↓iO, iO, tN, hp, hz, hq, he]))
              first | rw [RetQ_ret] | rw [RetQ_normal]
              refine ⟨[], ?_⟩
              simp [go_sem, ↓iO, iO, tN, hn]
            · have hok : Pc.OkAt l (j + 1) := fun x hx => by
                rw [hp] at hx; obtain rfl := Option.some.inj hx
                refine ⟨by omega, fun y _ hy => ?_⟩
                rw [Nat.add_sub_cancel, hq] at hy; obtain rfl := Option.some.inj hy
                exact he
              repeat (first | (refine nf1_sound rfl ?_; simp [go_sem, ↓iO, iO, tN, hp, hq]) | refine anI ?_ | refine ⟨dcK, ?_⟩ | ((first | refine iP ?_ | refine iN ?_); try simp [go_sem, ↓iO, iO, tN, hp, hq]))
              refine CallK.fn (litre_fn' p true (decide_eq_true hL)) [] [] [] (by kernel_rfl) ?_ ?_ ?_ (Or.inl rfl) ?_ <;> simp [go_sem, ↓iO, iO, tN, hp, hq]
              repeat (refine anI ?_)
              try (refine ⟨dcK, ?_⟩)
              repeat (first | (refine nf1_sound rfl ?_; simp [go_sem, ↓iO, iO, tN, hp, hz, hq, he]) | refine anI ?_ | refine ⟨dcK, ?_⟩ | ((first | refine iP ?_ | refine iN ?_); try simp [go_sem, ↓iO, iO, tN, hp, hz, hq, he]))
              rw [RoundQ_normal]; refine ⟨j + 1 + 1, [], ?_, ?_, ?_⟩
              · exact ⟨by omega, ok_snoc ho hok⟩
              · omega
              simp [go_sem, ↓iO, iO, tN]
      · have hn : Pc.valid l = false := Pc.valid_f fun h => hL (by have := (h.ok k hb p hp).1; omega)
        repeat (first | (refine nf1_sound rfl ?_; simp [go_sem, ↓iO, iO, tN, hp]) | refine anI ?_ | refine ⟨dcK, ?_⟩ | ((first | refine iP ?_ | refine iN ?_); try simp [go_sem, ↓iO, iO, tN, hp]))
        refine CallK.fn (litre_fn' p false (decide_eq_false hL)) [] [] [] (by kernel_rfl) ?_ ?_ ?_ (Or.inl rfl) ?_ <;> simp [go_sem, ↓iO, iO, tN, hp]
        repeat (refine anI ?_)
        try (refine ⟨dcK, ?_⟩)
        repeat (first | (refine nf1_sound rfl ?_; simp [go_sem, ↓iO, iO, tN, hp]) | refine anI ?_ | refine ⟨dcK, ?_⟩ | ((first | refine iP ?_ | refine iN ?_); try simp [go_sem, ↓iO, iO, tN, hp]))
        first | rw [RetQ_ret] | rw [RetQ_normal]
        refine ⟨[], ?_⟩
        simp [go_sem, ↓iO, iO, tN, hn]
    · obtain rfl : k = l.length := by omega
      have hs := sane_of_ok h2 ho
      have hv : Pc.valid l = decide (Pc.vol l ≤ 1000000) := by
        by_cases h : Pc.vol l ≤ 1000000
        · rw [Pc.valid_t ⟨h2, ho, h⟩, decide_eq_true h]
        · rw [Pc.valid_f fun hh => h hh.vol, decide_eq_false h]
      repeat (first | (refine nf1_sound rfl ?_; simp [go_sem, ↓iO, iO, tN]) | refine anI ?_ | refine ⟨dcK, ?_⟩ | ((first | refine iP ?_ | refine iN ?_); try simp [go_sem, ↓iO, iO, tN]))
      refine CallK.fn (total_fn l hs) [] [] [] (by kernel_rfl) ?_ ?_ ?_ (Or.inl rfl) ?_ <;> simp [go_sem, ↓iO, iO, tN]
      repeat (refine anI ?_)
      try (refine ⟨dcK, ?_⟩)
      repeat (first | (refine nf1_sound rfl ?_; simp [go_sem, ↓iO, iO, tN]) | refine anI ?_ | refine ⟨dcK, ?_⟩ | ((first | refine iP ?_ | refine iN ?_); try simp [go_sem, ↓iO, iO, tN]))
      first | rw [RetQ_ret] | rw [RetQ_normal]
      refine ⟨[], ?_⟩
      simp [go_sem, ↓iO, iO, tN, hv]
  · have hn : Pc.valid l = false := Pc.valid_f fun h => h2 h.len
    repeat (first | (refine nf1_sound rfl ?_; simp [go_sem, ↓iO, iO, tN]) | refine anI ?_ | refine ⟨dcK, ?_⟩ | ((first | refine iP ?_ | refine iN ?_); try simp [go_sem, ↓iO, iO, tN]))
    first | rw [RetQ_ret] | rw [RetQ_normal]
    refine ⟨[], ?_⟩
    simp [go_sem, ↓iO, iO, tN, hn]
end Go.Proofs.YtdjmklobfjigoaaGreatDoor
namespace Go.Proofs.YtdjmklobfjigoaaGreatDoor
open Go.RowKit Sy
theorem valid_fn' (l : List (Int × Int)) (hl : l.length ≤ 1000000) (b : Bool) (h : Pc.valid l = b) : FnOk Tryz.prog 27 [.t (encPs l)] [] (.t (.bool b)) [] := h ▸ valid_fn l hl
theorem push_bad {f g : List (Int × Int)} {back : Bool} (h : ¬ (Pc.valid f = true ∧ Pc.valid g = true)) : Pc.push f g back = ([], [], 9) := by
  unfold Pc.push; rw [if_neg h]
theorem push_long {f g : List (Int × Int)} {back : Bool} (h1 : Pc.valid f = true) (h2 : Pc.valid g = true) (h : ¬ ((Pc.shift f g back).1.length ≤ 200 ∧ (Pc.shift f g back).2.length ≤ 200)) : Pc.push f g back = ([], [], 4) := by
  unfold Pc.push; rw [if_pos ⟨h1, h2⟩, if_neg h]
theorem push_ok {f g : List (Int × Int)} {back : Bool} (h1 : Pc.valid f = true) (h2 : Pc.valid g = true) (h : (Pc.shift f g back).1.length ≤ 200 ∧ (Pc.shift f g back).2.length ≤ 200) : Pc.push f g back = ((Pc.shift f g back).1, (Pc.shift f g back).2, 0) := by
  unfold Pc.push; rw [if_pos ⟨h1, h2⟩, if_pos h]
theorem sane_app {f g : List (Int × Int)} (h1 : Pc.Vd f) (h2 : Pc.Vd g) : Pc.Sane (f ++ g) := by
  refine ⟨by rw [List.length_append]; have := h1.len; have := h2.len; omega, fun p hp => ?_⟩
  rcases List.mem_append.1 hp with hp | hp
  · exact h1.sane.each p hp
  · exact h2.sane.each p hp
end Go.Proofs.YtdjmklobfjigoaaGreatDoor
namespace Go.Proofs.YtdjmklobfjigoaaGreatDoor
open Go.RowKit Sy
open Go.IntWalk renaming iteOmega → iO, toNatUp → tN
theorem push_fn (f g : List (Int × Int)) (back : Bool) (hf : f.length ≤ 1000000) (hg : g.length ≤ 1000000) : FnOk Tryz.prog 104 [.t (encPs f), .t (encPs g), .t (.bool back)] []
    (.tup [.own 1000, .own 1001, .t (.int (Pc.push f g back).2.2)]) [(1000, blkP (Pc.push f g back).1), (1001, blkP (Pc.push f g back).2.1)] := by
  refine FnOk.intro fact_mixed Tryz.func104 rfl Tryz.ntmps104 (by rfl) (by simp) ?_
  by_cases vf : Pc.valid f = true
  · by_cases vg : Pc.valid g = true
    · have hvf := (Pc.valid_iff.1 vf).sane.vol
      have hvg := (Pc.valid_iff.1 vg).sane.vol
      have hlf := (Pc.valid_iff.1 vf).len
      have hlg := (Pc.valid_iff.1 vg).len
      have s1 := sane_app (Pc.valid_iff.1 vf) (Pc.valid_iff.1 vg)
      have s2 := sane_app (Pc.valid_iff.1 vg) (Pc.valid_iff.1 vf)
      repeat (first | (refine nf1_sound rfl ?_; simp [go_sem, ↓iO, iO, tN]) | refine anI ?_ | refine ⟨dcK, ?_⟩ | ((first | refine iP ?_ | refine iN ?_); try simp [go_sem, ↓iO, iO, tN]))
      refine CallK.fn (valid_fn' f hf true vf) [] [] [] (by kernel_rfl) ?_ ?_ ?_ (Or.inl rfl) ?_ <;> simp [go_sem, ↓iO, iO, tN]
      repeat (refine anI ?_)
      try (refine ⟨dcK, ?_⟩)
      refine CallK.fn (valid_fn' g hg true vg) [] [] [] (by kernel_rfl) ?_ ?_ ?_ (Or.inl rfl) ?_ <;> simp [go_sem, ↓iO, iO, tN]
      repeat (refine anI ?_)
      try (refine ⟨dcK, ?_⟩)
      repeat (first | (refine nf1_sound rfl ?_; simp [go_sem, ↓iO, iO, tN]) | refine anI ?_ | refine ⟨dcK, ?_⟩ | ((first | refine iP ?_ | refine iN ?_); try simp [go_sem, ↓iO, iO, tN]))
      cases back with
      | true =>
        have hsh : Pc.shift f g true = (Pc.join (Pc.tails (f ++ g) (Pc.vol g)), Pc.join (Pc.heads (f ++ g) (Pc.vol g))) := rfl
        repeat (first | (refine nf1_sound rfl ?_; simp [go_sem, ↓iO, iO, tN]) | refine anI ?_ | refine ⟨dcK, ?_⟩ | ((first | refine iP ?_ | refine iN ?_); try simp [go_sem, ↓iO, iO, tN]))
        refine CallK.fn (clone_fn f hf) [(1000, 622)] [] [] (by kernel_rfl) ?_ ?_ ?_ (Or.inl rfl) ?_ <;> simp [go_sem, ↓iO, iO, tN]
        repeat (refine anI ?_)
        try (refine ⟨dcK, ?_⟩)
        refine CallK.fn (total_fn g (Pc.valid_iff.1 vg).sane) [] [] [] (by kernel_rfl) ?_ ?_ ?_ (Or.inl rfl) ?_ <;> simp [go_sem, ↓iO, iO, tN]
        repeat (refine anI ?_)
        try (refine ⟨dcK, ?_⟩)
        refine CallK.fn (cut_fn (f ++ g) (Pc.vol g) s1 hvg.1 (by omega)) [(1000, 600), (1001, 601)] [124] [] (by kernel_rfl) ?_ ?_ ?_ (Or.inr ⟨?_, ?_⟩) ?_ <;> simp [go_sem, ↓iO, iO, tN]
        repeat (refine anI ?_)
        try (refine ⟨dcK, ?_⟩)
        by_cases hA : (Pc.join (Pc.tails (f ++ g) (Pc.vol g))).length ≤ 200
        · by_cases hB : (Pc.join (Pc.heads (f ++ g) (Pc.vol g))).length ≤ 200
          · have hp := push_ok (back := true) vf vg (by rw [hsh]; exact ⟨hA, hB⟩)
            rw [hsh] at hp
            repeat (first | (refine nf1_sound rfl ?_; simp [go_sem, ↓iO, iO, tN]) | refine anI ?_ | refine ⟨dcK, ?_⟩ | ((first | refine iP ?_ | refine iN ?_); try simp [go_sem, ↓iO, iO, tN]))
            first | rw [RetQ_ret] | rw [RetQ_normal]
            refine ⟨[(1000, some 601), (1001, some 600)], ?_⟩
            simp [go_sem, ↓iO, iO, tN, hp]
          · have hp := push_long (back := true) vf vg (by rw [hsh]; exact fun h => hB h.2)
            repeat (first | (refine nf1_sound rfl ?_; simp [go_sem, ↓iO, iO, tN]) | refine anI ?_ | refine ⟨dcK, ?_⟩ | ((first | refine iP ?_ | refine iN ?_); try simp [go_sem, ↓iO, iO, tN]))
            first | rw [RetQ_ret] | rw [RetQ_normal]
            refine ⟨[(1000, none), (1001, none)], ?_⟩
            simp [go_sem, ↓iO, iO, tN, hp]
        · have hp := push_long (back := true) vf vg (by rw [hsh]; exact fun h => hA h.1)
          repeat (first | (refine nf1_sound rfl ?_; simp [go_sem, ↓iO, iO, tN]) | refine anI ?_ | refine ⟨dcK, ?_⟩ | ((first | refine iP ?_ | refine iN ?_); try simp [go_sem, ↓iO, iO, tN]))
          try rw [if_pos (by omega)]
          repeat (first | (refine nf1_sound rfl ?_; simp [go_sem, ↓iO, iO, tN]) | refine anI ?_ | refine ⟨dcK, ?_⟩ | ((first | refine iP ?_ | refine iN ?_); try simp [go_sem, ↓iO, iO, tN]))
          first | rw [RetQ_ret] | rw [RetQ_normal]
          refine ⟨[(1000, none), (1001, none)], ?_⟩
          simp [go_sem, ↓iO, iO, tN, hp]
      | false =>
        have hsh : Pc.shift f g false = (Pc.join (Pc.heads (g ++ f) (Pc.vol f)), Pc.join (Pc.tails (g ++ f) (Pc.vol f))) := rfl
        repeat (first | (refine nf1_sound rfl ?_; simp [go_sem, ↓iO, iO, tN]) | refine anI ?_ | refine ⟨dcK, ?_⟩ | ((first | refine iP ?_ | refine iN ?_); try simp [go_sem, ↓iO, iO, tN]))
        refine CallK.fn (clone_fn g hg) [(1000, 622)] [] [] (by kernel_rfl) ?_ ?_ ?_ (Or.inl rfl) ?_ <;> simp [go_sem, ↓iO, iO, tN]
        repeat (refine anI ?_)
        try (refine ⟨dcK, ?_⟩)
        refine CallK.fn (total_fn f (Pc.valid_iff.1 vf).sane) [] [] [] (by kernel_rfl) ?_ ?_ ?_ (Or.inl rfl) ?_ <;> simp [go_sem, ↓iO, iO, tN]
        repeat (refine anI ?_)
        try (refine ⟨dcK, ?_⟩)
        refine CallK.fn (cut_fn (g ++ f) (Pc.vol f) s2 hvf.1 (by omega)) [(1000, 600), (1001, 601)] [134] [] (by kernel_rfl) ?_ ?_ ?_ (Or.inr ⟨?_, ?_⟩) ?_ <;> simp [go_sem, ↓iO, iO, tN]
        repeat (refine anI ?_)
        try (refine ⟨dcK, ?_⟩)
        by_cases hA : (Pc.join (Pc.heads (g ++ f) (Pc.vol f))).length ≤ 200
        · by_cases hB : (Pc.join (Pc.tails (g ++ f) (Pc.vol f))).length ≤ 200
          · have hp := push_ok (back := false) vf vg (by rw [hsh]; exact ⟨hA, hB⟩)
            rw [hsh] at hp
            repeat (first | (refine nf1_sound rfl ?_; simp [go_sem, ↓iO, iO, tN]) | refine anI ?_ | refine ⟨dcK, ?_⟩ | ((first | refine iP ?_ | refine iN ?_); try simp [go_sem, ↓iO, iO, tN]))
            first | rw [RetQ_ret] | rw [RetQ_normal]
            refine ⟨[(1000, some 600), (1001, some 601)], ?_⟩
            simp [go_sem, ↓iO, iO, tN, hp]
          · have hp := push_long (back := false) vf vg (by rw [hsh]; exact fun h => hB h.2)
            repeat (first | (refine nf1_sound rfl ?_; simp [go_sem, ↓iO, iO, tN]) | refine anI ?_ | refine ⟨dcK, ?_⟩ | ((first | refine iP ?_ | refine iN ?_); try simp [go_sem, ↓iO, iO, tN]))
            first | rw [RetQ_ret] | rw [RetQ_normal]
            refine ⟨[(1000, none), (1001, none)], ?_⟩
            simp [go_sem, ↓iO, iO, tN, hp]
        · have hp := push_long (back := false) vf vg (by rw [hsh]; exact fun h => hA h.1)
          repeat (first | (refine nf1_sound rfl ?_; simp [go_sem, ↓iO, iO, tN]) | refine anI ?_ | refine ⟨dcK, ?_⟩ | ((first | refine iP ?_ | refine iN ?_); try simp [go_sem, ↓iO, iO, tN]))
          try rw [if_pos (by omega)]
          repeat (first | (refine nf1_sound rfl ?_; simp [go_sem, ↓iO, iO, tN]) | refine anI ?_ | refine ⟨dcK, ?_⟩ | ((first | refine iP ?_ | refine iN ?_); try simp [go_sem, ↓iO, iO, tN]))
          first | rw [RetQ_ret] | rw [RetQ_normal]
          refine ⟨[(1000, none), (1001, none)], ?_⟩
          simp [go_sem, ↓iO, iO, tN, hp]
    · have vg' : Pc.valid g = false := by simpa using vg
      have hp := push_bad (back := back) (fun h => vg h.2 : ¬ (Pc.valid f = true ∧ Pc.valid g = true))
      repeat (first | (refine nf1_sound rfl ?_; simp [go_sem, ↓iO, iO, tN]) | refine anI ?_ | refine ⟨dcK, ?_⟩ | ((first | refine iP ?_ | refine iN ?_); try simp [go_sem, ↓iO, iO, tN]))
      refine CallK.fn (valid_fn' f hf true vf) [] [] [] (by kernel_rfl) ?_ ?_ ?_ (Or.inl rfl) ?_ <;> simp [go_sem, ↓iO, iO, tN]
      repeat (refine anI ?_)
      try (refine ⟨dcK, ?_⟩)
      refine CallK.fn (valid_fn' g hg false vg') [] [] [] (by kernel_rfl) ?_ ?_ ?_ (Or.inl rfl) ?_ <;> simp [go_sem, ↓iO, iO, tN]
      repeat (refine anI ?_)
      try (refine ⟨dcK, ?_⟩)
      repeat (first | (refine nf1_sound rfl ?_; simp [go_sem, ↓iO, iO, tN]) | refine anI ?_ | refine ⟨dcK, ?_⟩ | ((first | refine iP ?_ | refine iN ?_); try simp [go_sem, ↓iO, iO, tN]))
      first | rw [RetQ_ret] | rw [RetQ_normal]
      refine ⟨[(1000, none), (1001, none)], ?_⟩
      simp [go_sem, ↓iO, iO, tN, hp]
  · have vf' : Pc.valid f = false := by simpa using vf
    have hp := push_bad (back := back) (fun h => vf h.1 : ¬ (Pc.valid f = true ∧ Pc.valid g = true))
    repeat (first | (refine nf1_sound rfl ?_; simp [go_sem, ↓iO, iO, tN]) | refine anI ?_ | refine ⟨dcK, ?_⟩ | ((first | refine iP ?_ | refine iN ?_); try simp [go_sem, ↓iO, iO, tN]))
    refine CallK.fn (valid_fn' f hf false vf') [] [] [] (by kernel_rfl) ?_ ?_ ?_ (Or.inl rfl) ?_ <;> simp [go_sem, ↓iO, iO, tN]
    repeat (refine anI ?_)
    try (refine ⟨dcK, ?_⟩)
    repeat (first | (refine nf1_sound rfl ?_; simp [go_sem, ↓iO, iO, tN]) | refine anI ?_ | refine ⟨dcK, ?_⟩ | ((first | refine iP ?_ | refine iN ?_); try simp [go_sem, ↓iO, iO, tN]))
    first | rw [RetQ_ret] | rw [RetQ_normal]
    refine ⟨[(1000, none), (1001, none)], ?_⟩
    simp [go_sem, ↓iO, iO, tN, hp]
def swapV {α : Type} (l : List α) (k : Nat) : List α := (l.reverse.take k ++ (l.drop k).take (l.length - 2 * k)) ++ l.reverse.drop (l.length - k)
theorem swapV_get {α : Type} {l : List α} {k i : Nat} (hk : 2 * k ≤ l.length) (hi : i < l.length) : (swapV l k)[i]? = if i < k ∨ l.length - k ≤ i then l.reverse[i]? else l[i]? := by
  unfold swapV
  have h1 : (l.reverse.take k).length = k := by rw [List.length_take, List.length_reverse]; omega
  have h2 : ((l.drop k).take (l.length - 2 * k)).length = l.length - 2 * k := by rw [List.length_take, List.length_drop]; omega
  by_cases ha : i < k
  · rw [if_pos (.inl ha), List.getElem?_append_left (by rw [List.length_append]; omega), List.getElem?_append_left (by omega), List.getElem?_take, if_pos ha]
  · by_cases hb : l.length - k ≤ i
    · rw [if_pos (.inr hb), List.getElem?_append_right (by rw [List.length_append]; omega), List.length_append, h1, h2, List.getElem?_drop]
      congr 1; omega
    · rw [if_neg (by omega), List.getElem?_append_left (by rw [List.length_append]; omega), List.getElem?_append_right (by omega), h1, List.getElem?_take, if_pos (by omega), List.getElem?_drop]
      congr 1; omega
theorem swapV_len {α : Type} {l : List α} {k : Nat} (hk : 2 * k ≤ l.length) : (swapV l k).length = l.length := by
  unfold swapV
  simp only [List.length_append, List.length_take, List.length_drop, List.length_reverse]
  omega
theorem swap_ex {α : Type} (l : List α) : ∃ Y : Nat → List α, Y 0 = l ∧ (∀ k, 2 * k + 1 < l.length → ∃ p q, (Y k)[k]? = some p ∧ (Y k)[l.length - 1 - k]? = some q ∧ ((Y k).set k q).set (l.length - 1 - k) p = Y (k + 1)) ∧ (∀ k, 2 * k ≤ l.length → (Y k).length = l.length) ∧ ∀ k, 2 * k ≤ l.length → l.length ≤ 2 * k + 1 → Y k = l.reverse := by
  refine ⟨swapV l, ?_, ?_, fun k hk => swapV_len hk, ?_⟩
  · simp [swapV]
  · intro k hk
    obtain ⟨p, hp⟩ := has_get (l := swapV l k) (k := k) (by rw [swapV_len (by omega)]; omega)
    obtain ⟨q, hq⟩ := has_get (l := swapV l k) (k := l.length - 1 - k) (by rw [swapV_len (by omega)]; omega)
    refine ⟨p, q, hp, hq, ?_⟩
    rw [swapV_get (by omega) (by omega), if_neg (by omega)] at hp hq
    apply List.ext_getElem?
    intro i
    by_cases hi : i < l.length
    · rw [swapV_get (by omega) hi, List.getElem?_set, List.length_set, swapV_len (by omega)]
      by_cases e1 : l.length - 1 - k = i
      · rw [if_pos e1, if_pos (by omega), if_pos (by omega), List.getElem?_reverse hi, ← hp]
        congr 1; omega
      · rw [if_neg e1, List.getElem?_set, swapV_len (by omega)]
        by_cases e2 : k = i
        · rw [if_pos e2, if_pos (by omega), if_pos (by omega), List.getElem?_reverse hi, ← hq]
          congr 1; omega
        · rw [if_neg e2, swapV_get (by omega) hi]
          by_cases h3 : i < k ∨ l.length - k ≤ i
          · rw [if_pos h3, if_pos (by omega)]
          · rw [if_neg h3, if_neg (by omega)]
    · rw [List.getElem?_eq_none (by rw [List.length_set, List.length_set, swapV_len (by omega)]; omega), List.getElem?_eq_none (by rw [swapV_len (by omega)]; omega)]
  · intro k h1 h2
    apply List.ext_getElem?
    intro i
    by_cases hi : i < l.length
    · rw [swapV_get h1 hi]
      by_cases h3 : i < k ∨ l.length - k ≤ i
      · rw [if_pos h3]
      · rw [if_neg h3, List.getElem?_reverse hi]
        congr 1; omega
    · rw [List.getElem?_eq_none (by rw [swapV_len h1]; omega), List.getElem?_eq_none (by rw [List.length_reverse]; omega)]
theorem reverse_fn (l : List (Int × Int)) (hl : l.length ≤ 1000000) : FnOk Tryz.prog 38 [.own 0] [(0, blkP l)] (.tup []) [(0, blkP l.reverse)] := by
  obtain ⟨Y, y0, ys, yl, ye⟩ := swap_ex l
  refine FnOk.intro fact_mixed Tryz.func38 rfl Tryz.ntmps38 (by rfl) (by simp) ?_
  repeat (first | (refine nf1_sound rfl ?_; simp [go_sem, ↓iO, iO, tN]) | refine anI ?_ | refine ⟨dcK, ?_⟩ | ((first | refine iP ?_ | refine iN ?_); try simp [go_sem, ↓iO, iO, tN]))
  refine nf1_sound' _ _ _ ?_; simp only [nf1]
  refine CW.loop (ι := Nat) (fun k => ⟨[(0, .own 0), (2, .t (.int k)), (3, .t (.int ((l.length : Int) - 1 - k)))], [(0, blkP (Y k))]⟩) (fun k => 2 * k ≤ l.length) (fun k => l.length - k) 0 [(0, some 0)] (by omega) ?_ ?_
  · simp [go_sem, ↓iO, iO, tN, y0]
  intro k hk
  have hyl := yl k hk
  by_cases hb : 2 * k + 1 < l.length
  · obtain ⟨p, q, hp, hq, hs⟩ := ys k hb
    obtain ⟨V, hV⟩ : ∃ V, Y k = V := ⟨_, rfl⟩
    rw [hV] at hp hq hs hyl ⊢
    obtain ⟨p1, p2⟩ := p
    obtain ⟨q1, q2⟩ := q
    have e1 : ((l.length : Int) - 1 - k).toNat = l.length - 1 - k := by omega
    have hq2 : ∀ X, ((V.map encP).set k X)[l.length - 1 - k]? = some (.agg [.int q1, .int q2]) := fun X => by
      rw [List.getElem?_set_ne (by omega), List.getElem?_map, hq]; rfl
    have hs2 : ((V.map encP).set k (encP (q1, q2))).set (l.length - 1 - k) (encP (p1, p2)) = (Y (k + 1)).map encP := by rw [← hs, List.map_set, List.map_set]
    simp only [encP] at hs2
    repeat (first | (refine nf1_sound rfl ?_; simp [go_sem, ↓iO, iO, tN, hp, hq, e1, ↓hq2]) | refine anI ?_ | refine ⟨dcK, ?_⟩ | ((first | refine iP ?_ | refine iN ?_); try simp [go_sem, ↓iO, iO, tN, hp, hq, e1, ↓hq2]))
    rw [RoundQ_normal]; refine ⟨k + 1, [(0, some 0)], ?_, ?_, ?_⟩
    · omega
    · omega
    simp [go_sem, ↓iO, iO, tN, hs2]
    omega
  · have hy := ye k hk (by omega)
    rw [hy]
    repeat (first | (refine nf1_sound rfl ?_; simp [go_sem, ↓iO, iO, tN]) | refine anI ?_ | refine ⟨dcK, ?_⟩ | ((first | refine iP ?_ | refine iN ?_); try simp [go_sem, ↓iO, iO, tN]))
    first | rw [RetQ_ret] | rw [RetQ_normal]
    refine ⟨[(0, some 0)], ?_⟩
    simp [go_sem, ↓iO, iO, tN]
theorem aturned_fn (l : List (Int × Int)) (hl : l.length ≤ 1000000) : FnOk Tryz.prog 103 [.t (encPs l)] [] (.own 1000) [(1000, blkP l.reverse)] := by
  have c1 := clone_fn l hl
  have c2 := reverse_fn l hl
  refine FnOk.intro fact_mixed Tryz.func103 rfl Tryz.ntmps103 (by rfl) (by simp) ?_
  repeat (first | (refine nf1_sound rfl ?_; simp [go_sem, ↓iO, iO, tN]) | refine anI ?_ | refine ⟨dcK, ?_⟩ | ((first | refine iP ?_ | refine iN ?_); try simp [go_sem, ↓iO, iO, tN]))
  refine CallK.fn (c1) [(1000, 600)] [] [] (by kernel_rfl) ?_ ?_ ?_ (Or.inl rfl) ?_ <;> simp [go_sem, ↓iO, iO, tN]
  repeat (refine anI ?_)
  try (refine ⟨dcK, ?_⟩)
  repeat (first | (refine nf1_sound rfl ?_; simp [go_sem, ↓iO, iO, tN]) | refine anI ?_ | refine ⟨dcK, ?_⟩ | ((first | refine iP ?_ | refine iN ?_); try simp [go_sem, ↓iO, iO, tN]))
  refine CallK.fn (c2) [(0, 600)] [] [] (by kernel_rfl) ?_ ?_ ?_ (Or.inl rfl) ?_ <;> simp [go_sem, ↓iO, iO, tN]
  repeat (refine anI ?_)
  try (refine ⟨dcK, ?_⟩)
  repeat (first | (refine nf1_sound rfl ?_; simp [go_sem, ↓iO, iO, tN]) | refine anI ?_ | refine ⟨dcK, ?_⟩ | ((first | refine iP ?_ | refine iN ?_); try simp [go_sem, ↓iO, iO, tN]))
  first | rw [RetQ_ret] | rw [RetQ_normal]
  refine ⟨[(1000, some 600)], ?_⟩
  simp [go_sem, ↓iO, iO, tN]
noncomputable def outV (f l : List (Int × Int)) (back : Bool) : List (Int × Int) := if back then (Pc.push f l true).2.1 else (Pc.push f l.reverse false).2.1.reverse
noncomputable def fillV (f l : List (Int × Int)) (back : Bool) : List (Int × Int) := if back then (Pc.push f l true).1 else (Pc.push f l.reverse false).1
noncomputable def pushE (f l : List (Int × Int)) (back : Bool) : Int := if back then (Pc.push f l true).2.2 else (Pc.push f l.reverse false).2.2
theorem apush_fn (d : LineD) (hd : LineOk d) (order : T) (w6 : order.width = 1) (fi gi oo : List (Option (List (Int × Int)))) (hg : gi.length = d.segs.length) (hfl : fi.length = d.segs.length) (s : Nat) (r : Int) (f l : List (Int × Int)) (hr : d.rates[s]? = some r) (hf : fi[s]? = some (some f))
    (hf6 : f.length ≤ 1000000) (hl6 : l.length ≤ 1000000) (ho6 : (outV f l (decide (r < 0))).length ≤ 1000000) (he : pushE f l (decide (r < 0)) = 0) :
    FnOk Tryz.prog 71 [.pt 0 [] 0, .t (.int s), .t (encPs l)] [(0, lineB d.net d.plan (.sl 1 (d.feeds.map encI)) order), (1, blkG fi), (2, blkG gi), (3, blkG oo)]
      (.t (.int 0)) [(0, lineB d.net d.plan (.sl 1 (d.feeds.map encI)) order), (1, blkG (fi.set s (some (fillV f l (decide (r < 0)))))), (2, blkG (gi.set s (some (outV f l (decide (r < 0)))))), (3, blkG oo)] := by
  have w1 := hd.w1
  have w2 := hd.w2
  have w3 := hd.w3
  have w4 := hd.w4
  have w5 := hd.w5
  have q1 : s < d.rates.length := (List.getElem?_eq_some_iff.1 hr).1
  have q2 : s < fi.length := (List.getElem?_eq_some_iff.1 hf).1
  have q3 : s < gi.length := by omega
  obtain ⟨og, hgo⟩ : ∃ og, gi[s]? = some og := has_get q3
  have hmx := hd.maxS
  have r2 : d.rates[s] = r := (List.getElem?_eq_some_iff.1 hr).2
  have f2 : fi[s] = some f := (List.getElem?_eq_some_iff.1 hf).2
  have hlr := hd.lenR
  refine FnOk.intro fact_mixed Tryz.func71 rfl Tryz.ntmps71 (by rfl) (by simp) ?_
  by_cases hn : r < 0
  · have e0 : decide (r < 0) = true := by simpa using hn
    rw [e0] at he ho6
    rw [e0]
    unfold outV at ho6 ⊢
    unfold fillV
    unfold pushE at he
    simp only [if_true] at he ho6 ⊢
    have p1 := push_fn f l true hf6 hl6
    rw [he] at p1
    obtain ⟨F', hF⟩ : ∃ F', (Pc.push f l true).1 = F' := ⟨_, rfl⟩
    obtain ⟨O, hO⟩ : ∃ O, (Pc.push f l true).2.1 = O := ⟨_, rfl⟩
    rw [hF, hO] at p1
    rw [hF, hO]
    repeat (first | (refine nf1_sound rfl ?_; simp [go_sem, ↓iO, iO, tN, hr, r2, hn, hf, f2, w1, w2, w3, w4, w5, w6, q1, q2, widths_gv, width_gv]) | refine anI ?_ | refine ⟨dcK, ?_⟩ | ((first | refine iP ?_ | refine iN ?_); try simp [go_sem, ↓iO, iO, tN, hr, r2, hn, hf, f2, w1, w2, w3, w4, w5, w6, q1, q2, widths_gv, width_gv]))
    refine CallK.fn (p1) [(1000, 600), (1001, 601)] [] [] (by kernel_rfl) ?_ ?_ ?_ (Or.inl rfl) ?_ <;> simp [go_sem, ↓iO, iO, tN, hr, r2, hn, hf, f2, w1, w2, w3, w4, w5, w6, q1, q2, widths_gv, width_gv]
    repeat (refine anI ?_)
    try (refine ⟨dcK, ?_⟩)
    refine CW.weak (ρ := [(0, some 0), (1, some 1), (2, some 2), (3, some 3)]) (σ' := ⟨[(0, .pt 0 [] 0), (1, .t (.int s)), (7, .t (.bool true)), (8, .t (encPs F')), (9, .t (encPs O)), (10, .t (.int 0))], [(0, lineB d.net d.plan (.sl 1 (d.feeds.map encI)) order), (1, blkG fi), (2, blkG gi), (3, blkG oo)]⟩) ?_ ?_
    · simp [go_sem, ↓iO, iO, tN]
    repeat (first | (refine nf1_sound rfl ?_; simp [go_sem, ↓iO, iO, tN, hr, r2, hn, hf, f2, w1, w2, w3, w4, w5, w6, q1, q2, q3, hgo, hg, hfl, widths_gv, width_gv]) | refine anI ?_ | refine ⟨dcK, ?_⟩ | ((first | refine iP ?_ | refine iN ?_); try simp [go_sem, ↓iO, iO, tN, hr, r2, hn, hf, f2, w1, w2, w3, w4, w5, w6, q1, q2, q3, hgo, hg, hfl, widths_gv, width_gv]))
    refine ⟨by cases og <;> rfl, ?_⟩
    refine ⟨dcK, ?_⟩
    repeat (first | (refine nf1_sound rfl ?_; simp [go_sem, ↓iO, iO, tN]) | refine anI ?_ | refine ⟨dcK, ?_⟩ | ((first | refine iP ?_ | refine iN ?_); try simp [go_sem, ↓iO, iO, tN]))
    first | rw [RetQ_ret] | rw [RetQ_normal]
    refine ⟨[(0, some 0), (1, some 1), (2, some 2), (3, some 3)], ?_⟩
    simp [go_sem, ↓iO, iO, tN, List.map_set]
  · have e0 : decide (r < 0) = false := by simpa using hn
    rw [e0] at he ho6
    rw [e0]
    unfold outV at ho6 ⊢
    unfold fillV
    unfold pushE at he
    simp only [if_false, Bool.false_eq_true] at he ho6 ⊢
    have p1 := push_fn f l.reverse false hf6 (by simpa using hl6)
    rw [he] at p1
    obtain ⟨F', hF⟩ : ∃ F', (Pc.push f l.reverse false).1 = F' := ⟨_, rfl⟩
    obtain ⟨O, hO⟩ : ∃ O, (Pc.push f l.reverse false).2.1 = O := ⟨_, rfl⟩
    rw [hF, hO] at p1
    rw [hO] at ho6
    rw [hF, hO]
    have t1 := aturned_fn l hl6
    obtain ⟨L, hL⟩ : ∃ L, l.reverse = L := ⟨_, rfl⟩
    rw [hL] at p1 t1
    have t2 := aturned_fn O (by simpa using ho6)
    obtain ⟨O', hO'⟩ : ∃ O', O.reverse = O' := ⟨_, rfl⟩
    rw [hO'] at t2
    rw [hO']
    repeat (first | (refine nf1_sound rfl ?_; simp [go_sem, ↓iO, iO, tN, hr, r2, hn, hf, f2, w1, w2, w3, w4, w5, w6, q1, q2, widths_gv, width_gv]) | refine anI ?_ | refine ⟨dcK, ?_⟩ | ((first | refine iP ?_ | refine iN ?_); try simp [go_sem, ↓iO, iO, tN, hr, r2, hn, hf, f2, w1, w2, w3, w4, w5, w6, q1, q2, widths_gv, width_gv]))
    refine CallK.fn (t1) [(1000, 600)] [] [] (by kernel_rfl) ?_ ?_ ?_ (Or.inl rfl) ?_ <;> simp [go_sem, ↓iO, iO, tN, hr, r2, hn]
    repeat (refine anI ?_)
    try (refine ⟨dcK, ?_⟩)
    repeat (first | (refine nf1_sound rfl ?_; simp [go_sem, ↓iO, iO, tN, hr, r2, hn, hf, f2, w1, w2, w3, w4, w5, w6, q1, q2, widths_gv, width_gv]) | refine anI ?_ | refine ⟨dcK, ?_⟩ | ((first | refine iP ?_ | refine iN ?_); try simp [go_sem, ↓iO, iO, tN, hr, r2, hn, hf, f2, w1, w2, w3, w4, w5, w6, q1, q2, widths_gv, width_gv]))
    refine CallK.fn (p1) [(1000, 601), (1001, 602)] [600] [] (by kernel_rfl) ?_ ?_ ?_ (Or.inr ⟨?_, ?_⟩) ?_ <;> simp [go_sem, ↓iO, iO, tN, hr, r2, hn, hf, f2, w1, w2, w3, w4, w5, w6, q1, q2, widths_gv, width_gv]
    repeat (refine anI ?_)
    try (refine ⟨dcK, ?_⟩)
    repeat (first | (refine nf1_sound rfl ?_; simp [go_sem, ↓iO, iO, tN, hn]) | refine anI ?_ | refine ⟨dcK, ?_⟩ | ((first | refine iP ?_ | refine iN ?_); try simp [go_sem, ↓iO, iO, tN, hn]))
    refine CallK.fn (t2) [(1000, 603)] [602] [] (by kernel_rfl) ?_ ?_ ?_ (Or.inr ⟨?_, ?_⟩) ?_ <;> simp [go_sem, ↓iO, iO, tN]
    repeat (refine anI ?_)
    try (refine ⟨dcK, ?_⟩)
    refine CW.weak (ρ := [(0, some 0), (1, some 1), (2, some 2), (3, some 3)]) (σ' := ⟨[(0, .pt 0 [] 0), (1, .t (.int s)), (7, .t (.bool false)), (8, .t (encPs F')), (9, .t (encPs O')), (10, .t (.int 0))], [(0, lineB d.net d.plan (.sl 1 (d.feeds.map encI)) order), (1, blkG fi), (2, blkG gi), (3, blkG oo)]⟩) ?_ ?_
    · simp [go_sem, ↓iO, iO, tN]
    repeat (first | (refine nf1_sound rfl ?_; simp [go_sem, ↓iO, iO, tN, hr, r2, hn, hf, f2, w1, w2, w3, w4, w5, w6, q1, q2, q3, hgo, hg, hfl, widths_gv, width_gv]) | refine anI ?_ | refine ⟨dcK, ?_⟩ | ((first | refine iP ?_ | refine iN ?_); try simp [go_sem, ↓iO, iO, tN, hr, r2, hn, hf, f2, w1, w2, w3, w4, w5, w6, q1, q2, q3, hgo, hg, hfl, widths_gv, width_gv]))
    refine ⟨by cases og <;> rfl, ?_⟩
    refine ⟨dcK, ?_⟩
    repeat (first | (refine nf1_sound rfl ?_; simp [go_sem, ↓iO, iO, tN]) | refine anI ?_ | refine ⟨dcK, ?_⟩ | ((first | refine iP ?_ | refine iN ?_); try simp [go_sem, ↓iO, iO, tN]))
    first | rw [RetQ_ret] | rw [RetQ_normal]
    refine ⟨[(0, some 0), (1, some 1), (2, some 2), (3, some 3)], ?_⟩
    simp [go_sem, ↓iO, iO, tN, List.map_set]
end Go.Proofs.YtdjmklobfjigoaaGreatDoor
namespace Go.Proofs.YtdjmklobfjigoaaGreatDoor
open Go.RowKit Sy
@[go_sem] def blkI (l : List Int) : Blk := .list 3 1 (l.map encI)
@[go_sem] theorem flat_encI : ∀ l : List Int, flatTs (l.map encI)
  | [] => by simp [flatTs]
  | p :: r => by simp [flatTs, flatT, encI, flat_encI r]
end Go.Proofs.YtdjmklobfjigoaaGreatDoor
/- Who gets the next litre: plain, and the contracts of the program's and the reference's functions. No condition. -/
namespace Go.Proofs.YtdjmklobfjigoaaGreatDoor
open Go.RowKit Sy
open Go.IntWalk renaming iteOmega → iO, toNatUp → tN
@[go_sem] theorem widths_encI : ∀ l : List Int, T.widths (l.map encI) = l.length
  | [] => rfl
  | x :: r => by simp [T.widths, encI, T.width, widths_encI r]; omega
@[go_sem] theorem widths_encI_take (n : Nat) (l : List Int) : T.widths ((l.map encI).take n) = min n l.length := by
  rw [← List.map_take, widths_encI, List.length_take]
namespace Dl
def rt (r : List Int) (i : Nat) : Int := r.getD i 0
theorem rt_get {r : List Int} {i : Nat} {x : Int} (h : r[i]? = some x) : rt r i = x := by unfold rt; rw [List.getD_eq_getElem?_getD, h]; rfl
theorem get_rt {r : List Int} {i : Nat} (h : i < r.length) : r[i]? = some (rt r i) := by
  obtain ⟨x, hx⟩ := has_get h
  rw [hx, rt_get hx]
theorem rt_app {r z : List Int} {i : Nat} (h : i < r.length) : rt (r ++ z) i = rt r i := rt_get (by rw [List.getElem?_append_left h]; exact get_rt h)
def nx (R C : List Int) : Nat → Int
  | 0 => -1
  | k + 1 => if 0 < rt R k ∧ (nx R C k < 0 ∨ (rt C k + 1) * rt R (nx R C k).toNat < (rt C (nx R C k).toNat + 1) * rt R k) then k else nx R C k
theorem nx_range (R C : List Int) : ∀ k, -1 ≤ nx R C k ∧ nx R C k < k
  | 0 => by simp [nx]
  | k + 1 => by
    have := nx_range R C k
    unfold nx
    split <;> omega
theorem nx_app {r z c y : List Int} : ∀ {k : Nat}, k ≤ r.length → k ≤ c.length → nx (r ++ z) (c ++ y) k = nx r c k
  | 0, _, _ => rfl
  | k + 1, h1, h2 => by
    have ih := nx_app (r := r) (z := z) (c := c) (y := y) (k := k) (by omega) (by omega)
    have hr := nx_range r c k
    unfold nx
    rw [ih, rt_app (by omega), rt_app (by omega)]
    by_cases h0 : nx r c k < 0
    · simp [h0]
    · rw [rt_app (by omega), rt_app (by omega)]
end Dl
open Dl
@[go_sem] def tblT (n : Nat) (R C : List Int) : T := .agg [.int n, .agg (R.map encI), .agg (C.map encI)]
@[go_sem] def tblB (n : Nat) (R C : List Int) : Blk := .box 158 (.t (tblT n R C))
structure TblOk (n : Nat) (R C : List Int) : Prop where
  r : R.length = 64
  c : C.length = 64
  n : n ≤ 64
  rr : ∀ x ∈ R, 0 ≤ x ∧ x ≤ 1000
  cr : ∀ x ∈ C, 0 ≤ x ∧ x ≤ 1000000
theorem mul_bd {a b A B : Int} (h1 : 0 ≤ a) (h2 : a ≤ A) (h3 : 0 ≤ b) (h4 : b ≤ B) : 0 ≤ a * b ∧ a * b ≤ A * B :=
  ⟨Int.mul_nonneg h1 h3, Int.mul_le_mul h2 h4 h3 (by omega)⟩
theorem next_fn (n : Nat) (R C : List Int) (h : TblOk n R C) : FnOk Tryz.prog 102 [.pt 0 [] 0] [(0, tblB n R C)] (.t (.int (nx R C n))) [(0, tblB n R C)] := by
  obtain ⟨hR, hC, hn, hr, hc⟩ := h
  refine FnOk.intro fact_mixed Tryz.func102 rfl Tryz.ntmps102 (by rfl) (by simp) ?_
  repeat (first | (refine nf1_sound rfl ?_; simp [go_sem, ↓iO, iO, tN]) | refine anI ?_ | refine ⟨dcK, ?_⟩ | ((first | refine iP ?_ | refine iN ?_); try simp [go_sem, ↓iO, iO, tN]))
  refine nf1_sound' _ _ _ ?_; simp only [nf1]
  refine CW.loop (ι := Nat) (fun k => ⟨[(0, .pt 0 [] 0), (3, .t (.int (nx R C k))), (8, .t (.int n)), (9, .t (.int k))], [(0, tblB n R C)]⟩) (fun k => k ≤ n) (fun k => n - k) 0 [(0, some 0)] (by omega) ?_ ?_
  · simp [go_sem, ↓iO, iO, tN, nx]
  intro k hk
  have hx := nx_range R C k
  by_cases hb : k < n
  · have gr := get_rt (r := R) (i := k) (by omega)
    have gc := get_rt (r := C) (i := k) (by omega)
    have b1 := hr _ (mem_get gr)
    have b2 := hc _ (mem_get gc)
    have step : nx R C (k + 1) = if 0 < rt R k ∧ (nx R C k < 0 ∨ (rt C k + 1) * rt R (nx R C k).toNat < (rt C (nx R C k).toNat + 1) * rt R k) then (k : Int) else nx R C k := rfl
    obtain ⟨u, hu⟩ : ∃ u, rt R k = u := ⟨_, rfl⟩
    obtain ⟨v, hv⟩ : ∃ v, rt C k = v := ⟨_, rfl⟩
    obtain ⟨q, hq⟩ : ∃ q, nx R C k = q := ⟨_, rfl⟩
    rw [hu] at gr b1
    rw [hv] at gc b2
    rw [hu, hv, hq] at step
    rw [hq] at hx ⊢
    by_cases h1 : 0 < u
    · by_cases h2 : q < 0
      · rw [if_pos ⟨h1, .inl h2⟩] at step
        repeat (first | (refine nf1_sound rfl ?_; simp [go_sem, ↓iO, iO, tN, gr, gc]) | refine anI ?_ | refine ⟨dcK, ?_⟩ | ((first | refine iP ?_ | refine iN ?_); try simp [go_sem, ↓iO, iO, tN, gr, gc]))
        rw [RoundQ_normal]; refine ⟨k + 1, [(0, some 0)], ?_, ?_, ?_⟩
        · omega
        · omega
        simp [go_sem, ↓iO, iO, tN, step]
      · obtain ⟨j, rfl⟩ : ∃ j : Nat, q = (j : Int) := ⟨q.toNat, by omega⟩
        rw [Int.toNat_natCast] at step
        have gr2 := get_rt (r := R) (i := j) (by omega)
        have gc2 := get_rt (r := C) (i := j) (by omega)
        have b3 := hr _ (mem_get gr2)
        have b4 := hc _ (mem_get gc2)
        obtain ⟨y, hy⟩ : ∃ y, rt R j = y := ⟨_, rfl⟩
        obtain ⟨z, hz⟩ : ∃ z, rt C j = z := ⟨_, rfl⟩
        rw [hy] at gr2 b3 step
        rw [hz] at gc2 b4 step
        have m1 := mul_bd (a := v + 1) (A := 1000001) (b := y) (B := 1000) (by omega) (by omega) (by omega) (by omega)
        have m2 := mul_bd (a := z + 1) (A := 1000001) (b := u) (B := 1000) (by omega) (by omega) (by omega) (by omega)
        obtain ⟨p1, hp1⟩ : ∃ p, (v + 1) * y = p := ⟨_, rfl⟩
        obtain ⟨p2, hp2⟩ : ∃ p, (z + 1) * u = p := ⟨_, rfl⟩
        rw [hp1] at m1 step
        rw [hp2] at m2 step
        by_cases h3 : p1 < p2
        · rw [if_pos ⟨h1, .inr h3⟩] at step
          repeat (first | (refine nf1_sound rfl ?_; simp [go_sem, ↓iO, iO, tN, gr, gc, gr2, gc2, hp1, hp2]) | refine anI ?_ | refine ⟨dcK, ?_⟩ | ((first | refine iP ?_ | refine iN ?_); try simp [go_sem, ↓iO, iO, tN, gr, gc, gr2, gc2, hp1, hp2]))
          rw [RoundQ_normal]; refine ⟨k + 1, [(0, some 0)], ?_, ?_, ?_⟩
          · omega
          · omega
          simp [go_sem, ↓iO, iO, tN, step]
        · rw [if_neg (by omega)] at step
          repeat (first | (refine nf1_sound rfl ?_; simp [go_sem, ↓iO, iO, tN, gr, gc, gr2, gc2, hp1, hp2]) | refine anI ?_ | refine ⟨dcK, ?_⟩ | ((first | refine iP ?_ | refine iN ?_); try simp [go_sem, ↓iO, iO, tN, gr, gc, gr2, gc2, hp1, hp2]))
          rw [RoundQ_normal]; refine ⟨k + 1, [(0, some 0)], ?_, ?_, ?_⟩
          · omega
          · omega
          simp [go_sem, ↓iO, iO, tN, step]
    · rw [if_neg (fun h => h1 h.1)] at step
      repeat (first | (refine nf1_sound rfl ?_; simp [go_sem, ↓iO, iO, tN, gr, gc]) | refine anI ?_ | refine ⟨dcK, ?_⟩ | ((first | refine iP ?_ | refine iN ?_); try simp [go_sem, ↓iO, iO, tN, gr, gc]))
      rw [RoundQ_normal]; refine ⟨k + 1, [(0, some 0)], ?_, ?_, ?_⟩
      · omega
      · omega
      simp [go_sem, ↓iO, iO, tN, step]
  · obtain rfl : k = n := by omega
    repeat (first | (refine nf1_sound rfl ?_; simp [go_sem, ↓iO, iO, tN]) | refine anI ?_ | refine ⟨dcK, ?_⟩ | ((first | refine iP ?_ | refine iN ?_); try simp [go_sem, ↓iO, iO, tN]))
    first | rw [RetQ_ret] | rw [RetQ_normal]
    refine ⟨[(0, some 0)], ?_⟩
    simp [go_sem, ↓iO, iO, tN]
end Go.Proofs.YtdjmklobfjigoaaGreatDoor
