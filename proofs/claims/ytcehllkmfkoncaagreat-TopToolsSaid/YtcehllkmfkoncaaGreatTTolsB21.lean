/- Several texts of this proof, one behind the other. No condition. -/
import Derived.Test.YtcehllkmfkoncaaGreatTTolsB18
import Derived.Test.YtcehllkmfkoncaaGreatTTolsB20
/- What a node does with what comes to it: line.node as a contract. Printed by a program (gen_avnode.py). No condition. -/
namespace Go.Proofs.YtcehllkmfkoncaaGreat
open Go.RowKit Sy Dl
open Go.IntWalk renaming iteOmega → iO, toNatUp → tN
set_option linter.unusedVariables false
set_option linter.unusedSimpArgs false
theorem segYs_len2 (node : Int) (inn : Bool) : ∀ (k : Nat) (ps : List SegV) (rs : List Int), (segYs node inn k ps rs).length ≤ ps.length
  | k, [], rs => by simp [segYs]
  | k, p :: ps, [] => by simp [segYs]
  | k, p :: ps, r :: rs => by
    have := segYs_len2 node inn (k + 1) ps rs
    simp only [segYs]
    split <;> simp <;> omega
theorem segYs_inc (node : Int) (inn : Bool) : ∀ (k : Nat) (ps : List SegV) (rs : List Int), (segYs node inn k ps rs).Pairwise (fun a b => a.1 < b.1)
  | k, [], rs => by simp [segYs]
  | k, p :: ps, [] => by simp [segYs]
  | k, p :: ps, r :: rs => by
    have := segYs_inc node inn (k + 1) ps rs
    simp only [segYs]
    split
    · refine List.Pairwise.cons (fun b hb => ?_) this
      have := (segYs_get hb).1
      dsimp only; omega
    · exact this
/-- What the ports have been given when k of them are through. -/
def outO (oo : List (Option (List (Int × Int)))) (P : List (Nat × Int)) (x : List (List (Int × Int))) : Nat → List (Option (List (Int × Int)))
  | 0 => oo
  | k + 1 => (outO oo P x k).set (P.getD k (0, 0)).1 (some (x.getD k []))
theorem outO_len (oo P x) : ∀ k, (outO oo P x k).length = oo.length
  | 0 => rfl
  | k + 1 => by unfold outO; rw [List.length_set]; exact outO_len oo P x k
def backAt (rates : List Int) (y : Nat × Int) : Bool := decide (rates.getD y.1 0 < 0)
/-- Lists of one value a segment, when k segments are through. -/
def setK {α : Type} (fi : List α) (Sg : List (Nat × Int)) (v : Nat → Nat × Int → α) : Nat → List α
  | 0 => fi
  | k + 1 => (setK fi Sg v k).set (Sg.getD k (0, 0)).1 (v k (Sg.getD k (0, 0)))
theorem setK_len {α : Type} (fi : List α) (Sg : List (Nat × Int)) (v : Nat → Nat × Int → α) : ∀ k, (setK fi Sg v k).length = fi.length
  | 0 => rfl
  | k + 1 => by unfold setK; rw [List.length_set]; exact setK_len fi Sg v k
theorem setK_at {α : Type} (fi : List α) (Sg : List (Nat × Int)) (v : Nat → Nat × Int → α) (hS : Sg.Pairwise (fun a b => a.1 < b.1)) (j : Nat) (y : Nat × Int) (hy : Sg[j]? = some y) : ∀ k, k ≤ j → (setK fi Sg v k)[y.1]? = fi[y.1]?
  | 0, _ => rfl
  | k + 1, hk => by
    unfold setK
    have h1 := setK_at fi Sg v hS j y hy k (by omega)
    obtain ⟨hj, rfl⟩ := List.getElem?_eq_some_iff.1 hy
    have h2 := List.pairwise_iff_getElem.1 hS k j (by omega) hj (by omega)
    rw [List.getElem?_set_ne (by rw [List.getD_eq_getElem?_getD, List.getElem?_eq_getElem (by omega)]; simp; omega), h1]
noncomputable def nodeF (rates : List Int) (fi : List (Option (List (Int × Int)))) (x : List (List (Int × Int))) (m : Nat) (k : Nat) (y : Nat × Int) : Option (List (Int × Int)) := some (fillV (gvAt fi y) (x.getD (m + k) []) (backAt rates y))
noncomputable def nodeG (rates : List Int) (fi : List (Option (List (Int × Int)))) (x : List (List (Int × Int))) (m : Nat) (k : Nat) (y : Nat × Int) : Option (List (Int × Int)) := some (outV (gvAt fi y) (x.getD (m + k) []) (backAt rates y))
set_option maxRecDepth 100000 in
set_option maxHeartbeats 16000000 in
theorem node_fn (d : LineD) (hd : LineOk d) (order : T) (w6 : order.width = 1) (fi gi oo : List (Option (List (Int × Int)))) (node : Int) (hg : gi.length = d.segs.length) (hfl : fi.length = d.segs.length) (hol : oo.length = d.ports.length) (hS : Pc.Sane (comesV d gi node)) (hnz : ∀ z ∈ segYs node true 0 (d.segs.map (·.1)) d.rates, ∀ p ∈ gvAt gi z, p.2 ≠ 0)
    (l : List (Int × Int)) (hl : Pc.join (comesV d gi node) = l) (hne : l ≠ []) (hl2 : l.length ≤ 200) (P Sg : List (Nat × Int)) (hP : prtYs node false 0 d.ports d.prates = P) (hSg : segYs node false 0 (d.segs.map (·.1)) d.rates = Sg) (x : List (List (Int × Int))) (hx : dealV l (P.map (·.2) ++ Sg.map (·.2)) = (x, 0)) (hxl : x.length = P.length + Sg.length)
    (hpush : ∀ (k : Nat) (y : Nat × Int), Sg[k]? = some y → (∃ f, fi[y.1]? = some (some f) ∧ f.length ≤ 1000000) ∧ (x.getD (P.length + k) []).length ≤ 1000000 ∧ (outV (gvAt fi y) (x.getD (P.length + k) []) (backAt d.rates y)).length ≤ 1000000 ∧ pushE (gvAt fi y) (x.getD (P.length + k) []) (backAt d.rates y) = 0) :
    FnOk Tryz.prog 74 [.pt 0 [] 0, .t (.int node)] [(0, lineB d.net d.plan (.sl 1 (d.feeds.map encI)) order), (1, blkG fi), (2, blkG gi), (3, blkG oo)]
      (.t (.int 0)) [(0, lineB d.net d.plan (.sl 1 (d.feeds.map encI)) order), (1, blkG (setK fi Sg (nodeF d.rates fi x P.length) Sg.length)), (2, blkG (setK gi Sg (nodeG d.rates fi x P.length) Sg.length)), (3, blkG (outO oo P x P.length))] := by
  have s1 := stream_fn d hd order w6 fi gi oo node hg hS hnz
  rw [hl] at s1
  have P_len : ∀ k, ((P.take k).map (·.2)).length ≤ 1000 := fun k => by
    have := prtYs_len2 node false 0 d.ports d.prates
    have := hd.maxP
    rw [hP] at *
    simp; omega
  have S_len : ∀ k, (P.map (·.2) ++ (Sg.take k).map (·.2)).length ≤ 2000 := fun k => by
    have := prtYs_len2 node false 0 d.ports d.prates
    have := segYs_len2 node false 0 (d.segs.map (·.1)) d.rates
    have := hd.maxP
    have := hd.maxS
    rw [hP] at *
    rw [hSg] at *
    simp at *; omega
  have hPl : P.length ≤ 1000 := by
    have := prtYs_len2 node false 0 d.ports d.prates
    have := hd.maxP
    rw [hP] at *
    omega
  have hSl : Sg.length ≤ 1000 := by
    have := segYs_len2 node false 0 (d.segs.map (·.1)) d.rates
    have := hd.maxS
    rw [hSg] at *
    simp at *; omega
  have hPg : ∀ y ∈ P, y.1 < d.ports.length := fun y hy => by
    rw [← hP] at hy
    have := (prtYs_get hy).2.1
    omega
  have hSGg : ∀ y ∈ Sg, y.1 < d.segs.length := fun y hy => by
    rw [← hSg] at hy
    have := (segYs_get hy).2.1
    simpa using this
  have hinc : Sg.Pairwise (fun a b => a.1 < b.1) := by rw [← hSg]; exact segYs_inc _ _ _ _ _
  have w1 := hd.w1
  have w2 := hd.w2
  have w3 := hd.w3
  have w4 := hd.w4
  have w5 := hd.w5
  have dl := deal_fn l (P.map (·.2) ++ Sg.map (·.2)) (by omega) (by simp; omega) x 0 hx
  have hlp : 0 < l.length := List.length_pos_iff.2 hne
  refine FnOk.intro fact_mixed Tryz.func74 rfl Tryz.ntmps74 (by rfl) (by simp) ?_
  repeat (first | (refine nf1_sound rfl ?_; simp [go_sem, ↓iO, iO, tN]; (repeat (refine anI ?_)); try (refine ⟨dcK, ?_⟩)) | ((first | refine itePos (by omega) ?_ | refine iteNeg (by omega) ?_); try simp [go_sem, ↓iO, iO, tN]) | (refine ⟨dcK, ?_⟩))
  refine CallK.fn (s1) [(0, 0), (1, 1), (2, 2), (3, 3), (1000, 510)] [] [] (by kernel_rfl) ?_ ?_ ?_ (Or.inl rfl) ?_ <;> simp [go_sem, ↓iO, iO, tN]
  repeat (refine anI ?_)
  try (refine ⟨dcK, ?_⟩)
  repeat (first | (refine nf1_sound rfl ?_; simp [go_sem, ↓iO, iO, tN]; (repeat (refine anI ?_)); try (refine ⟨dcK, ?_⟩)) | ((first | refine itePos (by omega) ?_ | refine iteNeg (by omega) ?_); try simp [go_sem, ↓iO, iO, tN]) | (refine ⟨dcK, ?_⟩))
  refine CallK.fn (ports_fn d.net d.plan (.sl 1 (d.feeds.map encI)) order fi gi oo node false) [(0, 0), (1, 1), (2, 2), (3, 3), (1000, 500), (1001, 501), (1002, 502)] [] [] (by kernel_rfl) ?_ ?_ ?_ (Or.inl rfl) ?_ <;> simp [go_sem, ↓iO, iO, tN]
  repeat (refine anI ?_)
  try (refine ⟨dcK, ?_⟩)
  refine nf1_sound' _ _ _ ?_; simp only [nf1]
  refine CW.rangeF (N := 87) [(0, .pt 0 [] 0), (1, .t (.int node)), (2, .pt 102 [] 0), (4, .pt 104 [] 0), (5, .own 510), (6, .pt 106 [] 0), (28, .fn 149 [.pt 500 [] 0, .pt 501 [] 0, .pt 502 [] 0])]
    (fun k => [(0, lineB d.net d.plan (.sl 1 (d.feeds.map encI)) order), (1, blkG fi), (2, blkG gi), (3, blkG oo), (102, .box 87 (.pt 0 [] 0)), (104, .box 38 (.t (.int 0))), (510, blkP l), (106, .box 22 (.own 520)), (520, .list 3 1 (((P.take k).map (·.2)).map encI)), (500, .box 87 (.pt 0 [] 0)), (501, .box 3 (.t (.int node))), (502, .box 4 (.t (.bool false)))])
    [(0, some 0), (1, some 1), (2, some 2), (3, some 3), (102, some 102), (104, some 104), (510, some 510), (106, some 106), (520, none), (500, some 500), (501, some 501), (502, some 502)]
    (lineI 500 501 502 0 (.t (.int node)) (.t (.bool false)) 3 4 d.net d.plan [.t (.sl 1 (d.feeds.map encI)), .t order, .own 1, .own 2, .own 3]) (P.map encY)
    [(0, some 0), (1, some 1), (2, some 2), (3, some 3), (102, some 102), (104, some 104), (510, some 510), (106, some 106), (520, some 520), (500, some 500), (501, some 501), (502, some 502)]
    ?_ rfl (by kernel_rfl) (by kernel_rfl) (by kernel_rfl) (by kernel_rfl) (by kernel_rfl) (by kernel_rfl) (by kernel_rfl) ?_ ?_ ?_ rfl ?_ ?_ ?_
  · simp [go_sem, ↓iO, iO, tN]
  · intro y hy
    obtain ⟨z, _, rfl⟩ := List.mem_map.1 hy
    rfl
  · intro y hy v hv
    obtain ⟨z, _, rfl⟩ := List.mem_map.1 hy
    simp [encY] at hv
    rcases hv with rfl | rfl <;> rfl
  · rw [← hP]
    exact ports_iter 500 501 502 0 rfl node false d.nodes (.sl 7 (d.segs.map encSg)) d.stat d.ports d.vap d.stl (.sl 1 (d.rates.map encI)) d.pumps d.prates _ hd.w1 rfl rfl hd.w2 hd.w3 hd.w4 hd.lenP hd.neP hd.maxP (fun r hr => by have := hd.bP r hr; omega)
  · intro k hk
    simp [go_sem, ↓iO, iO, tN, lineI]
    rfl
  · intro k y hy
    obtain ⟨z, hz, rfl⟩ : ∃ z, P[k]? = some z ∧ y = encY z := by
      rw [List.getElem?_map] at hy
      obtain ⟨z, h1, h2⟩ := Option.map_eq_some_iff.1 hy
      exact ⟨z, h1, h2.symm⟩
    have hkl : k < P.length := (List.getElem?_eq_some_iff.1 hz).1
    obtain ⟨z1, z2⟩ := z
    have e1 : ((P.take k).map (·.2)).map encI ++ [.int z2] = ((P.take (k + 1)).map (·.2)).map encI := by
      obtain ⟨hk, e⟩ := List.getElem?_eq_some_iff.1 hz
      rw [List.take_succ_eq_append_getElem hk, e]; simp [encI]
    have hlen := P_len k
    refine ⟨[(0, 106), (1, 520), (1000, 521)], [(6, .pt 0 [] 0)], [(0, .box 22 (.own 1)), (1, .list 3 1 (((P.take k).map (·.2)).map encI))], [(0, .box 22 (.own 1000)), (1000, .list 3 1 (((P.take (k + 1)).map (·.2)).map encI))], [(0, some 0), (1, some 1), (2, some 2), (3, some 3), (102, some 102), (104, some 104), (510, some 510), (106, some 106), (520, some 521), (500, some 500), (501, some 501), (502, some 502)], ?_⟩
    refine ⟨by kernel_rfl, ?_, ?_, rfl, by kernel_rfl, ?_, ?_⟩
    · simp [go_sem, ↓iO, iO, tN]
    · simp [go_sem, ↓iO, iO, tN, slotsR, S.ren]
    · rw [← e1]
      obtain ⟨V, hV⟩ : ∃ V, (P.take k).map (·.2) = V := ⟨_, rfl⟩
      rw [hV] at hlen ⊢
      simp [go_sem, ↓iO, iO, tN, psS, encY]
      repeat (refine anI ?_)
      refine ⟨[(0, some 0), (1000, some 134)], ?_⟩
      simp [go_sem, ↓iO, iO, tN]
    · simp [go_sem, ↓iO, iO, tN]
  · have hpl : (P.map encY).length = P.length := by simp
    rw [hpl]
    simp [go_sem, ↓iO, iO, tN, List.take_length]
    repeat (first | (refine nf1_sound rfl ?_; simp [go_sem, ↓iO, iO, tN]; (repeat (refine anI ?_)); try (refine ⟨dcK, ?_⟩)) | ((first | refine itePos (by omega) ?_ | refine iteNeg (by omega) ?_); try simp [go_sem, ↓iO, iO, tN]) | (refine ⟨dcK, ?_⟩))
    refine CallK.fn (segments_fn d.net d.plan (.sl 1 (d.feeds.map encI)) order fi gi oo node false) [(0, 0), (1, 1), (2, 2), (3, 3), (1000, 530), (1001, 531), (1002, 532)] [] [] (by kernel_rfl) ?_ ?_ ?_ (Or.inl rfl) ?_ <;> simp [go_sem, ↓iO, iO, tN]
    repeat (refine anI ?_)
    try (refine ⟨dcK, ?_⟩)
    refine nf1_sound' _ _ _ ?_; simp only [nf1]
    refine CW.rangeF (N := 87) [(0, .pt 0 [] 0), (1, .t (.int node)), (2, .pt 102 [] 0), (4, .pt 104 [] 0), (5, .own 510), (6, .pt 106 [] 0), (37, .fn 150 [.pt 530 [] 0, .pt 531 [] 0, .pt 532 [] 0])]
      (fun k => [(0, lineB d.net d.plan (.sl 1 (d.feeds.map encI)) order), (1, blkG fi), (2, blkG gi), (3, blkG oo), (102, .box 87 (.pt 0 [] 0)), (104, .box 38 (.t (.int 0))), (510, blkP l), (106, .box 22 (.own 520)), (520, .list 3 1 ((P.map (·.2) ++ (Sg.take k).map (·.2)).map encI)), (530, .box 87 (.pt 0 [] 0)), (531, .box 4 (.t (.bool false))), (532, .box 3 (.t (.int node)))])
      [(0, some 0), (1, some 1), (2, some 2), (3, some 3), (102, some 102), (104, some 104), (510, some 510), (106, some 106), (520, some 520), (530, some 530), (531, some 531), (532, some 532)]
      (lineI 530 531 532 0 (.t (.bool false)) (.t (.int node)) 4 3 d.net d.plan [.t (.sl 1 (d.feeds.map encI)), .t order, .own 1, .own 2, .own 3]) (Sg.map encY)
      [(0, some 0), (1, some 1), (2, some 2), (3, some 3), (102, some 102), (104, some 104), (510, some 510), (106, some 106), (520, some 520), (530, some 530), (531, some 531), (532, some 532)]
      ?_ rfl (by kernel_rfl) (by kernel_rfl) (by kernel_rfl) (by kernel_rfl) (by kernel_rfl) (by kernel_rfl) (by kernel_rfl) ?_ ?_ ?_ rfl ?_ ?_ ?_
    · simp [go_sem, ↓iO, iO, tN]
    · intro y hy
      obtain ⟨z, _, rfl⟩ := List.mem_map.1 hy
      rfl
    · intro y hy v hv
      obtain ⟨z, _, rfl⟩ := List.mem_map.1 hy
      simp [encY] at hv
      rcases hv with rfl | rfl <;> rfl
    · rw [← hSg]
      exact segs_iter 530 531 532 0 rfl node false d.nodes (.sl 3 (d.ports.map encPr)) d.stat d.segs d.vap d.stl (.sl 1 (d.prates.map encI)) d.pumps d.rates _ hd.w1 rfl hd.w2 hd.w3 hd.w4 hd.lenR hd.neS hd.maxS (fun r hr => by have := hd.bR r hr; omega)
    · intro k hk
      simp [go_sem, ↓iO, iO, tN, lineI]
      rfl
    · intro k y hy
      obtain ⟨z, hz, rfl⟩ : ∃ z, Sg[k]? = some z ∧ y = encY z := by
        rw [List.getElem?_map] at hy
        obtain ⟨z, h1, h2⟩ := Option.map_eq_some_iff.1 hy
        exact ⟨z, h1, h2.symm⟩
      have hkl : k < Sg.length := (List.getElem?_eq_some_iff.1 hz).1
      obtain ⟨z1, z2⟩ := z
      have e1 : (P.map (·.2) ++ (Sg.take k).map (·.2)).map encI ++ [.int z2] = (P.map (·.2) ++ (Sg.take (k + 1)).map (·.2)).map encI := by
        obtain ⟨hk, e⟩ := List.getElem?_eq_some_iff.1 hz
        rw [List.take_succ_eq_append_getElem hk, e]; simp [encI]
      have hlen := S_len k
      refine ⟨[(0, 106), (1, 520), (1000, 521)], [(6, .pt 0 [] 0)], [(0, .box 22 (.own 1)), (1, .list 3 1 ((P.map (·.2) ++ (Sg.take k).map (·.2)).map encI))], [(0, .box 22 (.own 1000)), (1000, .list 3 1 ((P.map (·.2) ++ (Sg.take (k + 1)).map (·.2)).map encI))], [(0, some 0), (1, some 1), (2, some 2), (3, some 3), (102, some 102), (104, some 104), (510, some 510), (106, some 106), (520, some 521), (530, some 530), (531, some 531), (532, some 532)], ?_⟩
      refine ⟨by kernel_rfl, ?_, ?_, rfl, by kernel_rfl, ?_, ?_⟩
      · simp [go_sem, ↓iO, iO, tN]
      · simp [go_sem, ↓iO, iO, tN, slotsR, S.ren]
      · rw [← e1]
        obtain ⟨V, hV⟩ : ∃ V, P.map (·.2) ++ (Sg.take k).map (·.2) = V := ⟨_, rfl⟩
        rw [hV] at hlen ⊢
        simp [go_sem, ↓iO, iO, tN, psS, encY]
        repeat (refine anI ?_)
        refine ⟨[(0, some 0), (1000, some 143)], ?_⟩
        simp [go_sem, ↓iO, iO, tN]
      · simp [go_sem, ↓iO, iO, tN]
    · have hsl : (Sg.map encY).length = Sg.length := by simp
      rw [hsl]
      obtain ⟨R, hR⟩ : ∃ R, P.map (·.2) ++ Sg.map (·.2) = R := ⟨_, rfl⟩
      rw [hR] at dl
      simp only [List.take_length, hR]
      refine CW.weak (ρ := [(0, some 0), (1, some 1), (2, some 2), (3, some 3), (102, some 102), (104, some 104), (106, some 106)]) (σ' := ⟨[(0, .pt 0 [] 0), (1, .t (.int node)), (2, .pt 102 [] 0), (4, .pt 104 [] 0), (5, .t (encPs l)), (6, .pt 106 [] 0)], [(0, lineB d.net d.plan (.sl 1 (d.feeds.map encI)) order), (1, blkG fi), (2, blkG gi), (3, blkG oo), (102, .box 87 (.pt 0 [] 0)), (104, .box 38 (.t (.int 0))), (106, .box 22 (.t (encIs R)))]⟩) ?_ ?_
      · simp [go_sem, ↓iO, iO, tN]
      repeat (first | (refine nf1_sound rfl ?_; simp [go_sem, ↓iO, iO, tN]; (repeat (refine anI ?_)); try (refine ⟨dcK, ?_⟩)) | ((first | refine itePos (by omega) ?_ | refine iteNeg (by omega) ?_); try simp [go_sem, ↓iO, iO, tN]) | (refine ⟨dcK, ?_⟩))
      refine CallK.fn (dl) [] [] [] (by kernel_rfl) ?_ ?_ ?_ (Or.inl rfl) ?_ <;> simp [go_sem, ↓iO, iO, tN]
      repeat (refine anI ?_)
      try (refine ⟨dcK, ?_⟩)
      repeat (first | (refine nf1_sound rfl ?_; simp [go_sem, ↓iO, iO, tN]; (repeat (refine anI ?_)); try (refine ⟨dcK, ?_⟩)) | ((first | refine itePos (by omega) ?_ | refine iteNeg (by omega) ?_); try simp [go_sem, ↓iO, iO, tN]) | (refine ⟨dcK, ?_⟩))
      refine CallK.fn (ports_fn d.net d.plan (.sl 1 (d.feeds.map encI)) order fi gi oo node false) [(0, 0), (1, 1), (2, 2), (3, 3), (1000, 540), (1001, 541), (1002, 542)] [] [] (by kernel_rfl) ?_ ?_ ?_ (Or.inl rfl) ?_ <;> simp [go_sem, ↓iO, iO, tN]
      repeat (refine anI ?_)
      try (refine ⟨dcK, ?_⟩)
      refine nf1_sound' _ _ _ ?_; simp only [nf1]
      refine CW.rangeF (N := 87) [(0, .pt 0 [] 0), (1, .t (.int node)), (2, .pt 102 [] 0), (4, .pt 104 [] 0), (11, .pt 111 [] 0), (13, .pt 113 [] 0), (55, .fn 149 [.pt 540 [] 0, .pt 541 [] 0, .pt 542 [] 0])]
        (fun k => [(0, lineB d.net d.plan (.sl 1 (d.feeds.map encI)) order), (1, blkG fi), (2, blkG gi), (3, blkG (outO oo P x k)), (102, .box 87 (.pt 0 [] 0)), (104, .box 38 (.t (.int 0))), (111, .box 48 (.t (.sl 1 (x.map encPs)))), (113, .box 3 (.t (.int k))), (540, .box 87 (.pt 0 [] 0)), (541, .box 3 (.t (.int node))), (542, .box 4 (.t (.bool false)))])
        [(0, some 0), (1, some 1), (2, some 2), (3, some 3), (102, some 102), (104, some 104), (111, some 111), (113, some 113), (540, some 540), (541, some 541), (542, some 542)]
        (lineI 540 541 542 0 (.t (.int node)) (.t (.bool false)) 3 4 d.net d.plan [.t (.sl 1 (d.feeds.map encI)), .t order, .own 1, .own 2, .own 3]) (P.map encY)
        [(0, some 0), (1, some 1), (2, some 2), (3, some 3), (102, some 102), (104, some 104), (111, some 111), (113, some 113), (540, some 540), (541, some 541), (542, some 542)]
        ?_ rfl (by kernel_rfl) (by kernel_rfl) (by kernel_rfl) (by kernel_rfl) (by kernel_rfl) (by kernel_rfl) (by kernel_rfl) ?_ ?_ ?_ rfl ?_ ?_ ?_
      · simp [go_sem, ↓iO, iO, tN, outO]
      · intro y hy
        obtain ⟨z, _, rfl⟩ := List.mem_map.1 hy
        rfl
      · intro y hy v hv
        obtain ⟨z, _, rfl⟩ := List.mem_map.1 hy
        simp [encY] at hv
        rcases hv with rfl | rfl <;> rfl
      · rw [← hP]
        exact ports_iter 540 541 542 0 rfl node false d.nodes (.sl 7 (d.segs.map encSg)) d.stat d.ports d.vap d.stl (.sl 1 (d.rates.map encI)) d.pumps d.prates _ hd.w1 rfl rfl hd.w2 hd.w3 hd.w4 hd.lenP hd.neP hd.maxP (fun r hr => by have := hd.bP r hr; omega)
      · intro k hk
        simp [go_sem, ↓iO, iO, tN, lineI]
        rfl
      · intro k y hy
        obtain ⟨z, hz, rfl⟩ : ∃ z, P[k]? = some z ∧ y = encY z := by
          rw [List.getElem?_map] at hy
          obtain ⟨z, h1, h2⟩ := Option.map_eq_some_iff.1 hy
          exact ⟨z, h1, h2.symm⟩
        have hkl : k < P.length := (List.getElem?_eq_some_iff.1 hz).1
        obtain ⟨z1, z2⟩ := z
        have hzl := hPg _ (List.mem_of_getElem? hz)
        dsimp only at hzl
        have hol2 := outO_len oo P x k
        obtain ⟨s, hs⟩ : ∃ s, x[k]? = some s := has_get (by omega)
        have hos : outO oo P x (k + 1) = (outO oo P x k).set z1 (some s) := by
          simp only [outO, List.getD_eq_getElem?_getD, hz, hs, Option.getD_some]
        refine ⟨[(0, 0), (1, 1), (2, 2), (3, 3), (4, 102), (5, 111), (6, 113)], [(2, .pt 4 [] 0), (11, .pt 5 [] 0), (13, .pt 6 [] 0)],
          [(0, lineB d.net d.plan (.sl 1 (d.feeds.map encI)) order), (1, blkG fi), (2, blkG gi), (3, blkG (outO oo P x k)), (4, .box 87 (.pt 0 [] 0)), (5, .box 48 (.t (.sl 1 (x.map encPs)))), (6, .box 3 (.t (.int k)))],
          [(0, lineB d.net d.plan (.sl 1 (d.feeds.map encI)) order), (1, blkG fi), (2, blkG gi), (3, blkG (outO oo P x (k + 1))), (4, .box 87 (.pt 0 [] 0)), (5, .box 48 (.t (.sl 1 (x.map encPs)))), (6, .box 3 (.t (.int (k + 1))))],
          [(0, some 0), (1, some 1), (2, some 2), (3, some 3), (102, some 102), (104, some 104), (111, some 111), (113, some 113), (540, some 540), (541, some 541), (542, some 542)], ?_⟩
        refine ⟨by kernel_rfl, ?_, ?_, rfl, by kernel_rfl, ?_, ?_⟩
        · simp [go_sem, ↓iO, iO, tN]
        · simp [go_sem, ↓iO, iO, tN, slotsR, S.ren]
        · rw [hos]
          obtain ⟨V, hV⟩ : ∃ V, outO oo P x k = V := ⟨_, rfl⟩
          rw [hV] at hol2 ⊢
          obtain ⟨og, hgo⟩ : ∃ og, V[z1]? = some og := has_get (by omega)
          have hvz : z1 < V.length := by omega
          have hsx : k < x.length := by omega
          have hs2 : x[k] = s := (List.getElem?_eq_some_iff.1 hs).2
          have hv2 : V[z1] = og := (List.getElem?_eq_some_iff.1 hgo).2
          refine nfK0 ?_; simp [go_sem, ↓iO, iO, tN, psS, encY]; (repeat (refine anI ?_)); try (refine ⟨dcK, ?_⟩)
          repeat (first | (refine nfK1 ?_; simp (maxSteps := 1000000) [go_sem, ↓iO, iO, tN, hs, hgo, hvz, hv2, hsx, hs2, w1, w2, w3, w4, w5, w6, widths_gv, width_gv]; (repeat (refine anI ?_)); try (refine ⟨dcK, ?_⟩)) | ((first | refine itePos (by omega) ?_ | refine iteNeg (by omega) ?_); try simp [go_sem, ↓iO, iO, tN, hs, hgo, hvz, hv2, hsx, hs2, w1, w2, w3, w4, w5, w6, widths_gv, width_gv]) | (refine ⟨dcK, ?_⟩))
          refine ⟨by cases og <;> rfl, ?_⟩
          repeat (refine anI ?_)
          refine ⟨dcK, ?_⟩
          repeat (first | (refine nfK1 ?_; simp (maxSteps := 1000000) [go_sem, ↓iO, iO, tN]; (repeat (refine anI ?_)); try (refine ⟨dcK, ?_⟩)) | ((first | refine itePos (by omega) ?_ | refine iteNeg (by omega) ?_); try simp [go_sem, ↓iO, iO, tN]) | (refine ⟨dcK, ?_⟩))
          refine ⟨[(0, some 0), (1, some 1), (2, some 2), (3, some 3), (4, some 4), (5, some 5), (6, some 6)], ?_⟩
          simp [go_sem, ↓iO, iO, tN, List.map_set]
        · simp [go_sem, ↓iO, iO, tN]
      · have hpl : (P.map encY).length = P.length := by simp
        rw [hpl]
        obtain ⟨O, hO⟩ : ∃ O, outO oo P x P.length = O := ⟨_, rfl⟩
        rw [hO]
        repeat (first | (refine nf1_sound rfl ?_; simp [go_sem, ↓iO, iO, tN]; (repeat (refine anI ?_)); try (refine ⟨dcK, ?_⟩)) | ((first | refine itePos (by omega) ?_ | refine iteNeg (by omega) ?_); try simp [go_sem, ↓iO, iO, tN]) | (refine ⟨dcK, ?_⟩))
        refine CallK.fn (segments_fn d.net d.plan (.sl 1 (d.feeds.map encI)) order fi gi O node false) [(0, 0), (1, 1), (2, 2), (3, 3), (1000, 550), (1001, 551), (1002, 552)] [] [] (by kernel_rfl) ?_ ?_ ?_ (Or.inl rfl) ?_ <;> simp [go_sem, ↓iO, iO, tN]
        repeat (refine anI ?_)
        try (refine ⟨dcK, ?_⟩)
        refine nf1_sound' _ _ _ ?_; simp only [nf1]
        refine CW.rangeF (N := 87) [(0, .pt 0 [] 0), (1, .t (.int node)), (2, .pt 102 [] 0), (4, .pt 104 [] 0), (11, .pt 111 [] 0), (13, .pt 113 [] 0), (72, .fn 150 [.pt 550 [] 0, .pt 551 [] 0, .pt 552 [] 0])]
          (fun k => [(0, lineB d.net d.plan (.sl 1 (d.feeds.map encI)) order), (1, blkG (setK fi Sg (nodeF d.rates fi x P.length) k)), (2, blkG (setK gi Sg (nodeG d.rates fi x P.length) k)), (3, blkG O), (102, .box 87 (.pt 0 [] 0)), (104, .box 38 (.t (.int 0))), (111, .box 48 (.t (.sl 1 (x.map encPs)))), (113, .box 3 (.t (.int ((P.length + k : Nat) : Int)))), (550, .box 87 (.pt 0 [] 0)), (551, .box 4 (.t (.bool false))), (552, .box 3 (.t (.int node)))])
          [(0, some 0), (1, some 1), (2, some 2), (3, some 3), (102, some 102), (104, some 104), (111, some 111), (113, some 113), (550, some 550), (551, some 551), (552, some 552)]
          (lineI 550 551 552 0 (.t (.bool false)) (.t (.int node)) 4 3 d.net d.plan [.t (.sl 1 (d.feeds.map encI)), .t order, .own 1, .own 2, .own 3]) (Sg.map encY)
          [(0, some 0), (1, some 1), (2, some 2), (3, some 3), (102, some 102), (104, some 104), (111, some 111), (113, some 113), (550, some 550), (551, some 551), (552, some 552)]
          ?_ rfl (by kernel_rfl) (by kernel_rfl) (by kernel_rfl) (by kernel_rfl) (by kernel_rfl) (by kernel_rfl) (by kernel_rfl) ?_ ?_ ?_ rfl ?_ ?_ ?_
        · simp [go_sem, ↓iO, iO, tN, setK]
        · intro y hy
          obtain ⟨z, _, rfl⟩ := List.mem_map.1 hy
          rfl
        · intro y hy v hv
          obtain ⟨z, _, rfl⟩ := List.mem_map.1 hy
          simp [encY] at hv
          rcases hv with rfl | rfl <;> rfl
        · rw [← hSg]
          exact segs_iter 550 551 552 0 rfl node false d.nodes (.sl 3 (d.ports.map encPr)) d.stat d.segs d.vap d.stl (.sl 1 (d.prates.map encI)) d.pumps d.rates _ hd.w1 rfl hd.w2 hd.w3 hd.w4 hd.lenR hd.neS hd.maxS (fun r hr => by have := hd.bR r hr; omega)
        · intro k hk
          simp [go_sem, ↓iO, iO, tN, lineI]
          rfl
        · intro k y hy
          obtain ⟨z, hz, rfl⟩ : ∃ z, Sg[k]? = some z ∧ y = encY z := by
            rw [List.getElem?_map] at hy
            obtain ⟨z, h1, h2⟩ := Option.map_eq_some_iff.1 hy
            exact ⟨z, h1, h2.symm⟩
          have hkl : k < Sg.length := (List.getElem?_eq_some_iff.1 hz).1
          obtain ⟨z1, z2⟩ := z
          have hzl := hSGg _ (List.mem_of_getElem? hz)
          dsimp only at hzl
          obtain ⟨⟨f, hf, hf6⟩, hl6, ho6, he⟩ := hpush k _ hz
          have hf0 : gvAt fi (z1, z2) = f := by unfold gvAt; rw [List.getD_eq_getElem?_getD, hf]; rfl
          obtain ⟨r, hr⟩ : ∃ r, d.rates[z1]? = some r := has_get (by rw [hd.lenR]; exact hzl)
          have hb0 : backAt d.rates (z1, z2) = decide (r < 0) := by unfold backAt; rw [List.getD_eq_getElem?_getD, hr]; rfl
          obtain ⟨s, hs⟩ : ∃ s, x[P.length + k]? = some s := has_get (by omega)
          have hs0 : x.getD (P.length + k) [] = s := by rw [List.getD_eq_getElem?_getD, hs]; rfl
          rw [hs0] at hl6
          rw [hf0, hs0, hb0] at ho6 he
          have hgd : Sg.getD k (0, 0) = (z1, z2) := by rw [List.getD_eq_getElem?_getD, hz]; rfl
          have hF1 : setK fi Sg (nodeF d.rates fi x P.length) (k + 1) = (setK fi Sg (nodeF d.rates fi x P.length) k).set z1 (some (fillV f s (decide (r < 0)))) := by
            rw [← hf0, ← hs0, ← hb0, setK, hgd]; rfl
          have hG1 : setK gi Sg (nodeG d.rates fi x P.length) (k + 1) = (setK gi Sg (nodeG d.rates fi x P.length) k).set z1 (some (outV f s (decide (r < 0)))) := by
            rw [← hf0, ← hs0, ← hb0, setK, hgd]; rfl
          have hfk := setK_at fi Sg (nodeF d.rates fi x P.length) hinc k (z1, z2) hz k (Nat.le_refl _)
          dsimp only at hfk
          rw [hf] at hfk
          have hfl2 := setK_len fi Sg (nodeF d.rates fi x P.length) k
          have hgl2 := setK_len gi Sg (nodeG d.rates fi x P.length) k
          have j1 := apush_fn d hd order w6 (setK fi Sg (nodeF d.rates fi x P.length) k) (setK gi Sg (nodeG d.rates fi x P.length) k) O (by omega) (by omega) z1 r f s hr hfk hf6 hl6 ho6 he
          rw [← hF1, ← hG1] at j1
          refine ⟨[(0, 0), (1, 1), (2, 2), (3, 3), (4, 102), (5, 111), (6, 113)], [(2, .pt 4 [] 0), (11, .pt 5 [] 0), (13, .pt 6 [] 0)],
            [(0, lineB d.net d.plan (.sl 1 (d.feeds.map encI)) order), (1, blkG (setK fi Sg (nodeF d.rates fi x P.length) k)), (2, blkG (setK gi Sg (nodeG d.rates fi x P.length) k)), (3, blkG O), (4, .box 87 (.pt 0 [] 0)), (5, .box 48 (.t (.sl 1 (x.map encPs)))), (6, .box 3 (.t (.int ((P.length + k : Nat) : Int))))],
            [(0, lineB d.net d.plan (.sl 1 (d.feeds.map encI)) order), (1, blkG (setK fi Sg (nodeF d.rates fi x P.length) (k + 1))), (2, blkG (setK gi Sg (nodeG d.rates fi x P.length) (k + 1))), (3, blkG O), (4, .box 87 (.pt 0 [] 0)), (5, .box 48 (.t (.sl 1 (x.map encPs)))), (6, .box 3 (.t (.int ((P.length + (k + 1) : Nat) : Int))))],
            [(0, some 0), (1, some 1), (2, some 2), (3, some 3), (102, some 102), (104, some 104), (111, some 111), (113, some 113), (550, some 550), (551, some 551), (552, some 552)], ?_⟩
          refine ⟨by kernel_rfl, ?_, ?_, rfl, by kernel_rfl, ?_, ?_⟩
          · simp [go_sem, ↓iO, iO, tN]
          · simp [go_sem, ↓iO, iO, tN, slotsR, S.ren]
          · obtain ⟨F1, hF1'⟩ : ∃ F1, setK fi Sg (nodeF d.rates fi x P.length) k = F1 := ⟨_, rfl⟩
            obtain ⟨F2, hF2'⟩ : ∃ F2, setK fi Sg (nodeF d.rates fi x P.length) (k + 1) = F2 := ⟨_, rfl⟩
            obtain ⟨G1, hG1'⟩ : ∃ G1, setK gi Sg (nodeG d.rates fi x P.length) k = G1 := ⟨_, rfl⟩
            obtain ⟨G2, hG2'⟩ : ∃ G2, setK gi Sg (nodeG d.rates fi x P.length) (k + 1) = G2 := ⟨_, rfl⟩
            rw [hF1', hF2', hG1', hG2'] at j1
            rw [hF1', hF2', hG1', hG2']
            have hsx : P.length + k < x.length := by omega
            have hs2 : x[P.length + k] = s := (List.getElem?_eq_some_iff.1 hs).2
            have e3 : ((P.length : Int) + (k : Int)).toNat = P.length + k := by omega
            refine nfK0 ?_; simp [go_sem, ↓iO, iO, tN, psS, encY]; (repeat (refine anI ?_)); try (refine ⟨dcK, ?_⟩)
            repeat (first | (refine nfK1 ?_; simp (maxSteps := 1000000) [go_sem, ↓iO, iO, tN, hs, e3, hsx, hs2, w1, w2, w3, w4, w5, w6, widths_gv, width_gv]; (repeat (refine anI ?_)); try (refine ⟨dcK, ?_⟩)) | ((first | refine itePos (by omega) ?_ | refine iteNeg (by omega) ?_); try simp [go_sem, ↓iO, iO, tN, hs, e3, hsx, hs2, w1, w2, w3, w4, w5, w6, widths_gv, width_gv]) | (refine ⟨dcK, ?_⟩))
            refine CallK.fn (j1) [(0, 0), (1, 1), (2, 2), (3, 3)] [] [] (by kernel_rfl) ?_ ?_ ?_ (Or.inl rfl) ?_ <;> simp [go_sem, ↓iO, iO, tN, hs, e3, hsx, hs2, w1, w2, w3, w4, w5, w6, widths_gv, width_gv]
            repeat (refine anI ?_)
            try (refine ⟨dcK, ?_⟩)
            repeat (first | (refine nfK1 ?_; simp (maxSteps := 1000000) [go_sem, ↓iO, iO, tN, e3]; (repeat (refine anI ?_)); try (refine ⟨dcK, ?_⟩)) | ((first | refine itePos (by omega) ?_ | refine iteNeg (by omega) ?_); try simp [go_sem, ↓iO, iO, tN, e3]) | (refine ⟨dcK, ?_⟩))
            refine ⟨[(0, some 0), (1, some 1), (2, some 2), (3, some 3), (4, some 4), (5, some 5), (6, some 6)], ?_⟩
            simp [go_sem, ↓iO, iO, tN]
            omega
          · simp [go_sem, ↓iO, iO, tN]
        · have hsl : (Sg.map encY).length = Sg.length := by simp
          rw [hsl]
          obtain ⟨F1, hF1'⟩ : ∃ F1, setK fi Sg (nodeF d.rates fi x P.length) Sg.length = F1 := ⟨_, rfl⟩
          obtain ⟨G1, hG1'⟩ : ∃ G1, setK gi Sg (nodeG d.rates fi x P.length) Sg.length = G1 := ⟨_, rfl⟩
          rw [hF1', hG1']
          repeat (first | (refine nf1_sound rfl ?_; simp [go_sem, ↓iO, iO, tN]; (repeat (refine anI ?_)); try (refine ⟨dcK, ?_⟩)) | ((first | refine itePos (by omega) ?_ | refine iteNeg (by omega) ?_); try simp [go_sem, ↓iO, iO, tN]) | (refine ⟨dcK, ?_⟩))
          first | rw [RetQ_ret] | rw [RetQ_normal]
          refine ⟨[(0, some 0), (1, some 1), (2, some 2), (3, some 3)], ?_⟩
          simp [go_sem, ↓iO, iO, tN]
end Go.Proofs.YtcehllkmfkoncaaGreat
/- A tick: line.tick as a contract. No condition. -/
namespace Go.Proofs.YtcehllkmfkoncaaGreat
open Go.RowKit Sy Dl
open Go.IntWalk renaming iteOmega → iO, toNatUp → tN
set_option linter.unusedVariables false
set_option linter.unusedSimpArgs false
set_option maxRecDepth 100000 in
set_option maxHeartbeats 8000000 in
theorem node0_fn (d : LineD) (hd : LineOk d) (order : T) (w6 : order.width = 1) (fi gi oo : List (Option (List (Int × Int)))) (node : Int) (hg : gi.length = d.segs.length) (hS : Pc.Sane (comesV d gi node)) (hnz : ∀ z ∈ segYs node true 0 (d.segs.map (·.1)) d.rates, ∀ p ∈ gvAt gi z, p.2 ≠ 0) (hl : Pc.join (comesV d gi node) = []) :
    FnOk Tryz.prog 74 [.pt 0 [] 0, .t (.int node)] [(0, lineB d.net d.plan (.sl 1 (d.feeds.map encI)) order), (1, blkG fi), (2, blkG gi), (3, blkG oo)]
      (.t (.int 0)) [(0, lineB d.net d.plan (.sl 1 (d.feeds.map encI)) order), (1, blkG fi), (2, blkG gi), (3, blkG oo)] := by
  have s1 := stream_fn d hd order w6 fi gi oo node hg hS hnz
  rw [hl] at s1
  refine FnOk.intro fact_mixed Tryz.func74 rfl Tryz.ntmps74 (by rfl) (by simp) ?_
  repeat (first | (refine nf1_sound rfl ?_; simp [go_sem, ↓iO, iO, tN]; (repeat (refine anI ?_)); try (refine ⟨dcK, ?_⟩)) | ((first | refine itePos (by omega) ?_ | refine iteNeg (by omega) ?_); try simp [go_sem, ↓iO, iO, tN]) | (refine ⟨dcK, ?_⟩))
  refine CallK.fn (s1) [(0, 0), (1, 1), (2, 2), (3, 3), (1000, 510)] [] [] (by kernel_rfl) ?_ ?_ ?_ (Or.inl rfl) ?_ <;> simp [go_sem, ↓iO, iO, tN]
  repeat (refine anI ?_)
  try (refine ⟨dcK, ?_⟩)
  repeat (first | (refine nf1_sound rfl ?_; simp [go_sem, ↓iO, iO, tN]; (repeat (refine anI ?_)); try (refine ⟨dcK, ?_⟩)) | ((first | refine itePos (by omega) ?_ | refine iteNeg (by omega) ?_); try simp [go_sem, ↓iO, iO, tN]) | (refine ⟨dcK, ?_⟩))
  first | rw [RetQ_ret] | rw [RetQ_normal]
  refine ⟨[(0, some 0), (1, some 1), (2, some 2), (3, some 3)], ?_⟩
  simp [go_sem, ↓iO, iO, tN]
/-- The contract of a node, from one state of the lists to another. -/
def NodeC (d : LineD) (order : T) (node : Int) (f0 g0 o0 f1 g1 o1 : List (Option (List (Int × Int)))) : Prop :=
  FnOk Tryz.prog 74 [.pt 0 [] 0, .t (.int node)] [(0, lineB d.net d.plan (.sl 1 (d.feeds.map encI)) order), (1, blkG f0), (2, blkG g0), (3, blkG o0)]
      (.t (.int 0)) [(0, lineB d.net d.plan (.sl 1 (d.feeds.map encI)) order), (1, blkG f1), (2, blkG g1), (3, blkG o1)]
/-- The line, with any lists given and out. -/
@[go_sem] def lineX (net plan : List T) (feeds order : T) (a b : S) : Blk := .box 92 (.ag [.t (.agg net), .t (.agg plan), .t feeds, .t order, .own 1, a, b])
theorem gv_none (n : Nat) : (List.replicate n (none : Option (List (Int × Int)))).map encGv = List.replicate n (.lit (.slice none 0 0)) := by simp [encGv]
set_option maxRecDepth 100000 in
set_option maxHeartbeats 8000000 in
theorem tick0_fn (d : LineD) (hd : LineOk d) (ord : List Int) (hol : ord.length ≤ 1000) (F G O : Nat → List (Option (List (Int × Int)))) (hG0 : G 0 = List.replicate d.segs.length none) (hO0 : O 0 = List.replicate d.ports.length none)
    (hN : ∀ k node, ord[k]? = some node → NodeC d (.sl 1 (ord.map encI)) node (F k) (G k) (O k) (F (k + 1)) (G (k + 1)) (O (k + 1))) :
    FnOk Tryz.prog 31 [.pt 0 [] 0] [(0, lineX d.net d.plan (.sl 1 (d.feeds.map encI)) (.sl 1 (ord.map encI)) (.t (.lit (.slice none 0 0))) (.t (.lit (.slice none 0 0)))), (1, blkG (F 0))]
      (.t (.int 0)) [(0, lineX d.net d.plan (.sl 1 (d.feeds.map encI)) (.sl 1 (ord.map encI)) (.own 1000) (.own 1001)), (1, blkG (F ord.length)), (1000, blkG (G ord.length)), (1001, blkG (O ord.length))] := by
  have w1 := hd.w1
  have w2 := hd.w2
  have w3 := hd.w3
  have w4 := hd.w4
  have w5 := hd.w5
  have hmS := hd.maxS
  have hmP := hd.maxP
  refine FnOk.intro fact_mixed Tryz.func31 rfl Tryz.ntmps31 (by rfl) (by simp) ?_
  repeat (first | (refine nf1_sound rfl ?_; simp [go_sem, ↓iO, iO, tN, w1, w2, w3, w4, w5]; (repeat (refine anI ?_)); try (refine ⟨dcK, ?_⟩)) | ((first | refine itePos (by omega) ?_ | refine iteNeg (by omega) ?_); try simp [go_sem, ↓iO, iO, tN, w1, w2, w3, w4, w5]) | (refine ⟨dcK, ?_⟩))
  refine nf1_sound' _ _ _ ?_; simp only [nf1]
  refine CW.loop (ι := Nat) (fun k => ⟨[(0, .pt 0 [] 0), (29, .t (.sl 1 (ord.map encI))), (30, .t (.int ord.length)), (31, .t (.int k))], [(0, lineX d.net d.plan (.sl 1 (d.feeds.map encI)) (.sl 1 (ord.map encI)) (.own 500) (.own 501)), (1, blkG (F k)), (500, blkG (G k)), (501, blkG (O k))]⟩) (fun k => k ≤ ord.length) (fun k => ord.length - k) 0 [(0, some 0), (1, some 1), (500, some 114), (501, some 121)] (by omega) ?_ ?_
  · simp [go_sem, ↓iO, iO, tN, hG0, hO0, gv_none]
  intro k hk
  by_cases hb : k < ord.length
  · obtain ⟨node, hn⟩ := has_get hb
    have c1 := hN k node hn
    have hn2 : ord[k] = node := (List.getElem?_eq_some_iff.1 hn).2
    unfold NodeC at c1
    obtain ⟨F0, hF0⟩ : ∃ F0, F k = F0 := ⟨_, rfl⟩
    obtain ⟨G0, hG0⟩ : ∃ G0, G k = G0 := ⟨_, rfl⟩
    obtain ⟨O0, hO0⟩ : ∃ O0, O k = O0 := ⟨_, rfl⟩
    obtain ⟨F1, hF1⟩ : ∃ F1, F (k + 1) = F1 := ⟨_, rfl⟩
    obtain ⟨G1, hG1⟩ : ∃ G1, G (k + 1) = G1 := ⟨_, rfl⟩
    obtain ⟨O1, hO1⟩ : ∃ O1, O (k + 1) = O1 := ⟨_, rfl⟩
    rw [hF0, hG0, hO0, hF1, hG1, hO1] at c1
    rw [hF0, hG0, hO0]
    repeat (first | (refine nf1_sound rfl ?_; simp [go_sem, ↓iO, iO, tN, hn, hn2, hb]; (repeat (refine anI ?_)); try (refine ⟨dcK, ?_⟩)) | ((first | refine itePos (by omega) ?_ | refine iteNeg (by omega) ?_); try simp [go_sem, ↓iO, iO, tN, hn, hn2, hb]) | (refine ⟨dcK, ?_⟩))
    refine CallK.fn (c1) [(0, 0), (1, 1), (2, 500), (3, 501)] [] [] (by kernel_rfl) ?_ ?_ ?_ (Or.inl rfl) ?_ <;> simp [go_sem, ↓iO, iO, tN]
    repeat (refine anI ?_)
    try (refine ⟨dcK, ?_⟩)
    repeat (first | (refine nf1_sound rfl ?_; simp [go_sem, ↓iO, iO, tN]; (repeat (refine anI ?_)); try (refine ⟨dcK, ?_⟩)) | ((first | refine itePos (by omega) ?_ | refine iteNeg (by omega) ?_); try simp [go_sem, ↓iO, iO, tN]) | (refine ⟨dcK, ?_⟩))
    rw [RoundQ_normal]; refine ⟨k + 1, [(0, some 0), (1, some 1), (500, some 500), (501, some 501)], ?_, ?_, ?_⟩
    · omega
    · omega
    simp [go_sem, ↓iO, iO, tN, hF1, hG1, hO1]
  · obtain rfl : k = ord.length := by omega
    obtain ⟨F0, hF0⟩ : ∃ F0, F ord.length = F0 := ⟨_, rfl⟩
    obtain ⟨G0, hG0⟩ : ∃ G0, G ord.length = G0 := ⟨_, rfl⟩
    obtain ⟨O0, hO0⟩ : ∃ O0, O ord.length = O0 := ⟨_, rfl⟩
    rw [hF0, hG0, hO0]
    repeat (first | (refine nf1_sound rfl ?_; simp [go_sem, ↓iO, iO, tN]; (repeat (refine anI ?_)); try (refine ⟨dcK, ?_⟩)) | ((first | refine itePos (by omega) ?_ | refine iteNeg (by omega) ?_); try simp [go_sem, ↓iO, iO, tN]) | (refine ⟨dcK, ?_⟩))
    first | rw [RetQ_ret] | rw [RetQ_normal]
    refine ⟨[(0, some 0), (1, some 1), (1000, some 500), (1001, some 501)], ?_⟩
    simp [go_sem, ↓iO, iO, tN]
set_option maxRecDepth 100000 in
set_option maxHeartbeats 8000000 in
theorem tick_fn (d : LineD) (hd : LineOk d) (ord : List Int) (hol : ord.length ≤ 1000) (gi oo : List (Option (List (Int × Int)))) (F G O : Nat → List (Option (List (Int × Int)))) (hG0 : G 0 = List.replicate d.segs.length none) (hO0 : O 0 = List.replicate d.ports.length none)
    (hN : ∀ k node, ord[k]? = some node → NodeC d (.sl 1 (ord.map encI)) node (F k) (G k) (O k) (F (k + 1)) (G (k + 1)) (O (k + 1))) :
    FnOk Tryz.prog 31 [.pt 0 [] 0] [(0, lineX d.net d.plan (.sl 1 (d.feeds.map encI)) (.sl 1 (ord.map encI)) (.own 2) (.own 3)), (1, blkG (F 0)), (2, blkG gi), (3, blkG oo)]
      (.t (.int 0)) [(0, lineX d.net d.plan (.sl 1 (d.feeds.map encI)) (.sl 1 (ord.map encI)) (.own 1000) (.own 1001)), (1, blkG (F ord.length)), (1000, blkG (G ord.length)), (1001, blkG (O ord.length))] := by
  have w1 := hd.w1
  have w2 := hd.w2
  have w3 := hd.w3
  have w4 := hd.w4
  have w5 := hd.w5
  have hmS := hd.maxS
  have hmP := hd.maxP
  refine FnOk.intro fact_mixed Tryz.func31 rfl Tryz.ntmps31 (by rfl) (by simp) ?_
  repeat (first | (refine nf1_sound rfl ?_; simp [go_sem, ↓iO, iO, tN, w1, w2, w3, w4, w5]; (repeat (refine anI ?_)); try (refine ⟨dcK, ?_⟩)) | ((first | refine itePos (by omega) ?_ | refine iteNeg (by omega) ?_); try simp [go_sem, ↓iO, iO, tN, w1, w2, w3, w4, w5]) | (refine ⟨dcK, ?_⟩))
  refine nf1_sound' _ _ _ ?_; simp only [nf1]
  refine CW.loop (ι := Nat) (fun k => ⟨[(0, .pt 0 [] 0), (29, .t (.sl 1 (ord.map encI))), (30, .t (.int ord.length)), (31, .t (.int k))], [(0, lineX d.net d.plan (.sl 1 (d.feeds.map encI)) (.sl 1 (ord.map encI)) (.own 500) (.own 501)), (1, blkG (F k)), (500, blkG (G k)), (501, blkG (O k))]⟩) (fun k => k ≤ ord.length) (fun k => ord.length - k) 0 [(0, some 0), (1, some 1), (500, some 114), (501, some 121)] (by omega) ?_ ?_
  · simp [go_sem, ↓iO, iO, tN, hG0, hO0, gv_none]
  intro k hk
  by_cases hb : k < ord.length
  · obtain ⟨node, hn⟩ := has_get hb
    have c1 := hN k node hn
    have hn2 : ord[k] = node := (List.getElem?_eq_some_iff.1 hn).2
    unfold NodeC at c1
    obtain ⟨F0, hF0⟩ : ∃ F0, F k = F0 := ⟨_, rfl⟩
    obtain ⟨G0, hG0⟩ : ∃ G0, G k = G0 := ⟨_, rfl⟩
    obtain ⟨O0, hO0⟩ : ∃ O0, O k = O0 := ⟨_, rfl⟩
    obtain ⟨F1, hF1⟩ : ∃ F1, F (k + 1) = F1 := ⟨_, rfl⟩
    obtain ⟨G1, hG1⟩ : ∃ G1, G (k + 1) = G1 := ⟨_, rfl⟩
    obtain ⟨O1, hO1⟩ : ∃ O1, O (k + 1) = O1 := ⟨_, rfl⟩
    rw [hF0, hG0, hO0, hF1, hG1, hO1] at c1
    rw [hF0, hG0, hO0]
    repeat (first | (refine nf1_sound rfl ?_; simp [go_sem, ↓iO, iO, tN, hn, hn2, hb]; (repeat (refine anI ?_)); try (refine ⟨dcK, ?_⟩)) | ((first | refine itePos (by omega) ?_ | refine iteNeg (by omega) ?_); try simp [go_sem, ↓iO, iO, tN, hn, hn2, hb]) | (refine ⟨dcK, ?_⟩))
    refine CallK.fn (c1) [(0, 0), (1, 1), (2, 500), (3, 501)] [] [] (by kernel_rfl) ?_ ?_ ?_ (Or.inl rfl) ?_ <;> simp [go_sem, ↓iO, iO, tN]
    repeat (refine anI ?_)
    try (refine ⟨dcK, ?_⟩)
    repeat (first | (refine nf1_sound rfl ?_; simp [go_sem, ↓iO, iO, tN]; (repeat (refine anI ?_)); try (refine ⟨dcK, ?_⟩)) | ((first | refine itePos (by omega) ?_ | refine iteNeg (by omega) ?_); try simp [go_sem, ↓iO, iO, tN]) | (refine ⟨dcK, ?_⟩))
    rw [RoundQ_normal]; refine ⟨k + 1, [(0, some 0), (1, some 1), (500, some 500), (501, some 501)], ?_, ?_, ?_⟩
    · omega
    · omega
    simp [go_sem, ↓iO, iO, tN, hF1, hG1, hO1]
  · obtain rfl : k = ord.length := by omega
    obtain ⟨F0, hF0⟩ : ∃ F0, F ord.length = F0 := ⟨_, rfl⟩
    obtain ⟨G0, hG0⟩ : ∃ G0, G ord.length = G0 := ⟨_, rfl⟩
    obtain ⟨O0, hO0⟩ : ∃ O0, O ord.length = O0 := ⟨_, rfl⟩
    rw [hF0, hG0, hO0]
    repeat (first | (refine nf1_sound rfl ?_; simp [go_sem, ↓iO, iO, tN]; (repeat (refine anI ?_)); try (refine ⟨dcK, ?_⟩)) | ((first | refine itePos (by omega) ?_ | refine iteNeg (by omega) ?_); try simp [go_sem, ↓iO, iO, tN]) | (refine ⟨dcK, ?_⟩))
    first | rw [RetQ_ret] | rw [RetQ_normal]
    refine ⟨[(0, some 0), (1, some 1), (1000, some 500), (1001, some 501)], ?_⟩
    simp [go_sem, ↓iO, iO, tN]
end Go.Proofs.YtcehllkmfkoncaaGreat
