/- Several texts of this proof, one behind the other. No condition. -/
import Derived.Test.YtdjmklobfjigoaaGreatDoorTTrnsB11
import Derived.Test.YtdjmklobfjigoaaGreatDoorTTrnsB12
import Derived.Test.YtdjmklobfjigoaaGreatDoorTTrnsB10
set_option maxRecDepth 100000
set_option maxHeartbeats 16000000
set_option linter.unusedVariables false
set_option linter.unusedSimpArgs false
namespace Go.Proofs.YtdjmklobfjigoaaGreatDoor
open Go.RowKit Sy Dl
open Go.IntWalk renaming iteOmega → iO, toNatUp → tN
theorem segYs_len2 (node : Int) (inn : Bool) : ∀ (k : Nat) (ps : List SegV) (rs : List Int), (segYs node inn k ps rs).length ≤ ps.length
  | k, [], rs => by simp [segYs]
  | k, p :: ps, [] => by simp [segYs]
  | k, p :: ps, r :: rs => by
    have := segYs_len2 node inn (k + 1) ps rs
    simp only [segYs]
    split <;> simp <;> omega
theorem segYs_inc (node : Int) (inn : Bool) : ∀ (k : Nat) (ps : List SegV) (rs : List Int), (segYs node inn k ps rs).Pairwise (fun a b => a.1 < b.1)
  | k, [], rs => by simp [segYs]
  | k, p :: ps, [] => by simp [segYs]
  | k, p :: ps, r :: rs => by
    have := segYs_inc node inn (k + 1) ps rs
    simp only [segYs]
    split
    · refine List.Pairwise.cons (fun b hb => ?_) this
      have := (segYs_get hb).1
      dsimp only; omega
    · exact this
def outO (oo : List (Option (List (Int × Int)))) (P : List (Nat × Int)) (x : List (List (Int × Int))) : Nat → List (Option (List (Int × Int)))
  | 0 => oo
  | k + 1 => (outO oo P x k).set (P.getD k (0, 0)).1 (some (x.getD k []))
theorem outO_len (oo P x) : ∀ k, (outO oo P x k).length = oo.length
  | 0 => rfl
  | k + 1 => by unfold outO; rw [List.length_set]; exact outO_len oo P x k
def backAt (rates : List Int) (y : Nat × Int) : Bool := decide (rates.getD y.1 0 < 0)
def setK {α : Type} (fi : List α) (Sg : List (Nat × Int)) (v : Nat → Nat × Int → α) : Nat → List α
  | 0 => fi
  | k + 1 => (setK fi Sg v k).set (Sg.getD k (0, 0)).1 (v k (Sg.getD k (0, 0)))
theorem setK_len {α : Type} (fi : List α) (Sg : List (Nat × Int)) (v : Nat → Nat × Int → α) : ∀ k, (setK fi Sg v k).length = fi.length
  | 0 => rfl
  | k + 1 => by unfold setK; rw [List.length_set]; exact setK_len fi Sg v k
theorem setK_at {α : Type} (fi : List α) (Sg : List (Nat × Int)) (v : Nat → Nat × Int → α) (hS : Sg.Pairwise (fun a b => a.1 < b.1)) (j : Nat) (y : Nat × Int) (hy : Sg[j]? = some y) : ∀ k, k ≤ j → (setK fi Sg v k)[y.1]? = fi[y.1]?
  | 0, _ => rfl
  | k + 1, hk => by
    unfold setK
    have h1 := setK_at fi Sg v hS j y hy k (by omega)
    obtain ⟨hj, rfl⟩ := List.getElem?_eq_some_iff.1 hy
    have h2 := List.pairwise_iff_getElem.1 hS k j (by omega) hj (by omega)
    rw [List.getElem?_set_ne (by rw [List.getD_eq_getElem?_getD, List.getElem?_eq_getElem (by omega)]; simp; omega), h1]
noncomputable def nodeF (rates : List Int) (fi : List (Option (List (Int × Int)))) (x : List (List (Int × Int))) (m : Nat) (k : Nat) (y : Nat × Int) : Option (List (Int × Int)) := some (fillV (gvAt fi y) (x.getD (m + k) []) (backAt rates y))
noncomputable def nodeG (rates : List Int) (fi : List (Option (List (Int × Int)))) (x : List (List (Int × Int))) (m : Nat) (k : Nat) (y : Nat × Int) : Option (List (Int × Int)) := some (outV (gvAt fi y) (x.getD (m + k) []) (backAt rates y))
theorem node_fn (d : LineD) (hd : LineOk d) (order : T) (w6 : order.width = 1) (fi gi oo : List (Option (List (Int × Int)))) (node : Int) (hg : gi.length = d.segs.length) (hfl : fi.length = d.segs.length) (hol : oo.length = d.ports.length) (hS : Pc.Sane (comesV d gi node)) (hnz : ∀ z ∈ segYs node true 0 (d.segs.map (·.1)) d.rates, ∀ p ∈ gvAt gi z, p.2 ≠ 0)
    (l : List (Int × Int)) (hl : Pc.join (comesV d gi node) = l) (hne : l ≠ []) (hl2 : l.length ≤ 200) (P Sg : List (Nat × Int)) (hP : prtYs node false 0 d.ports d.prates = P) (hSg : segYs node false 0 (d.segs.map (·.1)) d.rates = Sg) (x : List (List (Int × Int))) (hx : dealV l (P.map (·.2) ++ Sg.map (·.2)) = (x, 0)) (hxl : x.length = P.length + Sg.length)
    (hpush : ∀ (k : Nat) (y : Nat × Int), Sg[k]? = some y → (∃ f, fi[y.1]? = some (some f) ∧ f.length ≤ 1000000) ∧ (x.getD (P.length + k) []).length ≤ 1000000 ∧ (outV (gvAt fi y) (x.getD (P.length + k) []) (backAt d.rates y)).length ≤ 1000000 ∧ pushE (gvAt fi y) (x.getD (P.length + k) []) (backAt d.rates y) = 0) :
    FnOk Tryz.prog 51 [.pt 0 [] 0, .t (.int node)] [(0, lineB d.net d.plan (.sl 1 (d.feeds.map encI)) order), (1, blkG fi), (2, blkG gi), (3, blkG oo)]
      (.t (.int 0)) [(0, lineB d.net d.plan (.sl 1 (d.feeds.map encI)) order), (1, blkG (setK fi Sg (nodeF d.rates fi x P.length) Sg.length)), (2, blkG (setK gi Sg (nodeG d.rates fi x P.length) Sg.length)), (3, blkG (outO oo P x P.length))] := by
  have s1 := stream_fn d hd order w6 fi gi oo node hg hS hnz
  rw [hl] at s1
  have P_len : ∀ k, ((P.take k).map (·.2)).length ≤ 1000 := fun k => by
    have := prtYs_len2 node false 0 d.ports d.prates
    have := hd.maxP
    rw [hP] at *
    simp; omega
  have S_len : ∀ k, (P.map (·.2) ++ (Sg.take k).map (·.2)).length ≤ 2000 := fun k => by
    have := prtYs_len2 node false 0 d.ports d.prates
    have := segYs_len2 node false 0 (d.segs.map (·.1)) d.rates
    have := hd.maxP
    have := hd.maxS
    rw [hP] at *
    rw [hSg] at *
    simp at *; omega
  have hPl : P.length ≤ 1000 := by
    have := prtYs_len2 node false 0 d.ports d.prates
    have := hd.maxP
    rw [hP] at *
    omega
  have hSl : Sg.length ≤ 1000 := by
    have := segYs_len2 node false 0 (d.segs.map (·.1)) d.rates
    have := hd.maxS
    rw [hSg] at *
    simp at *; omega
  have hPg : ∀ y ∈ P, y.1 < d.ports.length := fun y hy => by
    rw [← hP] at hy
    have := (prtYs_get hy).2.1
    omega
  have hSGg : ∀ y ∈ Sg, y.1 < d.segs.length := fun y hy => by
    rw [← hSg] at hy
    have := (segYs_get hy).2.1
    simpa using this
  have hinc : Sg.Pairwise (fun a b => a.1 < b.1) := by rw [← hSg]; exact segYs_inc _ _ _ _ _
  have w1 := hd.w1
  have w2 := hd.w2
  have w3 := hd.w3
  have w4 := hd.w4
  have w5 := hd.w5
  have dl := deal_fn l (P.map (·.2) ++ Sg.map (·.2)) (by omega) (by simp; omega) x 0 hx
  have hlp : 0 < l.length := List.length_pos_iff.2 hne
  refine FnOk.intro fact_mixed Tryz.func51 rfl Tryz.ntmps51 (by rfl) (by simp) ?_
  repeat (first | (refine nf1_sound rfl ?_; simp [go_sem, ↓iO, iO, tN]) | refine anI ?_ | refine ⟨dcK, ?_⟩ | ((first | refine iP ?_ | refine iN ?_); try simp [go_sem, ↓iO, iO, tN]))
  refine CallK.fn (s1) [(0, 0), (1, 1), (2, 2), (3, 3), (1000, 510)] [] [] (by kernel_rfl) ?_ ?_ ?_ (Or.inl rfl) ?_ <;> simp [go_sem, ↓iO, iO, tN]
  repeat (refine anI ?_)
  try (refine ⟨dcK, ?_⟩)
  repeat (first | (refine nf1_sound rfl ?_; simp [go_sem, ↓iO, iO, tN]) | refine anI ?_ | refine ⟨dcK, ?_⟩ | ((first | refine iP ?_ | refine iN ?_); try simp [go_sem, ↓iO, iO, tN]))
  refine CallK.fn (ports_fn d.net d.plan (.sl 1 (d.feeds.map encI)) order fi gi oo node false) [(0, 0), (1, 1), (2, 2), (3, 3), (1000, 500), (1001, 501), (1002, 502)] [] [] (by kernel_rfl) ?_ ?_ ?_ (Or.inl rfl) ?_ <;> simp [go_sem, ↓iO, iO, tN]
  repeat (refine anI ?_)
  try (refine ⟨dcK, ?_⟩)
  refine nf1_sound' _ _ _ ?_; simp only [nf1]
  refine CW.rangeF (N := 87) [(0, .pt 0 [] 0), (1, .t (.int node)), (2, .pt 102 [] 0), (4, .pt 104 [] 0), (5, .own 510), (6, .pt 106 [] 0), (28, .fn 98 [.pt 500 [] 0, .pt 501 [] 0, .pt 502 [] 0])]
    (fun k => [(0, lineB d.net d.plan (.sl 1 (d.feeds.map encI)) order), (1, blkG fi), (2, blkG gi), (3, blkG oo), (102, .box 71 (.pt 0 [] 0)), (104, .box 46 (.t (.int 0))), (510, blkP l), (106, .box 22 (.own 520)), (520, .list 3 1 (((P.take k).map (·.2)).map encI)), (500, .box 71 (.pt 0 [] 0)), (501, .box 3 (.t (.int node))), (502, .box 4 (.t (.bool false)))])
    [(0, some 0), (1, some 1), (2, some 2), (3, some 3), (102, some 102), (104, some 104), (510, some 510), (106, some 106), (520, none), (500, some 500), (501, some 501), (502, some 502)]
    (lineI 500 501 502 0 (.t (.int node)) (.t (.bool false)) 3 4 d.net d.plan [.t (.sl 1 (d.feeds.map encI)), .t order, .own 1, .own 2, .own 3]) (P.map encY)
    [(0, some 0), (1, some 1), (2, some 2), (3, some 3), (102, some 102), (104, some 104), (510, some 510), (106, some 106), (520, some 520), (500, some 500), (501, some 501), (502, some 502)]
    ?_ rfl (by kernel_rfl) (by kernel_rfl) (by kernel_rfl) (by kernel_rfl) (by kernel_rfl) (by kernel_rfl) (by kernel_rfl) ?_ ?_ ?_ rfl ?_ ?_ ?_
  · simp [go_sem, ↓iO, iO, tN]
  · intro y hy
    obtain ⟨z, _, rfl⟩ := List.mem_map.1 hy
    rfl
  · intro y hy v hv
    obtain ⟨z, _, rfl⟩ := List.mem_map.1 hy
    simp [encY] at hv
    rcases hv with rfl | rfl <;> rfl
  · rw [← hP]
    exact ports_iter 500 501 502 0 rfl node false d.nodes (.sl 7 (d.segs.map encSg)) d.stat d.ports d.vap d.stl (.sl 1 (d.rates.map encI)) d.pumps d.prates _ hd.w1 rfl rfl hd.w2 hd.w3 hd.w4 hd.lenP hd.neP hd.maxP (fun r hr => by have := hd.bP r hr; omega)
  · intro k hk
    simp [go_sem, ↓iO, iO, tN, lineI]
    rfl
  · intro k y hy
    obtain ⟨z, hz, rfl⟩ : ∃ z, P[k]? = some z ∧ y = encY z := by
      rw [List.getElem?_map] at hy
      obtain ⟨z, h1, h2⟩ := Option.map_eq_some_iff.1 hy
      exact ⟨z, h1, h2.symm⟩
    have hkl : k < P.length := (List.getElem?_eq_some_iff.1 hz).1
    obtain ⟨z1, z2⟩ := z
    have e1 : ((P.take k).map (·.2)).map encI ++ [.int z2] = ((P.take (k + 1)).map (·.2)).map encI := by
      obtain ⟨hk, e⟩ := List.getElem?_eq_some_iff.1 hz
      rw [List.take_succ_eq_append_getElem hk, e]; simp [encI]
    have hlen := P_len k
    refine ⟨[(0, 106), (1, 520), (1000, 521)], [(6, .pt 0 [] 0)], [(0, .box 22 (.own 1)), (1, .list 3 1 (((P.take k).map (·.2)).map encI))], [(0, .box 22 (.own 1000)), (1000, .list 3 1 (((P.take (k + 1)).map (·.2)).map encI))], [(0, some 0), (1, some 1), (2, some 2), (3, some 3), (102, some 102), (104, some 104), (510, some 510), (106, some 106), (520, some 521), (500, some 500), (501, some 501), (502, some 502)], ?_⟩
    refine ⟨by kernel_rfl, ?_, ?_, rfl, by kernel_rfl, ?_, ?_⟩
    · simp [go_sem, ↓iO, iO, tN]
    · simp [go_sem, ↓iO, iO, tN, slotsR, S.ren]
    · rw [← e1]
      obtain ⟨V, hV⟩ : ∃ V, (P.take k).map (·.2) = V := ⟨_, rfl⟩
      rw [hV] at hlen ⊢
      simp [go_sem, ↓iO, iO, tN, psS, encY]
      repeat (refine anI ?_)
      refine ⟨[(0, some 0), (1000, some 134)], ?_⟩
      simp [go_sem, ↓iO, iO, tN]
    · simp [go_sem, ↓iO, iO, tN]
  · have hpl : (P.map encY).length = P.length := by simp
    rw [hpl]
    simp [go_sem, ↓iO, iO, tN, List.take_length]
    repeat (first | (refine nf1_sound rfl ?_; simp [go_sem, ↓iO, iO, tN]) | refine anI ?_ | refine ⟨dcK, ?_⟩ | ((first | refine iP ?_ | refine iN ?_); try simp [go_sem, ↓iO, iO, tN]))
    refine CallK.fn (segments_fn d.net d.plan (.sl 1 (d.feeds.map encI)) order fi gi oo node false) [(0, 0), (1, 1), (2, 2), (3, 3), (1000, 530), (1001, 531), (1002, 532)] [] [] (by kernel_rfl) ?_ ?_ ?_ (Or.inl rfl) ?_ <;> simp [go_sem, ↓iO, iO, tN]
    repeat (refine anI ?_)
    try (refine ⟨dcK, ?_⟩)
    refine nf1_sound' _ _ _ ?_; simp only [nf1]
    refine CW.rangeF (N := 87) [(0, .pt 0 [] 0), (1, .t (.int node)), (2, .pt 102 [] 0), (4, .pt 104 [] 0), (5, .own 510), (6, .pt 106 [] 0), (37, .fn 99 [.pt 530 [] 0, .pt 531 [] 0, .pt 532 [] 0])]
      (fun k => [(0, lineB d.net d.plan (.sl 1 (d.feeds.map encI)) order), (1, blkG fi), (2, blkG gi), (3, blkG oo), (102, .box 71 (.pt 0 [] 0)), (104, .box 46 (.t (.int 0))), (510, blkP l), (106, .box 22 (.own 520)), (520, .list 3 1 ((P.map (·.2) ++ (Sg.take k).map (·.2)).map encI)), (530, .box 71 (.pt 0 [] 0)), (531, .box 4 (.t (.bool false))), (532, .box 3 (.t (.int node)))])
      [(0, some 0), (1, some 1), (2, some 2), (3, some 3), (102, some 102), (104, some 104), (510, some 510), (106, some 106), (520, some 520), (530, some 530), (531, some 531), (532, some 532)]
      (lineI 530 531 532 0 (.t (.bool false)) (.t (.int node)) 4 3 d.net d.plan [.t (.sl 1 (d.feeds.map encI)), .t order, .own 1, .own 2, .own 3]) (Sg.map encY)
      [(0, some 0), (1, some 1), (2, some 2), (3, some 3), (102, some 102), (104, some 104), (510, some 510), (106, some 106), (520, some 520), (530, some 530), (531, some 531), (532, some 532)]
      ?_ rfl (by kernel_rfl) (by kernel_rfl) (by kernel_rfl) (by kernel_rfl) (by kernel_rfl) (by kernel_rfl) (by kernel_rfl) ?_ ?_ ?_ rfl ?_ ?_ ?_
    · simp [go_sem, ↓iO, iO, tN]
    · intro y hy
      obtain ⟨z, _, rfl⟩ := List.mem_map.1 hy
      rfl
    · intro y hy v hv
      obtain ⟨z, _, rfl⟩ := List.mem_map.1 hy
      simp [encY] at hv
      rcases hv with rfl | rfl <;> rfl
    · rw [← hSg]
      exact segs_iter 530 531 532 0 rfl node false d.nodes (.sl 3 (d.ports.map encPr)) d.stat d.segs d.vap d.stl (.sl 1 (d.prates.map encI)) d.pumps d.rates _ hd.w1 rfl hd.w2 hd.w3 hd.w4 hd.lenR hd.neS hd.maxS (fun r hr => by have := hd.bR r hr; omega)
    · intro k hk
      simp [go_sem, ↓iO, iO, tN, lineI]
      rfl
    · intro k y hy
      obtain ⟨z, hz, rfl⟩ : ∃ z, Sg[k]? = some z ∧ y = encY z := by
        rw [List.getElem?_map] at hy
        obtain ⟨z, h1, h2⟩ := Option.map_eq_some_iff.1 hy
        exact ⟨z, h1, h2.symm⟩
      have hkl : k < Sg.length := (List.getElem?_eq_some_iff.1 hz).1
      obtain ⟨z1, z2⟩ := z
      have e1 : (P.map (·.2) ++ (Sg.take k).map (·.2)).map encI ++ [.int z2] = (P.map (·.2) ++ (Sg.take (k + 1)).map (·.2)).map encI := by
        obtain ⟨hk, e⟩ := List.getElem?_eq_some_iff.1 hz
        rw [List.take_succ_eq_append_getElem hk, e]; simp [encI]
      have hlen := S_len k
      refine ⟨[(0, 106), (1, 520), (1000, 521)], [(6, .pt 0 [] 0)], [(0, .box 22 (.own 1)), (1, .list 3 1 ((P.map (·.2) ++ (Sg.take k).map (·.2)).map encI))], [(0, .box 22 (.own 1000)), (1000, .list 3 1 ((P.map (·.2) ++ (Sg.take (k + 1)).map (·.2)).map encI))], [(0, some 0), (1, some 1), (2, some 2), (3, some 3), (102, some 102), (104, some 104), (510, some 510), (106, some 106), (520, some 521), (530, some 530), (531, some 531), (532, some 532)], ?_⟩
      refine ⟨by kernel_rfl, ?_, ?_, rfl, by kernel_rfl, ?_, ?_⟩
      · simp [go_sem, ↓iO, iO, tN]
      · simp [go_sem, ↓iO, iO, tN, slotsR, S.ren]
      · rw [← e1]
        obtain ⟨V, hV⟩ : ∃ V, P.map (·.2) ++ (Sg.take k).map (·.2) = V := ⟨_, rfl⟩
        rw [hV] at hlen ⊢
        simp [go_sem, ↓iO, iO, tN, psS, encY]
        repeat (refine anI ?_)
        refine ⟨[(0, some 0), (1000, some 143)], ?_⟩
        simp [go_sem, ↓iO, iO, tN]
      · simp [go_sem, ↓iO, iO, tN]
    · have hsl : (Sg.map encY).length = Sg.length := by simp
      rw [hsl]
      obtain ⟨R, hR⟩ : ∃ R, P.map (·.2) ++ Sg.map (·.2) = R := ⟨_, rfl⟩
      rw [hR] at dl
      simp only [List.take_length, hR]
      refine CW.weak (ρ := [(0, some 0), (1, some 1), (2, some 2), (3, some 3), (102, some 102), (104, some 104), (106, some 106)]) (σ' := ⟨[(0, .pt 0 [] 0), (1, .t (.int node)), (2, .pt 102 [] 0), (4, .pt 104 [] 0), (5, .t (encPs l)), (6, .pt 106 [] 0)], [(0, lineB d.net d.plan (.sl 1 (d.feeds.map encI)) order), (1, blkG fi), (2, blkG gi), (3, blkG oo), (102, .box 71 (.pt 0 [] 0)), (104, .box 46 (.t (.int 0))), (106, .box 22 (.t (encIs R)))]⟩) ?_ ?_
      · simp [go_sem, ↓iO, iO, tN]
      repeat (first | (refine nf1_sound rfl ?_; simp [go_sem, ↓iO, iO, tN]) | refine anI ?_ | refine ⟨dcK, ?_⟩ | ((first | refine iP ?_ | refine iN ?_); try simp [go_sem, ↓iO, iO, tN]))
      refine CallK.fn (dl) [] [] [] (by kernel_rfl) ?_ ?_ ?_ (Or.inl rfl) ?_ <;> simp [go_sem, ↓iO, iO, tN]
      repeat (refine anI ?_)
      try (refine ⟨dcK, ?_⟩)
      repeat (first | (refine nf1_sound rfl ?_; simp [go_sem, ↓iO, iO, tN]) | refine anI ?_ | refine ⟨dcK, ?_⟩ | ((first | refine iP ?_ | refine iN ?_); try simp [go_sem, ↓iO, iO, tN]))
      refine CallK.fn (ports_fn d.net d.plan (.sl 1 (d.feeds.map encI)) order fi gi oo node false) [(0, 0), (1, 1), (2, 2), (3, 3), (1000, 540), (1001, 541), (1002, 542)] [] [] (by kernel_rfl) ?_ ?_ ?_ (Or.inl rfl) ?_ <;> simp [go_sem, ↓iO, iO, tN]
      repeat (refine anI ?_)
      try (refine ⟨dcK, ?_⟩)
      refine nf1_sound' _ _ _ ?_; simp only [nf1]
      refine CW.rangeF (N := 87) [(0, .pt 0 [] 0), (1, .t (.int node)), (2, .pt 102 [] 0), (4, .pt 104 [] 0), (11, .pt 111 [] 0), (13, .pt 113 [] 0), (55, .fn 98 [.pt 540 [] 0, .pt 541 [] 0, .pt 542 [] 0])]
        (fun k => [(0, lineB d.net d.plan (.sl 1 (d.feeds.map encI)) order), (1, blkG fi), (2, blkG gi), (3, blkG (outO oo P x k)), (102, .box 71 (.pt 0 [] 0)), (104, .box 46 (.t (.int 0))), (111, .box 42 (.t (.sl 1 (x.map encPs)))), (113, .box 3 (.t (.int k))), (540, .box 71 (.pt 0 [] 0)), (541, .box 3 (.t (.int node))), (542, .box 4 (.t (.bool false)))])
        [(0, some 0), (1, some 1), (2, some 2), (3, some 3), (102, some 102), (104, some 104), (111, some 111), (113, some 113), (540, some 540), (541, some 541), (542, some 542)]
        (lineI 540 541 542 0 (.t (.int node)) (.t (.bool false)) 3 4 d.net d.plan [.t (.sl 1 (d.feeds.map encI)), .t order, .own 1, .own 2, .own 3]) (P.map encY)
        [(0, some 0), (1, some 1), (2, some 2), (3, some 3), (102, some 102), (104, some 104), (111, some 111), (113, some 113), (540, some 540), (541, some 541), (542, some 542)]
        ?_ rfl (by kernel_rfl) (by kernel_rfl) (by kernel_rfl) (by kernel_rfl) (by kernel_rfl) (by kernel_rfl) (by kernel_rfl) ?_ ?_ ?_ rfl ?_ ?_ ?_
      · simp [go_sem, ↓iO, iO, tN, outO]
      · intro y hy
        obtain ⟨z, _, rfl⟩ := List.mem_map.1 hy
        rfl
      · intro y hy v hv
        obtain ⟨z, _, rfl⟩ := List.mem_map.1 hy
        simp [encY] at hv
        rcases hv with rfl | rfl <;> rfl
      · rw [← hP]
        exact ports_iter 540 541 542 0 rfl node false d.nodes (.sl 7 (d.segs.map encSg)) d.stat d.ports d.vap d.stl (.sl 1 (d.rates.map encI)) d.pumps d.prates _ hd.w1 rfl rfl hd.w2 hd.w3 hd.w4 hd.lenP hd.neP hd.maxP (fun r hr => by have := hd.bP r hr; omega)
      · intro k hk
        simp [go_sem, ↓iO, iO, tN, lineI]
        rfl
      · intro k y hy
        obtain ⟨z, hz, rfl⟩ : ∃ z, P[k]? = some z ∧ y = encY z := by
          rw [List.getElem?_map] at hy
          obtain ⟨z, h1, h2⟩ := Option.map_eq_some_iff.1 hy
          exact ⟨z, h1, h2.symm⟩
        have hkl : k < P.length := (List.getElem?_eq_some_iff.1 hz).1
        obtain ⟨z1, z2⟩ := z
        have hzl := hPg _ (List.mem_of_getElem? hz)
        dsimp only at hzl
        have hol2 := outO_len oo P x k
        obtain ⟨s, hs⟩ : ∃ s, x[k]? = some s := has_get (by omega)
        have hos : outO oo P x (k + 1) = (outO oo P x k).set z1 (some s) := by
          simp only [outO, List.getD_eq_getElem?_getD, hz, hs, Option.getD_some]
        refine ⟨[(0, 0), (1, 1), (2, 2), (3, 3), (4, 102), (5, 111), (6, 113)], [(2, .pt 4 [] 0), (11, .pt 5 [] 0), (13, .pt 6 [] 0)],
          [(0, lineB d.net d.plan (.sl 1 (d.feeds.map encI)) order), (1, blkG fi), (2, blkG gi), (3, blkG (outO oo P x k)), (4, .box 71 (.pt 0 [] 0)), (5, .box 42 (.t (.sl 1 (x.map encPs)))), (6, .box 3 (.t (.int k)))],
          [(0, lineB d.net d.plan (.sl 1 (d.feeds.map encI)) order), (1, blkG fi), (2, blkG gi), (3, blkG (outO oo P x (k + 1))), (4, .box 71 (.pt 0 [] 0)), (5, .box 42 (.t (.sl 1 (x.map encPs)))), (6, .box 3 (.t (.int (k + 1))))],
          [(0, some 0), (1, some 1), (2, some 2), (3, some 3), (102, some 102), (104, some 104), (111, some 111), (113, some 113), (540, some 540), (541, some 541), (542, some 542)], ?_⟩
        refine ⟨by kernel_rfl, ?_, ?_, rfl, by kernel_rfl, ?_, ?_⟩
        · simp [go_sem, ↓iO, iO, tN]
        · simp [go_sem, ↓iO, iO, tN, slotsR, S.ren]
        · rw [hos]
          obtain ⟨V, hV⟩ : ∃ V, outO oo P x k = V := ⟨_, rfl⟩
          rw [hV] at hol2 ⊢
          obtain ⟨og, hgo⟩ : ∃ og, V[z1]? = some og := has_get (by omega)
          have hvz : z1 < V.length := by omega
          have hsx : k < x.length := by omega
          have hs2 : x[k] = s := (List.getElem?_eq_some_iff.1 hs).2
          have hv2 : V[z1] = og := (List.getElem?_eq_some_iff.1 hgo).2
          refine nfK0 ?_; simp [go_sem, ↓iO, iO, tN, psS, encY]; (repeat (refine anI ?_)); try (refine ⟨dcK, ?_⟩)
          repeat (first | (refine nfK1 ?_; simp (maxSteps := 1000000) [go_sem, ↓iO, iO, tN, hs, hgo, hvz, hv2, hsx, hs2, w1, w2, w3, w4, w5, w6, widths_gv, width_gv]; (repeat (refine anI ?_)); try (refine ⟨dcK, ?_⟩)) | ((first | refine itePos (by omega) ?_ | refine iteNeg (by omega) ?_); try simp [go_sem, ↓iO, iO, tN, hs, hgo, hvz, hv2, hsx, hs2, w1, w2, w3, w4, w5, w6, widths_gv, width_gv]) | (refine ⟨dcK, ?_⟩))
          refine ⟨by cases og <;> rfl, ?_⟩
          repeat (refine anI ?_)
          refine ⟨dcK, ?_⟩
          repeat (first | (refine nfK1 ?_; simp (maxSteps := 1000000) [go_sem, ↓iO, iO, tN]; (repeat (refine anI ?_)); try (refine ⟨dcK, ?_⟩)) | ((first | refine itePos (by omega) ?_ | refine iteNeg (by omega) ?_); try simp [go_sem, ↓iO, iO, tN]) | (refine ⟨dcK, ?_⟩))
          refine ⟨[(0, some 0), (1, some 1), (2, some 2), (3, some 3), (4, some 4), (5, some 5), (6, some 6)], ?_⟩
          simp [go_sem, ↓iO, iO, tN, List.map_set]
        · simp [go_sem, ↓iO, iO, tN]
      · have hpl : (P.map encY).length = P.length := by simp
        rw [hpl]
        obtain ⟨O, hO⟩ : ∃ O, outO oo P x P.length = O := ⟨_, rfl⟩
        rw [hO]
        repeat (first | (refine nf1_sound rfl ?_; simp [go_sem, ↓iO, iO, tN]) | refine anI ?_ | refine ⟨dcK, ?_⟩ | ((first | refine iP ?_ | refine iN ?_); try simp [go_sem, ↓iO, iO, tN]))
        refine CallK.fn (segments_fn d.net d.plan (.sl 1 (d.feeds.map encI)) order fi gi O node false) [(0, 0), (1, 1), (2, 2), (3, 3), (1000, 550), (1001, 551), (1002, 552)] [] [] (by kernel_rfl) ?_ ?_ ?_ (Or.inl rfl) ?_ <;> simp [go_sem, ↓iO, iO, tN]
        repeat (refine anI ?_)
        try (refine ⟨dcK, ?_⟩)
        refine nf1_sound' _ _ _ ?_; simp only [nf1]
        refine CW.rangeF (N := 87) [(0, .pt 0 [] 0), (1, .t (.int node)), (2, .pt 102 [] 0), (4, .pt 104 [] 0), (11, .pt 111 [] 0), (13, .pt 113 [] 0), (72, .fn 99 [.pt 550 [] 0, .pt 551 [] 0, .pt 552 [] 0])]
          (fun k => [(0, lineB d.net d.plan (.sl 1 (d.feeds.map encI)) order), (1, blkG (setK fi Sg (nodeF d.rates fi x P.length) k)), (2, blkG (setK gi Sg (nodeG d.rates fi x P.length) k)), (3, blkG O), (102, .box 71 (.pt 0 [] 0)), (104, .box 46 (.t (.int 0))), (111, .box 42 (.t (.sl 1 (x.map encPs)))), (113, .box 3 (.t (.int ((P.length + k : Nat) : Int)))), (550, .box 71 (.pt 0 [] 0)), (551, .box 4 (.t (.bool false))), (552, .box 3 (.t (.int node)))])
          [(0, some 0), (1, some 1), (2, some 2), (3, some 3), (102, some 102), (104, some 104), (111, some 111), (113, some 113), (550, some 550), (551, some 551), (552, some 552)]
          (lineI 550 551 552 0 (.t (.bool false)) (.t (.int node)) 4 3 d.net d.plan [.t (.sl 1 (d.feeds.map encI)), .t order, .own 1, .own 2, .own 3]) (Sg.map encY)
          [(0, some 0), (1, some 1), (2, some 2), (3, some 3), (102, some 102), (104, some 104), (111, some 111), (113, some 113), (550, some 550), (551, some 551), (552, some 552)]
          ?_ rfl (by kernel_rfl) (by kernel_rfl) (by kernel_rfl) (by kernel_rfl) (by kernel_rfl) (by kernel_rfl) (by kernel_rfl) ?_ ?_ ?_ rfl ?_ ?_ ?_
        · simp [go_sem, ↓iO, iO, tN, setK]
        · intro y hy
          obtain ⟨z, _, rfl⟩ := List.mem_map.1 hy
          rfl
        · intro y hy v hv
          obtain ⟨z, _, rfl⟩ := List.mem_map.1 hy
          simp [encY] at hv
          rcases hv with rfl | rfl <;> rfl
        · rw [← hSg]
          exact segs_iter 550 551 552 0 rfl node false d.nodes (.sl 3 (d.ports.map encPr)) d.stat d.segs d.vap d.stl (.sl 1 (d.prates.map encI)) d.pumps d.rates _ hd.w1 rfl hd.w2 hd.w3 hd.w4 hd.lenR hd.neS hd.maxS (fun r hr => by have := hd.bR r hr; omega)
        · intro k hk
          simp [go_sem, ↓iO, iO, tN, lineI]
          rfl
        · intro k y hy
          obtain ⟨z, hz, rfl⟩ : ∃ z, Sg[k]? = some z ∧ y = encY z := by
            rw [List.getElem?_map] at hy
            obtain ⟨z, h1, h2⟩ := Option.map_eq_some_iff.1 hy
            exact ⟨z, h1, h2.symm⟩
          have hkl : k < Sg.length := (List.getElem?_eq_some_iff.1 hz).1
          obtain ⟨z1, z2⟩ := z
          have hzl := hSGg _ (List.mem_of_getElem? hz)
          dsimp only at hzl
          obtain ⟨⟨f, hf, hf6⟩, hl6, ho6, he⟩ := hpush k _ hz
          have hf0 : gvAt fi (z1, z2) = f := by unfold gvAt; rw [List.getD_eq_getElem?_getD, hf]; rfl
          obtain ⟨r, hr⟩ : ∃ r, d.rates[z1]? = some r := has_get (by rw [hd.lenR]; exact hzl)
          have hb0 : backAt d.rates (z1, z2) = decide (r < 0) := by unfold backAt; rw [List.getD_eq_getElem?_getD, hr]; rfl
          obtain ⟨s, hs⟩ : ∃ s, x[P.length + k]? = some s := has_get (by omega)
          have hs0 : x.getD (P.length + k) [] = s := by rw [List.getD_eq_getElem?_getD, hs]; rfl
          rw [hs0] at hl6
          rw [hf0, hs0, hb0] at ho6 he
          have hgd : Sg.getD k (0, 0) = (z1, z2) := by rw [List.getD_eq_getElem?_getD, hz]; rfl
          have hF1 : setK fi Sg (nodeF d.rates fi x P.length) (k + 1) = (setK fi Sg (nodeF d.rates fi x P.length) k).set z1 (some (fillV f s (decide (r < 0)))) := by
            rw [← hf0, ← hs0, ← hb0, setK, hgd]; rfl
          have hG1 : setK gi Sg (nodeG d.rates fi x P.length) (k + 1) = (setK gi Sg (nodeG d.rates fi x P.length) k).set z1 (some (outV f s (decide (r < 0)))) := by
            rw [← hf0, ← hs0, ← hb0, setK, hgd]; rfl
          have hfk := setK_at fi Sg (nodeF d.rates fi x P.length) hinc k (z1, z2) hz k (Nat.le_refl _)
          dsimp only at hfk
          rw [hf] at hfk
          have hfl2 := setK_len fi Sg (nodeF d.rates fi x P.length) k
          have hgl2 := setK_len gi Sg (nodeG d.rates fi x P.length) k
          have j1 := apush_fn d hd order w6 (setK fi Sg (nodeF d.rates fi x P.length) k) (setK gi Sg (nodeG d.rates fi x P.length) k) O (by omega) (by omega) z1 r f s hr hfk hf6 hl6 ho6 he
          rw [← hF1, ← hG1] at j1
          refine ⟨[(0, 0), (1, 1), (2, 2), (3, 3), (4, 102), (5, 111), (6, 113)], [(2, .pt 4 [] 0), (11, .pt 5 [] 0), (13, .pt 6 [] 0)],
            [(0, lineB d.net d.plan (.sl 1 (d.feeds.map encI)) order), (1, blkG (setK fi Sg (nodeF d.rates fi x P.length) k)), (2, blkG (setK gi Sg (nodeG d.rates fi x P.length) k)), (3, blkG O), (4, .box 71 (.pt 0 [] 0)), (5, .box 42 (.t (.sl 1 (x.map encPs)))), (6, .box 3 (.t (.int ((P.length + k : Nat) : Int))))],
            [(0, lineB d.net d.plan (.sl 1 (d.feeds.map encI)) order), (1, blkG (setK fi Sg (nodeF d.rates fi x P.length) (k + 1))), (2, blkG (setK gi Sg (nodeG d.rates fi x P.length) (k + 1))), (3, blkG O), (4, .box 71 (.pt 0 [] 0)), (5, .box 42 (.t (.sl 1 (x.map encPs)))), (6, .box 3 (.t (.int ((P.length + (k + 1) : Nat) : Int))))],
            [(0, some 0), (1, some 1), (2, some 2), (3, some 3), (102, some 102), (104, some 104), (111, some 111), (113, some 113), (550, some 550), (551, some 551), (552, some 552)], ?_⟩
          refine ⟨by kernel_rfl, ?_, ?_, rfl, by kernel_rfl, ?_, ?_⟩
          · simp [go_sem, ↓iO, iO, tN]
          · simp [go_sem, ↓iO, iO, tN, slotsR, S.ren]
          · obtain ⟨F1, hF1'⟩ : ∃ F1, setK fi Sg (nodeF d.rates fi x P.length) k = F1 := ⟨_, rfl⟩
            obtain ⟨F2, hF2'⟩ : ∃ F2, setK fi Sg (nodeF d.rates fi x P.length) (k + 1) = F2 := ⟨_, rfl⟩
            obtain ⟨G1, hG1'⟩ : ∃ G1, setK gi Sg (nodeG d.rates fi x P.length) k = G1 := ⟨_, rfl⟩
            obtain ⟨G2, hG2'⟩ : ∃ G2, setK gi Sg (nodeG d.rates fi x P.length) (k + 1) = G2 := ⟨_, rfl⟩
            rw [hF1', hF2', hG1', hG2'] at j1
            rw [hF1', hF2', hG1', hG2']
            have hsx : P.length + k < x.length := by omega
            have hs2 : x[P.length + k] = s := (List.getElem?_eq_some_iff.1 hs).2
            have e3 : ((P.length : Int) + (k : Int)).toNat = P.length + k := by omega
            refine nfK0 ?_; simp [go_sem, ↓iO, iO, tN, psS, encY]; (repeat (refine anI ?_)); try (refine ⟨dcK, ?_⟩)
            repeat (first | (refine nfK1 ?_; simp (maxSteps := 1000000) [go_sem, ↓iO, iO, tN, hs, e3, hsx, hs2, w1, w2, w3, w4, w5, w6, widths_gv, width_gv]; (repeat (refine anI ?_)); try (refine ⟨dcK, ?_⟩)) | ((first | refine itePos (by omega) ?_ | refine iteNeg (by omega) ?_); try simp [go_sem, ↓iO, iO, tN, hs, e3, hsx, hs2, w1, w2, w3, w4, w5, w6, widths_gv, width_gv]) | (refine ⟨dcK, ?_⟩))
            refine CallK.fn (j1) [(0, 0), (1, 1), (2, 2), (3, 3)] [] [] (by kernel_rfl) ?_ ?_ ?_ (Or.inl rfl) ?_ <;> simp [go_sem, ↓iO, iO, tN, hs, e3, hsx, hs2, w1, w2, w3, w4, w5, w6, widths_gv, width_gv]
            repeat (refine anI ?_)
            try (refine ⟨dcK, ?_⟩)
            repeat (first | (refine nfK1 ?_; simp (maxSteps := 1000000) [go_sem, ↓iO, iO, tN, e3]; (repeat (refine anI ?_)); try (refine ⟨dcK, ?_⟩)) | ((first | refine itePos (by omega) ?_ | refine iteNeg (by omega) ?_); try simp [go_sem, ↓iO, iO, tN, e3]) | (refine ⟨dcK, ?_⟩))
            refine ⟨[(0, some 0), (1, some 1), (2, some 2), (3, some 3), (4, some 4), (5, some 5), (6, some 6)], ?_⟩
            simp [go_sem, ↓iO, iO, tN]
            omega
          · simp [go_sem, ↓iO, iO, tN]
        · have hsl : (Sg.map encY).length = Sg.length := by simp
          rw [hsl]
          obtain ⟨F1, hF1'⟩ : ∃ F1, setK fi Sg (nodeF d.rates fi x P.length) Sg.length = F1 := ⟨_, rfl⟩
          obtain ⟨G1, hG1'⟩ : ∃ G1, setK gi Sg (nodeG d.rates fi x P.length) Sg.length = G1 := ⟨_, rfl⟩
          rw [hF1', hG1']
          repeat (first | (refine nf1_sound rfl ?_; simp [go_sem, ↓iO, iO, tN]) | refine anI ?_ | refine ⟨dcK, ?_⟩ | ((first | refine iP ?_ | refine iN ?_); try simp [go_sem, ↓iO, iO, tN]))
          first | rw [RetQ_ret] | rw [RetQ_normal]
          refine ⟨[(0, some 0), (1, some 1), (2, some 2), (3, some 3)], ?_⟩
          simp [go_sem, ↓iO, iO, tN]
def NodeC (d : LineD) (order : T) (node : Int) (f0 g0 o0 f1 g1 o1 : List (Option (List (Int × Int)))) : Prop :=
  FnOk Tryz.prog 51 [.pt 0 [] 0, .t (.int node)] [(0, lineB d.net d.plan (.sl 1 (d.feeds.map encI)) order), (1, blkG f0), (2, blkG g0), (3, blkG o0)]
      (.t (.int 0)) [(0, lineB d.net d.plan (.sl 1 (d.feeds.map encI)) order), (1, blkG f1), (2, blkG g1), (3, blkG o1)]
@[go_sem] def lineX (net plan : List T) (feeds order : T) (a b : S) : Blk := .box 76 (.ag [.t (.agg net), .t (.agg plan), .t feeds, .t order, .own 1, a, b])
theorem gv_none (n : Nat) : (List.replicate n (none : Option (List (Int × Int)))).map encGv = List.replicate n (.lit (.slice none 0 0)) := by simp [encGv]
theorem tick0_fn (d : LineD) (hd : LineOk d) (ord : List Int) (hol : ord.length ≤ 1000) (F G O : Nat → List (Option (List (Int × Int)))) (hG0 : G 0 = List.replicate d.segs.length none) (hO0 : O 0 = List.replicate d.ports.length none)
    (hN : ∀ k node, ord[k]? = some node → NodeC d (.sl 1 (ord.map encI)) node (F k) (G k) (O k) (F (k + 1)) (G (k + 1)) (O (k + 1))) :
    FnOk Tryz.prog 26 [.pt 0 [] 0] [(0, lineX d.net d.plan (.sl 1 (d.feeds.map encI)) (.sl 1 (ord.map encI)) (.t (.lit (.slice none 0 0))) (.t (.lit (.slice none 0 0)))), (1, blkG (F 0))]
      (.t (.int 0)) [(0, lineX d.net d.plan (.sl 1 (d.feeds.map encI)) (.sl 1 (ord.map encI)) (.own 1000) (.own 1001)), (1, blkG (F ord.length)), (1000, blkG (G ord.length)), (1001, blkG (O ord.length))] := by
  have w1 := hd.w1
  have w2 := hd.w2
  have w3 := hd.w3
  have w4 := hd.w4
  have w5 := hd.w5
  have hmS := hd.maxS
  have hmP := hd.maxP
  refine FnOk.intro fact_mixed Tryz.func26 rfl Tryz.ntmps26 (by rfl) (by simp) ?_
  repeat (first | (refine nf1_sound rfl ?_; simp [go_sem, ↓iO, iO, tN, w1, w2, w3, w4, w5]) | refine anI ?_ | refine ⟨dcK, ?_⟩ | ((first | refine iP ?_ | refine iN ?_); try simp [go_sem, ↓iO, iO, tN, w1, w2, w3, w4, w5]))
  refine nf1_sound' _ _ _ ?_; simp only [nf1]
  refine CW.loop (ι := Nat) (fun k => ⟨[(0, .pt 0 [] 0), (29, .t (.sl 1 (ord.map encI))), (30, .t (.int ord.length)), (31, .t (.int k))], [(0, lineX d.net d.plan (.sl 1 (d.feeds.map encI)) (.sl 1 (ord.map encI)) (.own 500) (.own 501)), (1, blkG (F k)), (500, blkG (G k)), (501, blkG (O k))]⟩) (fun k => k ≤ ord.length) (fun k => ord.length - k) 0 [(0, some 0), (1, some 1), (500, some 114), (501, some 121)] (by omega) ?_ ?_
  · simp [go_sem, ↓iO, iO, tN, hG0, hO0, gv_none]
  intro k hk
  by_cases hb : k < ord.length
  · obtain ⟨node, hn⟩ := has_get hb
    have c1 := hN k node hn
    have hn2 : ord[k] = node := (List.getElem?_eq_some_iff.1 hn).2
    unfold NodeC at c1
    obtain ⟨F0, hF0⟩ : ∃ F0, F k = F0 := ⟨_, rfl⟩
    obtain ⟨G0, hG0⟩ : ∃ G0, G k = G0 := ⟨_, rfl⟩
    obtain ⟨O0, hO0⟩ : ∃ O0, O k = O0 := ⟨_, rfl⟩
    obtain ⟨F1, hF1⟩ : ∃ F1, F (k + 1) = F1 := ⟨_, rfl⟩
    obtain ⟨G1, hG1⟩ : ∃ G1, G (k + 1) = G1 := ⟨_, rfl⟩
    obtain ⟨O1, hO1⟩ : ∃ O1, O (k + 1) = O1 := ⟨_, rfl⟩
    rw [hF0, hG0, hO0, hF1, hG1, hO1] at c1
    rw [hF0, hG0, hO0]
    repeat (first | (refine nf1_sound rfl ?_; simp [go_sem, ↓iO, iO, tN, hn, hn2, hb]) | refine anI ?_ | refine ⟨dcK, ?_⟩ | ((first | refine iP ?_ | refine iN ?_); try simp [go_sem, ↓iO, iO, tN, hn, hn2, hb]))
    refine CallK.fn (c1) [(0, 0), (1, 1), (2, 500), (3, 501)] [] [] (by kernel_rfl) ?_ ?_ ?_ (Or.inl rfl) ?_ <;> simp [go_sem, ↓iO, iO, tN]
    repeat (refine anI ?_)
    try (refine ⟨dcK, ?_⟩)
    repeat (first | (refine nf1_sound rfl ?_; simp [go_sem, ↓iO, iO, tN]) | refine anI ?_ | refine ⟨dcK, ?_⟩ | ((first | refine iP ?_ | refine iN ?_); try simp [go_sem, ↓iO, iO, tN]))
    rw [RoundQ_normal]; refine ⟨k + 1, [(0, some 0), (1, some 1), (500, some 500), (501, some 501)], ?_, ?_, ?_⟩
    · omega
    · omega
    simp [go_sem, ↓iO, iO, tN, hF1, hG1, hO1]
  · obtain rfl : k = ord.length := by omega
    obtain ⟨F0, hF0⟩ : ∃ F0, F ord.length = F0 := ⟨_, rfl⟩
    obtain ⟨G0, hG0⟩ : ∃ G0, G ord.length = G0 := ⟨_, rfl⟩
    obtain ⟨O0, hO0⟩ : ∃ O0, O ord.length = O0 := ⟨_, rfl⟩
    rw [hF0, hG0, hO0]
    repeat (first | (refine nf1_sound rfl ?_; simp [go_sem, ↓iO, iO, tN]) | refine anI ?_ | refine ⟨dcK, ?_⟩ | ((first | refine iP ?_ | refine iN ?_); try simp [go_sem, ↓iO, iO, tN]))
    first | rw [RetQ_ret] | rw [RetQ_normal]
    refine ⟨[(0, some 0), (1, some 1), (1000, some 500), (1001, some 501)], ?_⟩
    simp [go_sem, ↓iO, iO, tN]
theorem tick_fn (d : LineD) (hd : LineOk d) (ord : List Int) (hol : ord.length ≤ 1000) (gi oo : List (Option (List (Int × Int)))) (F G O : Nat → List (Option (List (Int × Int)))) (hG0 : G 0 = List.replicate d.segs.length none) (hO0 : O 0 = List.replicate d.ports.length none)
    (hN : ∀ k node, ord[k]? = some node → NodeC d (.sl 1 (ord.map encI)) node (F k) (G k) (O k) (F (k + 1)) (G (k + 1)) (O (k + 1))) :
    FnOk Tryz.prog 26 [.pt 0 [] 0] [(0, lineX d.net d.plan (.sl 1 (d.feeds.map encI)) (.sl 1 (ord.map encI)) (.own 2) (.own 3)), (1, blkG (F 0)), (2, blkG gi), (3, blkG oo)]
      (.t (.int 0)) [(0, lineX d.net d.plan (.sl 1 (d.feeds.map encI)) (.sl 1 (ord.map encI)) (.own 1000) (.own 1001)), (1, blkG (F ord.length)), (1000, blkG (G ord.length)), (1001, blkG (O ord.length))] := by
  have w1 := hd.w1
  have w2 := hd.w2
  have w3 := hd.w3
  have w4 := hd.w4
  have w5 := hd.w5
  have hmS := hd.maxS
  have hmP := hd.maxP
  refine FnOk.intro fact_mixed Tryz.func26 rfl Tryz.ntmps26 (by rfl) (by simp) ?_
  repeat (first | (refine nf1_sound rfl ?_; simp [go_sem, ↓iO, iO, tN, w1, w2, w3, w4, w5]) | refine anI ?_ | refine ⟨dcK, ?_⟩ | ((first | refine iP ?_ | refine iN ?_); try simp [go_sem, ↓iO, iO, tN, w1, w2, w3, w4, w5]))
  refine nf1_sound' _ _ _ ?_; simp only [nf1]
  refine CW.loop (ι := Nat) (fun k => ⟨[(0, .pt 0 [] 0), (29, .t (.sl 1 (ord.map encI))), (30, .t (.int ord.length)), (31, .t (.int k))], [(0, lineX d.net d.plan (.sl 1 (d.feeds.map encI)) (.sl 1 (ord.map encI)) (.own 500) (.own 501)), (1, blkG (F k)), (500, blkG (G k)), (501, blkG (O k))]⟩) (fun k => k ≤ ord.length) (fun k => ord.length - k) 0 [(0, some 0), (1, some 1), (500, some 114), (501, some 121)] (by omega) ?_ ?_
  · simp [go_sem, ↓iO, iO, tN, hG0, hO0, gv_none]
  intro k hk
  by_cases hb : k < ord.length
  · obtain ⟨node, hn⟩ := has_get hb
    have c1 := hN k node hn
    have hn2 : ord[k] = node := (List.getElem?_eq_some_iff.1 hn).2
    unfold NodeC at c1
    obtain ⟨F0, hF0⟩ : ∃ F0, F k = F0 := ⟨_, rfl⟩
    obtain ⟨G0, hG0⟩ : ∃ G0, G k = G0 := ⟨_, rfl⟩
    obtain ⟨O0, hO0⟩ : ∃ O0, O k = O0 := ⟨_, rfl⟩
    obtain ⟨F1, hF1⟩ : ∃ F1, F (k + 1) = F1 := ⟨_, rfl⟩
    obtain ⟨G1, hG1⟩ : ∃ G1, G (k + 1) = G1 := ⟨_, rfl⟩
    obtain ⟨O1, hO1⟩ : ∃ O1, O (k + 1) = O1 := ⟨_, rfl⟩
    rw [hF0, hG0, hO0, hF1, hG1, hO1] at c1
    rw [hF0, hG0, hO0]
    repeat (first | (refine nf1_sound rfl ?_; simp [go_sem, ↓iO, iO, tN, hn, hn2, hb]) | refine anI ?_ | refine ⟨dcK, ?_⟩ | ((first | refine iP ?_ | refine iN ?_); try simp [go_sem, ↓iO, iO, tN, hn, hn2, hb]))
    refine CallK.fn (c1) [(0, 0), (1, 1), (2, 500), (3, 501)] [] [] (by kernel_rfl) ?_ ?_ ?_ (Or.inl rfl) ?_ <;> simp [go_sem, ↓iO, iO, tN]
    repeat (refine anI ?_)
    try (refine ⟨dcK, ?_⟩)
    repeat (first | (refine nf1_sound rfl ?_; simp [go_sem, ↓iO, iO, tN]) | refine anI ?_ | refine ⟨dcK, ?_⟩ | ((first | refine iP ?_ | refine iN ?_); try simp [go_sem, ↓iO, iO, tN]))
    rw [RoundQ_normal]; refine ⟨k + 1, [(0, some 0), (1, some 1), (500, some 500), (501, some 501)], ?_, ?_, ?_⟩
    · omega
    · omega
    simp [go_sem, ↓iO, iO, tN, hF1, hG1, hO1]
  · obtain rfl : k = ord.length := by omega
    obtain ⟨F0, hF0⟩ : ∃ F0, F ord.length = F0 := ⟨_, rfl⟩
    obtain ⟨G0, hG0⟩ : ∃ G0, G ord.length = G0 := ⟨_, rfl⟩
    obtain ⟨O0, hO0⟩ : ∃ O0, O ord.length = O0 := ⟨_, rfl⟩
    rw [hF0, hG0, hO0]
    repeat (first | (refine nf1_sound rfl ?_; simp [go_sem, ↓iO, iO, tN]) | refine anI ?_ | refine ⟨dcK, ?_⟩ | ((first | refine iP ?_ | refine iN ?_); try simp [go_sem, ↓iO, iO, tN]))
    first | rw [RetQ_ret] | rw [RetQ_normal]
    refine ⟨[(0, some 0), (1, some 1), (1000, some 500), (1001, some 501)], ?_⟩
    simp [go_sem, ↓iO, iO, tN]
end Go.Proofs.YtdjmklobfjigoaaGreatDoor
namespace Go.Proofs.YtdjmklobfjigoaaGreatDoor
open Go.RowKit Sy
open Go.IntWalk renaming iteOmega → iO, toNatUp → tN
theorem seg_idx (l : List (Sgm)) (hlen : l.length ≤ 1000000) (hall : ∀ p ∈ l, FnOk Tryz.prog 87 [.t (encSg p)] [] (.t (.bool false)) []) : FnOk Tryz.prog 120 [.t (.sl 7 (l.map encSg)), .fn 87 []] [] (.t (.int (-1))) [] := by
  refine FnOk.intro fact_mixed Tryz.func120 rfl Tryz.ntmps120 (by rfl) (by simp) ?_
  repeat (first | (refine nf1_sound rfl ?_; simp [go_sem, ↓iO, iO, tN]) | refine anI ?_ | refine ⟨dcK, ?_⟩ | ((first | refine iP ?_ | refine iN ?_); try simp [go_sem, ↓iO, iO, tN]))
  refine nf1_sound' _ _ _ ?_; simp only [nf1]
  refine CW.loop (ι := Nat) (fun k => ⟨[(0, .t (.sl 7 (l.map encSg))), (1, .fn 87 []), (7, .t (.int l.length)), (8, .t (.int k))], []⟩) (fun k => k ≤ l.length) (fun k => l.length - k) 0 [] (by omega) ?_ ?_
  · simp [go_sem, ↓iO, iO, tN]
  intro k hk
  by_cases hb : k < l.length
  · obtain ⟨p, hp⟩ := has_get hb
    have hu := hall p (mem_get hp)
    repeat (first | (refine nf1_sound rfl ?_; simp [go_sem, ↓iO, iO, tN, hp]) | refine anI ?_ | refine ⟨dcK, ?_⟩ | ((first | refine iP ?_ | refine iN ?_); try simp [go_sem, ↓iO, iO, tN, hp]))
    refine CallK.fn (hu) [] [] [] (by kernel_rfl) ?_ ?_ ?_ (Or.inl rfl) ?_ <;> simp [go_sem, ↓iO, iO, tN]
    repeat (refine anI ?_)
    try (refine ⟨dcK, ?_⟩)
    repeat (first | (refine nf1_sound rfl ?_; simp [go_sem, ↓iO, iO, tN]) | refine anI ?_ | refine ⟨dcK, ?_⟩ | ((first | refine iP ?_ | refine iN ?_); try simp [go_sem, ↓iO, iO, tN]))
    rw [RoundQ_normal]; refine ⟨k + 1, [], ?_, ?_, ?_⟩
    · omega
    · omega
    simp [go_sem, ↓iO, iO, tN]
  · obtain rfl : k = l.length := by omega
    repeat (first | (refine nf1_sound rfl ?_; simp [go_sem, ↓iO, iO, tN]) | refine anI ?_ | refine ⟨dcK, ?_⟩ | ((first | refine iP ?_ | refine iN ?_); try simp [go_sem, ↓iO, iO, tN]))
    first | rw [RetQ_ret] | rw [RetQ_normal]
    refine ⟨[], ?_⟩
    simp [go_sem, ↓iO, iO, tN]
theorem seg_cont (l : List (Sgm)) (hlen : l.length ≤ 1000000) (hall : ∀ p ∈ l, FnOk Tryz.prog 87 [.t (encSg p)] [] (.t (.bool false)) []) : FnOk Tryz.prog 79 [.t (.sl 7 (l.map encSg)), .fn 87 []] [] (.t (.bool false)) [] := by
  refine FnOk.intro fact_mixed Tryz.func79 rfl Tryz.ntmps79 (by rfl) (by simp) ?_
  repeat (first | (refine nf1_sound rfl ?_; simp [go_sem, ↓iO, iO, tN]) | refine anI ?_ | refine ⟨dcK, ?_⟩ | ((first | refine iP ?_ | refine iN ?_); try simp [go_sem, ↓iO, iO, tN]))
  refine CallK.fn (seg_idx l hlen hall) [] [] [] (by kernel_rfl) ?_ ?_ ?_ (Or.inl rfl) ?_ <;> simp [go_sem, ↓iO, iO, tN]
  repeat (refine anI ?_)
  try (refine ⟨dcK, ?_⟩)
  repeat (first | (refine nf1_sound rfl ?_; simp [go_sem, ↓iO, iO, tN]) | refine anI ?_ | refine ⟨dcK, ?_⟩ | ((first | refine iP ?_ | refine iN ?_); try simp [go_sem, ↓iO, iO, tN]))
  first | rw [RetQ_ret] | rw [RetQ_normal]
  refine ⟨[], ?_⟩
  simp [go_sem, ↓iO, iO, tN]
theorem fci_idx (l : List (Int)) (hlen : l.length ≤ 1000000) (hall : ∀ p ∈ l, FnOk Tryz.prog 95 [.t (encI p)] [] (.t (.bool false)) []) : FnOk Tryz.prog 66 [.t (.sl 1 (l.map encI)), .fn 95 []] [] (.t (.int (-1))) [] := by
  refine FnOk.intro fact_mixed Tryz.func66 rfl Tryz.ntmps66 (by rfl) (by simp) ?_
  repeat (first | (refine nf1_sound rfl ?_; simp [go_sem, ↓iO, iO, tN]) | refine anI ?_ | refine ⟨dcK, ?_⟩ | ((first | refine iP ?_ | refine iN ?_); try simp [go_sem, ↓iO, iO, tN]))
  refine nf1_sound' _ _ _ ?_; simp only [nf1]
  refine CW.loop (ι := Nat) (fun k => ⟨[(0, .t (.sl 1 (l.map encI))), (1, .fn 95 []), (7, .t (.int l.length)), (8, .t (.int k))], []⟩) (fun k => k ≤ l.length) (fun k => l.length - k) 0 [] (by omega) ?_ ?_
  · simp [go_sem, ↓iO, iO, tN]
  intro k hk
  by_cases hb : k < l.length
  · obtain ⟨p, hp⟩ := has_get hb
    have hu := hall p (mem_get hp)
    repeat (first | (refine nf1_sound rfl ?_; simp [go_sem, ↓iO, iO, tN, hp]) | refine anI ?_ | refine ⟨dcK, ?_⟩ | ((first | refine iP ?_ | refine iN ?_); try simp [go_sem, ↓iO, iO, tN, hp]))
    refine CallK.fn (hu) [] [] [] (by kernel_rfl) ?_ ?_ ?_ (Or.inl rfl) ?_ <;> simp [go_sem, ↓iO, iO, tN]
    repeat (refine anI ?_)
    try (refine ⟨dcK, ?_⟩)
    repeat (first | (refine nf1_sound rfl ?_; simp [go_sem, ↓iO, iO, tN]) | refine anI ?_ | refine ⟨dcK, ?_⟩ | ((first | refine iP ?_ | refine iN ?_); try simp [go_sem, ↓iO, iO, tN]))
    rw [RoundQ_normal]; refine ⟨k + 1, [], ?_, ?_, ?_⟩
    · omega
    · omega
    simp [go_sem, ↓iO, iO, tN]
  · obtain rfl : k = l.length := by omega
    repeat (first | (refine nf1_sound rfl ?_; simp [go_sem, ↓iO, iO, tN]) | refine anI ?_ | refine ⟨dcK, ?_⟩ | ((first | refine iP ?_ | refine iN ?_); try simp [go_sem, ↓iO, iO, tN]))
    first | rw [RetQ_ret] | rw [RetQ_normal]
    refine ⟨[], ?_⟩
    simp [go_sem, ↓iO, iO, tN]
theorem fci_cont (l : List (Int)) (hlen : l.length ≤ 1000000) (hall : ∀ p ∈ l, FnOk Tryz.prog 95 [.t (encI p)] [] (.t (.bool false)) []) : FnOk Tryz.prog 49 [.t (.sl 1 (l.map encI)), .fn 95 []] [] (.t (.bool false)) [] := by
  refine FnOk.intro fact_mixed Tryz.func49 rfl Tryz.ntmps49 (by rfl) (by simp) ?_
  repeat (first | (refine nf1_sound rfl ?_; simp [go_sem, ↓iO, iO, tN]) | refine anI ?_ | refine ⟨dcK, ?_⟩ | ((first | refine iP ?_ | refine iN ?_); try simp [go_sem, ↓iO, iO, tN]))
  refine CallK.fn (fci_idx l hlen hall) [] [] [] (by kernel_rfl) ?_ ?_ ?_ (Or.inl rfl) ?_ <;> simp [go_sem, ↓iO, iO, tN]
  repeat (refine anI ?_)
  try (refine ⟨dcK, ?_⟩)
  repeat (first | (refine nf1_sound rfl ?_; simp [go_sem, ↓iO, iO, tN]) | refine anI ?_ | refine ⟨dcK, ?_⟩ | ((first | refine iP ?_ | refine iN ?_); try simp [go_sem, ↓iO, iO, tN]))
  first | rw [RetQ_ret] | rw [RetQ_normal]
  refine ⟨[], ?_⟩
  simp [go_sem, ↓iO, iO, tN]
theorem sti_idx (l : List (Int)) (hlen : l.length ≤ 1000000) (hall : ∀ p ∈ l, FnOk Tryz.prog 50 [.t (encI p)] [] (.t (.bool false)) []) : FnOk Tryz.prog 66 [.t (.sl 1 (l.map encI)), .fn 50 []] [] (.t (.int (-1))) [] := by
  refine FnOk.intro fact_mixed Tryz.func66 rfl Tryz.ntmps66 (by rfl) (by simp) ?_
  repeat (first | (refine nf1_sound rfl ?_; simp [go_sem, ↓iO, iO, tN]) | refine anI ?_ | refine ⟨dcK, ?_⟩ | ((first | refine iP ?_ | refine iN ?_); try simp [go_sem, ↓iO, iO, tN]))
  refine nf1_sound' _ _ _ ?_; simp only [nf1]
  refine CW.loop (ι := Nat) (fun k => ⟨[(0, .t (.sl 1 (l.map encI))), (1, .fn 50 []), (7, .t (.int l.length)), (8, .t (.int k))], []⟩) (fun k => k ≤ l.length) (fun k => l.length - k) 0 [] (by omega) ?_ ?_
  · simp [go_sem, ↓iO, iO, tN]
  intro k hk
  by_cases hb : k < l.length
  · obtain ⟨p, hp⟩ := has_get hb
    have hu := hall p (mem_get hp)
    repeat (first | (refine nf1_sound rfl ?_; simp [go_sem, ↓iO, iO, tN, hp]) | refine anI ?_ | refine ⟨dcK, ?_⟩ | ((first | refine iP ?_ | refine iN ?_); try simp [go_sem, ↓iO, iO, tN, hp]))
    refine CallK.fn (hu) [] [] [] (by kernel_rfl) ?_ ?_ ?_ (Or.inl rfl) ?_ <;> simp [go_sem, ↓iO, iO, tN]
    repeat (refine anI ?_)
    try (refine ⟨dcK, ?_⟩)
    repeat (first | (refine nf1_sound rfl ?_; simp [go_sem, ↓iO, iO, tN]) | refine anI ?_ | refine ⟨dcK, ?_⟩ | ((first | refine iP ?_ | refine iN ?_); try simp [go_sem, ↓iO, iO, tN]))
    rw [RoundQ_normal]; refine ⟨k + 1, [], ?_, ?_, ?_⟩
    · omega
    · omega
    simp [go_sem, ↓iO, iO, tN]
  · obtain rfl : k = l.length := by omega
    repeat (first | (refine nf1_sound rfl ?_; simp [go_sem, ↓iO, iO, tN]) | refine anI ?_ | refine ⟨dcK, ?_⟩ | ((first | refine iP ?_ | refine iN ?_); try simp [go_sem, ↓iO, iO, tN]))
    first | rw [RetQ_ret] | rw [RetQ_normal]
    refine ⟨[], ?_⟩
    simp [go_sem, ↓iO, iO, tN]
theorem sti_cont (l : List (Int)) (hlen : l.length ≤ 1000000) (hall : ∀ p ∈ l, FnOk Tryz.prog 50 [.t (encI p)] [] (.t (.bool false)) []) : FnOk Tryz.prog 49 [.t (.sl 1 (l.map encI)), .fn 50 []] [] (.t (.bool false)) [] := by
  refine FnOk.intro fact_mixed Tryz.func49 rfl Tryz.ntmps49 (by rfl) (by simp) ?_
  repeat (first | (refine nf1_sound rfl ?_; simp [go_sem, ↓iO, iO, tN]) | refine anI ?_ | refine ⟨dcK, ?_⟩ | ((first | refine iP ?_ | refine iN ?_); try simp [go_sem, ↓iO, iO, tN]))
  refine CallK.fn (sti_idx l hlen hall) [] [] [] (by kernel_rfl) ?_ ?_ ?_ (Or.inl rfl) ?_ <;> simp [go_sem, ↓iO, iO, tN]
  repeat (refine anI ?_)
  try (refine ⟨dcK, ?_⟩)
  repeat (first | (refine nf1_sound rfl ?_; simp [go_sem, ↓iO, iO, tN]) | refine anI ?_ | refine ⟨dcK, ?_⟩ | ((first | refine iP ?_ | refine iN ?_); try simp [go_sem, ↓iO, iO, tN]))
  first | rw [RetQ_ret] | rw [RetQ_normal]
  refine ⟨[], ?_⟩
  simp [go_sem, ↓iO, iO, tN]
theorem acr_idx (l : List (List (Int × Int))) (hlen : l.length ≤ 1000000) (hall : ∀ p ∈ l, FnOk Tryz.prog 47 [.t (encPs p)] [] (.t (.bool false)) []) : FnOk Tryz.prog 63 [.t (.sl 1 (l.map encPs)), .fn 47 []] [] (.t (.int (-1))) [] := by
  refine FnOk.intro fact_mixed Tryz.func63 rfl Tryz.ntmps63 (by rfl) (by simp) ?_
  repeat (first | (refine nf1_sound rfl ?_; simp [go_sem, ↓iO, iO, tN]) | refine anI ?_ | refine ⟨dcK, ?_⟩ | ((first | refine iP ?_ | refine iN ?_); try simp [go_sem, ↓iO, iO, tN]))
  refine nf1_sound' _ _ _ ?_; simp only [nf1]
  refine CW.loop (ι := Nat) (fun k => ⟨[(0, .t (.sl 1 (l.map encPs))), (1, .fn 47 []), (7, .t (.int l.length)), (8, .t (.int k))], []⟩) (fun k => k ≤ l.length) (fun k => l.length - k) 0 [] (by omega) ?_ ?_
  · simp [go_sem, ↓iO, iO, tN]
  intro k hk
  by_cases hb : k < l.length
  · obtain ⟨p, hp⟩ := has_get hb
    have hu := hall p (mem_get hp)
    repeat (first | (refine nf1_sound rfl ?_; simp [go_sem, ↓iO, iO, tN, hp]) | refine anI ?_ | refine ⟨dcK, ?_⟩ | ((first | refine iP ?_ | refine iN ?_); try simp [go_sem, ↓iO, iO, tN, hp]))
    refine CallK.fn (hu) [] [] [] (by kernel_rfl) ?_ ?_ ?_ (Or.inl rfl) ?_ <;> simp [go_sem, ↓iO, iO, tN]
    repeat (refine anI ?_)
    try (refine ⟨dcK, ?_⟩)
    repeat (first | (refine nf1_sound rfl ?_; simp [go_sem, ↓iO, iO, tN]) | refine anI ?_ | refine ⟨dcK, ?_⟩ | ((first | refine iP ?_ | refine iN ?_); try simp [go_sem, ↓iO, iO, tN]))
    rw [RoundQ_normal]; refine ⟨k + 1, [], ?_, ?_, ?_⟩
    · omega
    · omega
    simp [go_sem, ↓iO, iO, tN]
  · obtain rfl : k = l.length := by omega
    repeat (first | (refine nf1_sound rfl ?_; simp [go_sem, ↓iO, iO, tN]) | refine anI ?_ | refine ⟨dcK, ?_⟩ | ((first | refine iP ?_ | refine iN ?_); try simp [go_sem, ↓iO, iO, tN]))
    first | rw [RetQ_ret] | rw [RetQ_normal]
    refine ⟨[], ?_⟩
    simp [go_sem, ↓iO, iO, tN]
theorem acr_cont (l : List (List (Int × Int))) (hlen : l.length ≤ 1000000) (hall : ∀ p ∈ l, FnOk Tryz.prog 47 [.t (encPs p)] [] (.t (.bool false)) []) : FnOk Tryz.prog 46 [.t (.sl 1 (l.map encPs)), .fn 47 []] [] (.t (.bool false)) [] := by
  refine FnOk.intro fact_mixed Tryz.func46 rfl Tryz.ntmps46 (by rfl) (by simp) ?_
  repeat (first | (refine nf1_sound rfl ?_; simp [go_sem, ↓iO, iO, tN]) | refine anI ?_ | refine ⟨dcK, ?_⟩ | ((first | refine iP ?_ | refine iN ?_); try simp [go_sem, ↓iO, iO, tN]))
  refine CallK.fn (acr_idx l hlen hall) [] [] [] (by kernel_rfl) ?_ ?_ ?_ (Or.inl rfl) ?_ <;> simp [go_sem, ↓iO, iO, tN]
  repeat (refine anI ?_)
  try (refine ⟨dcK, ?_⟩)
  repeat (first | (refine nf1_sound rfl ?_; simp [go_sem, ↓iO, iO, tN]) | refine anI ?_ | refine ⟨dcK, ?_⟩ | ((first | refine iP ?_ | refine iN ?_); try simp [go_sem, ↓iO, iO, tN]))
  first | rw [RetQ_ret] | rw [RetQ_normal]
  refine ⟨[], ?_⟩
  simp [go_sem, ↓iO, iO, tN]
theorem nprop1_fn (s : Sgm) (h : PipeOk s) : FnOk Tryz.prog 87 [.t (encSg s)] [] (.t (.bool false)) [] := by
  have c := pipe_fn s h
  refine FnOk.intro fact_mixed Tryz.func87 rfl Tryz.ntmps87 (by rfl) (by simp) ?_
  repeat (first | (refine nf1_sound rfl ?_; simp [go_sem, ↓iO, iO, tN]) | refine anI ?_ | refine ⟨dcK, ?_⟩ | ((first | refine iP ?_ | refine iN ?_); try simp [go_sem, ↓iO, iO, tN]))
  refine CallK.fn (c) [] [] [] (by kernel_rfl) ?_ ?_ ?_ (Or.inl rfl) ?_ <;> simp [go_sem, ↓iO, iO, tN]
  repeat (refine anI ?_)
  try (refine ⟨dcK, ?_⟩)
  repeat (first | (refine nf1_sound rfl ?_; simp [go_sem, ↓iO, iO, tN]) | refine anI ?_ | refine ⟨dcK, ?_⟩ | ((first | refine iP ?_ | refine iN ?_); try simp [go_sem, ↓iO, iO, tN]))
  first | rw [RetQ_ret] | rw [RetQ_normal]
  refine ⟨[], ?_⟩
  simp [go_sem, ↓iO, iO, tN]
theorem within_fn (n m : Int) (hm : -1000000 ≤ m ∧ m ≤ 1000000) (h : -m ≤ n ∧ n ≤ m) : FnOk Tryz.prog 94 [.t (.int n), .t (.int m)] [] (.t (.bool true)) [] := by
  obtain ⟨h1, h2⟩ := h
  refine FnOk.intro fact_mixed Tryz.func94 rfl Tryz.ntmps94 (by rfl) (by simp) ?_
  repeat (first | (refine nf1_sound rfl ?_; simp [go_sem, ↓iO, iO, tN, h1, h2]) | refine anI ?_ | refine ⟨dcK, ?_⟩ | ((first | refine iP ?_ | refine iN ?_); try simp [go_sem, ↓iO, iO, tN, h1, h2]))
  first | rw [RetQ_ret] | rw [RetQ_normal]
  refine ⟨[], ?_⟩
  simp [go_sem, ↓iO, iO, tN, h1, h2]
theorem fcheck1_fn (n : Int) (h : -1000 ≤ n ∧ n ≤ 1000) : FnOk Tryz.prog 95 [.t (.int n)] [] (.t (.bool false)) [] := by
  have c := within_fn n 1000 (by omega) h
  refine FnOk.intro fact_mixed Tryz.func95 rfl Tryz.ntmps95 (by rfl) (by simp) ?_
  repeat (first | (refine nf1_sound rfl ?_; simp [go_sem, ↓iO, iO, tN]) | refine anI ?_ | refine ⟨dcK, ?_⟩ | ((first | refine iP ?_ | refine iN ?_); try simp [go_sem, ↓iO, iO, tN]))
  refine CallK.fn (c) [] [] [] (by kernel_rfl) ?_ ?_ ?_ (Or.inl rfl) ?_ <;> simp [go_sem, ↓iO, iO, tN]
  repeat (refine anI ?_)
  try (refine ⟨dcK, ?_⟩)
  repeat (first | (refine nf1_sound rfl ?_; simp [go_sem, ↓iO, iO, tN]) | refine anI ?_ | refine ⟨dcK, ?_⟩ | ((first | refine iP ?_ | refine iN ?_); try simp [go_sem, ↓iO, iO, tN]))
  first | rw [RetQ_ret] | rw [RetQ_normal]
  refine ⟨[], ?_⟩
  simp [go_sem, ↓iO, iO, tN]
theorem am_f : fldsB Tryz.prog 149 = none := by kernel_rfl
theorem am_a : arrB Tryz.prog 149 = some (24, 3) := by kernel_rfl
theorem am_g : Tryz.prog.eqGuardType Tryz.prog.depth 149 = false := by kernel_rfl
theorem am_c : cellB Tryz.prog 3 = true := by kernel_rfl
theorem am_i : (intB Tryz.prog 3).isSome = true := by kernel_rfl
theorem eq_ints : ∀ l : List Int, eqAs Tryz.prog 3 (l.map T.int) (l.map T.int) = some true
  | [] => rfl
  | x :: r => by simp [eqAs, eqV, eq_ints r, am_i]
@[go_sem] def encS (k : List Nat) : T := .lit (.string (str k))
abbrev Stn := List Nat × Int × Int × Int × Int
@[go_sem] def encSn (s : Stn) : T := .agg [.lit (.string (str s.1)), .int s.2.1, .int s.2.2.1, .int s.2.2.2.1, .int s.2.2.2.2]
structure NetD where
  nn : List (List Nat)
  segs : List Sgm
  ports : List Prt
  stns : List Stn
  vap : Int
  stl : Int
@[go_sem] def NetD.l (d : NetD) : List T := [.sl 1 (d.nn.map encS), .sl 7 (d.segs.map encSg), .sl 3 (d.ports.map encPr), .sl 5 (d.stns.map encSn), .int d.vap, .int d.stl]
structure NameOk (k : List Nat) : Prop where
  by_ : ∀ x ∈ k, x < 256
  fn : FnOk Tryz.prog 59 [.t (encS k)] [] (.t (.bool true)) []
structure NetOk (d : NetD) : Prop where
  n0 : 1 ≤ d.nn.length
  n1 : d.nn.length ≤ 24
  s1 : d.segs.length ≤ 32
  p1 : d.ports.length ≤ 24
  t1 : d.stns.length ≤ 12
  nmN : ∀ k ∈ d.nn, NameOk k
  nmS : ∀ s ∈ d.segs, NameOk s.1.nm
  nmP : ∀ p ∈ d.ports, NameOk p.1
  nmT : ∀ s ∈ d.stns, NameOk s.1
  ndN : d.nn.Nodup
  ndS : (d.segs.map fun s => s.1.nm).Nodup
  ndP : (d.ports.map fun p => p.1).Nodup
  ndT : (d.stns.map fun s => s.1).Nodup
  ndU : (d.stns.map fun s => s.2.1).Nodup
  knS : ∀ s ∈ d.segs, (0 ≤ s.1.fr ∧ s.1.fr < d.nn.length) ∧ 0 ≤ s.1.to ∧ s.1.to < d.nn.length
  knP : ∀ p ∈ d.ports, 0 ≤ p.2.1 ∧ p.2.1 < d.nn.length
  knT : ∀ s ∈ d.stns, 0 ≤ s.2.1 ∧ s.2.1 < d.nn.length
  pipe : ∀ s ∈ d.segs, PipeOk s
  prs : ∀ p ∈ d.ports, 0 ≤ p.2.2 ∧ p.2.2 ≤ 100000000
  stn : ∀ s ∈ d.stns, (0 ≤ s.2.2.1 ∧ s.2.2.1 ≤ 100000000) ∧ (0 ≤ s.2.2.2.1 ∧ s.2.2.2.1 ≤ 100000) ∧ 0 ≤ s.2.2.2.2 ∧ s.2.2.2.2 ≤ 100000000
  vap : -100000 ≤ d.vap ∧ d.vap ≤ 100000000
  stl : 0 ≤ d.stl ∧ d.stl ≤ 100
theorem strB_inj {a b : List Nat} (ha : ∀ x ∈ a, x < 256) (hb : ∀ x ∈ b, x < 256) (h : (str a).toList = (str b).toList) : a = b := by
  rw [str_toList, str_toList] at h
  have gen : ∀ a b : List Nat, (∀ x ∈ a, x < 256) → (∀ x ∈ b, x < 256) → (a.map fun c => UInt8.ofNat c) = (b.map fun c => UInt8.ofNat c) → a = b := by
    intro a
    induction a with
    | nil => intro b _ _ h; cases b <;> simp_all
    | cons x r ih =>
      intro b ha hb h
      cases b with
      | nil => simp at h
      | cons y s =>
        simp only [List.map_cons, List.cons.injEq] at h
        have h1 := congrArg UInt8.toNat h.1
        simp at h1
        have hx := ha x (by simp)
        have hy := hb y (by simp)
        rw [ih s (fun z hz => ha z (by simp [hz])) (fun z hz => hb z (by simp [hz])) h.2]
        congr 1
        omega
  exact gen a b ha hb h
theorem lim_idx (l : List (Sgm)) (hlen : l.length ≤ 1000000) (hall : ∀ p ∈ l, FnOk Tryz.prog 80 [.t (encSg p)] [] (.t (.bool false)) []) : FnOk Tryz.prog 120 [.t (.sl 7 (l.map encSg)), .fn 80 []] [] (.t (.int (-1))) [] := by
  refine FnOk.intro fact_mixed Tryz.func120 rfl Tryz.ntmps120 (by rfl) (by simp) ?_
  repeat (first | (refine nf1_sound rfl ?_; simp [go_sem, ↓iO, iO, tN]) | refine anI ?_ | refine ⟨dcK, ?_⟩ | ((first | refine iP ?_ | refine iN ?_); try simp [go_sem, ↓iO, iO, tN]))
  refine nf1_sound' _ _ _ ?_; simp only [nf1]
  refine CW.loop (ι := Nat) (fun k => ⟨[(0, .t (.sl 7 (l.map encSg))), (1, .fn 80 []), (7, .t (.int l.length)), (8, .t (.int k))], []⟩) (fun k => k ≤ l.length) (fun k => l.length - k) 0 [] (by omega) ?_ ?_
  · simp [go_sem, ↓iO, iO, tN]
  intro k hk
  by_cases hb : k < l.length
  · obtain ⟨p, hp⟩ := has_get hb
    have hu := hall p (mem_get hp)
    repeat (first | (refine nf1_sound rfl ?_; simp [go_sem, ↓iO, iO, tN, hp]) | refine anI ?_ | refine ⟨dcK, ?_⟩ | ((first | refine iP ?_ | refine iN ?_); try simp [go_sem, ↓iO, iO, tN, hp]))
    refine CallK.fn (hu) [] [] [] (by kernel_rfl) ?_ ?_ ?_ (Or.inl rfl) ?_ <;> simp [go_sem, ↓iO, iO, tN]
    repeat (refine anI ?_)
    try (refine ⟨dcK, ?_⟩)
    repeat (first | (refine nf1_sound rfl ?_; simp [go_sem, ↓iO, iO, tN]) | refine anI ?_ | refine ⟨dcK, ?_⟩ | ((first | refine iP ?_ | refine iN ?_); try simp [go_sem, ↓iO, iO, tN]))
    rw [RoundQ_normal]; refine ⟨k + 1, [], ?_, ?_, ?_⟩
    · omega
    · omega
    simp [go_sem, ↓iO, iO, tN]
  · obtain rfl : k = l.length := by omega
    repeat (first | (refine nf1_sound rfl ?_; simp [go_sem, ↓iO, iO, tN]) | refine anI ?_ | refine ⟨dcK, ?_⟩ | ((first | refine iP ?_ | refine iN ?_); try simp [go_sem, ↓iO, iO, tN]))
    first | rw [RetQ_ret] | rw [RetQ_normal]
    refine ⟨[], ?_⟩
    simp [go_sem, ↓iO, iO, tN]
theorem lim_cont (l : List (Sgm)) (hlen : l.length ≤ 1000000) (hall : ∀ p ∈ l, FnOk Tryz.prog 80 [.t (encSg p)] [] (.t (.bool false)) []) : FnOk Tryz.prog 79 [.t (.sl 7 (l.map encSg)), .fn 80 []] [] (.t (.bool false)) [] := by
  refine FnOk.intro fact_mixed Tryz.func79 rfl Tryz.ntmps79 (by rfl) (by simp) ?_
  repeat (first | (refine nf1_sound rfl ?_; simp [go_sem, ↓iO, iO, tN]) | refine anI ?_ | refine ⟨dcK, ?_⟩ | ((first | refine iP ?_ | refine iN ?_); try simp [go_sem, ↓iO, iO, tN]))
  refine CallK.fn (lim_idx l hlen hall) [] [] [] (by kernel_rfl) ?_ ?_ ?_ (Or.inl rfl) ?_ <;> simp [go_sem, ↓iO, iO, tN]
  repeat (refine anI ?_)
  try (refine ⟨dcK, ?_⟩)
  repeat (first | (refine nf1_sound rfl ?_; simp [go_sem, ↓iO, iO, tN]) | refine anI ?_ | refine ⟨dcK, ?_⟩ | ((first | refine iP ?_ | refine iN ?_); try simp [go_sem, ↓iO, iO, tN]))
  first | rw [RetQ_ret] | rw [RetQ_normal]
  refine ⟨[], ?_⟩
  simp [go_sem, ↓iO, iO, tN]
theorem cks_idx (l : List (List Nat)) (hlen : l.length ≤ 1000000) (hall : ∀ p ∈ l, FnOk Tryz.prog 58 [.t (encS p)] [] (.t (.bool false)) []) : FnOk Tryz.prog 81 [.t (.sl 1 (l.map encS)), .fn 58 []] [] (.t (.int (-1))) [] := by
  refine FnOk.intro fact_mixed Tryz.func81 rfl Tryz.ntmps81 (by rfl) (by simp) ?_
  repeat (first | (refine nf1_sound rfl ?_; simp [go_sem, ↓iO, iO, tN]) | refine anI ?_ | refine ⟨dcK, ?_⟩ | ((first | refine iP ?_ | refine iN ?_); try simp [go_sem, ↓iO, iO, tN]))
  refine nf1_sound' _ _ _ ?_; simp only [nf1]
  refine CW.loop (ι := Nat) (fun k => ⟨[(0, .t (.sl 1 (l.map encS))), (1, .fn 58 []), (7, .t (.int l.length)), (8, .t (.int k))], []⟩) (fun k => k ≤ l.length) (fun k => l.length - k) 0 [] (by omega) ?_ ?_
  · simp [go_sem, ↓iO, iO, tN]
  intro k hk
  by_cases hb : k < l.length
  · obtain ⟨p, hp⟩ := has_get hb
    have hu := hall p (mem_get hp)
    repeat (first | (refine nf1_sound rfl ?_; simp [go_sem, ↓iO, iO, tN, hp]) | refine anI ?_ | refine ⟨dcK, ?_⟩ | ((first | refine iP ?_ | refine iN ?_); try simp [go_sem, ↓iO, iO, tN, hp]))
    refine CallK.fn (hu) [] [] [] (by kernel_rfl) ?_ ?_ ?_ (Or.inl rfl) ?_ <;> simp [go_sem, ↓iO, iO, tN]
    repeat (refine anI ?_)
    try (refine ⟨dcK, ?_⟩)
    repeat (first | (refine nf1_sound rfl ?_; simp [go_sem, ↓iO, iO, tN]) | refine anI ?_ | refine ⟨dcK, ?_⟩ | ((first | refine iP ?_ | refine iN ?_); try simp [go_sem, ↓iO, iO, tN]))
    rw [RoundQ_normal]; refine ⟨k + 1, [], ?_, ?_, ?_⟩
    · omega
    · omega
    simp [go_sem, ↓iO, iO, tN]
  · obtain rfl : k = l.length := by omega
    repeat (first | (refine nf1_sound rfl ?_; simp [go_sem, ↓iO, iO, tN]) | refine anI ?_ | refine ⟨dcK, ?_⟩ | ((first | refine iP ?_ | refine iN ?_); try simp [go_sem, ↓iO, iO, tN]))
    first | rw [RetQ_ret] | rw [RetQ_normal]
    refine ⟨[], ?_⟩
    simp [go_sem, ↓iO, iO, tN]
theorem cks_cont (l : List (List Nat)) (hlen : l.length ≤ 1000000) (hall : ∀ p ∈ l, FnOk Tryz.prog 58 [.t (encS p)] [] (.t (.bool false)) []) : FnOk Tryz.prog 57 [.t (.sl 1 (l.map encS)), .fn 58 []] [] (.t (.bool false)) [] := by
  refine FnOk.intro fact_mixed Tryz.func57 rfl Tryz.ntmps57 (by rfl) (by simp) ?_
  repeat (first | (refine nf1_sound rfl ?_; simp [go_sem, ↓iO, iO, tN]) | refine anI ?_ | refine ⟨dcK, ?_⟩ | ((first | refine iP ?_ | refine iN ?_); try simp [go_sem, ↓iO, iO, tN]))
  refine CallK.fn (cks_idx l hlen hall) [] [] [] (by kernel_rfl) ?_ ?_ ?_ (Or.inl rfl) ?_ <;> simp [go_sem, ↓iO, iO, tN]
  repeat (refine anI ?_)
  try (refine ⟨dcK, ?_⟩)
  repeat (first | (refine nf1_sound rfl ?_; simp [go_sem, ↓iO, iO, tN]) | refine anI ?_ | refine ⟨dcK, ?_⟩ | ((first | refine iP ?_ | refine iN ?_); try simp [go_sem, ↓iO, iO, tN]))
  first | rw [RetQ_ret] | rw [RetQ_normal]
  refine ⟨[], ?_⟩
  simp [go_sem, ↓iO, iO, tN]
theorem pr2_idx (l : List (Prt)) (hlen : l.length ≤ 1000000) (hall : ∀ p ∈ l, FnOk Tryz.prog 90 [.t (encPr p)] [] (.t (.bool false)) []) : FnOk Tryz.prog 121 [.t (.sl 3 (l.map encPr)), .fn 90 []] [] (.t (.int (-1))) [] := by
  refine FnOk.intro fact_mixed Tryz.func121 rfl Tryz.ntmps121 (by rfl) (by simp) ?_
  repeat (first | (refine nf1_sound rfl ?_; simp [go_sem, ↓iO, iO, tN]) | refine anI ?_ | refine ⟨dcK, ?_⟩ | ((first | refine iP ?_ | refine iN ?_); try simp [go_sem, ↓iO, iO, tN]))
  refine nf1_sound' _ _ _ ?_; simp only [nf1]
  refine CW.loop (ι := Nat) (fun k => ⟨[(0, .t (.sl 3 (l.map encPr))), (1, .fn 90 []), (7, .t (.int l.length)), (8, .t (.int k))], []⟩) (fun k => k ≤ l.length) (fun k => l.length - k) 0 [] (by omega) ?_ ?_
  · simp [go_sem, ↓iO, iO, tN]
  intro k hk
  by_cases hb : k < l.length
  · obtain ⟨p, hp⟩ := has_get hb
    have hu := hall p (mem_get hp)
    repeat (first | (refine nf1_sound rfl ?_; simp [go_sem, ↓iO, iO, tN, hp]) | refine anI ?_ | refine ⟨dcK, ?_⟩ | ((first | refine iP ?_ | refine iN ?_); try simp [go_sem, ↓iO, iO, tN, hp]))
    refine CallK.fn (hu) [] [] [] (by kernel_rfl) ?_ ?_ ?_ (Or.inl rfl) ?_ <;> simp [go_sem, ↓iO, iO, tN]
    repeat (refine anI ?_)
    try (refine ⟨dcK, ?_⟩)
    repeat (first | (refine nf1_sound rfl ?_; simp [go_sem, ↓iO, iO, tN]) | refine anI ?_ | refine ⟨dcK, ?_⟩ | ((first | refine iP ?_ | refine iN ?_); try simp [go_sem, ↓iO, iO, tN]))
    rw [RoundQ_normal]; refine ⟨k + 1, [], ?_, ?_, ?_⟩
    · omega
    · omega
    simp [go_sem, ↓iO, iO, tN]
  · obtain rfl : k = l.length := by omega
    repeat (first | (refine nf1_sound rfl ?_; simp [go_sem, ↓iO, iO, tN]) | refine anI ?_ | refine ⟨dcK, ?_⟩ | ((first | refine iP ?_ | refine iN ?_); try simp [go_sem, ↓iO, iO, tN]))
    first | rw [RetQ_ret] | rw [RetQ_normal]
    refine ⟨[], ?_⟩
    simp [go_sem, ↓iO, iO, tN]
theorem pr2_cont (l : List (Prt)) (hlen : l.length ≤ 1000000) (hall : ∀ p ∈ l, FnOk Tryz.prog 90 [.t (encPr p)] [] (.t (.bool false)) []) : FnOk Tryz.prog 89 [.t (.sl 3 (l.map encPr)), .fn 90 []] [] (.t (.bool false)) [] := by
  refine FnOk.intro fact_mixed Tryz.func89 rfl Tryz.ntmps89 (by rfl) (by simp) ?_
  repeat (first | (refine nf1_sound rfl ?_; simp [go_sem, ↓iO, iO, tN]) | refine anI ?_ | refine ⟨dcK, ?_⟩ | ((first | refine iP ?_ | refine iN ?_); try simp [go_sem, ↓iO, iO, tN]))
  refine CallK.fn (pr2_idx l hlen hall) [] [] [] (by kernel_rfl) ?_ ?_ ?_ (Or.inl rfl) ?_ <;> simp [go_sem, ↓iO, iO, tN]
  repeat (refine anI ?_)
  try (refine ⟨dcK, ?_⟩)
  repeat (first | (refine nf1_sound rfl ?_; simp [go_sem, ↓iO, iO, tN]) | refine anI ?_ | refine ⟨dcK, ?_⟩ | ((first | refine iP ?_ | refine iN ?_); try simp [go_sem, ↓iO, iO, tN]))
  first | rw [RetQ_ret] | rw [RetQ_normal]
  refine ⟨[], ?_⟩
  simp [go_sem, ↓iO, iO, tN]
theorem pr3_idx (l : List (Stn)) (hlen : l.length ≤ 1000000) (hall : ∀ p ∈ l, FnOk Tryz.prog 93 [.t (encSn p)] [] (.t (.bool false)) []) : FnOk Tryz.prog 84 [.t (.sl 5 (l.map encSn)), .fn 93 []] [] (.t (.int (-1))) [] := by
  refine FnOk.intro fact_mixed Tryz.func84 rfl Tryz.ntmps84 (by rfl) (by simp) ?_
  repeat (first | (refine nf1_sound rfl ?_; simp [go_sem, ↓iO, iO, tN]) | refine anI ?_ | refine ⟨dcK, ?_⟩ | ((first | refine iP ?_ | refine iN ?_); try simp [go_sem, ↓iO, iO, tN]))
  refine nf1_sound' _ _ _ ?_; simp only [nf1]
  refine CW.loop (ι := Nat) (fun k => ⟨[(0, .t (.sl 5 (l.map encSn))), (1, .fn 93 []), (7, .t (.int l.length)), (8, .t (.int k))], []⟩) (fun k => k ≤ l.length) (fun k => l.length - k) 0 [] (by omega) ?_ ?_
  · simp [go_sem, ↓iO, iO, tN]
  intro k hk
  by_cases hb : k < l.length
  · obtain ⟨p, hp⟩ := has_get hb
    have hu := hall p (mem_get hp)
    repeat (first | (refine nf1_sound rfl ?_; simp [go_sem, ↓iO, iO, tN, hp]) | refine anI ?_ | refine ⟨dcK, ?_⟩ | ((first | refine iP ?_ | refine iN ?_); try simp [go_sem, ↓iO, iO, tN, hp]))
    refine CallK.fn (hu) [] [] [] (by kernel_rfl) ?_ ?_ ?_ (Or.inl rfl) ?_ <;> simp [go_sem, ↓iO, iO, tN]
    repeat (refine anI ?_)
    try (refine ⟨dcK, ?_⟩)
    repeat (first | (refine nf1_sound rfl ?_; simp [go_sem, ↓iO, iO, tN]) | refine anI ?_ | refine ⟨dcK, ?_⟩ | ((first | refine iP ?_ | refine iN ?_); try simp [go_sem, ↓iO, iO, tN]))
    rw [RoundQ_normal]; refine ⟨k + 1, [], ?_, ?_, ?_⟩
    · omega
    · omega
    simp [go_sem, ↓iO, iO, tN]
  · obtain rfl : k = l.length := by omega
    repeat (first | (refine nf1_sound rfl ?_; simp [go_sem, ↓iO, iO, tN]) | refine anI ?_ | refine ⟨dcK, ?_⟩ | ((first | refine iP ?_ | refine iN ?_); try simp [go_sem, ↓iO, iO, tN]))
    first | rw [RetQ_ret] | rw [RetQ_normal]
    refine ⟨[], ?_⟩
    simp [go_sem, ↓iO, iO, tN]
theorem pr3_cont (l : List (Stn)) (hlen : l.length ≤ 1000000) (hall : ∀ p ∈ l, FnOk Tryz.prog 93 [.t (encSn p)] [] (.t (.bool false)) []) : FnOk Tryz.prog 92 [.t (.sl 5 (l.map encSn)), .fn 93 []] [] (.t (.bool false)) [] := by
  refine FnOk.intro fact_mixed Tryz.func92 rfl Tryz.ntmps92 (by rfl) (by simp) ?_
  repeat (first | (refine nf1_sound rfl ?_; simp [go_sem, ↓iO, iO, tN]) | refine anI ?_ | refine ⟨dcK, ?_⟩ | ((first | refine iP ?_ | refine iN ?_); try simp [go_sem, ↓iO, iO, tN]))
  refine CallK.fn (pr3_idx l hlen hall) [] [] [] (by kernel_rfl) ?_ ?_ ?_ (Or.inl rfl) ?_ <;> simp [go_sem, ↓iO, iO, tN]
  repeat (refine anI ?_)
  try (refine ⟨dcK, ?_⟩)
  repeat (first | (refine nf1_sound rfl ?_; simp [go_sem, ↓iO, iO, tN]) | refine anI ?_ | refine ⟨dcK, ?_⟩ | ((first | refine iP ?_ | refine iN ?_); try simp [go_sem, ↓iO, iO, tN]))
  first | rw [RetQ_ret] | rw [RetQ_normal]
  refine ⟨[], ?_⟩
  simp [go_sem, ↓iO, iO, tN]
theorem lim1_fn (s : Sgm) (h : 2 ≤ s.2.length ∧ s.2.length ≤ 8) : FnOk Tryz.prog 80 [.t (encSg s)] [] (.t (.bool false)) [] := by
  obtain ⟨h1, h2⟩ := h
  obtain ⟨⟨nm, fr, to, cp, rs, wv⟩, pts⟩ := s
  dsimp only at h1 h2
  refine FnOk.intro fact_mixed Tryz.func80 rfl Tryz.ntmps80 (by rfl) (by simp) ?_
  repeat (first | (refine nf1_sound rfl ?_; simp [go_sem, ↓iO, iO, tN, h1, h2]) | refine anI ?_ | refine ⟨dcK, ?_⟩ | ((first | refine iP ?_ | refine iN ?_); try simp [go_sem, ↓iO, iO, tN, h1, h2]))
  first | rw [RetQ_ret] | rw [RetQ_normal]
  refine ⟨[], ?_⟩
  simp [go_sem, ↓iO, iO, tN, h1, h2]
  omega
theorem pre_ex {α : Type} (l : List α) (f : α → T) : ∃ A : Nat → List T, A 0 = [] ∧ (∀ (k : Nat) x, l[k]? = some x → A (k + 1) = A k ++ [f x]) ∧ (∀ k, k ≤ l.length → (A k).length = k) ∧ A l.length = l.map f := by
  refine ⟨fun k => (l.take k).map f, rfl, fun k x hx => ?_, fun k hk => by simp; omega, by simp⟩
  obtain ⟨hk, e⟩ := List.getElem?_eq_some_iff.1 hx
  show (l.take (k + 1)).map f = (l.take k).map f ++ [f x]
  rw [List.take_succ_eq_append_getElem hk, e]; simp
theorem limits_fn (d : NetD) (h : NetOk d) : FnOk Tryz.prog 55 [.t (.agg d.l)] [] (.t (.bool true)) [] := by
  have h1 := h.n0
  have h2 := h.n1
  have h3 := h.s1
  have h4 := h.p1
  have h5 := h.t1
  have c := lim_cont d.segs (by omega) (fun s hs => lim1_fn s (h.pipe s hs).len)
  refine FnOk.intro fact_mixed Tryz.func55 rfl Tryz.ntmps55 (by rfl) (by simp) ?_
  repeat (first | (refine nf1_sound rfl ?_; simp [go_sem, ↓iO, iO, tN, h1, h2, h3, h4, h5]) | refine anI ?_ | refine ⟨dcK, ?_⟩ | ((first | refine iP ?_ | refine iN ?_); try simp [go_sem, ↓iO, iO, tN, h1, h2, h3, h4, h5]))
  refine CallK.fn (c) [] [] [] (by kernel_rfl) ?_ ?_ ?_ (Or.inl rfl) ?_ <;> simp [go_sem, ↓iO, iO, tN]
  repeat (refine anI ?_)
  try (refine ⟨dcK, ?_⟩)
  repeat (first | (refine nf1_sound rfl ?_; simp [go_sem, ↓iO, iO, tN]) | refine anI ?_ | refine ⟨dcK, ?_⟩ | ((first | refine iP ?_ | refine iN ?_); try simp [go_sem, ↓iO, iO, tN]))
  first | rw [RetQ_ret] | rw [RetQ_normal]
  refine ⟨[], ?_⟩
  simp [go_sem, ↓iO, iO, tN]
theorem names_fn (d : NetD) (h : NetOk d) : FnOk Tryz.prog 56 [.t (.agg d.l)] [] (.t (.agg [.sl 1 (d.nn.map encS), .sl 1 (d.segs.map fun s => encS s.1.nm), .sl 1 (d.ports.map fun p => encS p.1), .sl 1 (d.stns.map fun s => encS s.1)])) [] := by
  have h3 := h.s1
  have h4 := h.p1
  have h5 := h.t1
  obtain ⟨NS, s0, ss, sl, se⟩ := pre_ex d.segs (fun s => encS s.1.nm)
  obtain ⟨NP, p0, ps, pl, pe⟩ := pre_ex d.ports (fun s => encS s.1)
  obtain ⟨NT, t0, ts, tl, te⟩ := pre_ex d.stns (fun s => encS s.1)
  refine FnOk.intro fact_mixed Tryz.func56 rfl Tryz.ntmps56 (by rfl) (by simp) ?_
  repeat (first | (refine nf1_sound rfl ?_; simp [go_sem, ↓iO, iO, tN]) | refine anI ?_ | refine ⟨dcK, ?_⟩ | ((first | refine iP ?_ | refine iN ?_); try simp [go_sem, ↓iO, iO, tN]))
  refine nf1_sound' _ _ _ ?_; simp only [nf1]
  refine CW.loop (ι := Nat) (fun k => ⟨[(1, .pt 501 [] 0), (2, .pt 502 [] 0), (3, .pt 503 [] 0), (14, .t (.sl 7 (d.segs.map encSg))), (15, .t (.int d.segs.length)), (16, .t (.int k))], [(501, .box 33 (.t (.agg d.l))), (502, .box 109 (.t (.agg [.lit (.slice none 0 0), .lit (.slice none 0 0), .lit (.slice none 0 0), .lit (.slice none 0 0)]))), (503, .box 109 (.ag [.t (.sl 1 (d.nn.map encS)), .own 510, .t (.lit (.slice none 0 0)), .t (.lit (.slice none 0 0))])), (510, .list 9 1 (NS k))]⟩)
    (fun k => k ≤ d.segs.length) (fun k => d.segs.length - k) 0 [(501, some 101), (502, some 102), (503, some 103), (510, none)] (by omega) ?_ ?_
  · simp [go_sem, ↓iO, iO, tN, s0]
    simp only [wkXs]
    exact ⟨wkT_refl _, rfl, rfl, rfl, wkT_refl _, rfl, wkT_refl _, rfl, trivial⟩
  intro k hk
  by_cases hb : k < d.segs.length
  · obtain ⟨s, hs⟩ := has_get hb
    have e1 := ss k _ hs
    have e2 := sl k (by omega)
    obtain ⟨⟨nm, fr, to, cp, rs, wv⟩, pts⟩ := s
    dsimp only at e1
    simp only [encS] at e1
    obtain ⟨A, hA⟩ : ∃ A, NS k = A := ⟨_, rfl⟩
    rw [hA] at e1 e2 ⊢
    repeat (first | (refine nf1_sound rfl ?_; simp [go_sem, ↓iO, iO, tN, hs, e2]) | refine anI ?_ | refine ⟨dcK, ?_⟩ | ((first | refine iP ?_ | refine iN ?_); try simp [go_sem, ↓iO, iO, tN, hs, e2]))
    rw [RoundQ_normal]; refine ⟨k + 1, [(501, some 501), (502, some 502), (503, some 503), (510, some 125)], ?_, ?_, ?_⟩
    · omega
    · omega
    simp [go_sem, ↓iO, iO, tN, e1]
  · obtain rfl : k = d.segs.length := by omega
    rw [se]
    obtain ⟨AS, hAS⟩ : ∃ A, d.segs.map (fun s => encS s.1.nm) = A := ⟨_, rfl⟩
    rw [hAS]
    repeat (first | (refine nf1_sound rfl ?_; simp [go_sem, ↓iO, iO, tN]) | refine anI ?_ | refine ⟨dcK, ?_⟩ | ((first | refine iP ?_ | refine iN ?_); try simp [go_sem, ↓iO, iO, tN]))
    refine nf1_sound' _ _ _ ?_; simp only [nf1]
    refine CW.loop (ι := Nat) (fun k => ⟨[(1, .pt 501 [] 0), (2, .pt 502 [] 0), (3, .pt 503 [] 0), (29, .t (.sl 3 (d.ports.map encPr))), (30, .t (.int d.ports.length)), (31, .t (.int k))], [(501, .box 33 (.t (.agg d.l))), (502, .box 109 (.t (.agg [.lit (.slice none 0 0), .lit (.slice none 0 0), .lit (.slice none 0 0), .lit (.slice none 0 0)]))), (503, .box 109 (.ag [.t (.sl 1 (d.nn.map encS)), .t (.sl 1 AS), .own 511, .t (.lit (.slice none 0 0))])), (511, .list 9 1 (NP k))]⟩)
      (fun k => k ≤ d.ports.length) (fun k => d.ports.length - k) 0 [(501, some 501), (502, some 502), (503, some 503), (511, none)] (by omega) ?_ ?_
    · simp [go_sem, ↓iO, iO, tN, p0]
    intro k hk
    by_cases hb : k < d.ports.length
    · obtain ⟨s, hs⟩ := has_get hb
      have e1 := ps k _ hs
      have e2 := pl k (by omega)
      obtain ⟨nm, nd, pr⟩ := s
      dsimp only at e1
      simp only [encS] at e1
      obtain ⟨A, hA⟩ : ∃ A, NP k = A := ⟨_, rfl⟩
      rw [hA] at e1 e2 ⊢
      repeat (first | (refine nf1_sound rfl ?_; simp [go_sem, ↓iO, iO, tN, hs, e2]) | refine anI ?_ | refine ⟨dcK, ?_⟩ | ((first | refine iP ?_ | refine iN ?_); try simp [go_sem, ↓iO, iO, tN, hs, e2]))
      rw [RoundQ_normal]; refine ⟨k + 1, [(501, some 501), (502, some 502), (503, some 503), (511, some 140)], ?_, ?_, ?_⟩
      · omega
      · omega
      simp [go_sem, ↓iO, iO, tN, e1]
    · obtain rfl : k = d.ports.length := by omega
      rw [pe]
      obtain ⟨AP, hAP⟩ : ∃ A, d.ports.map (fun s => encS s.1) = A := ⟨_, rfl⟩
      rw [hAP]
      repeat (first | (refine nf1_sound rfl ?_; simp [go_sem, ↓iO, iO, tN]) | refine anI ?_ | refine ⟨dcK, ?_⟩ | ((first | refine iP ?_ | refine iN ?_); try simp [go_sem, ↓iO, iO, tN]))
      refine nf1_sound' _ _ _ ?_; simp only [nf1]
      refine CW.loop (ι := Nat) (fun k => ⟨[(1, .pt 501 [] 0), (2, .pt 502 [] 0), (3, .pt 503 [] 0), (44, .t (.sl 5 (d.stns.map encSn))), (45, .t (.int d.stns.length)), (46, .t (.int k))], [(501, .box 33 (.t (.agg d.l))), (502, .box 109 (.t (.agg [.lit (.slice none 0 0), .lit (.slice none 0 0), .lit (.slice none 0 0), .lit (.slice none 0 0)]))), (503, .box 109 (.ag [.t (.sl 1 (d.nn.map encS)), .t (.sl 1 AS), .t (.sl 1 AP), .own 512])), (512, .list 9 1 (NT k))]⟩)
        (fun k => k ≤ d.stns.length) (fun k => d.stns.length - k) 0 [(501, some 501), (502, some 502), (503, some 503), (512, none)] (by omega) ?_ ?_
      · simp [go_sem, ↓iO, iO, tN, t0]
      intro k hk
      by_cases hb : k < d.stns.length
      · obtain ⟨s, hs⟩ := has_get hb
        have e1 := ts k _ hs
        have e2 := tl k (by omega)
        obtain ⟨nm, nd, hd1, fl, su⟩ := s
        dsimp only at e1
        simp only [encS] at e1
        obtain ⟨A, hA⟩ : ∃ A, NT k = A := ⟨_, rfl⟩
        rw [hA] at e1 e2 ⊢
        repeat (first | (refine nf1_sound rfl ?_; simp [go_sem, ↓iO, iO, tN, hs, e2]) | refine anI ?_ | refine ⟨dcK, ?_⟩ | ((first | refine iP ?_ | refine iN ?_); try simp [go_sem, ↓iO, iO, tN, hs, e2]))
        rw [RoundQ_normal]; refine ⟨k + 1, [(501, some 501), (502, some 502), (503, some 503), (512, some 155)], ?_, ?_, ?_⟩
        · omega
        · omega
        simp [go_sem, ↓iO, iO, tN, e1]
      · obtain rfl : k = d.stns.length := by omega
        rw [te]
        obtain ⟨AT, hAT⟩ : ∃ A, d.stns.map (fun s => encS s.1) = A := ⟨_, rfl⟩
        rw [hAT]
        repeat (first | (refine nf1_sound rfl ?_; simp [go_sem, ↓iO, iO, tN]) | refine anI ?_ | refine ⟨dcK, ?_⟩ | ((first | refine iP ?_ | refine iN ?_); try simp [go_sem, ↓iO, iO, tN]))
        first | rw [RetQ_ret] | rw [RetQ_normal]
        refine ⟨[], ?_⟩
        simp [go_sem, ↓iO, iO, tN, hAS, hAP, hAT]
        exact ⟨hAS.symm, hAP.symm, hAT.symm⟩
end Go.Proofs.YtdjmklobfjigoaaGreatDoor
