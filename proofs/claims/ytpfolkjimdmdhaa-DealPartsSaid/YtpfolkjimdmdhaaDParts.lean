/- The law DealParts: what it computes. No condition. -/
import Derived.Test.YtpfolkjimdmdhaaDKeeps
namespace Go.Proofs.Ytpfolkjimdmdhaa
open Go.RowKit Sy Dl
set_option linter.unusedVariables false
set_option linter.unusedSimpArgs false
theorem nn_of {l : List (Int × Int)} (h : ∀ p ∈ l, 0 ≤ p.2) : ∀ p ∈ Pc.join l, 0 ≤ p.2 := fun p hp => by have := (Pc.join_canon h).pos p hp; omega
set_option maxRecDepth 100000 in
set_option maxHeartbeats 16000000 in
theorem dparts_fn (l : List Int) (ct : Nat) (hl : l.length ≤ 9223372036854775807) (wf : ∀ z ∈ l, -9223372036854775808 ≤ z ∧ z ≤ 9223372036854775807) (hct : ct < 65536) : FnOk Try.prog 7 [.t (encIs l), .t (.lit (.int .u16 (ct : Int)))] [] (.t (.bool true)) [] := by
  have h0 := new_ok wf
  obtain ⟨s, hm⟩ : ∃ m, newL2 l = m := ⟨_, rfl⟩
  have hnew := new_fn l hl
  rw [hm] at h0 hnew
  obtain ⟨k1, r, s1, hr, cr⟩ := rates_ex h0
  have hlen := hr.len
  have htt := hr.tt
  have hpos := hr.rates.pos
  have f1 := fill_ok (v := tot r) (b := 3) s1 (by omega) (by omega) (by omega) (by omega)
  have d1 := fill_fn s k1 (tot r) 3 s1 (by omega) (by omega) (by omega) (by omega)
  have hfv := fill_vol (k := k1) (v := tot r) (b := 3) s1 (by omega) (by omega) (by omega)
  have hvd := f1.vd
  have n1 := f1.len
  obtain ⟨⟨k3, fv1, F⟩, hF⟩ : ∃ F, fillS s k1 (tot r) 3 = F := ⟨_, rfl⟩
  rw [hF] at d1 n1 hvd hfv
  dsimp only at d1 n1 hvd hfv
  have hnn := hvd.nonneg
  have hll := Pc.litres_length F hnn
  obtain ⟨k, hk⟩ : ∃ n : Nat, (ct : Int) % (tot r + 1) = (n : Int) := ⟨((ct : Int) % (tot r + 1)).toNat, by have := Int.emod_nonneg (ct : Int) (show tot r + 1 ≠ 0 by omega); omega⟩
  have hk2 : (k : Int) ≤ tot r := by have := Int.emod_lt_of_pos (ct : Int) (show 0 < tot r + 1 by omega); omega
  have hkl : k ≤ (Pc.litres F).length := by omega
  -- the two parts
  have hh := heads_nn hnn (k : Int) (by omega)
  have ht : ∀ p ∈ Pc.tails F k, 0 ≤ p.2 := fun p hp => (Pc.tails_each F (fun q hq => by have := hvd.each q hq; omega) k (by omega) p hp).1
  obtain ⟨H, hH⟩ : ∃ H, Pc.join (Pc.heads F k) = H := ⟨_, rfl⟩
  obtain ⟨Tl, hT⟩ : ∃ H, Pc.join (Pc.tails F k) = H := ⟨_, rfl⟩
  have csp := split_fn F k hvd.sane (by omega) (by omega)
  rw [hH, hT] at csp
  have hHc : Pc.Canon H := by rw [← hH]; exact Pc.join_canon hh
  have hTc : Pc.Canon Tl := by rw [← hT]; exact Pc.join_canon ht
  have hHl : Pc.litres H = (Pc.litres F).take k := by rw [← hH, Pc.join_litres hh, Pc.heads_litres F hnn]
  have hTl : Pc.litres Tl = (Pc.litres F).drop k := by rw [← hT, Pc.join_litres ht, Pc.tails_litres F hnn]
  have hHn : ∀ p ∈ H, 0 ≤ p.2 := fun p hp => by have := hHc.pos p hp; omega
  have hTn : ∀ p ∈ Tl, 0 ≤ p.2 := fun p hp => by have := hTc.pos p hp; omega
  have hHlen : H.length ≤ 12 := by rw [← hH]; have := Pc.join_length (Pc.heads F k); rw [Pc.heads_length] at this; omega
  have hTlen : Tl.length ≤ 12 := by rw [← hT]; have := Pc.join_length (Pc.tails F k); rw [Pc.tails_length] at this; omega
  have hHv : Pc.vol H = k := by
    rw [← Pc.litres_length H hHn, hHl, List.length_take]; omega
  have hTv : Pc.vol Tl = Pc.vol F - k := by
    rw [← Pc.litres_length Tl hTn, hTl, List.length_drop]; omega
  have hsub : ∀ {X Y : List (Int × Int)}, (∀ p ∈ X, p.1 ∈ Y.map Prod.fst) → (∀ p ∈ Y, 0 ≤ p.1 ∧ p.1 < 1000) → ∀ p ∈ X, 0 ≤ p.1 ∧ p.1 < 1000 := fun h1 h2 p hp => by
    obtain ⟨q, hq, e⟩ := List.mem_map.1 (h1 p hp)
    have := h2 q hq; omega
  have hFb : ∀ p ∈ F, 0 ≤ p.1 ∧ p.1 < 1000 := fun p hp => (hvd.each p hp).1
  have hjs : ∀ (X : List (Int × Int)), ∀ p ∈ Pc.join X, p.1 ∈ X.map Prod.fst := fun X p hp => by
    have := join_sub X []
    exact (by simpa [Pc.join] using this : ((Pc.join X).map Prod.fst).Sublist (X.map Prod.fst)).subset (List.mem_map.2 ⟨p, hp, rfl⟩)
  have hhf : ∀ (X : List (Int × Int)) (k : Int), (Pc.heads X k).map Prod.fst = X.map Prod.fst := fun X => by
    induction X with
    | nil => intro k; rfl
    | cons p X ih => intro k; simp only [Pc.heads, List.map_cons, ih]
  have htf : ∀ (X : List (Int × Int)) (k : Int), (Pc.tails X k).map Prod.fst = X.map Prod.fst := fun X => by
    induction X with
    | nil => intro k; rfl
    | cons p X ih => intro k; simp only [Pc.tails, List.map_cons, ih]
  have hHb : ∀ p ∈ H, 0 ≤ p.1 ∧ p.1 < 1000 := hsub (fun p hp => by rw [← hhf F k]; rw [← hH] at hp; exact hjs _ p hp) hFb
  have hTb : ∀ p ∈ Tl, 0 ≤ p.1 ∧ p.1 < 1000 := hsub (fun p hp => by rw [← htf F k]; rw [← hT] at hp; exact hjs _ p hp) hFb
  have hHd : Pc.Vd H := Pc.vd_of_canon hHc hHb (by omega) (by omega)
  have hTd : Pc.Vd Tl := Pc.vd_of_canon hTc hTb (by omega) (by omega)
  -- what is dealt
  have hm : Pc.merge (H ++ Tl) = F := by
    have hPr : Pc.Proper (H ++ Tl) := ⟨by rw [List.length_append]; omega, fun p hp => by
      rcases List.mem_append.1 hp with hp | hp
      · have := hHd.each p hp; omega
      · have := hTd.each p hp; omega⟩
    have hnn2 : ∀ p ∈ H ++ Tl, 0 ≤ p.2 := fun p hp => by
      rcases List.mem_append.1 hp with hp | hp
      · exact hHn p hp
      · exact hTn p hp
    rw [merge_good hPr]
    refine Pc.canon_unique (Pc.join_canon hnn2) hvd.canon ?_
    rw [Pc.join_litres hnn2, Pc.litres_append, hHl, hTl, List.take_append_drop]
  have hmF : Pc.merge F = F := by
    rw [merge_good ⟨by omega, fun p hp => by have := hvd.each p hp; omega⟩, Pc.join_self hvd.canon]
  have e1 := deal_fill hr.rates hvd n1 ⟨by omega, by omega⟩
  have e3 := deal_fill hr.rates hHd hHlen ⟨by omega, by omega⟩
  have hFne : F ≠ [] := by
    rintro rfl
    simp [Pc.vol] at hfv; omega
  have e2 : dealV (H ++ Tl) r = (dealt r F, 0) := by
    have hc : chk r (Pc.vol F) = 0 := chk_of hr.rates (by omega) (by omega)
    unfold dealV
    rw [hm]
    simp only [hc]
    rw [if_neg, if_neg (by simp)]
    rintro (⟨h1, _⟩ | h1)
    · exact hFne h1
    · omega
  have ca := deal_fn (H ++ Tl) r (by rw [List.length_append]; omega) (by omega) _ _ e2
  have cb := deal_fn F r (by omega) (by omega) _ _ e1
  have cc := deal_fn H r (by omega) (by omega) _ _ e3
  have cn := counts_fn r k (by omega) (cs r k) 0 (by unfold countsV; rw [if_pos (chk_of hr.rates (by omega) hk2), Int.toNat_natCast])
  have hcl := cs_len r k
  have hcb := rt_bd r k
  have hDl : (dealt r F).length = r.length := by simp [dealt]
  have hDg : ∀ i, i < r.length → (dealt r F)[i]? = some (Pc.join (strm r i F 0)) := fun i hi => by
    unfold dealt
    rw [List.getElem?_map, List.getElem?_range hi]; rfl
  have hEl : (dealt r H).length = r.length := by simp [dealt]
  have hEg : ∀ i, i < r.length → (dealt r H)[i]? = some (Pc.join (strm r i H 0)) := fun i hi => by
    unfold dealt
    rw [List.getElem?_map, List.getElem?_range hi]; rfl
  have hDe := (deal_len e1).2
  have hpart : ∀ i, Pc.join (Pc.heads (Pc.join (strm r i F 0)) (rt (cs r k) i)) = Pc.join (strm r i H 0) := fun i => by
    rw [← hH]; exact deal_part hr.rates i hnn k hkl
  have hsane : ∀ i, Pc.Sane (Pc.join (strm r i F 0)) := fun i => by
    have hj := Pc.join_length (strm r i F 0)
    rw [strm_len] at hj
    refine ⟨by omega, fun p hp => ?_⟩
    have h1 := nn_of (strm_nn r i F 0) p hp
    obtain ⟨q, hq⟩ := List.getElem?_of_mem hp
    have h2 := vol_elem (nn_of (strm_nn r i F 0)) hq
    rw [vol_dealt hr.rates hnn hfv i] at h2
    have h3 : rt r i ≤ 39 := by
      unfold rt
      rw [List.getD_eq_getElem?_getD]
      cases hz : r[i]? with
      | none => simp
      | some z => exact (hr.each z (List.mem_of_getElem? hz)).2
    omega
  have hElen : ∀ i, (Pc.join (strm r i H 0)).length ≤ 12 := fun i => by
    have hj := Pc.join_length (strm r i H 0)
    rw [strm_len] at hj; omega
  have crs := rsame_fn (dealt r F) (dealt r F) (by omega) (fun q hq => by have := hDe q hq; omega) true (decide_eq_true rfl)
  obtain ⟨D, hD⟩ : ∃ D, dealt r F = D := ⟨_, rfl⟩
  obtain ⟨E, hE⟩ : ∃ D, dealt r H = D := ⟨_, rfl⟩
  obtain ⟨C, hC⟩ : ∃ C, cs r k = C := ⟨_, rfl⟩
  rw [hD] at ca cb hDl hDg crs
  rw [hE] at cc hEl hEg
  rw [hC] at cn hcl
  simp only [hC] at hcb hpart
  have hHT : H.map encP ++ Tl.map encP = (H ++ Tl).map encP := by rw [List.map_append]
  obtain ⟨HT, hHT2⟩ : ∃ X, H ++ Tl = X := ⟨_, rfl⟩
  rw [hHT2] at ca hHT
  obtain ⟨v, hv⟩ : ∃ v, tot r = v := ⟨_, rfl⟩
  rw [hv] at cr hk hk2 htt hpos d1 hfv
  clear hH hT hHT2 hsub hjs hhf htf e1 e2 e3 hC
  refine FnOk.intro fact_mixed Try.func7 rfl Try.ntmps7 (by rfl) (by simp) ?_
  repeat (first | (refine nf1_sound rfl ?_; simp [go_sem, ↓IntWalk.iteOmega, IntWalk.iteOmega, IntWalk.toNatUp]; (repeat (refine And.intro (by omega) ?_)); try (refine ⟨DrawChk_of (by kernel_rfl), ?_⟩)) | (refine itePos (by omega) ?_; try simp [go_sem, ↓IntWalk.iteOmega, IntWalk.iteOmega, IntWalk.toNatUp]) | (refine iteNeg (by omega) ?_; try simp [go_sem, ↓IntWalk.iteOmega, IntWalk.iteOmega, IntWalk.toNatUp]) | (refine ⟨DrawChk_of (by kernel_rfl), ?_⟩))
  refine CallK.fn (hnew) [(1000, 609)] [] [] (by kernel_rfl) (by simp [go_sem, ↓IntWalk.iteOmega, IntWalk.iteOmega, IntWalk.toNatUp]) (by simp [go_sem, ↓IntWalk.iteOmega, IntWalk.iteOmega, IntWalk.toNatUp]) (by simp [go_sem, ↓IntWalk.iteOmega, IntWalk.iteOmega, IntWalk.toNatUp]) (Or.inl rfl) ?_
  simp [go_sem, ↓IntWalk.iteOmega, IntWalk.iteOmega, IntWalk.toNatUp]
  repeat (refine And.intro (by omega) ?_)
  try (refine ⟨DrawChk_of (by kernel_rfl), ?_⟩)
  repeat (first | (refine nf1_sound rfl ?_; simp [go_sem, ↓IntWalk.iteOmega, IntWalk.iteOmega, IntWalk.toNatUp]; (repeat (refine And.intro (by omega) ?_)); try (refine ⟨DrawChk_of (by kernel_rfl), ?_⟩)) | (refine itePos (by omega) ?_; try simp [go_sem, ↓IntWalk.iteOmega, IntWalk.iteOmega, IntWalk.toNatUp]) | (refine iteNeg (by omega) ?_; try simp [go_sem, ↓IntWalk.iteOmega, IntWalk.iteOmega, IntWalk.toNatUp]) | (refine ⟨DrawChk_of (by kernel_rfl), ?_⟩))
  refine CallK.fn (cr) [(0, 609), (1000, 610)] [] [] (by kernel_rfl) (by simp [go_sem, ↓IntWalk.iteOmega, IntWalk.iteOmega, IntWalk.toNatUp]) (by simp [go_sem, ↓IntWalk.iteOmega, IntWalk.iteOmega, IntWalk.toNatUp]) (by simp [go_sem, ↓IntWalk.iteOmega, IntWalk.iteOmega, IntWalk.toNatUp]) (Or.inl rfl) ?_
  simp [go_sem, ↓IntWalk.iteOmega, IntWalk.iteOmega, IntWalk.toNatUp]
  repeat (refine And.intro (by omega) ?_)
  try (refine ⟨DrawChk_of (by kernel_rfl), ?_⟩)
  repeat (first | (refine nf1_sound rfl ?_; simp [go_sem, ↓IntWalk.iteOmega, IntWalk.iteOmega, IntWalk.toNatUp]; (repeat (refine And.intro (by omega) ?_)); try (refine ⟨DrawChk_of (by kernel_rfl), ?_⟩)) | (refine itePos (by omega) ?_; try simp [go_sem, ↓IntWalk.iteOmega, IntWalk.iteOmega, IntWalk.toNatUp]) | (refine iteNeg (by omega) ?_; try simp [go_sem, ↓IntWalk.iteOmega, IntWalk.iteOmega, IntWalk.toNatUp]) | (refine ⟨DrawChk_of (by kernel_rfl), ?_⟩))
  refine CallK.fn (d1) [(0, 609), (1000, 625)] [] [] (by kernel_rfl) (by simp [go_sem, ↓IntWalk.iteOmega, IntWalk.iteOmega, IntWalk.toNatUp]) (by simp [go_sem, ↓IntWalk.iteOmega, IntWalk.iteOmega, IntWalk.toNatUp]) (by simp [go_sem, ↓IntWalk.iteOmega, IntWalk.iteOmega, IntWalk.toNatUp]) (Or.inl rfl) ?_
  simp [go_sem, ↓IntWalk.iteOmega, IntWalk.iteOmega, IntWalk.toNatUp]
  repeat (refine And.intro (by omega) ?_)
  try (refine ⟨DrawChk_of (by kernel_rfl), ?_⟩)
  refine CW.weak (ρ := []) (σ' := ⟨[(1, .t (.lit (.int .u16 (ct : Int)))), (6, .t (encIs r)), (7, .t (.int v)), (8, .t (encPs F))], []⟩) ?_ ?_
  · simp [go_sem, ↓IntWalk.iteOmega, IntWalk.iteOmega, IntWalk.toNatUp]
  repeat (first | (refine nf1_sound rfl ?_; simp [go_sem, ↓IntWalk.iteOmega, IntWalk.iteOmega, IntWalk.toNatUp, hk]; (repeat (refine And.intro (by omega) ?_)); try (refine ⟨DrawChk_of (by kernel_rfl), ?_⟩)) | (refine itePos (by omega) ?_; try simp [go_sem, ↓IntWalk.iteOmega, IntWalk.iteOmega, IntWalk.toNatUp, hk]) | (refine iteNeg (by omega) ?_; try simp [go_sem, ↓IntWalk.iteOmega, IntWalk.iteOmega, IntWalk.toNatUp, hk]) | (refine ⟨DrawChk_of (by kernel_rfl), ?_⟩))
  refine CallK.fn (csp) [(1000, 641), (1001, 642)] [] [] (by kernel_rfl) (by simp [go_sem, ↓IntWalk.iteOmega, IntWalk.iteOmega, IntWalk.toNatUp, hk]) (by simp [go_sem, ↓IntWalk.iteOmega, IntWalk.iteOmega, IntWalk.toNatUp, hk]) (by simp [go_sem, ↓IntWalk.iteOmega, IntWalk.iteOmega, IntWalk.toNatUp, hk]) (Or.inl rfl) ?_
  simp [go_sem, ↓IntWalk.iteOmega, IntWalk.iteOmega, IntWalk.toNatUp, hk]
  repeat (refine And.intro (by omega) ?_)
  try (refine ⟨DrawChk_of (by kernel_rfl), ?_⟩)
  refine CW.weak (ρ := []) (σ' := ⟨[(6, .t (encIs r)), (8, .t (encPs F)), (9, .t (.int k)), (10, .t (encPs H)), (11, .t (encPs Tl))], []⟩) ?_ ?_
  · simp [go_sem, ↓IntWalk.iteOmega, IntWalk.iteOmega, IntWalk.toNatUp]
  repeat (first | (refine nf1_sound rfl ?_; simp [go_sem, ↓IntWalk.iteOmega, IntWalk.iteOmega, IntWalk.toNatUp, hHT]; (repeat (refine And.intro (by omega) ?_)); try (refine ⟨DrawChk_of (by kernel_rfl), ?_⟩)) | (refine itePos (by omega) ?_; try simp [go_sem, ↓IntWalk.iteOmega, IntWalk.iteOmega, IntWalk.toNatUp, hHT]) | (refine iteNeg (by omega) ?_; try simp [go_sem, ↓IntWalk.iteOmega, IntWalk.iteOmega, IntWalk.toNatUp, hHT]) | (refine ⟨DrawChk_of (by kernel_rfl), ?_⟩))
  refine CallK.fn (ca) [] [] [149] (by kernel_rfl) (by simp [go_sem, ↓IntWalk.iteOmega, IntWalk.iteOmega, IntWalk.toNatUp, hHT]) (by simp [go_sem, ↓IntWalk.iteOmega, IntWalk.iteOmega, IntWalk.toNatUp, hHT]) (by simp [go_sem, ↓IntWalk.iteOmega, IntWalk.iteOmega, IntWalk.toNatUp, hHT]) (Or.inl rfl) ?_
  simp [go_sem, ↓IntWalk.iteOmega, IntWalk.iteOmega, IntWalk.toNatUp, hHT]
  repeat (refine And.intro (by omega) ?_)
  try (refine ⟨DrawChk_of (by kernel_rfl), ?_⟩)
  repeat (first | (refine nf1_sound rfl ?_; simp [go_sem, ↓IntWalk.iteOmega, IntWalk.iteOmega, IntWalk.toNatUp]; (repeat (refine And.intro (by omega) ?_)); try (refine ⟨DrawChk_of (by kernel_rfl), ?_⟩)) | (refine itePos (by omega) ?_; try simp [go_sem, ↓IntWalk.iteOmega, IntWalk.iteOmega, IntWalk.toNatUp]) | (refine iteNeg (by omega) ?_; try simp [go_sem, ↓IntWalk.iteOmega, IntWalk.iteOmega, IntWalk.toNatUp]) | (refine ⟨DrawChk_of (by kernel_rfl), ?_⟩))
  refine CallK.fn (cb) [] [] [] (by kernel_rfl) (by simp [go_sem, ↓IntWalk.iteOmega, IntWalk.iteOmega, IntWalk.toNatUp]) (by simp [go_sem, ↓IntWalk.iteOmega, IntWalk.iteOmega, IntWalk.toNatUp]) (by simp [go_sem, ↓IntWalk.iteOmega, IntWalk.iteOmega, IntWalk.toNatUp]) (Or.inl rfl) ?_
  simp [go_sem, ↓IntWalk.iteOmega, IntWalk.iteOmega, IntWalk.toNatUp]
  repeat (refine And.intro (by omega) ?_)
  try (refine ⟨DrawChk_of (by kernel_rfl), ?_⟩)
  repeat (first | (refine nf1_sound rfl ?_; simp [go_sem, ↓IntWalk.iteOmega, IntWalk.iteOmega, IntWalk.toNatUp]; (repeat (refine And.intro (by omega) ?_)); try (refine ⟨DrawChk_of (by kernel_rfl), ?_⟩)) | (refine itePos (by omega) ?_; try simp [go_sem, ↓IntWalk.iteOmega, IntWalk.iteOmega, IntWalk.toNatUp]) | (refine iteNeg (by omega) ?_; try simp [go_sem, ↓IntWalk.iteOmega, IntWalk.iteOmega, IntWalk.toNatUp]) | (refine ⟨DrawChk_of (by kernel_rfl), ?_⟩))
  refine CallK.fn (cc) [] [] [] (by kernel_rfl) (by simp [go_sem, ↓IntWalk.iteOmega, IntWalk.iteOmega, IntWalk.toNatUp]) (by simp [go_sem, ↓IntWalk.iteOmega, IntWalk.iteOmega, IntWalk.toNatUp]) (by simp [go_sem, ↓IntWalk.iteOmega, IntWalk.iteOmega, IntWalk.toNatUp]) (Or.inl rfl) ?_
  simp [go_sem, ↓IntWalk.iteOmega, IntWalk.iteOmega, IntWalk.toNatUp]
  repeat (refine And.intro (by omega) ?_)
  try (refine ⟨DrawChk_of (by kernel_rfl), ?_⟩)
  repeat (first | (refine nf1_sound rfl ?_; simp [go_sem, ↓IntWalk.iteOmega, IntWalk.iteOmega, IntWalk.toNatUp]; (repeat (refine And.intro (by omega) ?_)); try (refine ⟨DrawChk_of (by kernel_rfl), ?_⟩)) | (refine itePos (by omega) ?_; try simp [go_sem, ↓IntWalk.iteOmega, IntWalk.iteOmega, IntWalk.toNatUp]) | (refine iteNeg (by omega) ?_; try simp [go_sem, ↓IntWalk.iteOmega, IntWalk.iteOmega, IntWalk.toNatUp]) | (refine ⟨DrawChk_of (by kernel_rfl), ?_⟩))
  refine CallK.fn (cn) [(1000, 670)] [] [] (by kernel_rfl) (by simp [go_sem, ↓IntWalk.iteOmega, IntWalk.iteOmega, IntWalk.toNatUp]) (by simp [go_sem, ↓IntWalk.iteOmega, IntWalk.iteOmega, IntWalk.toNatUp]) (by simp [go_sem, ↓IntWalk.iteOmega, IntWalk.iteOmega, IntWalk.toNatUp]) (Or.inl rfl) ?_
  simp [go_sem, ↓IntWalk.iteOmega, IntWalk.iteOmega, IntWalk.toNatUp]
  repeat (refine And.intro (by omega) ?_)
  try (refine ⟨DrawChk_of (by kernel_rfl), ?_⟩)
  repeat (first | (refine nf1_sound rfl ?_; simp [go_sem, ↓IntWalk.iteOmega, IntWalk.iteOmega, IntWalk.toNatUp, hDl, hEl, hcl]; (repeat (refine And.intro (by omega) ?_)); try (refine ⟨DrawChk_of (by kernel_rfl), ?_⟩)) | (refine itePos (by omega) ?_; try simp [go_sem, ↓IntWalk.iteOmega, IntWalk.iteOmega, IntWalk.toNatUp, hDl, hEl, hcl]) | (refine iteNeg (by omega) ?_; try simp [go_sem, ↓IntWalk.iteOmega, IntWalk.iteOmega, IntWalk.toNatUp, hDl, hEl, hcl]) | (refine ⟨DrawChk_of (by kernel_rfl), ?_⟩))
  refine CallK.fn (crs) [] [] [] (by kernel_rfl) (by simp [go_sem, ↓IntWalk.iteOmega, IntWalk.iteOmega, IntWalk.toNatUp, hDl, hEl, hcl]) (by simp [go_sem, ↓IntWalk.iteOmega, IntWalk.iteOmega, IntWalk.toNatUp, hDl, hEl, hcl]) (by simp [go_sem, ↓IntWalk.iteOmega, IntWalk.iteOmega, IntWalk.toNatUp, hDl, hEl, hcl]) (Or.inl rfl) ?_
  simp [go_sem, ↓IntWalk.iteOmega, IntWalk.iteOmega, IntWalk.toNatUp, hDl, hEl, hcl]
  repeat (refine And.intro (by omega) ?_)
  try (refine ⟨DrawChk_of (by kernel_rfl), ?_⟩)
  repeat (first | (refine nf1_sound rfl ?_; simp [go_sem, ↓IntWalk.iteOmega, IntWalk.iteOmega, IntWalk.toNatUp, hDl, hEl, hcl]; (repeat (refine And.intro (by omega) ?_)); try (refine ⟨DrawChk_of (by kernel_rfl), ?_⟩)) | (refine itePos (by omega) ?_; try simp [go_sem, ↓IntWalk.iteOmega, IntWalk.iteOmega, IntWalk.toNatUp, hDl, hEl, hcl]) | (refine iteNeg (by omega) ?_; try simp [go_sem, ↓IntWalk.iteOmega, IntWalk.iteOmega, IntWalk.toNatUp, hDl, hEl, hcl]) | (refine ⟨DrawChk_of (by kernel_rfl), ?_⟩))
  refine nf1_sound' _ _ _ ?_; simp only [nf1]
  refine CW.loop (ι := Nat) (fun i => ⟨[(14, .t (.sl 1 (D.map encPs))), (16, .t (.sl 1 (E.map encPs))), (18, .t (encIs C)), (114, .t (.int r.length)), (115, .t (.int i))], []⟩) (fun i => i ≤ r.length) (fun i => r.length - i) 0 [] (by omega) ?_ ?_
  · simp [go_sem, ↓IntWalk.iteOmega, IntWalk.iteOmega, IntWalk.toNatUp]
  intro i hi
  by_cases hb : i < r.length
  · have g1 := hDg i hb
    have g2 := hEg i hb
    have g3 := get_rt (r := C) (i := i) (by omega)
    have p1 := hpart i
    have p2 := hsane i
    have p3 := hElen i
    have p4 := hcb i
    obtain ⟨Q, hQ⟩ : ∃ Q, Pc.join (strm r i F 0) = Q := ⟨_, rfl⟩
    obtain ⟨Q2, hQ2⟩ : ∃ Q, Pc.join (strm r i H 0) = Q := ⟨_, rfl⟩
    obtain ⟨c, hc⟩ : ∃ c, rt C i = c := ⟨_, rfl⟩
    rw [hQ] at g1 p1 p2
    rw [hQ2] at g2 p1 p3
    rw [hc] at g3 p1 p4
    have c1 := split_fn Q c p2 (by omega) (by omega)
    rw [p1] at c1
    have c2 := same_fn Q2 Q2 (by omega)
    rw [decide_eq_true rfl] at c2
    repeat (first | (refine nf1_sound rfl ?_; simp [go_sem, ↓IntWalk.iteOmega, IntWalk.iteOmega, IntWalk.toNatUp, g1, g3]; (repeat (refine And.intro (by omega) ?_)); try (refine ⟨DrawChk_of (by kernel_rfl), ?_⟩)) | (refine itePos (by omega) ?_; try simp [go_sem, ↓IntWalk.iteOmega, IntWalk.iteOmega, IntWalk.toNatUp, g1, g3]) | (refine iteNeg (by omega) ?_; try simp [go_sem, ↓IntWalk.iteOmega, IntWalk.iteOmega, IntWalk.toNatUp, g1, g3]) | (refine ⟨DrawChk_of (by kernel_rfl), ?_⟩))
    refine CallK.fn (c1) [(1000, 671), (1001, 672)] [] [] (by kernel_rfl) (by simp [go_sem, ↓IntWalk.iteOmega, IntWalk.iteOmega, IntWalk.toNatUp, g1, g3]) (by simp [go_sem, ↓IntWalk.iteOmega, IntWalk.iteOmega, IntWalk.toNatUp, g1, g3]) (by simp [go_sem, ↓IntWalk.iteOmega, IntWalk.iteOmega, IntWalk.toNatUp, g1, g3]) (Or.inl rfl) ?_
    simp [go_sem, ↓IntWalk.iteOmega, IntWalk.iteOmega, IntWalk.toNatUp, g1, g3]
    repeat (refine And.intro (by omega) ?_)
    try (refine ⟨DrawChk_of (by kernel_rfl), ?_⟩)
    repeat (first | (refine nf1_sound rfl ?_; simp [go_sem, ↓IntWalk.iteOmega, IntWalk.iteOmega, IntWalk.toNatUp, g2]; (repeat (refine And.intro (by omega) ?_)); try (refine ⟨DrawChk_of (by kernel_rfl), ?_⟩)) | (refine itePos (by omega) ?_; try simp [go_sem, ↓IntWalk.iteOmega, IntWalk.iteOmega, IntWalk.toNatUp, g2]) | (refine iteNeg (by omega) ?_; try simp [go_sem, ↓IntWalk.iteOmega, IntWalk.iteOmega, IntWalk.toNatUp, g2]) | (refine ⟨DrawChk_of (by kernel_rfl), ?_⟩))
    refine CallK.fn (c2) [] [671] [] (by kernel_rfl) (by simp [go_sem, ↓IntWalk.iteOmega, IntWalk.iteOmega, IntWalk.toNatUp, g2]) (by simp [go_sem, ↓IntWalk.iteOmega, IntWalk.iteOmega, IntWalk.toNatUp, g2]) (by simp [go_sem, ↓IntWalk.iteOmega, IntWalk.iteOmega, IntWalk.toNatUp, g2]) (Or.inr ⟨by simp [go_sem, ↓IntWalk.iteOmega, IntWalk.iteOmega, IntWalk.toNatUp, g2], by simp [go_sem, ↓IntWalk.iteOmega, IntWalk.iteOmega, IntWalk.toNatUp, g2]⟩) ?_
    simp [go_sem, ↓IntWalk.iteOmega, IntWalk.iteOmega, IntWalk.toNatUp, g2]
    repeat (refine And.intro (by omega) ?_)
    try (refine ⟨DrawChk_of (by kernel_rfl), ?_⟩)
    repeat (first | (refine nf1_sound rfl ?_; simp [go_sem, ↓IntWalk.iteOmega, IntWalk.iteOmega, IntWalk.toNatUp]; (repeat (refine And.intro (by omega) ?_)); try (refine ⟨DrawChk_of (by kernel_rfl), ?_⟩)) | (refine itePos (by omega) ?_; try simp [go_sem, ↓IntWalk.iteOmega, IntWalk.iteOmega, IntWalk.toNatUp]) | (refine iteNeg (by omega) ?_; try simp [go_sem, ↓IntWalk.iteOmega, IntWalk.iteOmega, IntWalk.toNatUp]) | (refine ⟨DrawChk_of (by kernel_rfl), ?_⟩))
    rw [RoundQ_normal]; refine ⟨i + 1, [], ?_, ?_, ?_⟩
    · omega
    · omega
    simp [go_sem, ↓IntWalk.iteOmega, IntWalk.iteOmega, IntWalk.toNatUp]
  obtain rfl : i = r.length := by omega
  repeat (first | (refine nf1_sound rfl ?_; simp [go_sem, ↓IntWalk.iteOmega, IntWalk.iteOmega, IntWalk.toNatUp]; (repeat (refine And.intro (by omega) ?_)); try (refine ⟨DrawChk_of (by kernel_rfl), ?_⟩)) | (refine itePos (by omega) ?_; try simp [go_sem, ↓IntWalk.iteOmega, IntWalk.iteOmega, IntWalk.toNatUp]) | (refine iteNeg (by omega) ?_; try simp [go_sem, ↓IntWalk.iteOmega, IntWalk.iteOmega, IntWalk.toNatUp]) | (refine ⟨DrawChk_of (by kernel_rfl), ?_⟩))
  refine CallK.fn (awake_fn) [] [] [] (by kernel_rfl) (by simp [go_sem, ↓IntWalk.iteOmega, IntWalk.iteOmega, IntWalk.toNatUp]) (by simp [go_sem, ↓IntWalk.iteOmega, IntWalk.iteOmega, IntWalk.toNatUp]) (by simp [go_sem, ↓IntWalk.iteOmega, IntWalk.iteOmega, IntWalk.toNatUp]) (Or.inl rfl) ?_
  simp [go_sem, ↓IntWalk.iteOmega, IntWalk.iteOmega, IntWalk.toNatUp]
  repeat (refine And.intro (by omega) ?_)
  try (refine ⟨DrawChk_of (by kernel_rfl), ?_⟩)
  repeat (first | (refine nf1_sound rfl ?_; simp [go_sem, ↓IntWalk.iteOmega, IntWalk.iteOmega, IntWalk.toNatUp]; (repeat (refine And.intro (by omega) ?_)); try (refine ⟨DrawChk_of (by kernel_rfl), ?_⟩)) | (refine itePos (by omega) ?_; try simp [go_sem, ↓IntWalk.iteOmega, IntWalk.iteOmega, IntWalk.toNatUp]) | (refine iteNeg (by omega) ?_; try simp [go_sem, ↓IntWalk.iteOmega, IntWalk.iteOmega, IntWalk.toNatUp]) | (refine ⟨DrawChk_of (by kernel_rfl), ?_⟩))
  first | rw [RetQ_ret] | rw [RetQ_normal]
  refine ⟨[], ?_⟩
  simp [go_sem, ↓IntWalk.iteOmega, IntWalk.iteOmega, IntWalk.toNatUp]
theorem dparts_all (x0 x1 : T) (h0 : InSh (.sl (.int .i64)) x0) (h1 : InSh (.int .u16) x1) : FnOk Try.prog 7 [.t x0, .t x1] [] (.t (.bool true)) [] := by
  obtain ⟨l, rfl, hl, wf⟩ := ints_in h0
  obtain ⟨z, rfl, hw⟩ := insh_int h1
  have h2 := wf_u16 hw
  have h3 : z = ((z.toNat : Nat) : Int) := by omega
  rw [h3]
  exact dparts_fn l z.toNat hl wf (by omega)
end Go.Proofs.Ytpfolkjimdmdhaa
