/- The law DealKeeps: what it computes. No condition. -/
import Derived.Test.YtpfolkjimdmdhaaDAnswers
import Derived.Test.YtpfolkjimdmdhaaDlS
import Derived.Test.YtpfolkjimdmdhaaPiRValid
namespace Go.Proofs.Ytpfolkjimdmdhaa
open Go.RowKit Sy Dl
set_option linter.unusedVariables false
set_option linter.unusedSimpArgs false
/-- What is dealt of a fill. -/
theorem deal_fill {r : List Int} (h : Rates r) {f : List (Int × Int)} (hf : Pc.Vd f) (hlen : f.length ≤ 12) (hv : 0 ≤ Pc.vol f ∧ Pc.vol f ≤ tot r) : dealV f r = (dealt r f, 0) := by
  have hm : Pc.merge f = f := by
    rw [merge_good ⟨by omega, fun p hp => by have := hf.each p hp; omega⟩, Pc.join_self hf.canon]
  unfold dealV
  rw [hm]
  have hc : chk r (Pc.vol f) = 0 := chk_of h hv.1 hv.2
  simp only [hc]
  rw [if_neg, if_neg (by simp)]
  rintro (⟨h1, h2⟩ | h1)
  · exact h2 h1
  · omega
theorem tot_pre {L : List Int} (h : ∀ x ∈ L, 0 ≤ x) (k : Nat) : 0 ≤ tot (L.take k) ∧ tot (L.take k) ≤ tot L := by
  have h1 : tot (L.take k) + tot (L.drop k) = tot L := by rw [← tot_app, List.take_append_drop]
  have h2 := tot_nn (l := L.drop k) (fun x hx => h x (List.mem_of_mem_drop hx))
  have h3 := tot_nn (l := L.take k) (fun x hx => h x (List.mem_of_mem_take hx))
  omega
theorem of_nn (b : Int) : ∀ {l : List (Int × Int)}, (∀ p ∈ l, 0 ≤ p.2) → 0 ≤ Pc.of_ l b := fun h => by rw [of_count b h]; omega
/-- The batches of a come among those of b, in their order. -/
def SubF (a b : List (Int × Int)) : Prop := (a.map Prod.fst).Sublist (b.map Prod.fst)
theorem SubF.nil {q : Int × Int} {t : List (Int × Int)} (h : SubF (q :: t) []) : False := by
  have := h.length_le
  simp at this
theorem SubF.tail {q : Int × Int} {t L : List (Int × Int)} (h : SubF (q :: t) L) : SubF t L := by
  have h8 : (t.map Prod.fst).Sublist ((q :: t).map Prod.fst) := by simp
  exact h8.trans h
theorem SubF.skip {q p : Int × Int} {t L : List (Int × Int)} (hn : ¬ p.1 = q.1) (h : SubF (q :: t) (p :: L)) : SubF (q :: t) L := by
  have key : ∀ {x y : Int} {a b : List Int}, y ≠ x → (x :: a).Sublist (y :: b) → (x :: a).Sublist b := by
    intro x y a b hn h
    cases h with
    | cons _ h => exact h
    | cons_cons _ h => exact (hn rfl).elim
  unfold SubF at *
  simp only [List.map_cons] at h ⊢
  exact key hn h
set_option maxRecDepth 100000 in
set_option maxHeartbeats 16000000 in
theorem dkeeps_fn (l : List Int) (hl : l.length ≤ 9223372036854775807) (wf : ∀ z ∈ l, -9223372036854775808 ≤ z ∧ z ≤ 9223372036854775807) : FnOk Try.prog 6 [.t (encIs l)] [] (.t (.bool true)) [] := by
  have h0 := new_ok wf
  obtain ⟨s, hm⟩ : ∃ m, newL2 l = m := ⟨_, rfl⟩
  have hnew := new_fn l hl
  rw [hm] at h0 hnew
  obtain ⟨k1, r, s1, hr, cr⟩ := rates_ex h0
  have hlen := hr.len
  have htt := hr.tt
  have hpos := hr.rates.pos
  have f1 := fill_ok (v := tot r) (b := 4) s1 (by omega) (by omega) (by omega) (by omega)
  have d1 := fill_fn s k1 (tot r) 4 s1 (by omega) (by omega) (by omega) (by omega)
  have hfv := fill_vol (k := k1) (v := tot r) (b := 4) s1 (by omega) (by omega) (by omega)
  have hvd := f1.vd
  have n1 := f1.len
  obtain ⟨⟨k3, fv1, F⟩, hF⟩ : ∃ F, fillS s k1 (tot r) 4 = F := ⟨_, rfl⟩
  rw [hF] at d1 n1 hvd hfv
  dsimp only at d1 n1 hvd hfv
  have hnn := hvd.nonneg
  have hdl := deal_fill hr.rates hvd n1 ⟨by omega, by omega⟩
  have cd := deal_fn F r (by omega) (by omega) _ _ hdl
  have hDl : (dealt r F).length = r.length := by simp [dealt]
  have hDg : ∀ i, i < r.length → (dealt r F)[i]? = some (Pc.join (strm r i F 0)) := fun i hi => by
    unfold dealt
    rw [List.getElem?_map, List.getElem?_range hi]; rfl
  have hDo : ∀ b, tot ((dealt r F).map fun q => Pc.of_ q b) = Pc.of_ F b := fun b => of_dealt hr.rates b hnn
  have hofb := fun b => Pc.of_bound F b (fun p hp => by have := hvd.each p hp; omega)
  have hpieces : ∀ i, i < r.length → Pc.Sane (Pc.join (strm r i F 0)) ∧ Pc.vol (Pc.join (strm r i F 0)) = rt r i ∧ Pc.valid (Pc.join (strm r i F 0)) = true ∧ SubF (Pc.join (strm r i F 0)) F := by
    intro i hi
    have hc := Pc.join_canon (strm_nn r i F 0)
    have hjl := Pc.join_length (strm r i F 0)
    rw [strm_len] at hjl
    have hv := vol_dealt hr.rates hnn hfv i
    have hb := hr.each _ (mem_get (get_rt hi))
    have hsub := dealt_sub r i F
    have hbat : ∀ p ∈ Pc.join (strm r i F 0), 0 ≤ p.1 ∧ p.1 < 1000 := fun p hp => by
      have h1 : p.1 ∈ F.map Prod.fst := hsub.subset (List.mem_map.2 ⟨p, hp, rfl⟩)
      obtain ⟨q, hq, e⟩ := List.mem_map.1 h1
      have := (hvd.each q hq).1
      omega
    have hvdd := Pc.vd_of_canon hc hbat (by omega) (by omega)
    exact ⟨hvdd.sane, hv, Pc.valid_t hvdd, hsub⟩
  obtain ⟨D, hD⟩ : ∃ D, dealt r F = D := ⟨_, rfl⟩
  rw [hD] at cd hDl hDg hDo
  obtain ⟨v, hv⟩ : ∃ v, tot r = v := ⟨_, rfl⟩
  rw [hv] at cr htt hpos d1 hfv
  refine FnOk.intro fact_mixed Try.func6 rfl Try.ntmps6 (by rfl) (by simp) ?_
  repeat (first | (refine nf1_sound rfl ?_; simp [go_sem, ↓IntWalk.iteOmega, IntWalk.iteOmega, IntWalk.toNatUp]; (repeat (refine And.intro (by omega) ?_)); try (refine ⟨DrawChk_of (by kernel_rfl), ?_⟩)) | (refine itePos (by omega) ?_; try simp [go_sem, ↓IntWalk.iteOmega, IntWalk.iteOmega, IntWalk.toNatUp]) | (refine iteNeg (by omega) ?_; try simp [go_sem, ↓IntWalk.iteOmega, IntWalk.iteOmega, IntWalk.toNatUp]) | (refine ⟨DrawChk_of (by kernel_rfl), ?_⟩))
  refine CallK.fn (hnew) [(1000, 609)] [] [] (by kernel_rfl) (by simp [go_sem, ↓IntWalk.iteOmega, IntWalk.iteOmega, IntWalk.toNatUp]) (by simp [go_sem, ↓IntWalk.iteOmega, IntWalk.iteOmega, IntWalk.toNatUp]) (by simp [go_sem, ↓IntWalk.iteOmega, IntWalk.iteOmega, IntWalk.toNatUp]) (Or.inl rfl) ?_
  simp [go_sem, ↓IntWalk.iteOmega, IntWalk.iteOmega, IntWalk.toNatUp]
  repeat (refine And.intro (by omega) ?_)
  try (refine ⟨DrawChk_of (by kernel_rfl), ?_⟩)
  repeat (first | (refine nf1_sound rfl ?_; simp [go_sem, ↓IntWalk.iteOmega, IntWalk.iteOmega, IntWalk.toNatUp]; (repeat (refine And.intro (by omega) ?_)); try (refine ⟨DrawChk_of (by kernel_rfl), ?_⟩)) | (refine itePos (by omega) ?_; try simp [go_sem, ↓IntWalk.iteOmega, IntWalk.iteOmega, IntWalk.toNatUp]) | (refine iteNeg (by omega) ?_; try simp [go_sem, ↓IntWalk.iteOmega, IntWalk.iteOmega, IntWalk.toNatUp]) | (refine ⟨DrawChk_of (by kernel_rfl), ?_⟩))
  refine CallK.fn (cr) [(0, 609), (1000, 610)] [] [] (by kernel_rfl) (by simp [go_sem, ↓IntWalk.iteOmega, IntWalk.iteOmega, IntWalk.toNatUp]) (by simp [go_sem, ↓IntWalk.iteOmega, IntWalk.iteOmega, IntWalk.toNatUp]) (by simp [go_sem, ↓IntWalk.iteOmega, IntWalk.iteOmega, IntWalk.toNatUp]) (Or.inl rfl) ?_
  simp [go_sem, ↓IntWalk.iteOmega, IntWalk.iteOmega, IntWalk.toNatUp]
  repeat (refine And.intro (by omega) ?_)
  try (refine ⟨DrawChk_of (by kernel_rfl), ?_⟩)
  repeat (first | (refine nf1_sound rfl ?_; simp [go_sem, ↓IntWalk.iteOmega, IntWalk.iteOmega, IntWalk.toNatUp]; (repeat (refine And.intro (by omega) ?_)); try (refine ⟨DrawChk_of (by kernel_rfl), ?_⟩)) | (refine itePos (by omega) ?_; try simp [go_sem, ↓IntWalk.iteOmega, IntWalk.iteOmega, IntWalk.toNatUp]) | (refine iteNeg (by omega) ?_; try simp [go_sem, ↓IntWalk.iteOmega, IntWalk.iteOmega, IntWalk.toNatUp]) | (refine ⟨DrawChk_of (by kernel_rfl), ?_⟩))
  refine CallK.fn (d1) [(0, 609), (1000, 625)] [] [] (by kernel_rfl) (by simp [go_sem, ↓IntWalk.iteOmega, IntWalk.iteOmega, IntWalk.toNatUp]) (by simp [go_sem, ↓IntWalk.iteOmega, IntWalk.iteOmega, IntWalk.toNatUp]) (by simp [go_sem, ↓IntWalk.iteOmega, IntWalk.iteOmega, IntWalk.toNatUp]) (Or.inl rfl) ?_
  simp [go_sem, ↓IntWalk.iteOmega, IntWalk.iteOmega, IntWalk.toNatUp]
  repeat (refine And.intro (by omega) ?_)
  try (refine ⟨DrawChk_of (by kernel_rfl), ?_⟩)
  refine CW.weak (ρ := []) (σ' := ⟨[(4, .t (encIs r)), (6, .t (encPs F))], []⟩) ?_ ?_
  · simp [go_sem, ↓IntWalk.iteOmega, IntWalk.iteOmega, IntWalk.toNatUp]
  repeat (first | (refine nf1_sound rfl ?_; simp [go_sem, ↓IntWalk.iteOmega, IntWalk.iteOmega, IntWalk.toNatUp]; (repeat (refine And.intro (by omega) ?_)); try (refine ⟨DrawChk_of (by kernel_rfl), ?_⟩)) | (refine itePos (by omega) ?_; try simp [go_sem, ↓IntWalk.iteOmega, IntWalk.iteOmega, IntWalk.toNatUp]) | (refine iteNeg (by omega) ?_; try simp [go_sem, ↓IntWalk.iteOmega, IntWalk.iteOmega, IntWalk.toNatUp]) | (refine ⟨DrawChk_of (by kernel_rfl), ?_⟩))
  refine CallK.fn (cd) [] [] [] (by kernel_rfl) (by simp [go_sem, ↓IntWalk.iteOmega, IntWalk.iteOmega, IntWalk.toNatUp]) (by simp [go_sem, ↓IntWalk.iteOmega, IntWalk.iteOmega, IntWalk.toNatUp]) (by simp [go_sem, ↓IntWalk.iteOmega, IntWalk.iteOmega, IntWalk.toNatUp]) (Or.inl rfl) ?_
  simp [go_sem, ↓IntWalk.iteOmega, IntWalk.iteOmega, IntWalk.toNatUp]
  repeat (refine And.intro (by omega) ?_)
  try (refine ⟨DrawChk_of (by kernel_rfl), ?_⟩)
  repeat (first | (refine nf1_sound rfl ?_; simp [go_sem, ↓IntWalk.iteOmega, IntWalk.iteOmega, IntWalk.toNatUp, hDl]; (repeat (refine And.intro (by omega) ?_)); try (refine ⟨DrawChk_of (by kernel_rfl), ?_⟩)) | (refine itePos (by omega) ?_; try simp [go_sem, ↓IntWalk.iteOmega, IntWalk.iteOmega, IntWalk.toNatUp, hDl]) | (refine iteNeg (by omega) ?_; try simp [go_sem, ↓IntWalk.iteOmega, IntWalk.iteOmega, IntWalk.toNatUp, hDl]) | (refine ⟨DrawChk_of (by kernel_rfl), ?_⟩))
  refine nf1_sound' _ _ _ ?_; simp only [nf1]
  refine CW.loop (ι := Nat) (fun b => ⟨[(4, .t (encIs r)), (6, .t (encPs F)), (7, .t (.sl 1 (D.map encPs))), (9, .t (.int b))], []⟩) (fun b => b ≤ 4) (fun b => 4 - b) 0 [] (by omega) ?_ ?_
  · simp [go_sem, ↓IntWalk.iteOmega, IntWalk.iteOmega, IntWalk.toNatUp]
  intro b hb
  by_cases hb4 : b < 4
  · have ho := hDo b
    have hob := hofb b
    have cof := of_fn F b hvd.sane
    obtain ⟨O, hO⟩ : ∃ O, D.map (fun q => Pc.of_ q (b : Int)) = O := ⟨_, rfl⟩
    have hOl : O.length = D.length := by rw [← hO, List.length_map]
    have hOg : ∀ i q, D[i]? = some q → O[i]? = some (Pc.of_ q b) := fun i q h => by rw [← hO, List.getElem?_map, h]; rfl
    have hOn : ∀ x ∈ O, 0 ≤ x := by
      rw [← hO]; intro x hx
      obtain ⟨q, hq, rfl⟩ := List.mem_map.1 hx
      obtain ⟨i, hi⟩ := List.getElem?_of_mem hq
      have hil : i < r.length := by rw [← hDl]; exact (List.getElem?_eq_some_iff.1 hi).1
      rw [hDg i hil] at hi
      cases hi
      exact of_nn b (fun p hp => ((hpieces i hil).1.each p hp).1)
    have hpre := tot_pre hOn
    rw [hO] at ho
    rw [ho] at hpre
    obtain ⟨ov, hov⟩ : ∃ ov, Pc.of_ F (b : Int) = ov := ⟨_, rfl⟩
    rw [hov] at ho hpre hob cof
    repeat (first | (refine nf1_sound rfl ?_; simp [go_sem, ↓IntWalk.iteOmega, IntWalk.iteOmega, IntWalk.toNatUp, hDl]; (repeat (refine And.intro (by omega) ?_)); try (refine ⟨DrawChk_of (by kernel_rfl), ?_⟩)) | (refine itePos (by omega) ?_; try simp [go_sem, ↓IntWalk.iteOmega, IntWalk.iteOmega, IntWalk.toNatUp, hDl]) | (refine iteNeg (by omega) ?_; try simp [go_sem, ↓IntWalk.iteOmega, IntWalk.iteOmega, IntWalk.toNatUp, hDl]) | (refine ⟨DrawChk_of (by kernel_rfl), ?_⟩))
    refine nf1_sound' _ _ _ ?_; simp only [nf1]
    refine CW.loop (ι := Nat) (fun i => ⟨[(4, .t (encIs r)), (6, .t (encPs F)), (7, .t (.sl 1 (D.map encPs))), (9, .t (.int b)), (10, .t (.int (tot (O.take i)))), (46, .t (.int r.length)), (47, .t (.int i))], []⟩) (fun i => i ≤ r.length) (fun i => r.length - i) 0 [] (by omega) ?_ ?_
    · simp [go_sem, ↓IntWalk.iteOmega, IntWalk.iteOmega, IntWalk.toNatUp, tot, hDl]
    intro i hi
    by_cases hb5 : i < r.length
    · have hg := hDg i hb5
      have ⟨hsane, _, _, _⟩ := hpieces i hb5
      obtain ⟨Q, hQ⟩ : ∃ Q, Pc.join (strm r i F 0) = Q := ⟨_, rfl⟩
      rw [hQ] at hg hsane
      have co := of_fn Q b hsane
      have hts := tot_snoc (hOg i Q hg)
      have hp1 := hpre i
      have hp2 := hpre (i + 1)
      obtain ⟨o, hoo⟩ : ∃ o, Pc.of_ Q (b : Int) = o := ⟨_, rfl⟩
      obtain ⟨t, ht⟩ : ∃ t, tot (O.take i) = t := ⟨_, rfl⟩
      rw [hoo, ht] at hts
      rw [hts] at hp2
      rw [ht] at hp1 ⊢
      rw [hoo] at co
      repeat (first | (refine nf1_sound rfl ?_; simp [go_sem, ↓IntWalk.iteOmega, IntWalk.iteOmega, IntWalk.toNatUp, hg]; (repeat (refine And.intro (by omega) ?_)); try (refine ⟨DrawChk_of (by kernel_rfl), ?_⟩)) | (refine itePos (by omega) ?_; try simp [go_sem, ↓IntWalk.iteOmega, IntWalk.iteOmega, IntWalk.toNatUp, hg]) | (refine iteNeg (by omega) ?_; try simp [go_sem, ↓IntWalk.iteOmega, IntWalk.iteOmega, IntWalk.toNatUp, hg]) | (refine ⟨DrawChk_of (by kernel_rfl), ?_⟩))
      refine CallK.fn (co) [] [] [] (by kernel_rfl) (by simp [go_sem, ↓IntWalk.iteOmega, IntWalk.iteOmega, IntWalk.toNatUp, hg]) (by simp [go_sem, ↓IntWalk.iteOmega, IntWalk.iteOmega, IntWalk.toNatUp, hg]) (by simp [go_sem, ↓IntWalk.iteOmega, IntWalk.iteOmega, IntWalk.toNatUp, hg]) (Or.inl rfl) ?_
      simp [go_sem, ↓IntWalk.iteOmega, IntWalk.iteOmega, IntWalk.toNatUp, hg]
      repeat (refine And.intro (by omega) ?_)
      try (refine ⟨DrawChk_of (by kernel_rfl), ?_⟩)
      repeat (first | (refine nf1_sound rfl ?_; simp [go_sem, ↓IntWalk.iteOmega, IntWalk.iteOmega, IntWalk.toNatUp, hg]; (repeat (refine And.intro (by omega) ?_)); try (refine ⟨DrawChk_of (by kernel_rfl), ?_⟩)) | (refine itePos (by omega) ?_; try simp [go_sem, ↓IntWalk.iteOmega, IntWalk.iteOmega, IntWalk.toNatUp, hg]) | (refine iteNeg (by omega) ?_; try simp [go_sem, ↓IntWalk.iteOmega, IntWalk.iteOmega, IntWalk.toNatUp, hg]) | (refine ⟨DrawChk_of (by kernel_rfl), ?_⟩))
      rw [RoundQ_normal]; refine ⟨i + 1, [], ?_, ?_, ?_⟩
      · omega
      · omega
      simp [go_sem, ↓IntWalk.iteOmega, IntWalk.iteOmega, IntWalk.toNatUp, hts]
    obtain rfl : i = r.length := by omega
    have htk : tot (O.take r.length) = ov := by rw [List.take_of_length_le (by omega)]; exact ho
    rw [htk]
    repeat (first | (refine nf1_sound rfl ?_; simp [go_sem, ↓IntWalk.iteOmega, IntWalk.iteOmega, IntWalk.toNatUp]; (repeat (refine And.intro (by omega) ?_)); try (refine ⟨DrawChk_of (by kernel_rfl), ?_⟩)) | (refine itePos (by omega) ?_; try simp [go_sem, ↓IntWalk.iteOmega, IntWalk.iteOmega, IntWalk.toNatUp]) | (refine iteNeg (by omega) ?_; try simp [go_sem, ↓IntWalk.iteOmega, IntWalk.iteOmega, IntWalk.toNatUp]) | (refine ⟨DrawChk_of (by kernel_rfl), ?_⟩))
    refine CallK.fn (cof) [] [] [] (by kernel_rfl) (by simp [go_sem, ↓IntWalk.iteOmega, IntWalk.iteOmega, IntWalk.toNatUp]) (by simp [go_sem, ↓IntWalk.iteOmega, IntWalk.iteOmega, IntWalk.toNatUp]) (by simp [go_sem, ↓IntWalk.iteOmega, IntWalk.iteOmega, IntWalk.toNatUp]) (Or.inl rfl) ?_
    simp [go_sem, ↓IntWalk.iteOmega, IntWalk.iteOmega, IntWalk.toNatUp]
    repeat (refine And.intro (by omega) ?_)
    try (refine ⟨DrawChk_of (by kernel_rfl), ?_⟩)
    repeat (first | (refine nf1_sound rfl ?_; simp [go_sem, ↓IntWalk.iteOmega, IntWalk.iteOmega, IntWalk.toNatUp]; (repeat (refine And.intro (by omega) ?_)); try (refine ⟨DrawChk_of (by kernel_rfl), ?_⟩)) | (refine itePos (by omega) ?_; try simp [go_sem, ↓IntWalk.iteOmega, IntWalk.iteOmega, IntWalk.toNatUp]) | (refine iteNeg (by omega) ?_; try simp [go_sem, ↓IntWalk.iteOmega, IntWalk.iteOmega, IntWalk.toNatUp]) | (refine ⟨DrawChk_of (by kernel_rfl), ?_⟩))
    rw [RoundQ_normal]; refine ⟨b + 1, [], ?_, ?_, ?_⟩
    · omega
    · omega
    simp [go_sem, ↓IntWalk.iteOmega, IntWalk.iteOmega, IntWalk.toNatUp]
  obtain rfl : b = 4 := by omega
  repeat (first | (refine nf1_sound rfl ?_; simp [go_sem, ↓IntWalk.iteOmega, IntWalk.iteOmega, IntWalk.toNatUp, hDl]; (repeat (refine And.intro (by omega) ?_)); try (refine ⟨DrawChk_of (by kernel_rfl), ?_⟩)) | (refine itePos (by omega) ?_; try simp [go_sem, ↓IntWalk.iteOmega, IntWalk.iteOmega, IntWalk.toNatUp, hDl]) | (refine iteNeg (by omega) ?_; try simp [go_sem, ↓IntWalk.iteOmega, IntWalk.iteOmega, IntWalk.toNatUp, hDl]) | (refine ⟨DrawChk_of (by kernel_rfl), ?_⟩))
  refine nf1_sound' _ _ _ ?_; simp only [nf1]
  refine CW.loop (ι := Nat) (fun i => ⟨[(4, .t (encIs r)), (6, .t (encPs F)), (7, .t (.sl 1 (D.map encPs))), (65, .t (.int r.length)), (66, .t (.int i))], []⟩) (fun i => i ≤ r.length) (fun i => r.length - i) 0 [] (by omega) ?_ ?_
  · simp [go_sem, ↓IntWalk.iteOmega, IntWalk.iteOmega, IntWalk.toNatUp, hDl]
  intro i hi
  by_cases hb5 : i < r.length
  · have hg := hDg i hb5
    obtain ⟨hsane, hvol, hval, hsub⟩ := hpieces i hb5
    have gr := get_rt hb5
    obtain ⟨Q, hQ⟩ : ∃ Q, Pc.join (strm r i F 0) = Q := ⟨_, rfl⟩
    rw [hQ] at hg hsane hvol hval hsub
    have cs1 := sum_fn Q hsane
    have cv := rvalid_fn Q (by have := hsane.len; omega) true hval
    rw [hvol] at cs1
    have hQl := hsane.len
    obtain ⟨u, hu⟩ : ∃ u, rt r i = u := ⟨_, rfl⟩
    rw [hu] at gr cs1
    repeat (first | (refine nf1_sound rfl ?_; simp [go_sem, ↓IntWalk.iteOmega, IntWalk.iteOmega, IntWalk.toNatUp, hg, gr]; (repeat (refine And.intro (by omega) ?_)); try (refine ⟨DrawChk_of (by kernel_rfl), ?_⟩)) | (refine itePos (by omega) ?_; try simp [go_sem, ↓IntWalk.iteOmega, IntWalk.iteOmega, IntWalk.toNatUp, hg, gr]) | (refine iteNeg (by omega) ?_; try simp [go_sem, ↓IntWalk.iteOmega, IntWalk.iteOmega, IntWalk.toNatUp, hg, gr]) | (refine ⟨DrawChk_of (by kernel_rfl), ?_⟩))
    refine CallK.fn (cs1) [] [] [] (by kernel_rfl) (by simp [go_sem, ↓IntWalk.iteOmega, IntWalk.iteOmega, IntWalk.toNatUp, hg, gr]) (by simp [go_sem, ↓IntWalk.iteOmega, IntWalk.iteOmega, IntWalk.toNatUp, hg, gr]) (by simp [go_sem, ↓IntWalk.iteOmega, IntWalk.iteOmega, IntWalk.toNatUp, hg, gr]) (Or.inl rfl) ?_
    simp [go_sem, ↓IntWalk.iteOmega, IntWalk.iteOmega, IntWalk.toNatUp, hg, gr]
    repeat (refine And.intro (by omega) ?_)
    try (refine ⟨DrawChk_of (by kernel_rfl), ?_⟩)
    refine CallK.fn (cv) [] [] [] (by kernel_rfl) (by simp [go_sem, ↓IntWalk.iteOmega, IntWalk.iteOmega, IntWalk.toNatUp, hg, gr]) (by simp [go_sem, ↓IntWalk.iteOmega, IntWalk.iteOmega, IntWalk.toNatUp, hg, gr]) (by simp [go_sem, ↓IntWalk.iteOmega, IntWalk.iteOmega, IntWalk.toNatUp, hg, gr]) (Or.inl rfl) ?_
    simp [go_sem, ↓IntWalk.iteOmega, IntWalk.iteOmega, IntWalk.toNatUp, hg, gr]
    repeat (refine And.intro (by omega) ?_)
    try (refine ⟨DrawChk_of (by kernel_rfl), ?_⟩)
    repeat (first | (refine nf1_sound rfl ?_; simp [go_sem, ↓IntWalk.iteOmega, IntWalk.iteOmega, IntWalk.toNatUp, hg, gr]; (repeat (refine And.intro (by omega) ?_)); try (refine ⟨DrawChk_of (by kernel_rfl), ?_⟩)) | (refine itePos (by omega) ?_; try simp [go_sem, ↓IntWalk.iteOmega, IntWalk.iteOmega, IntWalk.toNatUp, hg, gr]) | (refine iteNeg (by omega) ?_; try simp [go_sem, ↓IntWalk.iteOmega, IntWalk.iteOmega, IntWalk.toNatUp, hg, gr]) | (refine ⟨DrawChk_of (by kernel_rfl), ?_⟩))
    refine nf1_sound' _ _ _ ?_; simp only [nf1]
    refine CW.loop (ι := Nat × Nat) (fun p => ⟨[(4, .t (encIs r)), (6, .t (encPs F)), (7, .t (.sl 1 (D.map encPs))), (13, .t (.int p.2)), (65, .t (.int r.length)), (66, .t (.int i)), (90, .t (encPs Q)), (91, .t (.int Q.length)), (92, .t (.int p.1))], []⟩) (fun p => p.1 ≤ Q.length ∧ SubF (Q.drop p.1) (F.drop p.2)) (fun p => Q.length - p.1) (0, 0) [] ⟨by simp, by simpa using hsub⟩ ?_ ?_
    · simp [go_sem, ↓IntWalk.iteOmega, IntWalk.iteOmega, IntWalk.toNatUp]
    rintro ⟨j, at_⟩ ⟨hj, hsb⟩
    dsimp only at hj hsb ⊢
    by_cases hb6 : j < Q.length
    · obtain ⟨q, hq⟩ := has_get hb6
      rw [drop_get hq] at hsb
      repeat (first | (refine nf1_sound rfl ?_; simp [go_sem, ↓IntWalk.iteOmega, IntWalk.iteOmega, IntWalk.toNatUp, hq]; (repeat (refine And.intro (by omega) ?_)); try (refine ⟨DrawChk_of (by kernel_rfl), ?_⟩)) | (refine itePos (by omega) ?_; try simp [go_sem, ↓IntWalk.iteOmega, IntWalk.iteOmega, IntWalk.toNatUp, hq]) | (refine iteNeg (by omega) ?_; try simp [go_sem, ↓IntWalk.iteOmega, IntWalk.iteOmega, IntWalk.toNatUp, hq]) | (refine ⟨DrawChk_of (by kernel_rfl), ?_⟩))
      refine nf1_sound' _ _ _ ?_; simp only [nf1]
      refine CW.loop (ι := Nat) (fun a => ⟨[(4, .t (encIs r)), (6, .t (encPs F)), (7, .t (.sl 1 (D.map encPs))), (13, .t (.int a)), (15, .pt 515 [] 0), (65, .t (.int r.length)), (66, .t (.int i)), (90, .t (encPs Q)), (91, .t (.int Q.length)), (92, .t (.int j))], [(515, .box 38 (.t (encP q)))]⟩) (fun a => SubF (q :: Q.drop (j + 1)) (F.drop a)) (fun a => F.length - a) at_ [(515, some 115)] hsb ?_ ?_
      · simp [go_sem, ↓IntWalk.iteOmega, IntWalk.iteOmega, IntWalk.toNatUp]
      intro a ha
      have hal : a < F.length := by
        refine Classical.byContradiction fun hn => ?_
        rw [show F.drop a = [] from List.drop_eq_nil_of_le (by omega)] at ha
        exact ha.nil
      obtain ⟨p, hp⟩ := has_get hal
      have hd := drop_get hp
      by_cases e1 : p.1 = q.1
      · repeat (first | (refine nf1_sound rfl ?_; simp [go_sem, ↓IntWalk.iteOmega, IntWalk.iteOmega, IntWalk.toNatUp, hp, e1]; (repeat (refine And.intro (by omega) ?_)); try (refine ⟨DrawChk_of (by kernel_rfl), ?_⟩)) | (refine itePos (by omega) ?_; try simp [go_sem, ↓IntWalk.iteOmega, IntWalk.iteOmega, IntWalk.toNatUp, hp, e1]) | (refine iteNeg (by omega) ?_; try simp [go_sem, ↓IntWalk.iteOmega, IntWalk.iteOmega, IntWalk.toNatUp, hp, e1]) | (refine ⟨DrawChk_of (by kernel_rfl), ?_⟩))
        rw [RoundQ_normal]; refine ⟨(j + 1, a), [], ?_, ?_, ?_⟩
        · exact ⟨by omega, ha.tail⟩
        · show Q.length - (j + 1) < Q.length - j
          omega
        simp [go_sem, ↓IntWalk.iteOmega, IntWalk.iteOmega, IntWalk.toNatUp]
      · have hnext : SubF (q :: Q.drop (j + 1)) (F.drop (a + 1)) := by
          rw [hd] at ha
          exact ha.skip e1
        repeat (first | (refine nf1_sound rfl ?_; simp [go_sem, ↓IntWalk.iteOmega, IntWalk.iteOmega, IntWalk.toNatUp, hp, e1]; (repeat (refine And.intro (by omega) ?_)); try (refine ⟨DrawChk_of (by kernel_rfl), ?_⟩)) | (refine itePos (by omega) ?_; try simp [go_sem, ↓IntWalk.iteOmega, IntWalk.iteOmega, IntWalk.toNatUp, hp, e1]) | (refine iteNeg (by omega) ?_; try simp [go_sem, ↓IntWalk.iteOmega, IntWalk.iteOmega, IntWalk.toNatUp, hp, e1]) | (refine ⟨DrawChk_of (by kernel_rfl), ?_⟩))
        rw [RoundQ_normal]; refine ⟨a + 1, [(515, some 515)], ?_, ?_, ?_⟩
        · exact hnext
        · omega
        simp [go_sem, ↓IntWalk.iteOmega, IntWalk.iteOmega, IntWalk.toNatUp]
    · obtain rfl : j = Q.length := by omega
      repeat (first | (refine nf1_sound rfl ?_; simp [go_sem, ↓IntWalk.iteOmega, IntWalk.iteOmega, IntWalk.toNatUp]; (repeat (refine And.intro (by omega) ?_)); try (refine ⟨DrawChk_of (by kernel_rfl), ?_⟩)) | (refine itePos (by omega) ?_; try simp [go_sem, ↓IntWalk.iteOmega, IntWalk.iteOmega, IntWalk.toNatUp]) | (refine iteNeg (by omega) ?_; try simp [go_sem, ↓IntWalk.iteOmega, IntWalk.iteOmega, IntWalk.toNatUp]) | (refine ⟨DrawChk_of (by kernel_rfl), ?_⟩))
      rw [RoundQ_normal]; refine ⟨i + 1, [], ?_, ?_, ?_⟩
      · omega
      · omega
      simp [go_sem, ↓IntWalk.iteOmega, IntWalk.iteOmega, IntWalk.toNatUp]
  obtain rfl : i = r.length := by omega
  repeat (first | (refine nf1_sound rfl ?_; simp [go_sem, ↓IntWalk.iteOmega, IntWalk.iteOmega, IntWalk.toNatUp]; (repeat (refine And.intro (by omega) ?_)); try (refine ⟨DrawChk_of (by kernel_rfl), ?_⟩)) | (refine itePos (by omega) ?_; try simp [go_sem, ↓IntWalk.iteOmega, IntWalk.iteOmega, IntWalk.toNatUp]) | (refine iteNeg (by omega) ?_; try simp [go_sem, ↓IntWalk.iteOmega, IntWalk.iteOmega, IntWalk.toNatUp]) | (refine ⟨DrawChk_of (by kernel_rfl), ?_⟩))
  refine CallK.fn (awake_fn) [] [] [] (by kernel_rfl) (by simp [go_sem, ↓IntWalk.iteOmega, IntWalk.iteOmega, IntWalk.toNatUp]) (by simp [go_sem, ↓IntWalk.iteOmega, IntWalk.iteOmega, IntWalk.toNatUp]) (by simp [go_sem, ↓IntWalk.iteOmega, IntWalk.iteOmega, IntWalk.toNatUp]) (Or.inl rfl) ?_
  simp [go_sem, ↓IntWalk.iteOmega, IntWalk.iteOmega, IntWalk.toNatUp]
  repeat (refine And.intro (by omega) ?_)
  try (refine ⟨DrawChk_of (by kernel_rfl), ?_⟩)
  repeat (first | (refine nf1_sound rfl ?_; simp [go_sem, ↓IntWalk.iteOmega, IntWalk.iteOmega, IntWalk.toNatUp]; (repeat (refine And.intro (by omega) ?_)); try (refine ⟨DrawChk_of (by kernel_rfl), ?_⟩)) | (refine itePos (by omega) ?_; try simp [go_sem, ↓IntWalk.iteOmega, IntWalk.iteOmega, IntWalk.toNatUp]) | (refine iteNeg (by omega) ?_; try simp [go_sem, ↓IntWalk.iteOmega, IntWalk.iteOmega, IntWalk.toNatUp]) | (refine ⟨DrawChk_of (by kernel_rfl), ?_⟩))
  first | rw [RetQ_ret] | rw [RetQ_normal]
  refine ⟨[], ?_⟩
  simp [go_sem, ↓IntWalk.iteOmega, IntWalk.iteOmega, IntWalk.toNatUp]
theorem dkeeps_all (x0 : T) (h0 : InSh (.sl (.int .i64)) x0) : FnOk Try.prog 6 [.t x0] [] (.t (.bool true)) [] := by
  obtain ⟨l, rfl, hl, wf⟩ := ints_in h0
  exact dkeeps_fn l hl wf
end Go.Proofs.Ytpfolkjimdmdhaa
