/- The law DealFair: what it computes. No condition. -/
import Derived.Test.YtpfolkjimdmdhaaGrows
namespace Go.Proofs.Ytpfolkjimdmdhaa
open Go.RowKit Sy Dl
set_option linter.unusedVariables false
set_option linter.unusedSimpArgs false
set_option maxRecDepth 100000 in
set_option maxHeartbeats 16000000 in
theorem fair_fn (l : List Int) (li : Nat) (hl : l.length ≤ 9223372036854775807) (wf : ∀ z ∈ l, -9223372036854775808 ≤ z ∧ z ≤ 9223372036854775807) (hli : li < 65536) :
    FnOk Try.prog 5 [.t (encIs l), .t (.lit (.int .u16 (li : Int)))] [] (.t (.bool true)) [] := by
  obtain ⟨k', r, _, hr, cr⟩ := rates_ex (new_ok wf)
  have hlen := hr.len
  have htt := hr.tt
  have hpos := hr.rates.pos
  obtain ⟨k, hk⟩ : ∃ n : Nat, (li : Int) % tot r = (n : Int) := ⟨((li : Int) % tot r).toNat, by have := Int.emod_nonneg (li : Int) (show tot r ≠ 0 by omega); omega⟩
  have hk2 : (k : Int) < tot r := by have := Int.emod_lt_of_pos (li : Int) (show 0 < tot r by omega); omega
  obtain ⟨w, _, hw, hrw, hcs, hmin⟩ := cs_step hr.rates k
  have c1 := counts_fn r k (by omega) _ _ (counts_ok hr.rates k (by omega))
  have c2 := counts_fn r ((k + 1 : Nat) : Int) (by omega) _ _ (counts_ok hr.rates (k + 1) (by omega))
  have hk1 : ((k + 1 : Nat) : Int) = (k : Int) + 1 := by omega
  rw [hk1] at c2
  have hcl1 := cs_len r k
  have hcl2 := cs_len r (k + 1)
  have hq1 : ∀ i, i < r.length → ((k : Int) * rt r i) / tot r ≤ rt (cs r k) i := fun i hi => cs_quota_div hr.rates k i hi
  have hq2 : ∀ i, i < r.length → rt (cs r k) i ≤ rt r i := fun i hi => cs_le hr.rates k (by omega) i hi
  have hq3 : r.length = 2 → ∀ i, i < r.length → rt (cs r k) i ≤ ((k : Int) * rt r i + tot r - 1) / tot r := fun h2 i hi => cs_two hr.rates h2 k i hi
  have hq4 : ∀ i, i < r.length → rt (cs r (k + 1)) i = if i = w then rt (cs r k) i + 1 else rt (cs r k) i := fun i hi => by
    rw [hcs, rt_set (by omega)]
    split
    · rename_i e; rw [e]
    · rfl
  have htot := cs_tot hr.rates k
  have hbd := rt_bd r k
  have hrd : ∀ i, i < r.length → 0 ≤ rt r i ∧ rt r i ≤ 39 := fun i hi => hr.each _ (mem_get (get_rt hi))
  obtain ⟨C1, hC1⟩ : ∃ C, cs r k = C := ⟨_, rfl⟩
  obtain ⟨C2, hC2⟩ : ∃ C, cs r (k + 1) = C := ⟨_, rfl⟩
  rw [hC1] at c1 hcl1 htot
  simp only [hC1] at hq1 hq2 hq3 hq4 hbd hmin
  rw [hC2] at c2 hcl2
  simp only [hC2] at hq4
  obtain ⟨v, hv⟩ : ∃ v, tot r = v := ⟨_, rfl⟩
  rw [hv] at cr hk hk2 htt hpos
  simp only [hv] at hq1 hq3
  clear hcs hC1 hC2
  refine FnOk.intro fact_mixed Try.func5 rfl Try.ntmps5 (by rfl) (by simp) ?_
  repeat (first | (refine nf1_sound rfl ?_; simp [go_sem, ↓IntWalk.iteOmega, IntWalk.iteOmega, IntWalk.toNatUp]; (repeat (refine And.intro (by omega) ?_)); try (refine ⟨DrawChk_of (by kernel_rfl), ?_⟩)) | (refine itePos (by omega) ?_; try simp [go_sem, ↓IntWalk.iteOmega, IntWalk.iteOmega, IntWalk.toNatUp]) | (refine iteNeg (by omega) ?_; try simp [go_sem, ↓IntWalk.iteOmega, IntWalk.iteOmega, IntWalk.toNatUp]) | (refine ⟨DrawChk_of (by kernel_rfl), ?_⟩))
  refine CallK.fn (new_fn l hl) [(1000, 609)] [] [] (by kernel_rfl) (by simp [go_sem, ↓IntWalk.iteOmega, IntWalk.iteOmega, IntWalk.toNatUp]) (by simp [go_sem, ↓IntWalk.iteOmega, IntWalk.iteOmega, IntWalk.toNatUp]) (by simp [go_sem, ↓IntWalk.iteOmega, IntWalk.iteOmega, IntWalk.toNatUp]) (Or.inl rfl) ?_
  simp [go_sem, ↓IntWalk.iteOmega, IntWalk.iteOmega, IntWalk.toNatUp]
  repeat (refine And.intro (by omega) ?_)
  try (refine ⟨DrawChk_of (by kernel_rfl), ?_⟩)
  refine CallK.fn (cr) [(0, 609), (1000, 610)] [] [] (by kernel_rfl) (by simp [go_sem, ↓IntWalk.iteOmega, IntWalk.iteOmega, IntWalk.toNatUp]) (by simp [go_sem, ↓IntWalk.iteOmega, IntWalk.iteOmega, IntWalk.toNatUp]) (by simp [go_sem, ↓IntWalk.iteOmega, IntWalk.iteOmega, IntWalk.toNatUp]) (Or.inl rfl) ?_
  simp [go_sem, ↓IntWalk.iteOmega, IntWalk.iteOmega, IntWalk.toNatUp]
  repeat (refine And.intro (by omega) ?_)
  try (refine ⟨DrawChk_of (by kernel_rfl), ?_⟩)
  repeat (first | (refine nf1_sound rfl ?_; simp [go_sem, ↓IntWalk.iteOmega, IntWalk.iteOmega, IntWalk.toNatUp, hk]; (repeat (refine And.intro (by omega) ?_)); try (refine ⟨DrawChk_of (by kernel_rfl), ?_⟩)) | (refine itePos (by omega) ?_; try simp [go_sem, ↓IntWalk.iteOmega, IntWalk.iteOmega, IntWalk.toNatUp, hk]) | (refine iteNeg (by omega) ?_; try simp [go_sem, ↓IntWalk.iteOmega, IntWalk.iteOmega, IntWalk.toNatUp, hk]) | (refine ⟨DrawChk_of (by kernel_rfl), ?_⟩))
  refine CallK.fn (c1) [(1000, 611)] [610] [] (by kernel_rfl) (by simp [go_sem, ↓IntWalk.iteOmega, IntWalk.iteOmega, IntWalk.toNatUp]) (by simp [go_sem, ↓IntWalk.iteOmega, IntWalk.iteOmega, IntWalk.toNatUp]) (by simp [go_sem, ↓IntWalk.iteOmega, IntWalk.iteOmega, IntWalk.toNatUp]) (Or.inr ⟨by simp [go_sem, ↓IntWalk.iteOmega, IntWalk.iteOmega, IntWalk.toNatUp], by simp [go_sem, ↓IntWalk.iteOmega, IntWalk.iteOmega, IntWalk.toNatUp]⟩) ?_
  simp [go_sem, ↓IntWalk.iteOmega, IntWalk.iteOmega, IntWalk.toNatUp]
  repeat (refine And.intro (by omega) ?_)
  try (refine ⟨DrawChk_of (by kernel_rfl), ?_⟩)
  repeat (first | (refine nf1_sound rfl ?_; simp [go_sem, ↓IntWalk.iteOmega, IntWalk.iteOmega, IntWalk.toNatUp]; (repeat (refine And.intro (by omega) ?_)); try (refine ⟨DrawChk_of (by kernel_rfl), ?_⟩)) | (refine itePos (by omega) ?_; try simp [go_sem, ↓IntWalk.iteOmega, IntWalk.iteOmega, IntWalk.toNatUp]) | (refine iteNeg (by omega) ?_; try simp [go_sem, ↓IntWalk.iteOmega, IntWalk.iteOmega, IntWalk.toNatUp]) | (refine ⟨DrawChk_of (by kernel_rfl), ?_⟩))
  refine CallK.fn (c2) [(1000, 612)] [610] [] (by kernel_rfl) (by simp [go_sem, ↓IntWalk.iteOmega, IntWalk.iteOmega, IntWalk.toNatUp]) (by simp [go_sem, ↓IntWalk.iteOmega, IntWalk.iteOmega, IntWalk.toNatUp]) (by simp [go_sem, ↓IntWalk.iteOmega, IntWalk.iteOmega, IntWalk.toNatUp]) (Or.inr ⟨by simp [go_sem, ↓IntWalk.iteOmega, IntWalk.iteOmega, IntWalk.toNatUp], by simp [go_sem, ↓IntWalk.iteOmega, IntWalk.iteOmega, IntWalk.toNatUp]⟩) ?_
  simp [go_sem, ↓IntWalk.iteOmega, IntWalk.iteOmega, IntWalk.toNatUp]
  repeat (refine And.intro (by omega) ?_)
  try (refine ⟨DrawChk_of (by kernel_rfl), ?_⟩)
  repeat (first | (refine nf1_sound rfl ?_; simp [go_sem, ↓IntWalk.iteOmega, IntWalk.iteOmega, IntWalk.toNatUp, hcl1, hcl2]; (repeat (refine And.intro (by omega) ?_)); try (refine ⟨DrawChk_of (by kernel_rfl), ?_⟩)) | (refine itePos (by omega) ?_; try simp [go_sem, ↓IntWalk.iteOmega, IntWalk.iteOmega, IntWalk.toNatUp, hcl1, hcl2]) | (refine iteNeg (by omega) ?_; try simp [go_sem, ↓IntWalk.iteOmega, IntWalk.iteOmega, IntWalk.toNatUp, hcl1, hcl2]) | (refine ⟨DrawChk_of (by kernel_rfl), ?_⟩))
  refine nf1_sound' _ _ _ ?_; simp only [nf1]
  refine CW.loop (ι := Nat) (fun i => ⟨[(5, .own 610), (6, .t (.int v)), (7, .t (.int k)), (8, .own 611), (10, .own 612), (12, .t (.int (tot (C1.take i)))), (13, .t (.int (if w < i then (w : Int) else -1))), (60, .t (.int r.length)), (61, .t (.int i))], [(610, blkI r), (611, blkI C1), (612, blkI C2)]⟩) (fun i => i ≤ r.length) (fun i => r.length - i) 0 [(610, some 610), (611, some 611), (612, some 612)] (by omega) ?_ ?_
  · simp [go_sem, ↓IntWalk.iteOmega, IntWalk.iteOmega, IntWalk.toNatUp, tot]
  intro i hi
  by_cases hb : i < r.length
  · have g0 := get_rt (r := r) (i := i) hb
    have g1 := get_rt (r := C1) (i := i) (by omega)
    have g2 := get_rt (r := C2) (i := i) (by omega)
    have hts := tot_snoc g1
    have f1 := hq1 i hb
    have f2 := hq2 i hb
    have f3 := fun h2 => hq3 h2 i hb
    have f4 := hq4 i hb
    have f5 := hbd i
    have f6 := hrd i hb
    have hsum := tot_nn (l := C1.take i) (fun x hx => by
      obtain ⟨j, hj⟩ := List.getElem?_of_mem (List.mem_of_mem_take hx)
      have := hbd j
      rw [rt_get hj] at this; omega)
    have hsum2 := tot_le (M := 195) (l := C1.take i) (fun x hx => by
      obtain ⟨j, hj⟩ := List.getElem?_of_mem (List.mem_of_mem_take hx)
      have := hbd j
      rw [rt_get hj] at this; omega)
    rw [List.length_take] at hsum2
    obtain ⟨u0, hu0⟩ : ∃ u, rt r i = u := ⟨_, rfl⟩
    obtain ⟨u1, hu1⟩ : ∃ u, rt C1 i = u := ⟨_, rfl⟩
    obtain ⟨u2, hu2⟩ : ∃ u, rt C2 i = u := ⟨_, rfl⟩
    simp only [hu0, hu1, hu2] at g0 g1 g2 hts f1 f2 f3 f4 f5 f6
    have hm := mul_bd (a := (k : Int)) (A := 195) (b := u0) (B := 39) (by omega) (by omega) (by omega) (by omega)
    obtain ⟨p, hp⟩ : ∃ p, (k : Int) * u0 = p := ⟨_, rfl⟩
    simp only [hp] at f1 f3 hm
    obtain ⟨q, hq⟩ : ∃ q, p / v = q := ⟨_, rfl⟩
    obtain ⟨q2, hqq⟩ : ∃ q, (p + v - 1) / v = q := ⟨_, rfl⟩
    simp only [hq, hqq] at f1 f3
    obtain ⟨s, hs⟩ : ∃ s, tot (C1.take i) = s := ⟨_, rfl⟩
    rw [hs] at hts hsum hsum2
    have hwho : (if w < i + 1 then (w : Int) else -1) = if i = w then (i : Int) else if w < i then (w : Int) else -1 := by
      by_cases e1 : i = w
      · subst e1; simp
      · rw [if_neg e1]
        by_cases e2 : w < i
        · rw [if_pos e2, if_pos (by omega)]
        · rw [if_neg e2, if_neg (by omega)]
    have fin : ∀ z : Int, z = (if i = w then (i : Int) else if w < i then (w : Int) else -1) → (if w < i + 1 then (w : Int) else -1) = z := fun z hz => by rw [hwho, hz]
    by_cases e1 : i = w
    · rw [if_pos e1] at f4
      have e2 : ¬ w < i := by omega
      have e3 := fin i (by rw [if_pos e1])
      by_cases h2 : r.length = 2
      · have f3' := f3 h2
        repeat (first | (refine nf1_sound rfl ?_; simp [go_sem, ↓IntWalk.iteOmega, IntWalk.iteOmega, IntWalk.toNatUp, g0, g1, g2, hp, hq, hqq, hs, h2, f4, e2]; (repeat (refine And.intro (by omega) ?_)); try (refine ⟨DrawChk_of (by kernel_rfl), ?_⟩)) | (refine itePos (by omega) ?_; try simp [go_sem, ↓IntWalk.iteOmega, IntWalk.iteOmega, IntWalk.toNatUp, g0, g1, g2, hp, hq, hqq, hs, h2, f4, e2]) | (refine iteNeg (by omega) ?_; try simp [go_sem, ↓IntWalk.iteOmega, IntWalk.iteOmega, IntWalk.toNatUp, g0, g1, g2, hp, hq, hqq, hs, h2, f4, e2]) | (refine ⟨DrawChk_of (by kernel_rfl), ?_⟩))
        rw [RoundQ_normal]; refine ⟨i + 1, [(610, some 610), (611, some 611), (612, some 612)], ?_, ?_, ?_⟩
        · omega
        · omega
        simp [go_sem, ↓IntWalk.iteOmega, IntWalk.iteOmega, IntWalk.toNatUp, hts, e3, h2]
        try omega
      · repeat (first | (refine nf1_sound rfl ?_; simp [go_sem, ↓IntWalk.iteOmega, IntWalk.iteOmega, IntWalk.toNatUp, g0, g1, g2, hp, hq, hqq, hs, h2, f4, e2]; (repeat (refine And.intro (by omega) ?_)); try (refine ⟨DrawChk_of (by kernel_rfl), ?_⟩)) | (refine itePos (by omega) ?_; try simp [go_sem, ↓IntWalk.iteOmega, IntWalk.iteOmega, IntWalk.toNatUp, g0, g1, g2, hp, hq, hqq, hs, h2, f4, e2]) | (refine iteNeg (by omega) ?_; try simp [go_sem, ↓IntWalk.iteOmega, IntWalk.iteOmega, IntWalk.toNatUp, g0, g1, g2, hp, hq, hqq, hs, h2, f4, e2]) | (refine ⟨DrawChk_of (by kernel_rfl), ?_⟩))
        rw [RoundQ_normal]; refine ⟨i + 1, [(610, some 610), (611, some 611), (612, some 612)], ?_, ?_, ?_⟩
        · omega
        · omega
        simp [go_sem, ↓IntWalk.iteOmega, IntWalk.iteOmega, IntWalk.toNatUp, hts, e3]
        try omega
    · rw [if_neg e1] at f4
      have e3 := fin (if w < i then (w : Int) else -1) (by rw [if_neg e1])
      obtain ⟨z, hz⟩ : ∃ z, (if w < i then (w : Int) else -1) = z := ⟨_, rfl⟩
      rw [hz] at e3 ⊢
      by_cases h2 : r.length = 2
      · have f3' := f3 h2
        repeat (first | (refine nf1_sound rfl ?_; simp [go_sem, ↓IntWalk.iteOmega, IntWalk.iteOmega, IntWalk.toNatUp, g0, g1, g2, hp, hq, hqq, hs, h2, f4]; (repeat (refine And.intro (by omega) ?_)); try (refine ⟨DrawChk_of (by kernel_rfl), ?_⟩)) | (refine itePos (by omega) ?_; try simp [go_sem, ↓IntWalk.iteOmega, IntWalk.iteOmega, IntWalk.toNatUp, g0, g1, g2, hp, hq, hqq, hs, h2, f4]) | (refine iteNeg (by omega) ?_; try simp [go_sem, ↓IntWalk.iteOmega, IntWalk.iteOmega, IntWalk.toNatUp, g0, g1, g2, hp, hq, hqq, hs, h2, f4]) | (refine ⟨DrawChk_of (by kernel_rfl), ?_⟩))
        rw [RoundQ_normal]; refine ⟨i + 1, [(610, some 610), (611, some 611), (612, some 612)], ?_, ?_, ?_⟩
        · omega
        · omega
        simp [go_sem, ↓IntWalk.iteOmega, IntWalk.iteOmega, IntWalk.toNatUp, hts, e3, h2]
      · repeat (first | (refine nf1_sound rfl ?_; simp [go_sem, ↓IntWalk.iteOmega, IntWalk.iteOmega, IntWalk.toNatUp, g0, g1, g2, hp, hq, hqq, hs, h2, f4]; (repeat (refine And.intro (by omega) ?_)); try (refine ⟨DrawChk_of (by kernel_rfl), ?_⟩)) | (refine itePos (by omega) ?_; try simp [go_sem, ↓IntWalk.iteOmega, IntWalk.iteOmega, IntWalk.toNatUp, g0, g1, g2, hp, hq, hqq, hs, h2, f4]) | (refine iteNeg (by omega) ?_; try simp [go_sem, ↓IntWalk.iteOmega, IntWalk.iteOmega, IntWalk.toNatUp, g0, g1, g2, hp, hq, hqq, hs, h2, f4]) | (refine ⟨DrawChk_of (by kernel_rfl), ?_⟩))
        rw [RoundQ_normal]; refine ⟨i + 1, [(610, some 610), (611, some 611), (612, some 612)], ?_, ?_, ?_⟩
        · omega
        · omega
        simp [go_sem, ↓IntWalk.iteOmega, IntWalk.iteOmega, IntWalk.toNatUp, hts, e3]
  obtain rfl : i = r.length := by omega
  have htk : tot (C1.take r.length) = k := by rw [List.take_of_length_le (by omega)]; exact htot
  have hww : (if w < r.length then (w : Int) else -1) = w := by rw [if_pos hw]
  rw [htk, hww]
  repeat (first | (refine nf1_sound rfl ?_; simp [go_sem, ↓IntWalk.iteOmega, IntWalk.iteOmega, IntWalk.toNatUp]; (repeat (refine And.intro (by omega) ?_)); try (refine ⟨DrawChk_of (by kernel_rfl), ?_⟩)) | (refine itePos (by omega) ?_; try simp [go_sem, ↓IntWalk.iteOmega, IntWalk.iteOmega, IntWalk.toNatUp]) | (refine iteNeg (by omega) ?_; try simp [go_sem, ↓IntWalk.iteOmega, IntWalk.iteOmega, IntWalk.toNatUp]) | (refine ⟨DrawChk_of (by kernel_rfl), ?_⟩))
  refine nf1_sound' _ _ _ ?_; simp only [nf1]
  refine CW.loop (ι := Nat) (fun i => ⟨[(5, .own 610), (8, .own 611), (13, .t (.int w)), (150, .t (.int r.length)), (151, .t (.int i))], [(610, blkI r), (611, blkI C1)]⟩) (fun i => i ≤ r.length) (fun i => r.length - i) 0 [(610, some 610), (611, some 611)] (by omega) ?_ ?_
  · simp [go_sem, ↓IntWalk.iteOmega, IntWalk.iteOmega, IntWalk.toNatUp]
  intro i hi
  by_cases hb : i < r.length
  · have g0 := get_rt (r := r) (i := i) hb
    have g1 := get_rt (r := C1) (i := i) (by omega)
    have g3 := get_rt (r := r) (i := w) hw
    have g4 := get_rt (r := C1) (i := w) (by omega)
    have f5 := hbd i
    have f6 := hrd i hb
    have f7 := hbd w
    have f8 := hrd w hw
    have f9 := hmin i hb
    obtain ⟨u0, hu0⟩ : ∃ u, rt r i = u := ⟨_, rfl⟩
    obtain ⟨u1, hu1⟩ : ∃ u, rt C1 i = u := ⟨_, rfl⟩
    obtain ⟨u2, hu2⟩ : ∃ u, rt r w = u := ⟨_, rfl⟩
    obtain ⟨u3, hu3⟩ : ∃ u, rt C1 w = u := ⟨_, rfl⟩
    simp only [hu0, hu1, hu2, hu3] at g0 g1 g3 g4 f5 f6 f7 f8 f9
    have m1 := mul_bd (a := u1 + 1) (A := 196) (b := u2) (B := 39) (by omega) (by omega) (by omega) (by omega)
    have m2 := mul_bd (a := u3 + 1) (A := 196) (b := u0) (B := 39) (by omega) (by omega) (by omega) (by omega)
    obtain ⟨p1, hp1⟩ : ∃ p, (u1 + 1) * u2 = p := ⟨_, rfl⟩
    obtain ⟨p2, hp2⟩ : ∃ p, (u3 + 1) * u0 = p := ⟨_, rfl⟩
    rw [hp1] at m1 f9
    rw [hp2] at m2 f9
    by_cases h0 : 0 < u0
    · have := f9 h0
      repeat (first | (refine nf1_sound rfl ?_; simp [go_sem, ↓IntWalk.iteOmega, IntWalk.iteOmega, IntWalk.toNatUp, g0, g1, g3, g4, hp1, hp2]; (repeat (refine And.intro (by omega) ?_)); try (refine ⟨DrawChk_of (by kernel_rfl), ?_⟩)) | (refine itePos (by omega) ?_; try simp [go_sem, ↓IntWalk.iteOmega, IntWalk.iteOmega, IntWalk.toNatUp, g0, g1, g3, g4, hp1, hp2]) | (refine iteNeg (by omega) ?_; try simp [go_sem, ↓IntWalk.iteOmega, IntWalk.iteOmega, IntWalk.toNatUp, g0, g1, g3, g4, hp1, hp2]) | (refine ⟨DrawChk_of (by kernel_rfl), ?_⟩))
      rw [RoundQ_normal]; refine ⟨i + 1, [(610, some 610), (611, some 611)], ?_, ?_, ?_⟩
      · omega
      · omega
      simp [go_sem, ↓IntWalk.iteOmega, IntWalk.iteOmega, IntWalk.toNatUp]
    · repeat (first | (refine nf1_sound rfl ?_; simp [go_sem, ↓IntWalk.iteOmega, IntWalk.iteOmega, IntWalk.toNatUp, g0, g1, g3, g4, hp1, hp2]; (repeat (refine And.intro (by omega) ?_)); try (refine ⟨DrawChk_of (by kernel_rfl), ?_⟩)) | (refine itePos (by omega) ?_; try simp [go_sem, ↓IntWalk.iteOmega, IntWalk.iteOmega, IntWalk.toNatUp, g0, g1, g3, g4, hp1, hp2]) | (refine iteNeg (by omega) ?_; try simp [go_sem, ↓IntWalk.iteOmega, IntWalk.iteOmega, IntWalk.toNatUp, g0, g1, g3, g4, hp1, hp2]) | (refine ⟨DrawChk_of (by kernel_rfl), ?_⟩))
      rw [RoundQ_normal]; refine ⟨i + 1, [(610, some 610), (611, some 611)], ?_, ?_, ?_⟩
      · omega
      · omega
      simp [go_sem, ↓IntWalk.iteOmega, IntWalk.iteOmega, IntWalk.toNatUp]
  obtain rfl : i = r.length := by omega
  repeat (first | (refine nf1_sound rfl ?_; simp [go_sem, ↓IntWalk.iteOmega, IntWalk.iteOmega, IntWalk.toNatUp]; (repeat (refine And.intro (by omega) ?_)); try (refine ⟨DrawChk_of (by kernel_rfl), ?_⟩)) | (refine itePos (by omega) ?_; try simp [go_sem, ↓IntWalk.iteOmega, IntWalk.iteOmega, IntWalk.toNatUp]) | (refine iteNeg (by omega) ?_; try simp [go_sem, ↓IntWalk.iteOmega, IntWalk.iteOmega, IntWalk.toNatUp]) | (refine ⟨DrawChk_of (by kernel_rfl), ?_⟩))
  refine CallK.fn (awake_fn) [] [] [] (by kernel_rfl) (by simp [go_sem, ↓IntWalk.iteOmega, IntWalk.iteOmega, IntWalk.toNatUp]) (by simp [go_sem, ↓IntWalk.iteOmega, IntWalk.iteOmega, IntWalk.toNatUp]) (by simp [go_sem, ↓IntWalk.iteOmega, IntWalk.iteOmega, IntWalk.toNatUp]) (Or.inl rfl) ?_
  simp [go_sem, ↓IntWalk.iteOmega, IntWalk.iteOmega, IntWalk.toNatUp]
  repeat (refine And.intro (by omega) ?_)
  try (refine ⟨DrawChk_of (by kernel_rfl), ?_⟩)
  repeat (first | (refine nf1_sound rfl ?_; simp [go_sem, ↓IntWalk.iteOmega, IntWalk.iteOmega, IntWalk.toNatUp]; (repeat (refine And.intro (by omega) ?_)); try (refine ⟨DrawChk_of (by kernel_rfl), ?_⟩)) | (refine itePos (by omega) ?_; try simp [go_sem, ↓IntWalk.iteOmega, IntWalk.iteOmega, IntWalk.toNatUp]) | (refine iteNeg (by omega) ?_; try simp [go_sem, ↓IntWalk.iteOmega, IntWalk.iteOmega, IntWalk.toNatUp]) | (refine ⟨DrawChk_of (by kernel_rfl), ?_⟩))
  first | rw [RetQ_ret] | rw [RetQ_normal]
  refine ⟨[], ?_⟩
  simp [go_sem, ↓IntWalk.iteOmega, IntWalk.iteOmega, IntWalk.toNatUp]
theorem fair_all (x0 x1 : T) (h0 : InSh (.sl (.int .i64)) x0) (h1 : InSh (.int .u16) x1) : FnOk Try.prog 5 [.t x0, .t x1] [] (.t (.bool true)) [] := by
  obtain ⟨l, rfl, hl, wf⟩ := ints_in h0
  obtain ⟨a, rfl, ha⟩ := u16_in h1
  exact fair_fn l a hl wf ha
end Go.Proofs.Ytpfolkjimdmdhaa
