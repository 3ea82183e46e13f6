/- The law CutSums. No condition. -/
import Derived.Test.YtgjfkklemelejaaCuSumP
import Derived.Test.YtgjfkklemelejaaKArg
namespace Go.Proofs.Ytgjfkklemelejaa
open Go.RowKit Sy
set_option linter.unusedVariables false
set_option linter.unusedSimpArgs false
def factL : List Int := [0, 1, 2, 9]
set_option maxRecDepth 100000 in
set_option maxHeartbeats 16000000 in
theorem sums_fn (l : List Int) (ru : Int) (hl : l.length ≤ 9223372036854775807) (wf : ∀ z ∈ l, -9223372036854775808 ≤ z ∧ z ≤ 9223372036854775807) (hru : 0 ≤ ru ∧ ru ≤ 255) :
    FnOk Try.prog 4 [.t (encIs l), .t (.lit (.int .u8 ru))] [] (.t (.bool true)) [] := by
  have cf := few_fn l hl
  by_cases h4 : l.length ≤ 400
  · rw [decide_eq_true h4] at cf
    have h0 := new_ok wf
    obtain ⟨s, hm⟩ : ∃ m, newL2 l = m := ⟨_, rfl⟩
    have hnew := new_fn l hl
    rw [hm] at h0 hnew
    obtain ⟨x, t, k', hk', hx, hxl, hxv, hxb, htl, htw, c1⟩ := recv_ex h0
    obtain ⟨q, hq⟩ : ∃ q, 1 + ru % 5 = q := ⟨_, rfl⟩
    have hq1 : 1 ≤ q ∧ q ≤ 5 := by omega
    obtain ⟨f, hfm, cp⟩ := pick_ex hk' factL (by simp [factL]) (by simp [factL])
    have hf : 0 ≤ f ∧ f ≤ 9 := by simp only [factL, List.mem_cons, List.not_mem_nil, or_false] at hfm; omega
    have sl : ∀ y ∈ t, (slopAt f q y).2 = 0 := by
      intro y hy
      obtain ⟨m, c, _, _, _, _, _, h5, _⟩ := slop_ok hf hq1 (htw y hy)
      rw [h5]
    have p1 := port_ok (f := f) (r := q) hx htl sl
    have hss : ∀ s ∈ t.map (fun y => (slopAt f q y).1), 0 ≤ s ∧ s ≤ 1000000 := by
      intro s hs
      obtain ⟨y, _, rfl⟩ := List.mem_map.1 hs
      exact slopAt_range f q y
    obtain ⟨Z, hZ0, hZs, hZr, hZe⟩ := mix_ex hf hq1 htw (by omega)
    have hsl : (t.map fun y => (slopAt f q y).1).length = x.length - 1 := by rw [List.length_map]; exact htl
    obtain ⟨ss, hsse⟩ : ∃ ss, (t.map fun y => (slopAt f q y).1) = ss := ⟨_, rfl⟩
    rw [hsse] at p1 hss hZe hsl
    have c2 := portions_fn x t f q (by omega) (by omega) _ _ p1
    have hsm := po_small hx hss
    have hmax := slop_max hx hss hsl
    have hbat := fun b => sums_batch hx hss b x.length (Nat.le_refl _)
    simp only [List.take_length] at hbat
    have hmem := po_mem hx hss (Nat.le_refl x.length)
    have hjg := jL_get hx hss x.length (Nat.le_refl _)
    have hjm := fun i j k => jL_mono (f := x) (ss := ss) (n := x.length) (i := i) (j := j) (k := k)
    have hpl := poL_len x ss x.length
    obtain ⟨P, hP⟩ : ∃ P, poL x ss x.length = P := ⟨_, rfl⟩
    obtain ⟨J, hJ⟩ : ∃ J, jL x ss x.length = J := ⟨_, rfl⟩
    rw [hP] at c2 hsm hmax hpl
    simp only [hP, hJ] at hbat hmem hjg hjm
    have hPb : ∀ p ∈ P, 0 ≤ p.1 ∧ p.1 < 5 := by
      intro p hp
      obtain ⟨_, _, u, hu, he⟩ := hmem p hp
      have := hxb u hu
      omega
    have hS5 : sumP (isL 5) P = sumP isS P := sumP_congr fun p hp => by have := hPb p hp; simp [isL, isS, this.2]
    have hS0 : sumP (isL 0) P = 0 := by
      have : sumP (isL 0) P = sumP (fun _ => false) P := sumP_congr fun p hp => by have := hPb p hp; simp [isL]; intro _; omega
      rw [this]
      clear this hS5 hPb hmem hjg hjm hbat c2 hsm hmax hpl hP p1
      induction P with
      | nil => rfl
      | cons p r ih => simp [sumP, ih]
    have hSs := fun b => sumP_step b P
    have hSr := fun (c : Po → Bool) => sumP_range c P hsm.2
    have hbv : ∀ b, batV x b = Pc.of_ x b := by intro b; unfold batV; rw [if_pos (Pc.valid_t hx)]
    have cs := slop_all P hsm _ rfl
    have cg := fun b => good_all P b hsm _ rfl
    have cb := fun b => rbatch_fn x b (by omega) _ (hbv b)
    have hex := fun b => sum_ex (isB b) hsm
    obtain ⟨SL, hSL⟩ : ∃ SL : Int → Int, ∀ k, sumP (isL k) P = SL k := ⟨_, fun _ => rfl⟩
    obtain ⟨BB, hBB⟩ : ∃ SL : Int → Int, ∀ k, sumP (isB k) P = SL k := ⟨_, fun _ => rfl⟩
    obtain ⟨GG, hGG⟩ : ∃ SL : Int → Int, ∀ k, sumP (isG k) P = SL k := ⟨_, fun _ => rfl⟩
    obtain ⟨XX, hXX⟩ : ∃ SL : Int → Int, ∀ k, Pc.of_ x k = SL k := ⟨_, fun _ => rfl⟩
    obtain ⟨S, hS⟩ : ∃ S, sumP isS P = S := ⟨_, rfl⟩
    have rL := fun k => hSr (isL k)
    have rB := fun k => hSr (isB k)
    have rG := fun k => hSr (isG k)
    have rS := hSr isS
    simp only [hSL, hBB, hGG, hXX, hS] at hS5 hS0 hSs cs cg cb hbat hmax hex rL rB rG rS
    clear hSr hSL hBB hGG hXX hbv hS
    refine FnOk.intro fact_mixed Try.func4 rfl Try.ntmps4 (by rfl) (by simp) ?_
    repeat (first | (refine nf1_sound rfl ?_; simp [go_sem, ↓IntWalk.iteOmega, IntWalk.iteOmega, IntWalk.toNatUp]; (repeat (refine And.intro (by omega) ?_)); try (refine ⟨DrawChk_of (by kernel_rfl), ?_⟩)) | (refine itePos (by omega) ?_; try simp [go_sem, ↓IntWalk.iteOmega, IntWalk.iteOmega, IntWalk.toNatUp]) | (refine iteNeg (by omega) ?_; try simp [go_sem, ↓IntWalk.iteOmega, IntWalk.iteOmega, IntWalk.toNatUp]) | (refine ⟨DrawChk_of (by kernel_rfl), ?_⟩))
    refine CallK.fn (cf) [] [] [] (by kernel_rfl) (by simp [go_sem, ↓IntWalk.iteOmega, IntWalk.iteOmega, IntWalk.toNatUp]) (by simp [go_sem, ↓IntWalk.iteOmega, IntWalk.iteOmega, IntWalk.toNatUp]) (by simp [go_sem, ↓IntWalk.iteOmega, IntWalk.iteOmega, IntWalk.toNatUp]) (Or.inl rfl) ?_
    simp [go_sem, ↓IntWalk.iteOmega, IntWalk.iteOmega, IntWalk.toNatUp]
    repeat (refine And.intro (by omega) ?_)
    try (refine ⟨DrawChk_of (by kernel_rfl), ?_⟩)
    repeat (first | (refine nf1_sound rfl ?_; simp [go_sem, ↓IntWalk.iteOmega, IntWalk.iteOmega, IntWalk.toNatUp]; (repeat (refine And.intro (by omega) ?_)); try (refine ⟨DrawChk_of (by kernel_rfl), ?_⟩)) | (refine itePos (by omega) ?_; try simp [go_sem, ↓IntWalk.iteOmega, IntWalk.iteOmega, IntWalk.toNatUp]) | (refine iteNeg (by omega) ?_; try simp [go_sem, ↓IntWalk.iteOmega, IntWalk.iteOmega, IntWalk.toNatUp]) | (refine ⟨DrawChk_of (by kernel_rfl), ?_⟩))
    refine CallK.fn (hnew) [(1000, 128)] [] [] (by kernel_rfl) (by simp [go_sem, ↓IntWalk.iteOmega, IntWalk.iteOmega, IntWalk.toNatUp]) (by simp [go_sem, ↓IntWalk.iteOmega, IntWalk.iteOmega, IntWalk.toNatUp]) (by simp [go_sem, ↓IntWalk.iteOmega, IntWalk.iteOmega, IntWalk.toNatUp]) (Or.inl rfl) ?_
    simp [go_sem, ↓IntWalk.iteOmega, IntWalk.iteOmega, IntWalk.toNatUp]
    repeat (refine And.intro (by omega) ?_)
    try (refine ⟨DrawChk_of (by kernel_rfl), ?_⟩)
    repeat (first | (refine nf1_sound rfl ?_; simp [go_sem, ↓IntWalk.iteOmega, IntWalk.iteOmega, IntWalk.toNatUp]; (repeat (refine And.intro (by omega) ?_)); try (refine ⟨DrawChk_of (by kernel_rfl), ?_⟩)) | (refine itePos (by omega) ?_; try simp [go_sem, ↓IntWalk.iteOmega, IntWalk.iteOmega, IntWalk.toNatUp]) | (refine iteNeg (by omega) ?_; try simp [go_sem, ↓IntWalk.iteOmega, IntWalk.iteOmega, IntWalk.toNatUp]) | (refine ⟨DrawChk_of (by kernel_rfl), ?_⟩))
    refine CallK.fn (c1) [(0, 128), (1000, 721), (1001, 722)] [] [] (by kernel_rfl) (by simp [go_sem, ↓IntWalk.iteOmega, IntWalk.iteOmega, IntWalk.toNatUp]) (by simp [go_sem, ↓IntWalk.iteOmega, IntWalk.iteOmega, IntWalk.toNatUp]) (by simp [go_sem, ↓IntWalk.iteOmega, IntWalk.iteOmega, IntWalk.toNatUp]) (Or.inl rfl) ?_
    simp [go_sem, ↓IntWalk.iteOmega, IntWalk.iteOmega, IntWalk.toNatUp]
    repeat (refine And.intro (by omega) ?_)
    try (refine ⟨DrawChk_of (by kernel_rfl), ?_⟩)
    repeat (first | (refine nf1_sound rfl ?_; simp [go_sem, ↓IntWalk.iteOmega, IntWalk.iteOmega, IntWalk.toNatUp]; (repeat (refine And.intro (by omega) ?_)); try (refine ⟨DrawChk_of (by kernel_rfl), ?_⟩)) | (refine itePos (by omega) ?_; try simp [go_sem, ↓IntWalk.iteOmega, IntWalk.iteOmega, IntWalk.toNatUp]) | (refine iteNeg (by omega) ?_; try simp [go_sem, ↓IntWalk.iteOmega, IntWalk.iteOmega, IntWalk.toNatUp]) | (refine ⟨DrawChk_of (by kernel_rfl), ?_⟩))
    refine CallK.fn (cp) [(0, 128)] [] [135] (by kernel_rfl) (by simp [go_sem, ↓IntWalk.iteOmega, IntWalk.iteOmega, IntWalk.toNatUp, factL]) (by simp [go_sem, ↓IntWalk.iteOmega, IntWalk.iteOmega, IntWalk.toNatUp, factL]) (by simp [go_sem, ↓IntWalk.iteOmega, IntWalk.iteOmega, IntWalk.toNatUp, factL]) (Or.inl rfl) ?_
    simp [go_sem, ↓IntWalk.iteOmega, IntWalk.iteOmega, IntWalk.toNatUp, factL]
    repeat (refine And.intro (by omega) ?_)
    try (refine ⟨DrawChk_of (by kernel_rfl), ?_⟩)
    repeat (first | (refine nf1_sound rfl ?_; simp [go_sem, ↓IntWalk.iteOmega, IntWalk.iteOmega, IntWalk.toNatUp, hq]; (repeat (refine And.intro (by omega) ?_)); try (refine ⟨DrawChk_of (by kernel_rfl), ?_⟩)) | (refine itePos (by omega) ?_; try simp [go_sem, ↓IntWalk.iteOmega, IntWalk.iteOmega, IntWalk.toNatUp, hq]) | (refine iteNeg (by omega) ?_; try simp [go_sem, ↓IntWalk.iteOmega, IntWalk.iteOmega, IntWalk.toNatUp, hq]) | (refine ⟨DrawChk_of (by kernel_rfl), ?_⟩))
    refine CallK.fn (c2) [(1000, 731)] [721, 722] [] (by kernel_rfl) (by simp [go_sem, ↓IntWalk.iteOmega, IntWalk.iteOmega, IntWalk.toNatUp]) (by simp [go_sem, ↓IntWalk.iteOmega, IntWalk.iteOmega, IntWalk.toNatUp]) (by simp [go_sem, ↓IntWalk.iteOmega, IntWalk.iteOmega, IntWalk.toNatUp]) (Or.inr ⟨by simp [go_sem, ↓IntWalk.iteOmega, IntWalk.iteOmega, IntWalk.toNatUp], by simp [go_sem, ↓IntWalk.iteOmega, IntWalk.iteOmega, IntWalk.toNatUp]⟩) ?_
    simp [go_sem, ↓IntWalk.iteOmega, IntWalk.iteOmega, IntWalk.toNatUp]
    repeat (refine And.intro (by omega) ?_)
    try (refine ⟨DrawChk_of (by kernel_rfl), ?_⟩)
    repeat (first | (refine nf1_sound rfl ?_; simp [go_sem, ↓IntWalk.iteOmega, IntWalk.iteOmega, IntWalk.toNatUp]; (repeat (refine And.intro (by omega) ?_)); try (refine ⟨DrawChk_of (by kernel_rfl), ?_⟩)) | (refine itePos (by omega) ?_; try simp [go_sem, ↓IntWalk.iteOmega, IntWalk.iteOmega, IntWalk.toNatUp]) | (refine iteNeg (by omega) ?_; try simp [go_sem, ↓IntWalk.iteOmega, IntWalk.iteOmega, IntWalk.toNatUp]) | (refine ⟨DrawChk_of (by kernel_rfl), ?_⟩))
    refine nf1_sound' _ _ _ ?_; simp only [nf1]
    refine CW.loop (ι := Nat) (fun b => ⟨[(6, .t (encPs x)), (7, .t (encIs t)), (8, .t (.int f)), (10, .t (encPos P)), (12, .t (.int (SL b))), (13, .t (.int 0)), (14, .t (.int b))], []⟩) (fun b => b ≤ 5) (fun b => 6 - b) 0 [] (by omega) ?_ ?_
    · simp [go_sem, ↓IntWalk.iteOmega, IntWalk.iteOmega, IntWalk.toNatUp, hS0]
    intro b hb
    have r1 := rL b
    have r2 := rB b
    have r3 := rG b
    by_cases hb5 : b < 5
    · have c3 := cg b
      have c4 := cb b
      have e1 := hbat b
      have e2 := hSs b
      have r4 := rL ((b : Int) + 1)
      obtain ⟨Y, hY0, hYt, hYf, hYr, hYe⟩ := hex b
      repeat (first | (refine nf1_sound rfl ?_; simp [go_sem, ↓IntWalk.iteOmega, IntWalk.iteOmega, IntWalk.toNatUp]; (repeat (refine And.intro (by omega) ?_)); try (refine ⟨DrawChk_of (by kernel_rfl), ?_⟩)) | (refine itePos (by omega) ?_; try simp [go_sem, ↓IntWalk.iteOmega, IntWalk.iteOmega, IntWalk.toNatUp]) | (refine iteNeg (by omega) ?_; try simp [go_sem, ↓IntWalk.iteOmega, IntWalk.iteOmega, IntWalk.toNatUp]) | (refine ⟨DrawChk_of (by kernel_rfl), ?_⟩))
      refine CallK.fn (c3) [] [] [] (by kernel_rfl) (by simp [go_sem, ↓IntWalk.iteOmega, IntWalk.iteOmega, IntWalk.toNatUp]) (by simp [go_sem, ↓IntWalk.iteOmega, IntWalk.iteOmega, IntWalk.toNatUp]) (by simp [go_sem, ↓IntWalk.iteOmega, IntWalk.iteOmega, IntWalk.toNatUp]) (Or.inl rfl) ?_
      simp [go_sem, ↓IntWalk.iteOmega, IntWalk.iteOmega, IntWalk.toNatUp]
      repeat (refine And.intro (by omega) ?_)
      try (refine ⟨DrawChk_of (by kernel_rfl), ?_⟩)
      repeat (first | (refine nf1_sound rfl ?_; simp [go_sem, ↓IntWalk.iteOmega, IntWalk.iteOmega, IntWalk.toNatUp]; (repeat (refine And.intro (by omega) ?_)); try (refine ⟨DrawChk_of (by kernel_rfl), ?_⟩)) | (refine itePos (by omega) ?_; try simp [go_sem, ↓IntWalk.iteOmega, IntWalk.iteOmega, IntWalk.toNatUp]) | (refine iteNeg (by omega) ?_; try simp [go_sem, ↓IntWalk.iteOmega, IntWalk.iteOmega, IntWalk.toNatUp]) | (refine ⟨DrawChk_of (by kernel_rfl), ?_⟩))
      refine nf1_sound' _ _ _ ?_; simp only [nf1]
      refine CW.loop (ι := Nat) (fun i => ⟨[(6, .t (encPs x)), (7, .t (encIs t)), (8, .t (.int f)), (10, .t (encPos P)), (12, .t (.int (SL b))), (13, .t (.int 0)), (14, .t (.int b)), (15, .t (.int (GG b))), (16, .t (.int (Y i))), (17, .t (.int i))], []⟩) (fun i => i ≤ P.length) (fun i => P.length - i) 0 [] (by omega) ?_ ?_
      · simp [go_sem, ↓IntWalk.iteOmega, IntWalk.iteOmega, IntWalk.toNatUp, hY0]
      intro i hi
      have hyr := hYr i
      by_cases hiP : i < P.length
      · obtain ⟨⟨c, v, z⟩, hg⟩ := has_get hiP
        have hv := hmem _ (mem_get hg)
        dsimp only at hv
        have hv1 := hv.1
        have hv2 := hv.2.1
        cases z with
        | true =>
          by_cases hcb : c = b
          · have e := hYt i c v true hg (by simp [isB, hcb])
            repeat (first | (refine nf1_sound rfl ?_; simp [go_sem, ↓IntWalk.iteOmega, IntWalk.iteOmega, IntWalk.toNatUp, hg, hcb]; (repeat (refine And.intro (by omega) ?_)); try (refine ⟨DrawChk_of (by kernel_rfl), ?_⟩)) | (refine itePos (by omega) ?_; try simp [go_sem, ↓IntWalk.iteOmega, IntWalk.iteOmega, IntWalk.toNatUp, hg, hcb]) | (refine iteNeg (by omega) ?_; try simp [go_sem, ↓IntWalk.iteOmega, IntWalk.iteOmega, IntWalk.toNatUp, hg, hcb]) | (refine ⟨DrawChk_of (by kernel_rfl), ?_⟩))
            rw [RoundQ_normal]; refine ⟨i + 1, [], ?_, ?_, ?_⟩
            · omega
            · omega
            simp [go_sem, ↓IntWalk.iteOmega, IntWalk.iteOmega, IntWalk.toNatUp, e]
          · have e := hYf i c v true hg (by simp [isB, hcb])
            repeat (first | (refine nf1_sound rfl ?_; simp [go_sem, ↓IntWalk.iteOmega, IntWalk.iteOmega, IntWalk.toNatUp, hg, hcb]; (repeat (refine And.intro (by omega) ?_)); try (refine ⟨DrawChk_of (by kernel_rfl), ?_⟩)) | (refine itePos (by omega) ?_; try simp [go_sem, ↓IntWalk.iteOmega, IntWalk.iteOmega, IntWalk.toNatUp, hg, hcb]) | (refine iteNeg (by omega) ?_; try simp [go_sem, ↓IntWalk.iteOmega, IntWalk.iteOmega, IntWalk.toNatUp, hg, hcb]) | (refine ⟨DrawChk_of (by kernel_rfl), ?_⟩))
            rw [RoundQ_normal]; refine ⟨i + 1, [], ?_, ?_, ?_⟩
            · omega
            · omega
            simp [go_sem, ↓IntWalk.iteOmega, IntWalk.iteOmega, IntWalk.toNatUp, e]
        | false =>
          have e := hYf i c v false hg (by simp [isB])
          repeat (first | (refine nf1_sound rfl ?_; simp [go_sem, ↓IntWalk.iteOmega, IntWalk.iteOmega, IntWalk.toNatUp, hg]; (repeat (refine And.intro (by omega) ?_)); try (refine ⟨DrawChk_of (by kernel_rfl), ?_⟩)) | (refine itePos (by omega) ?_; try simp [go_sem, ↓IntWalk.iteOmega, IntWalk.iteOmega, IntWalk.toNatUp, hg]) | (refine iteNeg (by omega) ?_; try simp [go_sem, ↓IntWalk.iteOmega, IntWalk.iteOmega, IntWalk.toNatUp, hg]) | (refine ⟨DrawChk_of (by kernel_rfl), ?_⟩))
          rw [RoundQ_normal]; refine ⟨i + 1, [], ?_, ?_, ?_⟩
          · omega
          · omega
          simp [go_sem, ↓IntWalk.iteOmega, IntWalk.iteOmega, IntWalk.toNatUp, e]
      · obtain rfl : i = P.length := by omega
        repeat (first | (refine nf1_sound rfl ?_; simp [go_sem, ↓IntWalk.iteOmega, IntWalk.iteOmega, IntWalk.toNatUp, hYe]; (repeat (refine And.intro (by omega) ?_)); try (refine ⟨DrawChk_of (by kernel_rfl), ?_⟩)) | (refine itePos (by omega) ?_; try simp [go_sem, ↓IntWalk.iteOmega, IntWalk.iteOmega, IntWalk.toNatUp, hYe]) | (refine iteNeg (by omega) ?_; try simp [go_sem, ↓IntWalk.iteOmega, IntWalk.iteOmega, IntWalk.toNatUp, hYe]) | (refine ⟨DrawChk_of (by kernel_rfl), ?_⟩))
        refine CallK.fn (c4) [] [] [] (by kernel_rfl) (by simp [go_sem, ↓IntWalk.iteOmega, IntWalk.iteOmega, IntWalk.toNatUp]) (by simp [go_sem, ↓IntWalk.iteOmega, IntWalk.iteOmega, IntWalk.toNatUp]) (by simp [go_sem, ↓IntWalk.iteOmega, IntWalk.iteOmega, IntWalk.toNatUp]) (Or.inl rfl) ?_
        simp [go_sem, ↓IntWalk.iteOmega, IntWalk.iteOmega, IntWalk.toNatUp]
        repeat (refine And.intro (by omega) ?_)
        try (refine ⟨DrawChk_of (by kernel_rfl), ?_⟩)
        repeat (first | (refine nf1_sound rfl ?_; simp [go_sem, ↓IntWalk.iteOmega, IntWalk.iteOmega, IntWalk.toNatUp]; (repeat (refine And.intro (by omega) ?_)); try (refine ⟨DrawChk_of (by kernel_rfl), ?_⟩)) | (refine itePos (by omega) ?_; try simp [go_sem, ↓IntWalk.iteOmega, IntWalk.iteOmega, IntWalk.toNatUp]) | (refine iteNeg (by omega) ?_; try simp [go_sem, ↓IntWalk.iteOmega, IntWalk.iteOmega, IntWalk.toNatUp]) | (refine ⟨DrawChk_of (by kernel_rfl), ?_⟩))
        rw [RoundQ_normal]; refine ⟨b + 1, [], ?_, ?_, ?_⟩
        · omega
        · omega
        simp [go_sem, ↓IntWalk.iteOmega, IntWalk.iteOmega, IntWalk.toNatUp, e2]
    · obtain rfl : b = 5 := by omega
      have hS5' : SL ((5 : Nat) : Int) = S := hS5
      repeat (first | (refine nf1_sound rfl ?_; simp [go_sem, ↓IntWalk.iteOmega, IntWalk.iteOmega, IntWalk.toNatUp, hS5']; (repeat (refine And.intro (by omega) ?_)); try (refine ⟨DrawChk_of (by kernel_rfl), ?_⟩)) | (refine itePos (by omega) ?_; try simp [go_sem, ↓IntWalk.iteOmega, IntWalk.iteOmega, IntWalk.toNatUp, hS5']) | (refine iteNeg (by omega) ?_; try simp [go_sem, ↓IntWalk.iteOmega, IntWalk.iteOmega, IntWalk.toNatUp, hS5']) | (refine ⟨DrawChk_of (by kernel_rfl), ?_⟩))
      refine nf1_sound' _ _ _ ?_; simp only [nf1]
      refine CW.loop (ι := Nat) (fun i => ⟨[(6, .t (encPs x)), (7, .t (encIs t)), (8, .t (.int f)), (10, .t (encPos P)), (12, .t (.int S)), (13, .t (.int (Z i))), (18, .t (.int i))], []⟩) (fun i => i ≤ t.length) (fun i => t.length - i) 0 [] (by omega) ?_ ?_
      · simp [go_sem, ↓IntWalk.iteOmega, IntWalk.iteOmega, IntWalk.toNatUp, hZ0, hS5', hS5]
      intro i hi
      have hzr := hZr i
      by_cases hit : i < t.length
      · obtain ⟨y, hy⟩ := has_get hit
        obtain ⟨m, h1, h2, h3, h4⟩ := hZs i y hy
        have cm := rmix_fn f y m 0 h1
        repeat (first | (refine nf1_sound rfl ?_; simp [go_sem, ↓IntWalk.iteOmega, IntWalk.iteOmega, IntWalk.toNatUp, hy]; (repeat (refine And.intro (by omega) ?_)); try (refine ⟨DrawChk_of (by kernel_rfl), ?_⟩)) | (refine itePos (by omega) ?_; try simp [go_sem, ↓IntWalk.iteOmega, IntWalk.iteOmega, IntWalk.toNatUp, hy]) | (refine iteNeg (by omega) ?_; try simp [go_sem, ↓IntWalk.iteOmega, IntWalk.iteOmega, IntWalk.toNatUp, hy]) | (refine ⟨DrawChk_of (by kernel_rfl), ?_⟩))
        refine CallK.fn (cm) [] [] [] (by kernel_rfl) (by simp [go_sem, ↓IntWalk.iteOmega, IntWalk.iteOmega, IntWalk.toNatUp]) (by simp [go_sem, ↓IntWalk.iteOmega, IntWalk.iteOmega, IntWalk.toNatUp]) (by simp [go_sem, ↓IntWalk.iteOmega, IntWalk.iteOmega, IntWalk.toNatUp]) (Or.inl rfl) ?_
        simp [go_sem, ↓IntWalk.iteOmega, IntWalk.iteOmega, IntWalk.toNatUp]
        repeat (refine And.intro (by omega) ?_)
        try (refine ⟨DrawChk_of (by kernel_rfl), ?_⟩)
        repeat (first | (refine nf1_sound rfl ?_; simp [go_sem, ↓IntWalk.iteOmega, IntWalk.iteOmega, IntWalk.toNatUp]; (repeat (refine And.intro (by omega) ?_)); try (refine ⟨DrawChk_of (by kernel_rfl), ?_⟩)) | (refine itePos (by omega) ?_; try simp [go_sem, ↓IntWalk.iteOmega, IntWalk.iteOmega, IntWalk.toNatUp]) | (refine iteNeg (by omega) ?_; try simp [go_sem, ↓IntWalk.iteOmega, IntWalk.iteOmega, IntWalk.toNatUp]) | (refine ⟨DrawChk_of (by kernel_rfl), ?_⟩))
        rw [RoundQ_normal]; refine ⟨i + 1, [], ?_, ?_, ?_⟩
        · omega
        · omega
        simp [go_sem, ↓IntWalk.iteOmega, IntWalk.iteOmega, IntWalk.toNatUp, h4]
      · obtain rfl : i = t.length := by omega
        repeat (first | (refine nf1_sound rfl ?_; simp [go_sem, ↓IntWalk.iteOmega, IntWalk.iteOmega, IntWalk.toNatUp]; (repeat (refine And.intro (by omega) ?_)); try (refine ⟨DrawChk_of (by kernel_rfl), ?_⟩)) | (refine itePos (by omega) ?_; try simp [go_sem, ↓IntWalk.iteOmega, IntWalk.iteOmega, IntWalk.toNatUp]) | (refine iteNeg (by omega) ?_; try simp [go_sem, ↓IntWalk.iteOmega, IntWalk.iteOmega, IntWalk.toNatUp]) | (refine ⟨DrawChk_of (by kernel_rfl), ?_⟩))
        refine nf1_sound' _ _ _ ?_; simp only [nf1]
        refine CW.loop (ι := Nat × Nat) (fun i => ⟨[(6, .t (encPs x)), (10, .t (encPos P)), (12, .t (.int S)), (13, .t (.int (Z t.length))), (21, .t (.int i.2)), (22, .t (.int i.1))], []⟩) (fun i => i.1 ≤ P.length ∧ i.2 ≤ x.length ∧ ∀ j, J[i.1]? = some j → i.2 ≤ j) (fun i => P.length - i.1) (0, 0) [] ⟨by omega, by omega, by intros; omega⟩ ?_ ?_
        · simp [go_sem, ↓IntWalk.iteOmega, IntWalk.iteOmega, IntWalk.toNatUp]
        rintro ⟨i, k⟩ ⟨hi, hk, hkj⟩
        dsimp only at hi hk hkj
        by_cases hiP : i < P.length
        · obtain ⟨⟨c, v, z⟩, hg⟩ := has_get hiP
          obtain ⟨j, w, hj1, hj2⟩ := hjg i c v z hg
          have hjl := (List.getElem?_eq_some_iff.1 hj2).1
          have hk0 := hkj j hj1
          repeat (first | (refine nf1_sound rfl ?_; simp [go_sem, ↓IntWalk.iteOmega, IntWalk.iteOmega, IntWalk.toNatUp, hg]; (repeat (refine And.intro (by omega) ?_)); try (refine ⟨DrawChk_of (by kernel_rfl), ?_⟩)) | (refine itePos (by omega) ?_; try simp [go_sem, ↓IntWalk.iteOmega, IntWalk.iteOmega, IntWalk.toNatUp, hg]) | (refine iteNeg (by omega) ?_; try simp [go_sem, ↓IntWalk.iteOmega, IntWalk.iteOmega, IntWalk.toNatUp, hg]) | (refine ⟨DrawChk_of (by kernel_rfl), ?_⟩))
          refine nf1_sound' _ _ _ ?_; simp only [nf1]
          refine CW.loop (ι := Nat) (fun k => ⟨[(6, .t (encPs x)), (10, .t (encPos P)), (12, .t (.int S)), (13, .t (.int (Z t.length))), (21, .t (.int k)), (22, .t (.int i))], []⟩) (fun k => k ≤ j) (fun k => j - k) k [] (by omega) ?_ ?_
          · simp [go_sem, ↓IntWalk.iteOmega, IntWalk.iteOmega, IntWalk.toNatUp]
          intro k1 hk1
          obtain ⟨⟨c1, w1⟩, hg1⟩ := has_get (show k1 < x.length by omega)
          by_cases hcc : c1 = c
          · repeat (first | (refine nf1_sound rfl ?_; simp [go_sem, ↓IntWalk.iteOmega, IntWalk.iteOmega, IntWalk.toNatUp, hg, hg1, hcc]; (repeat (refine And.intro (by omega) ?_)); try (refine ⟨DrawChk_of (by kernel_rfl), ?_⟩)) | (refine itePos (by omega) ?_; try simp [go_sem, ↓IntWalk.iteOmega, IntWalk.iteOmega, IntWalk.toNatUp, hg, hg1, hcc]) | (refine iteNeg (by omega) ?_; try simp [go_sem, ↓IntWalk.iteOmega, IntWalk.iteOmega, IntWalk.toNatUp, hg, hg1, hcc]) | (refine ⟨DrawChk_of (by kernel_rfl), ?_⟩))
            rw [RoundQ_normal]; refine ⟨(i + 1, k1), [], ?_, ?_, ?_⟩
            · exact ⟨by dsimp only; omega, by dsimp only; omega, fun j2 h2 => by have := hjm i j j2 hj1 h2; dsimp only; omega⟩
            · dsimp only; omega
            simp [go_sem, ↓IntWalk.iteOmega, IntWalk.iteOmega, IntWalk.toNatUp]
          · have hne : k1 ≠ j := by
              rintro rfl
              rw [hg1] at hj2
              simp only [Option.some.injEq, Prod.mk.injEq] at hj2
              exact hcc hj2.1
            repeat (first | (refine nf1_sound rfl ?_; simp [go_sem, ↓IntWalk.iteOmega, IntWalk.iteOmega, IntWalk.toNatUp, hg, hg1, hcc]; (repeat (refine And.intro (by omega) ?_)); try (refine ⟨DrawChk_of (by kernel_rfl), ?_⟩)) | (refine itePos (by omega) ?_; try simp [go_sem, ↓IntWalk.iteOmega, IntWalk.iteOmega, IntWalk.toNatUp, hg, hg1, hcc]) | (refine iteNeg (by omega) ?_; try simp [go_sem, ↓IntWalk.iteOmega, IntWalk.iteOmega, IntWalk.toNatUp, hg, hg1, hcc]) | (refine ⟨DrawChk_of (by kernel_rfl), ?_⟩))
            rw [RoundQ_normal]; refine ⟨k1 + 1, [], ?_, ?_, ?_⟩
            · omega
            · omega
            simp [go_sem, ↓IntWalk.iteOmega, IntWalk.iteOmega, IntWalk.toNatUp]
        · obtain rfl : i = P.length := by omega
          repeat (first | (refine nf1_sound rfl ?_; simp [go_sem, ↓IntWalk.iteOmega, IntWalk.iteOmega, IntWalk.toNatUp]; (repeat (refine And.intro (by omega) ?_)); try (refine ⟨DrawChk_of (by kernel_rfl), ?_⟩)) | (refine itePos (by omega) ?_; try simp [go_sem, ↓IntWalk.iteOmega, IntWalk.iteOmega, IntWalk.toNatUp]) | (refine iteNeg (by omega) ?_; try simp [go_sem, ↓IntWalk.iteOmega, IntWalk.iteOmega, IntWalk.toNatUp]) | (refine ⟨DrawChk_of (by kernel_rfl), ?_⟩))
          refine CallK.fn (cs) [] [] [] (by kernel_rfl) (by simp [go_sem, ↓IntWalk.iteOmega, IntWalk.iteOmega, IntWalk.toNatUp]) (by simp [go_sem, ↓IntWalk.iteOmega, IntWalk.iteOmega, IntWalk.toNatUp]) (by simp [go_sem, ↓IntWalk.iteOmega, IntWalk.iteOmega, IntWalk.toNatUp]) (Or.inl rfl) ?_
          simp [go_sem, ↓IntWalk.iteOmega, IntWalk.iteOmega, IntWalk.toNatUp]
          repeat (refine And.intro (by omega) ?_)
          try (refine ⟨DrawChk_of (by kernel_rfl), ?_⟩)
          repeat (first | (refine nf1_sound rfl ?_; simp [go_sem, ↓IntWalk.iteOmega, IntWalk.iteOmega, IntWalk.toNatUp]; (repeat (refine And.intro (by omega) ?_)); try (refine ⟨DrawChk_of (by kernel_rfl), ?_⟩)) | (refine itePos (by omega) ?_; try simp [go_sem, ↓IntWalk.iteOmega, IntWalk.iteOmega, IntWalk.toNatUp]) | (refine iteNeg (by omega) ?_; try simp [go_sem, ↓IntWalk.iteOmega, IntWalk.iteOmega, IntWalk.toNatUp]) | (refine ⟨DrawChk_of (by kernel_rfl), ?_⟩))
          refine CallK.fn (awake_fn) [] [] [] (by kernel_rfl) (by simp [go_sem, ↓IntWalk.iteOmega, IntWalk.iteOmega, IntWalk.toNatUp]) (by simp [go_sem, ↓IntWalk.iteOmega, IntWalk.iteOmega, IntWalk.toNatUp]) (by simp [go_sem, ↓IntWalk.iteOmega, IntWalk.iteOmega, IntWalk.toNatUp]) (Or.inl rfl) ?_
          simp [go_sem, ↓IntWalk.iteOmega, IntWalk.iteOmega, IntWalk.toNatUp]
          repeat (refine And.intro (by omega) ?_)
          try (refine ⟨DrawChk_of (by kernel_rfl), ?_⟩)
          repeat (first | (refine nf1_sound rfl ?_; simp [go_sem, ↓IntWalk.iteOmega, IntWalk.iteOmega, IntWalk.toNatUp]; (repeat (refine And.intro (by omega) ?_)); try (refine ⟨DrawChk_of (by kernel_rfl), ?_⟩)) | (refine itePos (by omega) ?_; try simp [go_sem, ↓IntWalk.iteOmega, IntWalk.iteOmega, IntWalk.toNatUp]) | (refine iteNeg (by omega) ?_; try simp [go_sem, ↓IntWalk.iteOmega, IntWalk.iteOmega, IntWalk.toNatUp]) | (refine ⟨DrawChk_of (by kernel_rfl), ?_⟩))
          first | rw [RetQ_ret] | rw [RetQ_normal]
          refine ⟨[], ?_⟩
          simp [go_sem, ↓IntWalk.iteOmega, IntWalk.iteOmega, IntWalk.toNatUp]
  · rw [decide_eq_false h4] at cf
    refine FnOk.intro fact_mixed Try.func4 rfl Try.ntmps4 (by rfl) (by simp) ?_
    repeat (first | (refine nf1_sound rfl ?_; simp [go_sem, ↓IntWalk.iteOmega, IntWalk.iteOmega, IntWalk.toNatUp]; (repeat (refine And.intro (by omega) ?_)); try (refine ⟨DrawChk_of (by kernel_rfl), ?_⟩)) | (refine itePos (by omega) ?_; try simp [go_sem, ↓IntWalk.iteOmega, IntWalk.iteOmega, IntWalk.toNatUp]) | (refine iteNeg (by omega) ?_; try simp [go_sem, ↓IntWalk.iteOmega, IntWalk.iteOmega, IntWalk.toNatUp]) | (refine ⟨DrawChk_of (by kernel_rfl), ?_⟩))
    refine CallK.fn (cf) [] [] [] (by kernel_rfl) (by simp [go_sem, ↓IntWalk.iteOmega, IntWalk.iteOmega, IntWalk.toNatUp]) (by simp [go_sem, ↓IntWalk.iteOmega, IntWalk.iteOmega, IntWalk.toNatUp]) (by simp [go_sem, ↓IntWalk.iteOmega, IntWalk.iteOmega, IntWalk.toNatUp]) (Or.inl rfl) ?_
    simp [go_sem, ↓IntWalk.iteOmega, IntWalk.iteOmega, IntWalk.toNatUp]
    repeat (refine And.intro (by omega) ?_)
    try (refine ⟨DrawChk_of (by kernel_rfl), ?_⟩)
    repeat (first | (refine nf1_sound rfl ?_; simp [go_sem, ↓IntWalk.iteOmega, IntWalk.iteOmega, IntWalk.toNatUp]; (repeat (refine And.intro (by omega) ?_)); try (refine ⟨DrawChk_of (by kernel_rfl), ?_⟩)) | (refine itePos (by omega) ?_; try simp [go_sem, ↓IntWalk.iteOmega, IntWalk.iteOmega, IntWalk.toNatUp]) | (refine iteNeg (by omega) ?_; try simp [go_sem, ↓IntWalk.iteOmega, IntWalk.iteOmega, IntWalk.toNatUp]) | (refine ⟨DrawChk_of (by kernel_rfl), ?_⟩))
    refine CallK.fn (awake_fn) [] [] [] (by kernel_rfl) (by simp [go_sem, ↓IntWalk.iteOmega, IntWalk.iteOmega, IntWalk.toNatUp]) (by simp [go_sem, ↓IntWalk.iteOmega, IntWalk.iteOmega, IntWalk.toNatUp]) (by simp [go_sem, ↓IntWalk.iteOmega, IntWalk.iteOmega, IntWalk.toNatUp]) (Or.inl rfl) ?_
    simp [go_sem, ↓IntWalk.iteOmega, IntWalk.iteOmega, IntWalk.toNatUp]
    repeat (refine And.intro (by omega) ?_)
    try (refine ⟨DrawChk_of (by kernel_rfl), ?_⟩)
    repeat (first | (refine nf1_sound rfl ?_; simp [go_sem, ↓IntWalk.iteOmega, IntWalk.iteOmega, IntWalk.toNatUp]; (repeat (refine And.intro (by omega) ?_)); try (refine ⟨DrawChk_of (by kernel_rfl), ?_⟩)) | (refine itePos (by omega) ?_; try simp [go_sem, ↓IntWalk.iteOmega, IntWalk.iteOmega, IntWalk.toNatUp]) | (refine iteNeg (by omega) ?_; try simp [go_sem, ↓IntWalk.iteOmega, IntWalk.iteOmega, IntWalk.toNatUp]) | (refine ⟨DrawChk_of (by kernel_rfl), ?_⟩))
    first | rw [RetQ_ret] | rw [RetQ_normal]
    refine ⟨[], ?_⟩
    simp [go_sem, ↓IntWalk.iteOmega, IntWalk.iteOmega, IntWalk.toNatUp]
theorem sums_all (x0 x1 : T) (h0 : InSh (.sl (.int .i64)) x0) (h1 : InSh (.int .u8) x1) : FnOk Try.prog 4 [.t x0, .t x1] [] (.t (.bool true)) [] := by
  obtain ⟨l, rfl, hl, wf⟩ := ints_in h0
  obtain ⟨b, rfl, w⟩ := insh_int h1
  have := wf_u8 w
  exact sums_fn l b hl wf (by omega)
end Go.Proofs.Ytgjfkklemelejaa
