/- Several texts of this proof, one behind the other. No condition. -/
import Derived.Test.YtdjmklobfjigoaaGreatDoorTTvesB16
import Derived.Test.YtdjmklobfjigoaaGreatDoorTTvesB17
import Derived.Test.YtdjmklobfjigoaaGreatDoorTTvesB19
import Derived.Test.YtdjmklobfjigoaaGreatDoorTTvesB8
set_option maxRecDepth 100000
set_option maxHeartbeats 16000000
set_option linter.unusedVariables false
set_option linter.unusedSimpArgs false
namespace Go.Proofs.YtdjmklobfjigoaaGreatDoor
open Go.RowKit Sy Dl
open Go.IntWalk renaming iteOmega → iO, toNatUp → tN
theorem sgc_ln {l : List Int} {m : Nat} {K : Nat → Nat} {S : Nat → Sgm} (h1 : 1 ≤ m ∧ m ≤ 4) (h : ∀ j, SrcOk l (K j) ∧ SgC l j (K j) (S j) (K (j + 1))) : LnOk m S := by
  have g : ∀ i, i < m → _ := fun i hi => (h i).2 (by omega)
  exact ⟨h1.1, h1.2, fun i hi => (g i hi).1, fun i hi => (g i hi).2.1, fun i hi => (g i hi).2.2.1, fun i hi => (g i hi).2.2.2.1⟩
theorem minR_le {S : Nat → Sgm} {r : Int} : ∀ {m i : Nat}, i < m → minR S r m ≤ (S i).1.cp
  | 0, i, h => by omega
  | m + 1, i, h => by
    simp only [minR]
    by_cases e : i = m
    · subst e; omega
    · have := minR_le (S := S) (r := r) (m := m) (i := i) (by omega); omega
theorem minR_bd {m : Nat} {S : Nat → Sgm} {r : Int} (h1 : 1 ≤ r ∧ r ≤ 1000) (hc : ∀ i, i < m → 1 ≤ (S i).1.cp) : 1 ≤ minR S r m ∧ minR S r m ≤ r := by
  induction m with
  | zero => simp only [minR]; omega
  | succ m ih =>
    have := ih fun i hi => hc i (by omega)
    have := hc m (by omega)
    simp only [minR]; omega
theorem ln_names (m : Nat) (S : Nat → Sgm) : (lnNet m S).nn.map encS = (List.range (m + 1)).map ndT := by
  simp only [lnNet, List.map_map]
  rfl
theorem ln_segs (m : Nat) (S : Nat → Sgm) : (lnNet m S).segs.map encSg = (List.range m).map fun i => encSg (S i) := by
  simp only [lnNet, List.map_map]
  rfl
theorem ln_rates (m : Nat) (S : Nat → Sgm) (r : Int) : (lnRates m S r).map encI = (List.range m).map fun i => .int (rtI S r i) := by
  simp only [lnRates, List.map_map]
  rfl
theorem ln_ports (m : Nat) (S : Nat → Sgm) : (lnNet m S).ports.map encPr = [.agg [.lit (.string ⟨#[113, 97]⟩), .int 0, .int 0], .agg [.lit (.string ⟨#[113, 98]⟩), .int m, .int 0]] := rfl
theorem lf_of {m : Nat} {S : Nat → Sgm} {fl : List (List (Int × Int))} {b : Int} (hl : fl.length = (lnNet m S).segs.length) (h : ∀ (i : Nat) f s, fl[i]? = some f → (lnNet m S).segs[i]? = some s → Pc.Vd f ∧ Pc.vol f = s.1.cp ∧ f.length ≤ 12 ∧ ∀ p ∈ f, 0 ≤ p.1 ∧ p.1 < b) :
    LfOk m S fl ∧ ∀ (i : Nat) f, fl[i]? = some f → ∀ p ∈ f, 0 ≤ p.1 ∧ p.1 < b := by
  have e : (lnNet m S).segs.length = m := by simp [lnNet]
  have g : ∀ (i : Nat) f, fl[i]? = some f → (lnNet m S).segs[i]? = some (S i) := fun i f hf => by
    have hi : i < m := by have := (List.getElem?_eq_some_iff.1 hf).1; omega
    simp [lnNet, hi]
  refine ⟨⟨by omega, fun i f hf => ?_⟩, fun i f hf => (h i f _ hf (g i f hf)).2.2.2⟩
  have := h i f _ hf (g i f hf)
  exact ⟨this.1, this.2.1, this.2.2.1⟩
theorem waves_fn (l : List Int) (hl : l.length ≤ 9223372036854775807) (wf : ∀ z ∈ l, -9223372036854775808 ≤ z ∧ z ≤ 9223372036854775807) (u : Int) (hu : 0 ≤ u ∧ u ≤ 255) : FnOk Tryz.prog 5 [.t (encIs l), .t (.lit (.int .u8 u))] [] (.t (.bool true)) [] := by
  have c1 := new_fn l hl
  have h0 := new_ok wf
  obtain ⟨s, hs⟩ : ∃ s, newL2 l = s := ⟨_, rfl⟩
  rw [hs] at c1 h0
  have c2 := range_fn s 0 1 5 h0 (by omega) (by omega) (by omega)
  have b2 := rangeV_range (l := s) (k := 0) (lo := 1) (hi := 5) (by omega)
  obtain ⟨R0, hR0⟩ : ∃ R, rangeV s 0 1 5 = R := ⟨_, rfl⟩
  rw [hR0] at c2 b2
  obtain ⟨m, K, S, hm, hKS, c3⟩ := line_ex s _ h0.next R0 (by omega)
  have hS := sgc_ln hm hKS
  have bR := minR_bd (m := m) (S := S) (r := R0) (by omega) fun i hi => (hS.pipe i hi).cap.1
  have bC : ∀ i, i < m → minR S R0 m ≤ (S i).1.cp := fun i hi => minR_le hi
  obtain ⟨r, hr⟩ : ∃ r : Nat, minR S R0 m = (r : Int) := ⟨(minR S R0 m).toNat, by omega⟩
  rw [hr] at c3 bR bC
  obtain ⟨k', fl, hk', hfl, hfe, c4⟩ := fills_ex s (K m) (hKS m).1 (lnNet m S) (lnNet_ok hS) 3 (by omega) (by omega)
  obtain ⟨hF, hb⟩ := lf_of hfl hfe
  obtain ⟨t, ht⟩ : ∃ t : Nat, u % 10 = (t : Int) := ⟨(u % 10).toNat, by omega⟩
  have t9 : t ≤ 9 := by omega
  have c5 := line_run hS hF (r := r) (by omega) bC (by omega) (t := t) (by omega) (b := 8) (by omega)
  have hX := lnX_ok hS hF (n := t * r) (by have := Nat.mul_le_mul t9 (by omega : r ≤ 1000); omega) (b := 8) (by omega)
  have hn0 : t * r ≤ 9 * 1000 := Nat.mul_le_mul t9 (by omega)
  obtain ⟨n, hn⟩ : ∃ n, t * r = n := ⟨_, rfl⟩
  have hnI : (t : Int) * (r : Int) = n := by rw [← hn]; exact (Int.natCast_mul t r).symm
  rw [hn] at c5 hX hn0
  have hb8 : ∀ (i : Nat) f, fl[i]? = some f → ∀ p ∈ f, p.1 ≠ 8 := fun i f hf p hp => by have := hb i f hf p hp; omega
  have wv : ∀ i, i < m → _ := fun i hi => wave_of hF hb8 n i (lnW S i)
  have wa : ∀ i, i < m → _ := fun i hi => wave_ahead hF hb8 (n := n) (i := i) hi (lnW S i) hX
  have hvd : ∀ i, Pc.Vd (sgW (lnX m S fl n 8) (0 + preS (lnC S) i) (lnC S i) (lnW S i)) := fun i => sgW_vd hX _ _ _
  have hln : ∀ i, (sgW (lnX m S fl n 8) (0 + preS (lnC S) i) (lnC S i) (lnW S i)).length ≤ 90 := fun i => sgW_len hX _ _ _
  obtain ⟨fs, hfs⟩ : ∃ f, lnFs m S (lnX m S fl n 8) 0 = f := ⟨_, rfl⟩
  have fsl : fs.length = m := by rw [← hfs]; simp [lnFs]
  have fsg : ∀ i, i < m → fs[i]? = some (sgW (lnX m S fl n 8) (0 + preS (lnC S) i) (lnC S i) (lnW S i)) := fun i hi => by rw [← hfs]; simp [lnFs, hi]
  obtain ⟨W, hW⟩ : ∃ W : Nat → List (Int × Int), ∀ i, sgW (lnX m S fl n 8) (0 + preS (lnC S) i) (lnC S i) (lnW S i) = W i := ⟨_, fun _ => rfl⟩
  simp only [hW] at wv wa hvd hln fsg
  obtain ⟨O5, hO5⟩ : ∃ O, stW (lnX m S fl n 8) (preS (lnC S) m) n = O := ⟨_, rfl⟩
  rw [hfs, hO5] at c5
  have e3 := ln_ports m S
  simp only [LineD.net, LineD.plan, lnD, ln_names, ln_segs, e3, ln_rates, blkG, map_some] at c5
  simp only [NetD.l, ln_names, ln_segs, e3] at c4
  have e5 : (lnNet m S).stns.map encSn = [] := rfl
  have e6 : (lnNet m S).vap = 0 ∧ (lnNet m S).stl = 0 := ⟨rfl, rfl⟩
  rw [e5, e6.1, e6.2] at c4
  obtain ⟨NN, hNN⟩ : ∃ X, (List.range (m + 1)).map ndT = X := ⟨_, rfl⟩
  obtain ⟨GG, hGG⟩ : ∃ X, ((List.range m).map fun i => encSg (S i)) = X := ⟨_, rfl⟩
  obtain ⟨RR, hRR⟩ : ∃ X, ((List.range m).map fun i => T.int (rtI S (r : Int) i)) = X := ⟨_, rfl⟩
  have gl : GG.length = m := by rw [← hGG]; simp
  have gg : ∀ i, i < m → GG[i]? = some (encSg (S i)) := fun i hi => by rw [← hGG]; simp [hi]
  have rg : ∀ i, i < m → RR[i]? = some (.int (rtI S (r : Int) i)) := fun i hi => by rw [← hRR]; simp [hi]
  rw [hNN, hGG, hRR] at c3 c5
  rw [hNN, hGG] at c4
  have rl : RR.length = m := by rw [← hRR]; simp
  have hq0 : preS (lnC S) 0 = 0 := rfl
  refine FnOk.intro fact_mixed Tryz.func5 rfl Tryz.ntmps5 (by rfl) (by simp) ?_
  repeat (first | (refine nf1_sound rfl ?_; simp [go_sem, ↓iO, iO, tN]) | refine anI ?_ | refine ⟨dcK, ?_⟩ | ((first | refine iP ?_ | refine iN ?_); try simp [go_sem, ↓iO, iO, tN]))
  refine CallK.fn (c1) [(1000, 121)] [] [] (by kernel_rfl) ?_ ?_ ?_ (Or.inl rfl) ?_ <;> simp [go_sem, ↓iO, iO, tN]
  repeat (refine anI ?_)
  try (refine ⟨dcK, ?_⟩)
  repeat (first | (refine nf1_sound rfl ?_; simp [go_sem, ↓iO, iO, tN]) | refine anI ?_ | refine ⟨dcK, ?_⟩ | ((first | refine iP ?_ | refine iN ?_); try simp [go_sem, ↓iO, iO, tN]))
  refine CallK.fn (c2) [(0, 121)] [] [] (by kernel_rfl) ?_ ?_ ?_ (Or.inl rfl) ?_ <;> simp [go_sem, ↓iO, iO, tN]
  repeat (refine anI ?_)
  try (refine ⟨dcK, ?_⟩)
  refine CallK.fn (c3) [(0, 121)] [] [] (by kernel_rfl) ?_ ?_ ?_ (Or.inl rfl) ?_ <;> simp [go_sem, ↓iO, iO, tN]
  repeat (refine anI ?_)
  try (refine ⟨dcK, ?_⟩)
  repeat (first | (refine nf1_sound rfl ?_; simp [go_sem, ↓iO, iO, tN]) | refine anI ?_ | refine ⟨dcK, ?_⟩ | ((first | refine iP ?_ | refine iN ?_); try simp [go_sem, ↓iO, iO, tN]))
  refine CallK.fn (c4) [(0, 121)] [] [] (by kernel_rfl) ?_ ?_ ?_ (Or.inl rfl) ?_ <;> simp [go_sem, ↓iO, iO, tN]
  repeat (refine anI ?_)
  try (refine ⟨dcK, ?_⟩)
  repeat (first | (refine nf1_sound rfl ?_; simp [go_sem, ↓iO, iO, tN, ht]) | refine anI ?_ | refine ⟨dcK, ?_⟩ | ((first | refine iP ?_ | refine iN ?_); try simp [go_sem, ↓iO, iO, tN, ht]))
  refine CallK.fn (c5) [(1000, 600)] [] [143] (by kernel_rfl) ?_ ?_ ?_ (Or.inl rfl) ?_ <;> simp [go_sem, ↓iO, iO, tN]
  repeat (refine anI ?_)
  try (refine ⟨dcK, ?_⟩)
  repeat (first | (refine nf1_sound rfl ?_; simp [go_sem, ↓iO, iO, tN, gl, fsl, hnI]) | refine anI ?_ | refine ⟨dcK, ?_⟩ | ((first | refine iP ?_ | refine iN ?_); try simp [go_sem, ↓iO, iO, tN, gl, fsl, hnI]))
  refine nf1_sound' _ _ _ ?_; simp only [nf1]
  refine CW.loop (ι := Nat) (fun i => ⟨[(6, .pt 506 [] 0), (7, .pt 507 [] 0), (11, .t (.sl 1 (fs.map encPs))), (14, .t (.int ((n - preS (lnC S) i : Nat) : Int))), (63, .t (.sl 7 GG)), (64, .t (.int m)), (65, .t (.int i))], [(506, .box 33 (.t (.agg [.sl 1 NN, .sl 7 GG, .sl 3 [.agg [.lit (.string ⟨#[113, 97]⟩), .int 0, .int 0], .agg [.lit (.string ⟨#[113, 98]⟩), .int m, .int 0]], .lit (.slice none 0 0), .int 0, .int 0]))), (507, .box 45 (.t (.agg [.sl 1 RR, .sl 1 [.int r, .int (-(r : Int))], .lit (.slice none 0 0)])))]⟩)
    (fun i => i ≤ m) (fun i => m - i) 0 [(506, some 106), (507, some 107)] (by omega) ?_ ?_
  · simp [go_sem, ↓iO, iO, tN, gl, hq0, Nat.sub_zero]
  intro i hi
  by_cases hbm : i < m
  · have w1 := wv i hbm
    have w2 := wa i hbm
    have g1 := gg i hbm
    have f1 := fsg i hbm
    have r1 := rg i hbm
    have cb := batch_fn (W i) 8 (hvd i)
    rw [w1] at cb
    have wl := hln i
    have ls := left_step (lnC S) n i
    have hcap := (hS.pipe i hbm).cap
    have hc1000 := hS.cap i hbm
    have hcC : ((lnC S i : Nat) : Int) = (S i).1.cp := by show (((S i).1.cp.toNat : Nat) : Int) = _; omega
    obtain ⟨L2, hL2⟩ : ∃ L, n - preS (lnC S) (i + 1) = L := ⟨_, rfl⟩
    rw [hL2] at ls
    have hpn : preS (lnC S) i < n ↔ 0 < n - preS (lnC S) i := by omega
    rw [hpn] at w2
    have hLn : n - preS (lnC S) i ≤ n := by omega
    obtain ⟨L, hL⟩ : ∃ L, n - preS (lnC S) i = L := ⟨_, rfl⟩
    rw [hL] at w2 cb ls hLn ⊢
    have hqq : (lnW S i = true ∧ rtI S (r : Int) i = r) ∨ (lnW S i = false ∧ rtI S (r : Int) i = -(r : Int)) := by
      unfold lnW rtI
      by_cases h : (S i).1.fr < (S i).1.to <;> simp [h]
    obtain ⟨c, hc⟩ : ∃ c, lnC S i = c := ⟨_, rfl⟩
    rw [hc] at w2 cb ls hcC
    obtain ⟨q, hq⟩ : ∃ q, rtI S (r : Int) i = q := ⟨_, rfl⟩
    rw [hq] at r1 hqq
    obtain ⟨fwb, hfw⟩ : ∃ q, lnW S i = q := ⟨_, rfl⟩
    rw [hfw] at w2 hqq
    obtain ⟨s, hSi⟩ : ∃ s, S i = s := ⟨_, rfl⟩
    rw [hSi] at g1 hcap hc1000 hcC
    obtain ⟨⟨nm, fr, to, cp, rs', wv⟩, pts⟩ := s
    dsimp only at hcap hc1000 hcC
    obtain ⟨F, hF⟩ : ∃ F, W i = F := ⟨_, rfl⟩
    rw [hF] at f1 cb w2 wl
    rcases (by omega : L = 0 ∨ c ≤ L ∨ (0 < L ∧ L < c)) with h | h | ⟨h, h'⟩
    · subst h
      have e : min (0 : Int) cp = 0 := by omega
      have e2 : ((min 0 c : Nat) : Int) = 0 := by omega
      rw [e2] at cb
      obtain rfl : L2 = 0 := by omega
      repeat (first | (refine nf1_sound rfl ?_; simp [go_sem, ↓iO, iO, tN, g1, f1, e]) | refine anI ?_ | refine ⟨dcK, ?_⟩ | ((first | refine iP ?_ | refine iN ?_); try simp [go_sem, ↓iO, iO, tN, g1, f1, e]))
      refine CallK.fn (cb) [] [] [] (by kernel_rfl) ?_ ?_ ?_ (Or.inl rfl) ?_ <;> simp [go_sem, ↓iO, iO, tN, g1, f1, e]
      repeat (refine anI ?_)
      try (refine ⟨dcK, ?_⟩)
      repeat (first | (refine nf1_sound rfl ?_; simp [go_sem, ↓iO, iO, tN, g1, f1, e]) | refine anI ?_ | refine ⟨dcK, ?_⟩ | ((first | refine iP ?_ | refine iN ?_); try simp [go_sem, ↓iO, iO, tN, g1, f1, e]))
      rw [RoundQ_normal]; refine ⟨i + 1, [(506, some 506), (507, some 507)], ?_, ?_, ?_⟩
      · omega
      · omega
      simp [go_sem, ↓iO, iO, tN, hL2]
    · have e : min (L : Int) cp = cp := by omega
      have e2 : ((min L c : Nat) : Int) = cp := by omega
      rw [e2] at cb
      have e3 : (L : Int) - cp = (L2 : Int) := by omega
      repeat (first | (refine nf1_sound rfl ?_; simp [go_sem, ↓iO, iO, tN, g1, f1, e]) | refine anI ?_ | refine ⟨dcK, ?_⟩ | ((first | refine iP ?_ | refine iN ?_); try simp [go_sem, ↓iO, iO, tN, g1, f1, e]))
      refine CallK.fn (cb) [] [] [] (by kernel_rfl) ?_ ?_ ?_ (Or.inl rfl) ?_ <;> simp [go_sem, ↓iO, iO, tN, g1, f1, e]
      repeat (refine anI ?_)
      try (refine ⟨dcK, ?_⟩)
      repeat (first | (refine nf1_sound rfl ?_; simp [go_sem, ↓iO, iO, tN, g1, f1, e, e3]) | refine anI ?_ | refine ⟨dcK, ?_⟩ | ((first | refine iP ?_ | refine iN ?_); try simp [go_sem, ↓iO, iO, tN, g1, f1, e, e3]))
      rw [RoundQ_normal]; refine ⟨i + 1, [(506, some 506), (507, some 507)], ?_, ?_, ?_⟩
      · omega
      · omega
      simp [go_sem, ↓iO, iO, tN, hL2]
    · have e : min (L : Int) cp = L := by omega
      have e2 : ((min L c : Nat) : Int) = L := by omega
      rw [e2] at cb
      have e3 : (L2 : Int) = 0 := by omega
      have e4 : ((c - L : Nat) : Int) = cp - L := by omega
      have w3 := w2 h h'
      rw [e4] at w3
      have ca := ahead_fn F 8 (!fwb) (by omega) _ _ w3
      rcases hqq with ⟨a1, a2⟩ | ⟨a1, a2⟩
      · subst a1; subst a2
        repeat (first | (refine nf1_sound rfl ?_; simp [go_sem, ↓iO, iO, tN, g1, f1, e]) | refine anI ?_ | refine ⟨dcK, ?_⟩ | ((first | refine iP ?_ | refine iN ?_); try simp [go_sem, ↓iO, iO, tN, g1, f1, e]))
        refine CallK.fn (cb) [] [] [] (by kernel_rfl) ?_ ?_ ?_ (Or.inl rfl) ?_ <;> simp [go_sem, ↓iO, iO, tN, g1, f1, e]
        repeat (refine anI ?_)
        try (refine ⟨dcK, ?_⟩)
        have hd : decide ((r : Int) < 0) = false := by simp
        repeat (first | (refine nf1_sound rfl ?_; simp [go_sem, ↓iO, iO, tN, g1, f1, e, r1, hd]) | refine anI ?_ | refine ⟨dcK, ?_⟩ | ((first | refine iP ?_ | refine iN ?_); try simp [go_sem, ↓iO, iO, tN, g1, f1, e, r1, hd]))
        refine CallK.fn (ca) [] [] [] (by kernel_rfl) ?_ ?_ ?_ (Or.inl rfl) ?_ <;> simp [go_sem, ↓iO, iO, tN, g1, f1, e, r1, hd]
        repeat (refine anI ?_)
        try (refine ⟨dcK, ?_⟩)
        repeat (first | (refine nf1_sound rfl ?_; simp [go_sem, ↓iO, iO, tN, g1, f1, e, r1]) | refine anI ?_ | refine ⟨dcK, ?_⟩ | ((first | refine iP ?_ | refine iN ?_); try simp [go_sem, ↓iO, iO, tN, g1, f1, e, r1]))
        rw [RoundQ_normal]; refine ⟨i + 1, [(506, some 506), (507, some 507)], ?_, ?_, ?_⟩
        · omega
        · omega
        simp [go_sem, ↓iO, iO, tN, hL2, e3]
      · subst a1; subst a2
        repeat (first | (refine nf1_sound rfl ?_; simp [go_sem, ↓iO, iO, tN, g1, f1, e]) | refine anI ?_ | refine ⟨dcK, ?_⟩ | ((first | refine iP ?_ | refine iN ?_); try simp [go_sem, ↓iO, iO, tN, g1, f1, e]))
        refine CallK.fn (cb) [] [] [] (by kernel_rfl) ?_ ?_ ?_ (Or.inl rfl) ?_ <;> simp [go_sem, ↓iO, iO, tN, g1, f1, e]
        repeat (refine anI ?_)
        try (refine ⟨dcK, ?_⟩)
        have hd : decide (0 < r) = true := by simp; omega
        repeat (first | (refine nf1_sound rfl ?_; simp [go_sem, ↓iO, iO, tN, g1, f1, e, r1, hd]) | refine anI ?_ | refine ⟨dcK, ?_⟩ | ((first | refine iP ?_ | refine iN ?_); try simp [go_sem, ↓iO, iO, tN, g1, f1, e, r1, hd]))
        refine CallK.fn (ca) [] [] [] (by kernel_rfl) ?_ ?_ ?_ (Or.inl rfl) ?_ <;> simp [go_sem, ↓iO, iO, tN, g1, f1, e, r1, hd]
        repeat (refine anI ?_)
        try (refine ⟨dcK, ?_⟩)
        repeat (first | (refine nf1_sound rfl ?_; simp [go_sem, ↓iO, iO, tN, g1, f1, e, r1]) | refine anI ?_ | refine ⟨dcK, ?_⟩ | ((first | refine iP ?_ | refine iN ?_); try simp [go_sem, ↓iO, iO, tN, g1, f1, e, r1]))
        rw [RoundQ_normal]; refine ⟨i + 1, [(506, some 506), (507, some 507)], ?_, ?_, ?_⟩
        · omega
        · omega
        simp [go_sem, ↓iO, iO, tN, hL2, e3]
  · obtain rfl : i = m := by omega
    have crun := running_fn
    repeat (first | (refine nf1_sound rfl ?_; simp [go_sem, ↓iO, iO, tN]) | refine anI ?_ | refine ⟨dcK, ?_⟩ | ((first | refine iP ?_ | refine iN ?_); try simp [go_sem, ↓iO, iO, tN]))
    refine CallK.fn (crun) [] [] [] (by kernel_rfl) ?_ ?_ ?_ (Or.inl rfl) ?_ <;> simp [go_sem, ↓iO, iO, tN]
    repeat (refine anI ?_)
    try (refine ⟨dcK, ?_⟩)
    repeat (first | (refine nf1_sound rfl ?_; simp [go_sem, ↓iO, iO, tN]) | refine anI ?_ | refine ⟨dcK, ?_⟩ | ((first | refine iP ?_ | refine iN ?_); try simp [go_sem, ↓iO, iO, tN]))
    first | rw [RetQ_ret] | rw [RetQ_normal]
    refine ⟨[], ?_⟩
    simp [go_sem, ↓iO, iO, tN]
end Go.Proofs.YtdjmklobfjigoaaGreatDoor
namespace Go.Proofs.YtdjmklobfjigoaaGreatDoor
open Go.RowKit Sy
theorem u8_in {x : T} (h : InSh (.int .u8) x) : ∃ n, x = .lit (.int .u8 n) ∧ 0 ≤ n ∧ n ≤ 255 := by
  obtain ⟨n, rfl, hw⟩ := insh_int h
  exact ⟨n, rfl, by simpa [Lit.wf, IntKind.min, IntKind.max, IntKind.signed, IntKind.bits] using hw⟩
theorem i64s_in {x : T} (h : InSh (.sl (.int .i64)) x) : ∃ l, x = encIs l ∧ l.length ≤ 9223372036854775807 ∧ ∀ z ∈ l, -9223372036854775808 ≤ z ∧ z ≤ 9223372036854775807 := by
  obtain ⟨xs, rfl, hl, hx⟩ := insh_sl h
  obtain ⟨l, rfl, hq⟩ := insh_list (en := encI) (Q := fun z => -9223372036854775808 ≤ z ∧ z ≤ 9223372036854775807) (fun y hy => by
    obtain ⟨n, rfl, hw⟩ := insh_int hy
    exact ⟨n, rfl, wf_i64 hw⟩) xs hx
  exact ⟨l, rfl, by rw [List.length_map] at hl; unfold maxLen at hl; omega, hq⟩
theorem waves_all (x0 x1 : T) (i0 : InSh (.sl (.int .i64)) x0) (i1 : InSh (.int .u8) x1) : FnOk Tryz.prog 5 [.t x0, .t x1] [] (.t (.bool true)) [] := by
  obtain ⟨l, rfl, hl, wf⟩ := i64s_in i0
  obtain ⟨u, rfl, h1, h2⟩ := u8_in i1
  exact waves_fn l hl wf u ⟨h1, h2⟩
end Go.Proofs.YtdjmklobfjigoaaGreatDoor
