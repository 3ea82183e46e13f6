/- Several texts of this proof, one behind the other. No condition. -/
import Derived.Test.YtdjmklobfjigoaaGreatDoorTTopsB16
import Derived.Test.YtdjmklobfjigoaaGreatDoorTTopsB18
import Derived.Test.YtdjmklobfjigoaaGreatDoorTTopsB8
import Derived.Test.YtdjmklobfjigoaaGreatDoorTTopsB11
set_option maxRecDepth 100000
set_option maxHeartbeats 16000000
set_option linter.unusedVariables false
set_option linter.unusedSimpArgs false
namespace Go.Proofs.YtdjmklobfjigoaaGreatDoor
open Go.RowKit Sy Dl
open Go.IntWalk renaming iteOmega → iO, toNatUp → tN
theorem lp_first {r c : Nat} (h : 9 ≤ c) : sgW (lpX r c) (40 * r) c true = [(9, (c : Int))] := by
  have : [((9 : Int), (c : Int))] = rle (List.replicate c 9) := rle_of ⟨by show (0 : Int) < c; omega, by simp, trivial⟩ (litres_rep c 9)
  unfold sgW
  rw [if_pos rfl, this]
  congr 1
  have h1 := win_skip (lpA r) (List.replicate c 9) 0 c
  rw [lpA_len, Nat.add_zero] at h1
  rw [lpX, h1]
  simp [win]
theorem loops_fn (l : List Int) (hl : l.length ≤ 9223372036854775807) (wf : ∀ z ∈ l, -9223372036854775808 ≤ z ∧ z ≤ 9223372036854775807) (u : Int) (hu : 0 ≤ u ∧ u ≤ 255) : FnOk Tryz.prog 3 [.t (encIs l), .t (.lit (.int .u8 u))] [] (.t (.bool true)) [] := by
  have c1 := new_fn l hl
  have h0 := new_ok wf
  obtain ⟨s, hs⟩ : ∃ s, newL2 l = s := ⟨_, rfl⟩
  rw [hs] at c1 h0
  have c2 := range_fn s 0 9 30 h0 (by omega) (by omega) (by omega)
  have b2 := rangeV_range (l := s) (k := 0) (lo := 9) (hi := 30) (by omega)
  obtain ⟨c, hc⟩ : ∃ c : Nat, rangeV s 0 9 30 = (c : Int) := ⟨(rangeV s 0 9 30).toNat, by omega⟩
  rw [hc] at c2 b2
  have hcc : 9 ≤ c ∧ c ≤ 30 := by omega
  obtain ⟨r, hr⟩ : ∃ r : Nat, 1 + u % 9 = (r : Int) := ⟨(1 + u % 9).toNat, by omega⟩
  have hrr : 1 ≤ r ∧ r ≤ 9 := by omega
  have hX := lpX_ok hrr hcc
  have hXl := lpX_len r c
  have hor := lp_order (r := r) (c := c) hrr.1
  have hsum : ∀ b : Int, 0 ≤ b ∧ b < 4 → _ := fun b hb => lp_sum (r := r) (c := c) hrr.1 hb
  have hCl := lpCm_len hrr hcc
  have hOl := lpO_len hrr hcc
  have hCe : ∀ p ∈ lpCm r c 40, (0 ≤ p.1 ∧ p.1 < 1000) ∧ p.2 ≤ 1000000 := by
    have gen : ∀ k, k ≤ 40 → ∀ p ∈ lpCm r c k, (0 ≤ p.1 ∧ p.1 < 1000) ∧ p.2 ≤ 1000000 := by
      intro k
      induction k with
      | zero => intro _ p hp; simp [lpCm] at hp
      | succ k ih =>
        intro hk p hp
        simp only [lpCm, List.mem_append] at hp
        rcases hp with hp | hp
        · exact ih (by omega) p hp
        · have hkk : (39 - k) * r + c + r ≤ (lpX r c).length := by
            rw [hXl]
            have : (39 - k) * r + r = (39 - k + 1) * r := by rw [Nat.add_mul, Nat.one_mul]
            have := Nat.mul_le_mul_right r (show 39 - k + 1 ≤ 40 by omega)
            omega
          have hv := stW_vol hkk
          have := (join_two (stW_vd hX ((39 - k) * r + c) r) (by rw [stW, List.length_reverse]; exact win_rn hX _ _) (by omega)).1.each p hp
          exact ⟨this.1, this.2.2⟩
    exact gen 40 (Nat.le_refl _)
  have hCv : VlOk (lpCm r c 40) := ⟨by have := hCl 40; omega, fun p hp => by
    have h1 := lpCm_pos 40 p hp
    have h2 := hCe p hp
    omega⟩
  have hfv : VlOk (sgW (lpX r c) 0 c true) := by
    refine ⟨by have := sgW_len hX 0 c true; omega, fun p hp => ?_⟩
    have := ((sgW_vd hX 0 c true).each p hp).2
    omega
  have hOv : ∀ k, k < 40 → Pc.Vd (lpO r c k) ∧ Pc.vol (lpO r c k) = 2 * (r : Int) := fun k hk => by
    have hkk : (39 - k) * r + c + r ≤ (lpX r c).length := by
      rw [hXl]
      have : (39 - k) * r + r = (39 - k + 1) * r := by rw [Nat.add_mul, Nat.one_mul]
      have := Nat.mul_le_mul_right r (show 39 - k + 1 ≤ 40 by omega)
      omega
    have hv := stW_vol hkk
    have h3 := join_two (stW_vd hX ((39 - k) * r + c) r) (by rw [stW, List.length_reverse]; exact win_rn hX _ _) (by omega)
    refine ⟨h3.1, ?_⟩
    unfold lpO
    rw [h3.2.1]; omega
  have ct : ∀ k, k < 40 → _ := fun k hk => loop_tick hrr hcc (b := ((k / 10 : Nat) : Int)) (by omega) hX (p := (39 - k) * r) (by
      rw [hXl]
      have : (39 - k) * r + r = (39 - k + 1) * r := by rw [Nat.add_mul, Nat.one_mul]
      have := Nat.mul_le_mul_right r (show 39 - k + 1 ≤ 40 by omega)
      omega) (lp_fed hrr hk)
  obtain ⟨f, hf⟩ : ∃ f : Nat → List (Int × Int), ∀ k, sgW (lpX r c) ((40 - k) * r) c true = f k := ⟨_, fun _ => rfl⟩
  have f0 : f 0 = [(9, (c : Int))] := by rw [← hf]; exact lp_first hcc.1
  have fe : ∀ k, k < 40 → sgW (lpX r c) ((39 - k) * r + r) c true = f k ∧ sgW (lpX r c) ((39 - k) * r) c true = f (k + 1) := fun k hk => by
    rw [← hf, ← hf]
    have e : (40 - k) * r = (39 - k) * r + r := by rw [show 40 - k = 39 - k + 1 by omega, Nat.add_mul, Nat.one_mul]
    rw [e]
    exact ⟨rfl, by rw [show 40 - (k + 1) = 39 - k by omega]⟩
  have fz : sgW (lpX r c) 0 c true = f 40 := by rw [← hf]; simp
  rw [fz] at hfv
  simp only [fz] at hsum
  have fl : ∀ k, (f k).length ≤ 90 := fun k => by rw [← hf]; exact sgW_len hX _ _ _
  have ct2 : ∀ k, k < 40 → FnOk Tryz.prog 9 [.t (.agg (lpD c r ((k / 10 : Nat) : Int)).net), .t (.sl 1 ([f k, f k].map encPs)), .t (.agg (lpD c r ((k / 10 : Nat) : Int)).plan), .t (.sl 1 ([((k / 10 : Nat) : Int), 0].map encI))] []
      (.tup [.own 1000, .own 1001, .t (.int 0)]) [(1000, blkG [some (f (k + 1)), some (f (k + 1))]), (1001, blkG [none, some (lpO r c k)])] := fun k hk => by
    have := ct k hk
    rw [(fe k hk).1, (fe k hk).2] at this
    exact this
  simp only [LineD.net, LineD.plan, lpD, lpNet, lpSeg, encSg, encPr, encS, List.map_cons, List.map_nil, encI, encPt, blkG, encGv] at ct2
  obtain ⟨O, hO⟩ : ∃ O : Nat → List (Int × Int), ∀ k, lpO r c k = O k := ⟨_, fun _ => rfl⟩
  obtain ⟨M, hM⟩ : ∃ M : Nat → List (Int × Int), ∀ k, lpCm r c k = M k := ⟨_, fun _ => rfl⟩
  have M0 : M 0 = [] := by rw [← hM]; rfl
  have Ms : ∀ k, M (k + 1) = M k ++ O k := fun k => by rw [← hM, ← hM, ← hO]; rfl
  simp only [hO] at hOv ct2 hOl
  simp only [hM] at hor hsum hCl hCv hCe
  obtain ⟨Q, hQ⟩ : ∃ Q : Nat → List T, ∀ k, (M k).map encP = Q k := ⟨_, fun _ => rfl⟩
  have Q0 : Q 0 = [] := by rw [← hQ, M0]; rfl
  have Qs : ∀ k, Q (k + 1) = Q k ++ (O k).map encP := fun k => by rw [← hQ, Ms, List.map_append, hQ]
  have Ql : ∀ k, (Q k).length ≤ 180 * k := fun k => by rw [← hQ, List.length_map]; exact hCl k
  have es : str [97] = ⟨#[97]⟩ ∧ str [98] = ⟨#[98]⟩ ∧ str [105, 110] = ⟨#[105, 110]⟩ ∧ str [111, 117, 116] = ⟨#[111, 117, 116]⟩ ∧ str [120] = ⟨#[120]⟩ ∧ str [121] = ⟨#[121]⟩ := ⟨rfl, rfl, rfl, rfl, rfl, rfl⟩
  simp only [es] at ct2
  obtain ⟨G, hG⟩ : ∃ G : Nat → List T, ∀ i, G i = [.agg [.lit (.string ⟨#[120]⟩), .int 0, .int 1, .int c, .int 0, .int 0, .sl 3 [.agg [.int 0, .int 0, .int 0], .agg [.int c, .int 0, .int 0]]], .agg [.lit (.string ⟨#[121]⟩), .int 0, .int 1, .int c, .int 0, .int 0, .sl 3 [.agg [.int 0, .int 0, .int 0], .agg [.int c, .int 0, .int 0]]]].take i := ⟨_, fun _ => rfl⟩
  have G0 : G 0 = [] := by rw [hG]; rfl
  have G1 : G 1 = [.agg [.lit (.string ⟨#[120]⟩), .int 0, .int 1, .int c, .int 0, .int 0, .sl 3 [.agg [.int 0, .int 0, .int 0], .agg [.int c, .int 0, .int 0]]]] := by rw [hG]; rfl
  have G2 : G 2 = [.agg [.lit (.string ⟨#[120]⟩), .int 0, .int 1, .int c, .int 0, .int 0, .sl 3 [.agg [.int 0, .int 0, .int 0], .agg [.int c, .int 0, .int 0]]], .agg [.lit (.string ⟨#[121]⟩), .int 0, .int 1, .int c, .int 0, .int 0, .sl 3 [.agg [.int 0, .int 0, .int 0], .agg [.int c, .int 0, .int 0]]]] := by rw [hG]; rfl
  obtain ⟨D, hD⟩ : ∃ D : Nat → Int, ∀ k : Nat, D k = 2 * (r : Int) * k := ⟨_, fun _ => rfl⟩
  have D0 : D 0 = 0 := by rw [hD]; omega
  have Ds : ∀ k, D (k + 1) = D k + 2 * (r : Int) := fun k => by rw [hD, hD, Int.natCast_succ, Int.mul_add, Int.mul_one]
  have Db : ∀ k, k ≤ 40 → 0 ≤ D k ∧ D k ≤ 720 := fun k => by
    induction k with
    | zero => intro _; rw [D0]; omega
    | succ k ih =>
      intro hk
      have h40 : D (k + 1) = 2 * (r : Int) * ((k + 1 : Nat) : Int) := hD _
      have h1 : 2 * r * (k + 1) ≤ 18 * 40 := Nat.mul_le_mul (by omega) hk
      have h2 : ((2 * r * (k + 1) : Nat) : Int) = 2 * (r : Int) * ((k + 1 : Nat) : Int) := by simp
      omega
  refine FnOk.intro fact_mixed Tryz.func3 rfl Tryz.ntmps3 (by rfl) (by simp) ?_
  repeat (first | (refine nf1_sound rfl ?_; simp [go_sem, ↓iO, iO, tN]) | refine anI ?_ | refine ⟨dcK, ?_⟩ | ((first | refine iP ?_ | refine iN ?_); try simp [go_sem, ↓iO, iO, tN]))
  refine CallK.fn (c1) [(1000, 124)] [] [] (by kernel_rfl) ?_ ?_ ?_ (Or.inl rfl) ?_ <;> simp [go_sem, ↓iO, iO, tN]
  repeat (refine anI ?_)
  try (refine ⟨dcK, ?_⟩)
  repeat (first | (refine nf1_sound rfl ?_; simp [go_sem, ↓iO, iO, tN, hr]) | refine anI ?_ | refine ⟨dcK, ?_⟩ | ((first | refine iP ?_ | refine iN ?_); try simp [go_sem, ↓iO, iO, tN, hr]))
  refine CallK.fn (c2) [(0, 124)] [] [] (by kernel_rfl) ?_ ?_ ?_ (Or.inl rfl) ?_ <;> simp [go_sem, ↓iO, iO, tN]
  repeat (refine anI ?_)
  try (refine ⟨dcK, ?_⟩)
  repeat (first | (refine nf1_sound rfl ?_; simp [go_sem, ↓iO, iO, tN, hr]) | refine anI ?_ | refine ⟨dcK, ?_⟩ | ((first | refine iP ?_ | refine iN ?_); try simp [go_sem, ↓iO, iO, tN, hr]))
  refine nf1_sound' _ _ _ ?_; simp only [nf1]
  refine CW.loop (ι := Nat) (fun i => ⟨[(6, .t (.int r)), (7, .t (.int c)), (8, .pt 508 [] 0), (9, .t (.int i))], [(508, .box 33 (.ag [.t (.sl 1 [.lit (.string ⟨#[97]⟩), .lit (.string ⟨#[98]⟩)]), .own 541, .t (.sl 3 [.agg [.lit (.string ⟨#[105, 110]⟩), .int 0, .int 0], .agg [.lit (.string ⟨#[111, 117, 116]⟩), .int 1, .int 0]]), .t (.lit (.slice none 0 0)), .t (.int 0), .t (.int 0)])), (541, .list 38 7 (G i))]⟩)
    (fun i => i ≤ 2) (fun i => 2 - i) 0 [(508, some 108), (541, none)] (by omega) ?_ ?_
  · simp [go_sem, ↓iO, iO, tN, G0]
  intro i hi
  match i, hi with
  | 0, _ =>
    rw [G0]
    repeat (first | (refine nf1_sound rfl ?_; simp [go_sem, ↓iO, iO, tN]) | refine anI ?_ | refine ⟨dcK, ?_⟩ | ((first | refine iP ?_ | refine iN ?_); try simp [go_sem, ↓iO, iO, tN]))
    rw [RoundQ_normal]; refine ⟨1, [(508, some 508), (541, some 153)], ?_, ?_, ?_⟩
    · omega
    · omega
    simp [go_sem, ↓iO, iO, tN, G1]
  | 1, _ =>
    rw [G1]
    repeat (first | (refine nf1_sound rfl ?_; simp [go_sem, ↓iO, iO, tN]) | refine anI ?_ | refine ⟨dcK, ?_⟩ | ((first | refine iP ?_ | refine iN ?_); try simp [go_sem, ↓iO, iO, tN]))
    rw [RoundQ_normal]; refine ⟨2, [(508, some 508), (541, some 153)], ?_, ?_, ?_⟩
    · omega
    · omega
    simp [go_sem, ↓iO, iO, tN, G2]
  | 2, _ =>
    rw [G2]
    repeat (first | (refine nf1_sound rfl ?_; simp [go_sem, ↓iO, iO, tN]) | refine anI ?_ | refine ⟨dcK, ?_⟩ | ((first | refine iP ?_ | refine iN ?_); try simp [go_sem, ↓iO, iO, tN]))
    refine nf1_sound' _ _ _ ?_; simp only [nf1]
    refine CW.loop (ι := Nat) (fun k => ⟨[(6, .t (.int r)), (8, .pt 508 [] 0), (10, .t (.sl 1 [encPs (f k), encPs (f k)])), (11, .pt 511 [] 0), (12, .own 512), (13, .t (.int (D k))), (14, .t (.int k))], [(508, .box 33 (.t (.agg [.sl 1 [.lit (.string ⟨#[97]⟩), .lit (.string ⟨#[98]⟩)], .sl 7 [.agg [.lit (.string ⟨#[120]⟩), .int 0, .int 1, .int c, .int 0, .int 0, .sl 3 [.agg [.int 0, .int 0, .int 0], .agg [.int c, .int 0, .int 0]]], .agg [.lit (.string ⟨#[121]⟩), .int 0, .int 1, .int c, .int 0, .int 0, .sl 3 [.agg [.int 0, .int 0, .int 0], .agg [.int c, .int 0, .int 0]]]], .sl 3 [.agg [.lit (.string ⟨#[105, 110]⟩), .int 0, .int 0], .agg [.lit (.string ⟨#[111, 117, 116]⟩), .int 1, .int 0]], .lit (.slice none 0 0), .int 0, .int 0]))), (511, .box 45 (.t (.agg [.sl 1 [.int r, .int r], .sl 1 [.int (2 * (r : Int)), .int (-(2 * (r : Int)))], .lit (.slice none 0 0)]))), (512, .list 40 2 (Q k))]⟩)
      (fun k => k ≤ 40) (fun k => 40 - k) 0 [(508, some 508), (511, some 111), (512, none)] (by omega) ?_ ?_
    · simp [go_sem, ↓iO, iO, tN, Q0, f0, D0]
      omega
    intro k hk
    by_cases hb : k < 40
    · have c3 := ct2 k hb
      have ov := hOv k hb
      have ol := hOl k
      have cm := merge_fn (O k) (by omega)
      rw [merge_vd ov.1] at cm
      have cv := volume_fn (O k) ov.1
      rw [ov.2] at cv
      have qs := Qs k
      have ql := Ql k
      have ds := Ds k
      have db := Db k hk
      obtain ⟨D1, hD1⟩ : ∃ X, D k = X := ⟨_, rfl⟩
      rw [hD1] at ds db ⊢
      obtain ⟨Q1, hQ1⟩ : ∃ X, Q k = X := ⟨_, rfl⟩
      rw [hQ1] at qs ql ⊢
      obtain ⟨O1, hO1⟩ : ∃ X, O k = X := ⟨_, rfl⟩
      rw [hO1] at qs cm cv ol c3
      repeat (first | (refine nf1_sound rfl ?_; simp [go_sem, ↓iO, iO, tN]) | refine anI ?_ | refine ⟨dcK, ?_⟩ | ((first | refine iP ?_ | refine iN ?_); try simp [go_sem, ↓iO, iO, tN]))
      refine CallK.fn (c3) [(1000, 600), (1001, 601)] [] [181] (by kernel_rfl) ?_ ?_ ?_ (Or.inl rfl) ?_ <;> simp [go_sem, ↓iO, iO, tN]
      repeat (refine anI ?_)
      try (refine ⟨dcK, ?_⟩)
      repeat (first | (refine nf1_sound rfl ?_; simp [go_sem, ↓iO, iO, tN]) | refine anI ?_ | refine ⟨dcK, ?_⟩ | ((first | refine iP ?_ | refine iN ?_); try simp [go_sem, ↓iO, iO, tN]))
      refine CallK.fn (cm) [(1000, 620)] [] [] (by kernel_rfl) ?_ ?_ ?_ (Or.inl rfl) ?_ <;> simp [go_sem, ↓iO, iO, tN]
      repeat (refine anI ?_)
      try (refine ⟨dcK, ?_⟩)
      refine CallK.fn (cv) [] [620] [] (by kernel_rfl) ?_ ?_ ?_ (Or.inr ⟨?_, ?_⟩) ?_ <;> simp [go_sem, ↓iO, iO, tN]
      repeat (refine anI ?_)
      try (refine ⟨dcK, ?_⟩)
      repeat (first | (refine nf1_sound rfl ?_; simp [go_sem, ↓iO, iO, tN]) | refine anI ?_ | refine ⟨dcK, ?_⟩ | ((first | refine iP ?_ | refine iN ?_); try simp [go_sem, ↓iO, iO, tN]))
      rw [RoundQ_normal]; refine ⟨k + 1, [(508, some 508), (511, some 511), (512, some 207)], ?_, ?_, ?_⟩
      · omega
      · omega
      simp [go_sem, ↓iO, iO, tN, qs, ds]
    · obtain rfl : k = 40 := by omega
      have q40 := hQ 40
      obtain ⟨MM, hMM⟩ : ∃ X, M 40 = X := ⟨_, rfl⟩
      obtain ⟨F, hF⟩ : ∃ X, f 40 = X := ⟨_, rfl⟩
      rw [hMM] at hor hCv hCe q40
      rw [hF] at hfv
      simp only [hMM, hF] at hsum
      have mml := hCv.len
      obtain ⟨D4, hD4⟩ : ∃ X, D 40 = X := ⟨_, rfl⟩
      obtain ⟨E, hE⟩ : ∃ E : Nat → Int, ∀ k : Nat, E k = 20 * (r : Int) * k := ⟨_, fun _ => rfl⟩
      have E0 : E 0 = 0 := by rw [hE]; omega
      have Es : ∀ k, E (k + 1) = E k + 20 * (r : Int) := fun k => by rw [hE, hE, Int.natCast_succ, Int.mul_add, Int.mul_one]
      have E1 : E 1 = E 0 + 20 * (r : Int) := Es 0
      have E2 : E 2 = E 1 + 20 * (r : Int) := Es 1
      have E3 : E 3 = E 2 + 20 * (r : Int) := Es 2
      have hDE : E 4 = D4 := by
        have a := hE 4
        have b := hD 40
        rw [hD4] at b
        omega
      rw [hD4, hF, ← q40]
      repeat (first | (refine nf1_sound rfl ?_; simp [go_sem, ↓iO, iO, tN]) | refine anI ?_ | refine ⟨dcK, ?_⟩ | ((first | refine iP ?_ | refine iN ?_); try simp [go_sem, ↓iO, iO, tN]))
      refine nf1_sound' _ _ _ ?_; simp only [nf1]
      refine CW.loop (ι := Nat × Int) (fun j => ⟨[(6, .t (.int r)), (10, .t (.sl 1 [encPs F, encPs F])), (12, .t (encPs MM)), (13, .t (.int D4)), (18, .t (.int j.2)), (113, .t (encPs MM)), (114, .t (.int MM.length)), (115, .t (.int j.1))], []⟩)
        (fun j => j.1 ≤ MM.length ∧ lastC (MM.drop j.1) j.2 = true ∧ -1 ≤ j.2 ∧ j.2 < 1000) (fun j => MM.length - j.1) (0, -1) [] ⟨by simp, hor, by simp⟩ ?_ ?_
      · simp [go_sem, ↓iO, iO, tN]
      rintro ⟨j, a⟩ ⟨hj, hla, ha1, ha2⟩
      dsimp only at hj hla ha1 ha2 ⊢
      by_cases hjb : j < MM.length
      · obtain ⟨p, hp⟩ := has_get hjb
        have hpe := hCe p (mem_get hp)
        rw [drop_get hp] at hla
        simp only [lastC] at hla
        obtain ⟨p1, p2⟩ := p
        dsimp only at hla hpe
        by_cases h9 : p1 = 9
        · rw [if_neg (by omega)] at hla
          repeat (first | (refine nf1_sound rfl ?_; simp [go_sem, ↓iO, iO, tN, hp, h9]) | refine anI ?_ | refine ⟨dcK, ?_⟩ | ((first | refine iP ?_ | refine iN ?_); try simp [go_sem, ↓iO, iO, tN, hp, h9]))
          rw [RoundQ_normal]; refine ⟨(j + 1, a), [], ?_, ?_, ?_⟩
          · exact ⟨by omega, hla, ha1, ha2⟩
          · omega
          simp [go_sem, ↓iO, iO, tN]
        · by_cases hlt : a < p1
          · rw [if_pos ⟨h9, hlt⟩, Bool.and_eq_true, decide_eq_true_eq] at hla
            obtain ⟨hp1, hla⟩ := hla
            repeat (first | (refine nf1_sound rfl ?_; simp [go_sem, ↓iO, iO, tN, hp, h9]) | refine anI ?_ | refine ⟨dcK, ?_⟩ | ((first | refine iP ?_ | refine iN ?_); try simp [go_sem, ↓iO, iO, tN, hp, h9]))
            rw [RoundQ_normal]; refine ⟨(j + 1, p1), [], ?_, ?_, ?_⟩
            · exact ⟨by omega, hla, by omega, by omega⟩
            · omega
            simp [go_sem, ↓iO, iO, tN]
          · rw [if_neg (by omega)] at hla
            repeat (first | (refine nf1_sound rfl ?_; simp [go_sem, ↓iO, iO, tN, hp, h9]) | refine anI ?_ | refine ⟨dcK, ?_⟩ | ((first | refine iP ?_ | refine iN ?_); try simp [go_sem, ↓iO, iO, tN, hp, h9]))
            rw [RoundQ_normal]; refine ⟨(j + 1, a), [], ?_, ?_, ?_⟩
            · exact ⟨by omega, hla, ha1, ha2⟩
            · omega
            simp [go_sem, ↓iO, iO, tN]
      · obtain rfl : j = MM.length := by omega
        repeat (first | (refine nf1_sound rfl ?_; simp [go_sem, ↓iO, iO, tN]) | refine anI ?_ | refine ⟨dcK, ?_⟩ | ((first | refine iP ?_ | refine iN ?_); try simp [go_sem, ↓iO, iO, tN]))
        refine nf1_sound' _ _ _ ?_; simp only [nf1]
        refine CW.loop (ι := Nat) (fun b => ⟨[(6, .t (.int r)), (10, .t (.sl 1 [encPs F, encPs F])), (12, .t (encPs MM)), (13, .t (.int D4)), (21, .t (.int (E b))), (22, .t (.int b))], []⟩) (fun b => b ≤ 4) (fun b => 4 - b) 0 [] (by omega) ?_ ?_
        · simp [go_sem, ↓iO, iO, tN, E0]
        intro b hb4
        by_cases hbb : b < 4
        · have cva := tvolume_fn [MM] (b : Int) (by simp) (fun l hl => by simp at hl; subst hl; exact hCv)
          have cvb := tvolume_fn [F, F] (b : Int) (by simp) (fun l hl => by simp at hl; subst hl; exact hfv)
          have hs4 := hsum b (by omega)
          have vb1 := volV_bd (b : Int) [MM] (fun l hl => by simp at hl; subst hl; exact hCv)
          have vb2 := volV_bd (b : Int) [F, F] (fun l hl => by simp at hl; subst hl; exact hfv)
          have v1 : volV (b : Int) [MM] = Pc.of_ MM b := by simp [volV]
          have v2 : volV (b : Int) [F, F] = 2 * Pc.of_ F b := by simp only [volV]; omega
          obtain ⟨V1, hV1⟩ : ∃ X, volV (b : Int) [MM] = X := ⟨_, rfl⟩
          obtain ⟨V2, hV2⟩ : ∃ X, volV (b : Int) [F, F] = X := ⟨_, rfl⟩
          rw [hV1] at cva v1 vb1
          rw [hV2] at cvb v2 vb2
          simp only [List.map_cons, List.map_nil] at cva cvb
          have es := Es b
          have eb : 0 ≤ E b ∧ E b ≤ 1000 := by
            have : b = 0 ∨ b = 1 ∨ b = 2 ∨ b = 3 := by omega
            rcases this with rfl | rfl | rfl | rfl <;> omega
          have e3 : E b + (V1 + V2) = E (b + 1) := by omega
          have e4 : V1 + V2 = 20 * (r : Int) := by omega
          repeat (first | (refine nf1_sound rfl ?_; simp [go_sem, ↓iO, iO, tN]) | refine anI ?_ | refine ⟨dcK, ?_⟩ | ((first | refine iP ?_ | refine iN ?_); try simp [go_sem, ↓iO, iO, tN]))
          refine CallK.fn (cva) [] [242] [] (by kernel_rfl) ?_ ?_ ?_ (Or.inr ⟨?_, ?_⟩) ?_ <;> simp [go_sem, ↓iO, iO, tN]
          repeat (refine anI ?_)
          try (refine ⟨dcK, ?_⟩)
          refine CallK.fn (cvb) [] [] [] (by kernel_rfl) ?_ ?_ ?_ (Or.inl rfl) ?_ <;> simp [go_sem, ↓iO, iO, tN]
          repeat (refine anI ?_)
          try (refine ⟨dcK, ?_⟩)
          repeat (first | (refine nf1_sound rfl ?_; simp [go_sem, ↓iO, iO, tN, e3]) | refine anI ?_ | refine ⟨dcK, ?_⟩ | ((first | refine iP ?_ | refine iN ?_); try simp [go_sem, ↓iO, iO, tN, e3]))
          refine CallK.fn (cva) [] [251] [] (by kernel_rfl) ?_ ?_ ?_ (Or.inr ⟨?_, ?_⟩) ?_ <;> simp [go_sem, ↓iO, iO, tN]
          repeat (refine anI ?_)
          try (refine ⟨dcK, ?_⟩)
          refine CallK.fn (cvb) [] [] [] (by kernel_rfl) ?_ ?_ ?_ (Or.inl rfl) ?_ <;> simp [go_sem, ↓iO, iO, tN]
          repeat (refine anI ?_)
          try (refine ⟨dcK, ?_⟩)
          repeat (first | (refine nf1_sound rfl ?_; simp [go_sem, ↓iO, iO, tN, e3, e4]) | refine anI ?_ | refine ⟨dcK, ?_⟩ | ((first | refine iP ?_ | refine iN ?_); try simp [go_sem, ↓iO, iO, tN, e3, e4]))
          rw [RoundQ_normal]; refine ⟨b + 1, [], ?_, ?_, ?_⟩
          · omega
          · omega
          simp [go_sem, ↓iO, iO, tN]
        · obtain rfl : b = 4 := by omega
          have crun := running_fn
          rw [hDE]
          repeat (first | (refine nf1_sound rfl ?_; simp [go_sem, ↓iO, iO, tN]) | refine anI ?_ | refine ⟨dcK, ?_⟩ | ((first | refine iP ?_ | refine iN ?_); try simp [go_sem, ↓iO, iO, tN]))
          refine CallK.fn (crun) [] [] [] (by kernel_rfl) ?_ ?_ ?_ (Or.inl rfl) ?_ <;> simp [go_sem, ↓iO, iO, tN]
          repeat (refine anI ?_)
          try (refine ⟨dcK, ?_⟩)
          repeat (first | (refine nf1_sound rfl ?_; simp [go_sem, ↓iO, iO, tN]) | refine anI ?_ | refine ⟨dcK, ?_⟩ | ((first | refine iP ?_ | refine iN ?_); try simp [go_sem, ↓iO, iO, tN]))
          first | rw [RetQ_ret] | rw [RetQ_normal]
          refine ⟨[], ?_⟩
          simp [go_sem, ↓iO, iO, tN]
  | n + 3, h => omega
end Go.Proofs.YtdjmklobfjigoaaGreatDoor
namespace Go.Proofs.YtdjmklobfjigoaaGreatDoor
open Go.RowKit Sy
theorem u8_in {x : T} (h : InSh (.int .u8) x) : ∃ n, x = .lit (.int .u8 n) ∧ 0 ≤ n ∧ n ≤ 255 := by
  obtain ⟨n, rfl, hw⟩ := insh_int h
  exact ⟨n, rfl, by simpa [Lit.wf, IntKind.min, IntKind.max, IntKind.signed, IntKind.bits] using hw⟩
theorem i64s_in {x : T} (h : InSh (.sl (.int .i64)) x) : ∃ l, x = encIs l ∧ l.length ≤ 9223372036854775807 ∧ ∀ z ∈ l, -9223372036854775808 ≤ z ∧ z ≤ 9223372036854775807 := by
  obtain ⟨xs, rfl, hl, hx⟩ := insh_sl h
  obtain ⟨l, rfl, hq⟩ := insh_list (en := encI) (Q := fun z => -9223372036854775808 ≤ z ∧ z ≤ 9223372036854775807) (fun y hy => by
    obtain ⟨n, rfl, hw⟩ := insh_int hy
    exact ⟨n, rfl, wf_i64 hw⟩) xs hx
  exact ⟨l, rfl, by rw [List.length_map] at hl; unfold maxLen at hl; omega, hq⟩
theorem loops_all (x0 x1 : T) (i0 : InSh (.sl (.int .i64)) x0) (i1 : InSh (.int .u8) x1) : FnOk Tryz.prog 3 [.t x0, .t x1] [] (.t (.bool true)) [] := by
  obtain ⟨l, rfl, hl, wf⟩ := i64s_in i0
  obtain ⟨u, rfl, h1, h2⟩ := u8_in i1
  exact loops_fn l hl wf u ⟨h1, h2⟩
end Go.Proofs.YtdjmklobfjigoaaGreatDoor
