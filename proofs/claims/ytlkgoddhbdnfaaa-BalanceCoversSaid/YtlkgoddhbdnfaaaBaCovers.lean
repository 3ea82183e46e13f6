/- The law BalanceCovers. No condition. -/
import Derived.Test.YtlkgoddhbdnfaaaBaReal
import Derived.Test.YtlkgoddhbdnfaaaBaDraw
import Derived.Test.YtlkgoddhbdnfaaaBaAwake
import Derived.Test.YtlkgoddhbdnfaaaKArg
namespace Go.Proofs.Ytlkgoddhbdnfaaa
open Go.RowKit Sy
set_option linter.unusedVariables false
set_option linter.unusedSimpArgs false
@[go_sem] def encI8 (n : Int) : T := .lit (.int .i8 n)
@[go_sem] def encI8s (l : List Int) : T := .sl 1 (l.map encI8)
theorem near_real {a : Acc} {b : Bal} {w : Int} (ha : AccOk a) (hp : a.p ≤ 10) (hb : SmallB b) (h1 : -128 ≤ w) (h2 : w ≤ 127) : NearB (realB a b w) := by
  have m1 := mul_le2 hb.1.1 hb.1.2 ha.1.1 ha.1.2
  have m2 := mul_le2 hb.2.1.1 hb.2.1.2 ha.1.1 ha.1.2
  have r1 := adj_range (v := b.i * a.m / 1000000) (by omega) h1 h2
  have r2 := adj_range (v := b.o * a.m / 1000000) (by omega) h1 h2
  have r3 := adj_range (v := a.p) ha.2.1 h1 h2
  have q1 := hb.1
  have q2 := hb.2.1
  have q3 := hb.2.2
  unfold realB NearB
  dsimp only
  omega
theorem real_near {a : Acc} {x : List Bal} {ws : List Int} (ha : AccOk a) (hp : a.p ≤ 10) (hx : ∀ b ∈ x, SmallB b) (hw : WsOk ws) : ∀ b ∈ realL a x ws, NearB b := by
  intro b hb
  obtain ⟨k, hk⟩ := List.mem_iff_getElem?.1 hb
  have hkl : k < x.length := by
    have := (List.getElem?_eq_some_iff.1 hk).1
    rwa [realL_len] at this
  obtain ⟨c, hc⟩ := has_get hkl
  rw [realL_get a hc] at hk
  obtain rfl := Option.some.inj hk
  exact near_real ha hp (hx c (mem_get hc)) (ws_at hw k).1 (ws_at hw k).2
def accN (R : List Bal) (t k : Nat) : Int := pAt R 0 - pAt R t + sumI ((R.take k).drop 1) - sumO ((R.take k).drop 1)
theorem drop_snoc {α : Type} {l : List α} {k : Nat} {b : α} (h : l[k]? = some b) (hk : 1 ≤ k) : (l.take (k + 1)).drop 1 = (l.take k).drop 1 ++ [b] := by
  have hl : k < l.length := (List.getElem?_eq_some_iff.1 h).1
  rw [take_snoc h, List.drop_append_of_le_length (by rw [List.length_take]; omega)]
theorem accN_snoc {R : List Bal} {t k : Nat} {b : Bal} (h : R[k]? = some b) (hk : 1 ≤ k) : accN R t (k + 1) = accN R t k + b.i - b.o := by
  unfold accN
  rw [drop_snoc h hk, sumI_app, sumO_app]
  simp only [sumI, sumO]
  omega
theorem accN_end (R : List Bal) (t : Nat) : accN R t (t + 1) = missV R 0 t := by
  unfold accN missV winB
  simp only [Nat.zero_add]
  omega
theorem realB_zero (a : Acc) (b : Bal) : realB a b 0 = b := by
  unfold realB adjV
  simp
theorem accN_range {R : List Bal} {t k : Nat} (h : ∀ b ∈ R, NearB b) (h0 : 0 < R.length) (ht : t < R.length) (hl : R.length ≤ 30) : -100000 ≤ accN R t k ∧ accN R t k ≤ 100000 := by
  have hm : ∀ b ∈ (R.take k).drop 1, NearB b := fun b hb => h b (List.mem_of_mem_take (List.mem_of_mem_drop hb))
  have hs := near_sum hm
  have hl2 : ((R.take k).drop 1).length ≤ 30 := by rw [List.length_drop, List.length_take]; omega
  obtain ⟨b0, hb0⟩ := has_get h0
  obtain ⟨bt, hbt⟩ := has_get ht
  have q0 := (h b0 (mem_get hb0)).2.2
  have qt := (h bt (mem_get hbt)).2.2
  unfold accN
  rw [pAt_eq hb0, pAt_eq hbt]
  omega
theorem accN_one (R : List Bal) (t : Nat) : accN R t 1 = pAt R 0 - pAt R t := by
  unfold accN
  have : (R.take 1).drop 1 = [] := by cases R <;> simp
  rw [this]
  simp [sumI, sumO]
theorem quo128 (P : Int) (h : -1000000 ≤ P ∧ P ≤ 1000000) : ∀ K : Value → Prop, binV .quo (.int .i64 P) (.int .i64 128) K = K (.int .i64 (P.tdiv 128)) := by
  intro K
  rcases tdiv128 P with ⟨a, b⟩ | ⟨a, b⟩
  · rw [b]
    simp only [binV]
    rw [if_pos ⟨a, by omega⟩, if_pos (show inR .i64 P by simp only [inR]; omega)]
    simp
  · rw [b]
    simp only [binV, arK]
    rw [if_neg (by omega), if_neg (by omega)]
    simp [inR, b]
    intro; omega
theorem tdiv_r (P : Int) : (0 ≤ P ∧ P.tdiv 128 = P / 128) ∨ (P < 0 ∧ P.tdiv 128 = -((-P) / 128)) := tdiv128 P
set_option maxRecDepth 100000 in
set_option maxHeartbeats 8000000 in
theorem covers_fn (l ws : List Int) (hl : l.length ≤ 9223372036854775807) (wf : ∀ z ∈ l, -9223372036854775808 ≤ z ∧ z ≤ 9223372036854775807) (hwl : ws.length ≤ 9223372036854775807) (hws : WsOk ws) :
    FnOk Try.prog 3 [.t (encIs l), .t (encI8s ws)] [] (.t (.bool true)) [] := by
  have cf := few_fn l hl
  by_cases h4 : l.length ≤ 400
  · rw [decide_eq_true h4] at cf
    have h0 := new_ok wf
    obtain ⟨s, hm⟩ : ∃ m, newL2 l = m := ⟨_, rfl⟩
    have hnew := new_fn l hl
    rw [hm] at h0 hnew
    obtain ⟨k1, x, hk1, hx, hxl, c1⟩ := bals_ex h0 20 (by omega) (by omega)
    obtain ⟨a, ⟨ha, hap⟩, c2⟩ := acc_ex hk1
    obtain ⟨k2, hk2⟩ : ∃ k, nextK s (nextK s k1) = k := ⟨_, rfl⟩
    rw [hk2] at c2
    by_cases hsh : x.length < 2
    · refine FnOk.intro fact_mixed Try.func3 rfl Try.ntmps3 (by rfl) (by simp) ?_
      repeat (first | (refine nf1_sound rfl ?_; simp [go_sem, ↓IntWalk.iteOmega, IntWalk.iteOmega, IntWalk.toNatUp]; (repeat (refine And.intro (by omega) ?_)); try (refine ⟨DrawChk_of (by kernel_rfl), ?_⟩)) | (refine itePos (by omega) ?_; try simp [go_sem, ↓IntWalk.iteOmega, IntWalk.iteOmega, IntWalk.toNatUp]) | (refine iteNeg (by omega) ?_; try simp [go_sem, ↓IntWalk.iteOmega, IntWalk.iteOmega, IntWalk.toNatUp]))
      refine CallK.fn (cf) [] [] [] (by kernel_rfl) (by simp [go_sem, ↓IntWalk.iteOmega, IntWalk.iteOmega, IntWalk.toNatUp]) (by simp [go_sem, ↓IntWalk.iteOmega, IntWalk.iteOmega, IntWalk.toNatUp]) (by simp [go_sem, ↓IntWalk.iteOmega, IntWalk.iteOmega, IntWalk.toNatUp]) (Or.inl rfl) ?_
      simp [go_sem, ↓IntWalk.iteOmega, IntWalk.iteOmega, IntWalk.toNatUp]
      repeat (refine And.intro (by omega) ?_)
      try (refine ⟨DrawChk_of (by kernel_rfl), ?_⟩)
      repeat (first | (refine nf1_sound rfl ?_; simp [go_sem, ↓IntWalk.iteOmega, IntWalk.iteOmega, IntWalk.toNatUp]; (repeat (refine And.intro (by omega) ?_)); try (refine ⟨DrawChk_of (by kernel_rfl), ?_⟩)) | (refine itePos (by omega) ?_; try simp [go_sem, ↓IntWalk.iteOmega, IntWalk.iteOmega, IntWalk.toNatUp]) | (refine iteNeg (by omega) ?_; try simp [go_sem, ↓IntWalk.iteOmega, IntWalk.iteOmega, IntWalk.toNatUp]))
      refine CallK.fn (hnew) [(1000, 123)] [] [] (by kernel_rfl) (by simp [go_sem, ↓IntWalk.iteOmega, IntWalk.iteOmega, IntWalk.toNatUp]) (by simp [go_sem, ↓IntWalk.iteOmega, IntWalk.iteOmega, IntWalk.toNatUp]) (by simp [go_sem, ↓IntWalk.iteOmega, IntWalk.iteOmega, IntWalk.toNatUp]) (Or.inl rfl) ?_
      simp [go_sem, ↓IntWalk.iteOmega, IntWalk.iteOmega, IntWalk.toNatUp]
      repeat (refine And.intro (by omega) ?_)
      try (refine ⟨DrawChk_of (by kernel_rfl), ?_⟩)
      repeat (first | (refine nf1_sound rfl ?_; simp [go_sem, ↓IntWalk.iteOmega, IntWalk.iteOmega, IntWalk.toNatUp]; (repeat (refine And.intro (by omega) ?_)); try (refine ⟨DrawChk_of (by kernel_rfl), ?_⟩)) | (refine itePos (by omega) ?_; try simp [go_sem, ↓IntWalk.iteOmega, IntWalk.iteOmega, IntWalk.toNatUp]) | (refine iteNeg (by omega) ?_; try simp [go_sem, ↓IntWalk.iteOmega, IntWalk.iteOmega, IntWalk.toNatUp]))
      refine CallK.fn (c1) [(0, 123), (1000, 125)] [] [] (by kernel_rfl) (by simp [go_sem, ↓IntWalk.iteOmega, IntWalk.iteOmega, IntWalk.toNatUp]) (by simp [go_sem, ↓IntWalk.iteOmega, IntWalk.iteOmega, IntWalk.toNatUp]) (by simp [go_sem, ↓IntWalk.iteOmega, IntWalk.iteOmega, IntWalk.toNatUp]) (Or.inl rfl) ?_
      simp [go_sem, ↓IntWalk.iteOmega, IntWalk.iteOmega, IntWalk.toNatUp]
      repeat (refine And.intro (by omega) ?_)
      try (refine ⟨DrawChk_of (by kernel_rfl), ?_⟩)
      refine CallK.fn (c2) [(0, 123)] [] [] (by kernel_rfl) (by simp [go_sem, ↓IntWalk.iteOmega, IntWalk.iteOmega, IntWalk.toNatUp]) (by simp [go_sem, ↓IntWalk.iteOmega, IntWalk.iteOmega, IntWalk.toNatUp]) (by simp [go_sem, ↓IntWalk.iteOmega, IntWalk.iteOmega, IntWalk.toNatUp]) (Or.inl rfl) ?_
      simp [go_sem, ↓IntWalk.iteOmega, IntWalk.iteOmega, IntWalk.toNatUp]
      repeat (refine And.intro (by omega) ?_)
      try (refine ⟨DrawChk_of (by kernel_rfl), ?_⟩)
      repeat (first | (refine nf1_sound rfl ?_; simp [go_sem, ↓IntWalk.iteOmega, IntWalk.iteOmega, IntWalk.toNatUp]; (repeat (refine And.intro (by omega) ?_)); try (refine ⟨DrawChk_of (by kernel_rfl), ?_⟩)) | (refine itePos (by omega) ?_; try simp [go_sem, ↓IntWalk.iteOmega, IntWalk.iteOmega, IntWalk.toNatUp]) | (refine iteNeg (by omega) ?_; try simp [go_sem, ↓IntWalk.iteOmega, IntWalk.iteOmega, IntWalk.toNatUp]))
      refine CallK.fn (awake_fn) [] [] [] (by kernel_rfl) (by simp [go_sem, ↓IntWalk.iteOmega, IntWalk.iteOmega, IntWalk.toNatUp]) (by simp [go_sem, ↓IntWalk.iteOmega, IntWalk.iteOmega, IntWalk.toNatUp]) (by simp [go_sem, ↓IntWalk.iteOmega, IntWalk.iteOmega, IntWalk.toNatUp]) (Or.inl rfl) ?_
      simp [go_sem, ↓IntWalk.iteOmega, IntWalk.iteOmega, IntWalk.toNatUp]
      repeat (refine And.intro (by omega) ?_)
      try (refine ⟨DrawChk_of (by kernel_rfl), ?_⟩)
      repeat (first | (refine nf1_sound rfl ?_; simp [go_sem, ↓IntWalk.iteOmega, IntWalk.iteOmega, IntWalk.toNatUp]; (repeat (refine And.intro (by omega) ?_)); try (refine ⟨DrawChk_of (by kernel_rfl), ?_⟩)) | (refine itePos (by omega) ?_; try simp [go_sem, ↓IntWalk.iteOmega, IntWalk.iteOmega, IntWalk.toNatUp]) | (refine iteNeg (by omega) ?_; try simp [go_sem, ↓IntWalk.iteOmega, IntWalk.iteOmega, IntWalk.toNatUp]))
      first | rw [RetQ_ret] | rw [RetQ_normal]
      refine ⟨[], ?_⟩
      simp [go_sem, ↓IntWalk.iteOmega, IntWalk.iteOmega, IntWalk.toNatUp]
    · have hR := real_near ha hap hx hws
      have hRl := realL_len a x ws
      have hbs := real_bounds (t := x.length - 1) ha (fun b hb => small_ok (hx b hb)) hws (by omega) (by omega)
      have hbnd : bndV x a 0 (x.length - 1 : Nat) = (missV x 0 (x.length - 1) - wrongV x a 0 (x.length - 1), missV x 0 (x.length - 1) + wrongV x a 0 (x.length - 1), 0) := by
        unfold bndV checkA
        rw [check_ok (by omega) (fun b hb => small_ok (hx b hb)), if_pos rfl, if_pos ha, if_pos (show WinOk x 0 ((x.length - 1 : Nat) : Int) from ⟨by omega, by omega, by omega⟩), if_pos rfl]
        simp
      have cb := bnd_fn x a 0 (x.length - 1 : Nat) (by omega) _ _ _ hbnd
      have hend := accN_end (realL a x ws) (x.length - 1)
      have hone := accN_one (realL a x ws) (x.length - 1)
      have hrng := fun k => accN_range (R := realL a x ws) (t := x.length - 1) (k := k) hR (by omega) (by omega) (by omega)
      have hget : ∀ {k b}, x[k]? = some b → (realL a x ws)[k]? = some (realB a b ((ws[k]?).getD 0)) := fun h => realL_get a h
      have hsn := fun (k : Nat) (b : Bal) (h : (realL a x ws)[k]? = some b) (h1 : 1 ≤ k) => accN_snoc (t := x.length - 1) h h1
      obtain ⟨lo, hlo⟩ : ∃ v, missV x 0 (x.length - 1) - wrongV x a 0 (x.length - 1) = v := ⟨_, rfl⟩
      obtain ⟨hi, hhi⟩ : ∃ v, missV x 0 (x.length - 1) + wrongV x a 0 (x.length - 1) = v := ⟨_, rfl⟩
      obtain ⟨R, hRR⟩ : ∃ R, realL a x ws = R := ⟨_, rfl⟩
      rw [hRR] at hR hRl hbs hend hone
      simp only [hRR] at hrng hget hsn
      rw [hlo, hhi] at hbs cb
      rw [← hend] at hbs
      have e0 : ((x.length - 1 : Nat) : Int) = (x.length : Int) - 1 := by omega
      obtain ⟨am, ap⟩ := a
      have a1 : 0 ≤ am := ha.1.1
      have a2 : am ≤ 100000 := ha.1.2
      have a3 : 0 ≤ ap := ha.2.1
      have a4 : ap ≤ 10 := hap
      refine FnOk.intro fact_mixed Try.func3 rfl Try.ntmps3 (by rfl) (by simp) ?_
      repeat (first | (refine nf1_sound rfl ?_; simp [go_sem, ↓IntWalk.iteOmega, IntWalk.iteOmega, IntWalk.toNatUp]; (repeat (refine And.intro (by omega) ?_)); try (refine ⟨DrawChk_of (by kernel_rfl), ?_⟩)) | (refine itePos (by omega) ?_; try simp [go_sem, ↓IntWalk.iteOmega, IntWalk.iteOmega, IntWalk.toNatUp]) | (refine iteNeg (by omega) ?_; try simp [go_sem, ↓IntWalk.iteOmega, IntWalk.iteOmega, IntWalk.toNatUp]))
      refine CallK.fn (cf) [] [] [] (by kernel_rfl) (by simp [go_sem, ↓IntWalk.iteOmega, IntWalk.iteOmega, IntWalk.toNatUp]) (by simp [go_sem, ↓IntWalk.iteOmega, IntWalk.iteOmega, IntWalk.toNatUp]) (by simp [go_sem, ↓IntWalk.iteOmega, IntWalk.iteOmega, IntWalk.toNatUp]) (Or.inl rfl) ?_
      simp [go_sem, ↓IntWalk.iteOmega, IntWalk.iteOmega, IntWalk.toNatUp]
      repeat (refine And.intro (by omega) ?_)
      try (refine ⟨DrawChk_of (by kernel_rfl), ?_⟩)
      repeat (first | (refine nf1_sound rfl ?_; simp [go_sem, ↓IntWalk.iteOmega, IntWalk.iteOmega, IntWalk.toNatUp]; (repeat (refine And.intro (by omega) ?_)); try (refine ⟨DrawChk_of (by kernel_rfl), ?_⟩)) | (refine itePos (by omega) ?_; try simp [go_sem, ↓IntWalk.iteOmega, IntWalk.iteOmega, IntWalk.toNatUp]) | (refine iteNeg (by omega) ?_; try simp [go_sem, ↓IntWalk.iteOmega, IntWalk.iteOmega, IntWalk.toNatUp]))
      refine CallK.fn (hnew) [(1000, 123)] [] [] (by kernel_rfl) (by simp [go_sem, ↓IntWalk.iteOmega, IntWalk.iteOmega, IntWalk.toNatUp]) (by simp [go_sem, ↓IntWalk.iteOmega, IntWalk.iteOmega, IntWalk.toNatUp]) (by simp [go_sem, ↓IntWalk.iteOmega, IntWalk.iteOmega, IntWalk.toNatUp]) (Or.inl rfl) ?_
      simp [go_sem, ↓IntWalk.iteOmega, IntWalk.iteOmega, IntWalk.toNatUp]
      repeat (refine And.intro (by omega) ?_)
      try (refine ⟨DrawChk_of (by kernel_rfl), ?_⟩)
      repeat (first | (refine nf1_sound rfl ?_; simp [go_sem, ↓IntWalk.iteOmega, IntWalk.iteOmega, IntWalk.toNatUp]; (repeat (refine And.intro (by omega) ?_)); try (refine ⟨DrawChk_of (by kernel_rfl), ?_⟩)) | (refine itePos (by omega) ?_; try simp [go_sem, ↓IntWalk.iteOmega, IntWalk.iteOmega, IntWalk.toNatUp]) | (refine iteNeg (by omega) ?_; try simp [go_sem, ↓IntWalk.iteOmega, IntWalk.iteOmega, IntWalk.toNatUp]))
      refine CallK.fn (c1) [(0, 123), (1000, 125)] [] [] (by kernel_rfl) (by simp [go_sem, ↓IntWalk.iteOmega, IntWalk.iteOmega, IntWalk.toNatUp]) (by simp [go_sem, ↓IntWalk.iteOmega, IntWalk.iteOmega, IntWalk.toNatUp]) (by simp [go_sem, ↓IntWalk.iteOmega, IntWalk.iteOmega, IntWalk.toNatUp]) (Or.inl rfl) ?_
      simp [go_sem, ↓IntWalk.iteOmega, IntWalk.iteOmega, IntWalk.toNatUp]
      repeat (refine And.intro (by omega) ?_)
      try (refine ⟨DrawChk_of (by kernel_rfl), ?_⟩)
      refine CallK.fn (c2) [(0, 123)] [] [] (by kernel_rfl) (by simp [go_sem, ↓IntWalk.iteOmega, IntWalk.iteOmega, IntWalk.toNatUp]) (by simp [go_sem, ↓IntWalk.iteOmega, IntWalk.iteOmega, IntWalk.toNatUp]) (by simp [go_sem, ↓IntWalk.iteOmega, IntWalk.iteOmega, IntWalk.toNatUp]) (Or.inl rfl) ?_
      simp [go_sem, ↓IntWalk.iteOmega, IntWalk.iteOmega, IntWalk.toNatUp]
      repeat (refine And.intro (by omega) ?_)
      try (refine ⟨DrawChk_of (by kernel_rfl), ?_⟩)
      repeat (first | (refine nf1_sound rfl ?_; simp [go_sem, ↓IntWalk.iteOmega, IntWalk.iteOmega, IntWalk.toNatUp]; (repeat (refine And.intro (by omega) ?_)); try (refine ⟨DrawChk_of (by kernel_rfl), ?_⟩)) | (refine itePos (by omega) ?_; try simp [go_sem, ↓IntWalk.iteOmega, IntWalk.iteOmega, IntWalk.toNatUp]) | (refine iteNeg (by omega) ?_; try simp [go_sem, ↓IntWalk.iteOmega, IntWalk.iteOmega, IntWalk.toNatUp]))
      refine nf1_sound' _ _ _ ?_; simp only [nf1]
      refine CW.loop (ι := Nat) (fun k => ⟨[(1, .t (encI8s ws)), (6, .own 501), (7, .pt 502 [] 0), (8, .own 503), (9, .t (.int k))], [(501, blkBs x), (502, .box 31 (.t (encA ⟨am, ap⟩))), (503, blkBs (R.take k))]⟩) (fun k => k ≤ x.length) (fun k => x.length - k) 0 [(501, some 125), (502, some 107), (503, none)] (by omega) ?_ ?_
      · simp [go_sem, ↓IntWalk.iteOmega, IntWalk.iteOmega, IntWalk.toNatUp]
      intro k hk
      by_cases hb : k < x.length
      · obtain ⟨b, hp⟩ := has_get hb
        have hbo := hx b (mem_get hp)
        have hRk := hget hp
        have hsnc := take_snoc hRk
        obtain ⟨bi, bo, bp⟩ := b
        have b1 : 0 ≤ bi := hbo.1.1
        have b2 : bi ≤ 99 := hbo.1.2
        have b3 : 0 ≤ bo := hbo.2.1.1
        have b4 : bo ≤ 108 := hbo.2.1.2
        have b5 : 0 ≤ bp := hbo.2.2.1
        have b6 : bp ≤ 20000 := hbo.2.2.2
        have m1 := mul_le2 b1 b2 a1 a2
        have m2 := mul_le2 b3 b4 a1 a2
        have hlt : (R.take k).length = k := by rw [List.length_take]; omega
        obtain ⟨T, hT⟩ : ∃ T, R.take k = T := ⟨_, rfl⟩
        rw [hT] at hsnc hlt
        by_cases hw : k < ws.length
        · obtain ⟨w, hwk⟩ := has_get hw
          have hww := hws w (mem_get hwk)
          rw [hwk, Option.getD_some] at hsnc
          have hrb : realB ⟨am, ap⟩ ⟨bi, bo, bp⟩ w = ⟨bi + (bi * am / 1000000 * w).tdiv 128, bo - (bo * am / 1000000 * w).tdiv 128, bp + (ap * w).tdiv 128⟩ := rfl
          rw [hrb] at hsnc
          obtain ⟨E1, hE1⟩ : ∃ E, bi * am = E := ⟨_, rfl⟩
          obtain ⟨E2, hE2⟩ : ∃ E, bo * am = E := ⟨_, rfl⟩
          rw [hE1] at m1 hsnc
          rw [hE2] at m2 hsnc
          obtain ⟨V1, hV1⟩ : ∃ E, E1 / 1000000 = E := ⟨_, rfl⟩
          obtain ⟨V2, hV2⟩ : ∃ E, E2 / 1000000 = E := ⟨_, rfl⟩
          have v1 : 0 ≤ V1 ∧ V1 ≤ 10 := by omega
          have v2 : 0 ≤ V2 ∧ V2 ≤ 11 := by omega
          have n1 := adj_mul v1.1 hww.1 hww.2
          have n2 := adj_mul v2.1 hww.1 hww.2
          have n3 := adj_mul a3 hww.1 hww.2
          rw [hV1, hV2] at hsnc
          obtain ⟨P1, hP1⟩ : ∃ E, V1 * w = E := ⟨_, rfl⟩
          obtain ⟨P2, hP2⟩ : ∃ E, V2 * w = E := ⟨_, rfl⟩
          obtain ⟨P3, hP3⟩ : ∃ E, ap * w = E := ⟨_, rfl⟩
          rw [hP1] at n1 hsnc
          rw [hP2] at n2 hsnc
          rw [hP3] at n3 hsnc
          have z1 := quo128 P1 (by omega)
          have z2 := quo128 P2 (by omega)
          have z3 := quo128 P3 (by omega)
          have y1 := tdiv_r P1
          have y2 := tdiv_r P2
          have y3 := tdiv_r P3
          obtain ⟨Q1, hQ1⟩ : ∃ E, P1.tdiv 128 = E := ⟨_, rfl⟩
          obtain ⟨Q2, hQ2⟩ : ∃ E, P2.tdiv 128 = E := ⟨_, rfl⟩
          obtain ⟨Q3, hQ3⟩ : ∃ E, P3.tdiv 128 = E := ⟨_, rfl⟩
          rw [hQ1] at y1 hsnc
          rw [hQ2] at y2 hsnc
          rw [hQ3] at y3 hsnc
          simp only [hQ1] at z1
          simp only [hQ2] at z2
          simp only [hQ3] at z3
          repeat (first | (refine nf1_sound rfl ?_; simp [go_sem, ↓IntWalk.iteOmega, IntWalk.iteOmega, IntWalk.toNatUp, hp, hwk, hT, hE1, hE2, hV1, hV2, hP1, hP2, hP3, ↓z1, ↓z2, ↓z3]; (repeat (refine And.intro (by omega) ?_)); try (refine ⟨DrawChk_of (by kernel_rfl), ?_⟩)) | (refine itePos (by omega) ?_; try simp [go_sem, ↓IntWalk.iteOmega, IntWalk.iteOmega, IntWalk.toNatUp, hp, hwk, hT, hE1, hE2, hV1, hV2, hP1, hP2, hP3, ↓z1, ↓z2, ↓z3]) | (refine iteNeg (by omega) ?_; try simp [go_sem, ↓IntWalk.iteOmega, IntWalk.iteOmega, IntWalk.toNatUp, hp, hwk, hT, hE1, hE2, hV1, hV2, hP1, hP2, hP3, ↓z1, ↓z2, ↓z3]))
          rw [RoundQ_normal]; refine ⟨k + 1, [(501, some 501), (502, some 502), (503, some 189)], ?_, ?_, ?_⟩
          · omega
          · omega
          have hs2 : List.take (k + 1) (R.map encB) = T.map encB ++ [encB ⟨bi + Q1, bo - Q2, bp + Q3⟩] := by rw [← List.map_take, hsnc, List.map_append]; rfl
          simp [go_sem, ↓IntWalk.iteOmega, IntWalk.iteOmega, IntWalk.toNatUp, hs2]
        · have hwn : ws[k]? = none := by rw [List.getElem?_eq_none_iff]; omega
          rw [hwn, Option.getD_none, realB_zero] at hsnc
          obtain ⟨E1, hE1⟩ : ∃ E, bi * am = E := ⟨_, rfl⟩
          obtain ⟨E2, hE2⟩ : ∃ E, bo * am = E := ⟨_, rfl⟩
          rw [hE1] at m1
          rw [hE2] at m2
          repeat (first | (refine nf1_sound rfl ?_; simp [go_sem, ↓IntWalk.iteOmega, IntWalk.iteOmega, IntWalk.toNatUp, hp, hT, hE1, hE2]; (repeat (refine And.intro (by omega) ?_)); try (refine ⟨DrawChk_of (by kernel_rfl), ?_⟩)) | (refine itePos (by omega) ?_; try simp [go_sem, ↓IntWalk.iteOmega, IntWalk.iteOmega, IntWalk.toNatUp, hp, hT, hE1, hE2]) | (refine iteNeg (by omega) ?_; try simp [go_sem, ↓IntWalk.iteOmega, IntWalk.iteOmega, IntWalk.toNatUp, hp, hT, hE1, hE2]))
          rw [RoundQ_normal]; refine ⟨k + 1, [(501, some 501), (502, some 502), (503, some 189)], ?_, ?_, ?_⟩
          · omega
          · omega
          have hs2 : List.take (k + 1) (R.map encB) = T.map encB ++ [encB ⟨bi, bo, bp⟩] := by rw [← List.map_take, hsnc, List.map_append]; rfl
          simp [go_sem, ↓IntWalk.iteOmega, IntWalk.iteOmega, IntWalk.toNatUp, hs2]
      · obtain rfl : k = x.length := by omega
        have hTR : R.take x.length = R := by rw [← hRl, List.take_length]
        obtain ⟨r0, hr0⟩ := has_get (show 0 < R.length by omega)
        obtain ⟨rt, hrt⟩ := has_get (show x.length - 1 < R.length by omega)
        have q0 := hR r0 (mem_get hr0)
        have qt := hR rt (mem_get hrt)
        rw [pAt_eq hr0, pAt_eq hrt] at hone
        obtain ⟨r0i, r0o, r0p⟩ := r0
        obtain ⟨rti, rto, rtp⟩ := rt
        have q1 : -30000 ≤ r0p ∧ r0p ≤ 30000 := q0.2.2
        have q2 : -30000 ≤ rtp ∧ rtp ≤ 30000 := qt.2.2
        dsimp only at hone
        repeat (first | (refine nf1_sound rfl ?_; simp [go_sem, ↓IntWalk.iteOmega, IntWalk.iteOmega, IntWalk.toNatUp, hTR, hr0, hrt]; (repeat (refine And.intro (by omega) ?_)); try (refine ⟨DrawChk_of (by kernel_rfl), ?_⟩)) | (refine itePos (by omega) ?_; try simp [go_sem, ↓IntWalk.iteOmega, IntWalk.iteOmega, IntWalk.toNatUp, hTR, hr0, hrt]) | (refine iteNeg (by omega) ?_; try simp [go_sem, ↓IntWalk.iteOmega, IntWalk.iteOmega, IntWalk.toNatUp, hTR, hr0, hrt]))
        refine nf1_sound' _ _ _ ?_; simp only [nf1]
        refine CW.loop (ι := Nat) (fun k => ⟨[(6, .own 501), (7, .pt 502 [] 0), (8, .own 503), (12, .t (.int (x.length - 1))), (13, .t (.int (accN R (x.length - 1) (k + 1)))), (14, .t (.int (k + 1)))], [(501, blkBs x), (502, .box 31 (.t (encA ⟨am, ap⟩))), (503, blkBs R)]⟩) (fun k => k ≤ x.length - 1) (fun k => x.length - k) 0 [(501, some 501), (502, some 502), (503, some 503)] (by omega) ?_ ?_
        · simp [go_sem, ↓IntWalk.iteOmega, IntWalk.iteOmega, IntWalk.toNatUp, hone]
        intro k hk
        by_cases hb : k < x.length - 1
        · obtain ⟨r, hr⟩ := has_get (show k + 1 < R.length by omega)
          have hsk := hsn (k + 1) r hr (by omega)
          have g1 := hrng (k + 1)
          have qr := hR r (mem_get hr)
          obtain ⟨ri, ro, rp⟩ := r
          have w1 : -200 ≤ ri ∧ ri ≤ 200 := qr.1
          have w2 : -200 ≤ ro ∧ ro ≤ 200 := qr.2.1
          dsimp only at hsk
          obtain ⟨A, hA⟩ : ∃ A, accN R (x.length - 1) (k + 1) = A := ⟨_, rfl⟩
          rw [hA] at hsk g1 ⊢
          repeat (first | (refine nf1_sound rfl ?_; simp [go_sem, ↓IntWalk.iteOmega, IntWalk.iteOmega, IntWalk.toNatUp, hr]; (repeat (refine And.intro (by omega) ?_)); try (refine ⟨DrawChk_of (by kernel_rfl), ?_⟩)) | (refine itePos (by omega) ?_; try simp [go_sem, ↓IntWalk.iteOmega, IntWalk.iteOmega, IntWalk.toNatUp, hr]) | (refine iteNeg (by omega) ?_; try simp [go_sem, ↓IntWalk.iteOmega, IntWalk.iteOmega, IntWalk.toNatUp, hr]))
          rw [RoundQ_normal]; refine ⟨k + 1, [(501, some 501), (502, some 502), (503, some 503)], ?_, ?_, ?_⟩
          · omega
          · omega
          simp [go_sem, ↓IntWalk.iteOmega, IntWalk.iteOmega, IntWalk.toNatUp, hsk]
        · obtain rfl : k = x.length - 1 := by omega
          have g1 := hrng (x.length - 1 + 1)
          obtain ⟨A, hA⟩ : ∃ A, accN R (x.length - 1) (x.length - 1 + 1) = A := ⟨_, rfl⟩
          rw [hA] at hbs g1 ⊢
          obtain ⟨lo1, hi1⟩ := hbs
          rw [e0] at cb
          repeat (first | (refine nf1_sound rfl ?_; simp [go_sem, ↓IntWalk.iteOmega, IntWalk.iteOmega, IntWalk.toNatUp]; (repeat (refine And.intro (by omega) ?_)); try (refine ⟨DrawChk_of (by kernel_rfl), ?_⟩)) | (refine itePos (by omega) ?_; try simp [go_sem, ↓IntWalk.iteOmega, IntWalk.iteOmega, IntWalk.toNatUp]) | (refine iteNeg (by omega) ?_; try simp [go_sem, ↓IntWalk.iteOmega, IntWalk.iteOmega, IntWalk.toNatUp]))
          refine CallK.fn (cb) [] [501] [] (by kernel_rfl) (by simp [go_sem, ↓IntWalk.iteOmega, IntWalk.iteOmega, IntWalk.toNatUp]) (by simp [go_sem, ↓IntWalk.iteOmega, IntWalk.iteOmega, IntWalk.toNatUp]) (by simp [go_sem, ↓IntWalk.iteOmega, IntWalk.iteOmega, IntWalk.toNatUp]) (Or.inr ⟨by simp [go_sem, ↓IntWalk.iteOmega, IntWalk.iteOmega, IntWalk.toNatUp], by simp [go_sem, ↓IntWalk.iteOmega, IntWalk.iteOmega, IntWalk.toNatUp]⟩) ?_
          simp [go_sem, ↓IntWalk.iteOmega, IntWalk.iteOmega, IntWalk.toNatUp]
          repeat (refine And.intro (by omega) ?_)
          try (refine ⟨DrawChk_of (by kernel_rfl), ?_⟩)
          repeat (first | (refine nf1_sound rfl ?_; simp [go_sem, ↓IntWalk.iteOmega, IntWalk.iteOmega, IntWalk.toNatUp]; (repeat (refine And.intro (by omega) ?_)); try (refine ⟨DrawChk_of (by kernel_rfl), ?_⟩)) | (refine itePos (by omega) ?_; try simp [go_sem, ↓IntWalk.iteOmega, IntWalk.iteOmega, IntWalk.toNatUp]) | (refine iteNeg (by omega) ?_; try simp [go_sem, ↓IntWalk.iteOmega, IntWalk.iteOmega, IntWalk.toNatUp]))
          refine CallK.fn (awake_fn) [] [] [] (by kernel_rfl) (by simp [go_sem, ↓IntWalk.iteOmega, IntWalk.iteOmega, IntWalk.toNatUp]) (by simp [go_sem, ↓IntWalk.iteOmega, IntWalk.iteOmega, IntWalk.toNatUp]) (by simp [go_sem, ↓IntWalk.iteOmega, IntWalk.iteOmega, IntWalk.toNatUp]) (Or.inl rfl) ?_
          simp [go_sem, ↓IntWalk.iteOmega, IntWalk.iteOmega, IntWalk.toNatUp]
          repeat (refine And.intro (by omega) ?_)
          try (refine ⟨DrawChk_of (by kernel_rfl), ?_⟩)
          repeat (first | (refine nf1_sound rfl ?_; simp [go_sem, ↓IntWalk.iteOmega, IntWalk.iteOmega, IntWalk.toNatUp]; (repeat (refine And.intro (by omega) ?_)); try (refine ⟨DrawChk_of (by kernel_rfl), ?_⟩)) | (refine itePos (by omega) ?_; try simp [go_sem, ↓IntWalk.iteOmega, IntWalk.iteOmega, IntWalk.toNatUp]) | (refine iteNeg (by omega) ?_; try simp [go_sem, ↓IntWalk.iteOmega, IntWalk.iteOmega, IntWalk.toNatUp]))
          first | rw [RetQ_ret] | rw [RetQ_normal]
          refine ⟨[], ?_⟩
          simp [go_sem, ↓IntWalk.iteOmega, IntWalk.iteOmega, IntWalk.toNatUp]
  · rw [decide_eq_false h4] at cf
    refine FnOk.intro fact_mixed Try.func3 rfl Try.ntmps3 (by rfl) (by simp) ?_
    repeat (first | (refine nf1_sound rfl ?_; simp [go_sem, ↓IntWalk.iteOmega, IntWalk.iteOmega, IntWalk.toNatUp]; (repeat (refine And.intro (by omega) ?_)); try (refine ⟨DrawChk_of (by kernel_rfl), ?_⟩)) | (refine itePos (by omega) ?_; try simp [go_sem, ↓IntWalk.iteOmega, IntWalk.iteOmega, IntWalk.toNatUp]) | (refine iteNeg (by omega) ?_; try simp [go_sem, ↓IntWalk.iteOmega, IntWalk.iteOmega, IntWalk.toNatUp]))
    refine CallK.fn (cf) [] [] [] (by kernel_rfl) (by simp [go_sem, ↓IntWalk.iteOmega, IntWalk.iteOmega, IntWalk.toNatUp]) (by simp [go_sem, ↓IntWalk.iteOmega, IntWalk.iteOmega, IntWalk.toNatUp]) (by simp [go_sem, ↓IntWalk.iteOmega, IntWalk.iteOmega, IntWalk.toNatUp]) (Or.inl rfl) ?_
    simp [go_sem, ↓IntWalk.iteOmega, IntWalk.iteOmega, IntWalk.toNatUp]
    repeat (refine And.intro (by omega) ?_)
    try (refine ⟨DrawChk_of (by kernel_rfl), ?_⟩)
    repeat (first | (refine nf1_sound rfl ?_; simp [go_sem, ↓IntWalk.iteOmega, IntWalk.iteOmega, IntWalk.toNatUp]; (repeat (refine And.intro (by omega) ?_)); try (refine ⟨DrawChk_of (by kernel_rfl), ?_⟩)) | (refine itePos (by omega) ?_; try simp [go_sem, ↓IntWalk.iteOmega, IntWalk.iteOmega, IntWalk.toNatUp]) | (refine iteNeg (by omega) ?_; try simp [go_sem, ↓IntWalk.iteOmega, IntWalk.iteOmega, IntWalk.toNatUp]))
    refine CallK.fn (awake_fn) [] [] [] (by kernel_rfl) (by simp [go_sem, ↓IntWalk.iteOmega, IntWalk.iteOmega, IntWalk.toNatUp]) (by simp [go_sem, ↓IntWalk.iteOmega, IntWalk.iteOmega, IntWalk.toNatUp]) (by simp [go_sem, ↓IntWalk.iteOmega, IntWalk.iteOmega, IntWalk.toNatUp]) (Or.inl rfl) ?_
    simp [go_sem, ↓IntWalk.iteOmega, IntWalk.iteOmega, IntWalk.toNatUp]
    repeat (refine And.intro (by omega) ?_)
    try (refine ⟨DrawChk_of (by kernel_rfl), ?_⟩)
    repeat (first | (refine nf1_sound rfl ?_; simp [go_sem, ↓IntWalk.iteOmega, IntWalk.iteOmega, IntWalk.toNatUp]; (repeat (refine And.intro (by omega) ?_)); try (refine ⟨DrawChk_of (by kernel_rfl), ?_⟩)) | (refine itePos (by omega) ?_; try simp [go_sem, ↓IntWalk.iteOmega, IntWalk.iteOmega, IntWalk.toNatUp]) | (refine iteNeg (by omega) ?_; try simp [go_sem, ↓IntWalk.iteOmega, IntWalk.iteOmega, IntWalk.toNatUp]))
    first | rw [RetQ_ret] | rw [RetQ_normal]
    refine ⟨[], ?_⟩
    simp [go_sem, ↓IntWalk.iteOmega, IntWalk.iteOmega, IntWalk.toNatUp]
theorem i8s_in {x : T} (h : InSh (.sl (.int .i8)) x) : ∃ l, x = encI8s l ∧ l.length ≤ 9223372036854775807 ∧ WsOk l := by
  obtain ⟨xs, rfl, hl, hx⟩ := insh_sl h
  obtain ⟨l, rfl, hq⟩ := insh_list (en := encI8) (Q := fun z => -128 ≤ z ∧ z ≤ 127) (fun y hy => by
    obtain ⟨n, rfl, hw⟩ := insh_int hy
    refine ⟨n, rfl, ?_⟩
    simp only [Lit.wf, IntKind.min, IntKind.max, IntKind.signed, IntKind.bits, Bool.and_eq_true, decide_eq_true_eq] at hw
    simp at hw
    omega) xs hx
  exact ⟨l, rfl, by rw [List.length_map] at hl; exact len_max hl, hq⟩
theorem covers_all (x0 x1 : T) (h0 : InSh (.sl (.int .i64)) x0) (h1 : InSh (.sl (.int .i8)) x1) :
    FnOk Try.prog 3 [.t x0, .t x1] [] (.t (.bool true)) [] := by
  obtain ⟨l, rfl, hl, wf⟩ := ints_in h0
  obtain ⟨ws, rfl, hwl, hws⟩ := i8s_in h1
  exact covers_fn l ws hl wf hwl hws
end Go.Proofs.Ytlkgoddhbdnfaaa
