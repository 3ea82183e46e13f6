/- The law PieceMerges. No condition. -/
import Derived.Test.YtgfofmdpbabinaaPiMerge
import Derived.Test.YtgfofmdpbabinaaPiUndo
import Derived.Test.YtgfofmdpbabinaaPiSum
import Derived.Test.YtgfofmdpbabinaaPiAwake
import Derived.Test.YtgfofmdpbabinaaKInts
import Derived.Test.YtgfofmdpbabinaaSyR
namespace Go.Proofs.Ytgfofmdpbabinaa
open Go.RowKit Sy
set_option linter.unusedVariables false
set_option linter.unusedSimpArgs false
/-- The pieces that are drawn. -/
structure Drawn (f : List (Int × Int)) (i : Int) : Prop where
  len : (f.length : Int) + i ≤ 20
  i0 : 0 ≤ i
  each : ∀ p ∈ f, (0 ≤ p.1 ∧ p.1 < 3) ∧ 0 ≤ p.2 ∧ p.2 < 4
theorem Drawn.proper {f : List (Int × Int)} {i : Int} (h : Drawn f i) : Pc.Proper f := ⟨by have := h.len; have := h.i0; omega, fun p hp => by have := h.each p hp; omega⟩
theorem vol_three : ∀ {f : List (Int × Int)}, (∀ p ∈ f, 0 ≤ p.2 ∧ p.2 < 4) → Pc.vol f ≤ 3 * (f.length : Int)
  | [], _ => by simp [Pc.vol]
  | p :: r, h => by
    have h1 := vol_three fun q hq => h q (List.mem_cons_of_mem _ hq)
    have h2 := h p (List.mem_cons_self)
    simp only [Pc.vol, List.length_cons]; omega
structure Joins (f m : List (Int × Int)) : Prop where
  eq : Pc.merge f = m
  vd : Pc.Vd m
  len : m.length ≤ 20
  vol : Pc.vol m = Pc.vol f
  v60 : Pc.vol f ≤ 60
  lit : Pc.litres m = Pc.litres f
theorem joins {f : List (Int × Int)} {i : Int} (h : Drawn f i) : Joins f (Pc.join f) := by
  have hp : ∀ p ∈ f, 0 ≤ p.2 := fun p hp => (h.each p hp).2.1
  have hl := Pc.join_litres hp
  have hc := Pc.join_canon hp
  have hn := Pc.join_length f
  have h1 := h.len
  have h2 := h.i0
  have hv : Pc.vol f ≤ 60 := by have := vol_three fun p hp => (h.each p hp).2; omega
  have hjv := Pc.join_vol hp
  refine ⟨merge_good h.proper, Pc.vd_of_canon hc (fun p hpm => ?_) (by omega) (by omega), by omega, hjv, hv, hl⟩
  have := mem_litres hpm (hc.pos p hpm)
  rw [hl] at this
  obtain ⟨q, hq, e⟩ := litres_mem this
  have := (h.each q hq).1
  omega
theorem join_is2 {g : List (Int × Int)} (h : Pc.Vd g) : Pc.merge g = g := by
  rw [merge_good ⟨by have := h.len; omega, fun p hp => by have := h.each p hp; exact ⟨this.1, by omega, this.2.2⟩⟩, Pc.join_self h.canon]
theorem litres_take {f : List (Int × Int)} {k : Nat} {p : Int × Int} (h : f[k]? = some p) : Pc.litres (f.take (k + 1)) = Pc.litres (f.take k) ++ List.replicate p.2.toNat p.1 := by
  rw [take_snoc h, Pc.litres_append]; simp [Pc.litres]
theorem rep_snoc (n : Nat) (b : Int) : List.replicate (n + 1) b = List.replicate n b ++ [b] := List.replicate_succ'
theorem rep_snocT (n : Nat) (b : Int) : List.replicate (n + 1) (T.int b) = List.replicate n (T.int b) ++ [T.int b] := List.replicate_succ'
theorem litres_take_len {f : List (Int × Int)} (hp : ∀ p ∈ f, 0 ≤ p.2) (k : Nat) : ((Pc.litres (f.take k)).length : Int) ≤ Pc.vol f := by
  have h1 := Pc.litres_length (f.take k) fun p h => hp p (List.mem_of_mem_take h)
  have h2 := Pc.litres_length (f.drop k) fun p h => hp p (List.mem_of_mem_drop h)
  have h3 : Pc.vol f = Pc.vol (f.take k) + Pc.vol (f.drop k) := by rw [← Pc.vol_append, List.take_append_drop]
  omega
set_option maxRecDepth 100000 in
set_option maxHeartbeats 8000000 in
theorem merges_fn (l : List Int) (hl : l.length ≤ 9223372036854775807) (wf : ∀ z ∈ l, -9223372036854775808 ≤ z ∧ z ≤ 9223372036854775807) :
    FnOk Try.prog 5 [.t (encIs l)] [] (.t (.bool true)) [] := by
  have h0 := new_ok wf
  obtain ⟨m, hm⟩ : ∃ m, newL2 l = m := ⟨_, rfl⟩
  have hnew := new_fn l hl
  rw [hm] at h0 hnew
  have r1 := nV_range (l := m) (k := 0) (n := 20) (by omega)
  have cn := n_fn m 0 20 h0 (by omega)
  obtain ⟨u1, hu⟩ : ∃ u, nV m 0 20 = u := ⟨_, rfl⟩
  rw [hu] at r1 cn
  refine FnOk.intro fact_mixed Try.func5 rfl Try.ntmps5 (by rfl) (by simp) ?_
  repeat (refine nf1_sound rfl ?_; simp [go_sem, ↓IntWalk.iteOmega, IntWalk.iteOmega, IntWalk.toNatUp]; (repeat (refine And.intro (by omega) ?_)); try (refine ⟨DrawChk_of (by kernel_rfl), ?_⟩))
  refine CallK.fn (hnew) [(1000, 116)] [] (by kernel_rfl) (by simp [go_sem, ↓IntWalk.iteOmega, IntWalk.iteOmega, IntWalk.toNatUp]) (by simp [go_sem, ↓IntWalk.iteOmega, IntWalk.iteOmega, IntWalk.toNatUp]) (by simp [go_sem, ↓IntWalk.iteOmega, IntWalk.iteOmega, IntWalk.toNatUp]) (Or.inl rfl) ?_
  simp [go_sem, ↓IntWalk.iteOmega, IntWalk.iteOmega, IntWalk.toNatUp]
  repeat (refine And.intro (by omega) ?_)
  try (refine ⟨DrawChk_of (by kernel_rfl), ?_⟩)
  repeat (refine nf1_sound rfl ?_; simp [go_sem, ↓IntWalk.iteOmega, IntWalk.iteOmega, IntWalk.toNatUp]; (repeat (refine And.intro (by omega) ?_)); try (refine ⟨DrawChk_of (by kernel_rfl), ?_⟩))
  refine CallK.fn (cn) [(0, 116)] [] (by kernel_rfl) (by simp [go_sem, ↓IntWalk.iteOmega, IntWalk.iteOmega, IntWalk.toNatUp]) (by simp [go_sem, ↓IntWalk.iteOmega, IntWalk.iteOmega, IntWalk.toNatUp]) (by simp [go_sem, ↓IntWalk.iteOmega, IntWalk.iteOmega, IntWalk.toNatUp]) (Or.inl rfl) ?_
  simp [go_sem, ↓IntWalk.iteOmega, IntWalk.iteOmega, IntWalk.toNatUp]
  repeat (refine And.intro (by omega) ?_)
  try (refine ⟨DrawChk_of (by kernel_rfl), ?_⟩)
  repeat (refine nf1_sound rfl ?_; simp [go_sem, ↓IntWalk.iteOmega, IntWalk.iteOmega, IntWalk.toNatUp]; (repeat (refine And.intro (by omega) ?_)); try (refine ⟨DrawChk_of (by kernel_rfl), ?_⟩))
  refine nf1_sound' _ _ _ ?_; simp only [nf1]
  refine CW.loop (ι := Nat × Int × List (Int × Int)) (fun s => ⟨[(3, .pt 116 [] 0), (4, .own 500), (5, .t (.int s.2.1))], [(116, srcB m s.1), (500, blkP s.2.2)]⟩)
    (fun s => SrcOk m s.1 ∧ Drawn s.2.2 s.2.1) (fun s => s.2.1.toNat) (nextK m 0, u1, []) [(116, some 116), (500, none)] ⟨h0.next, by simp; omega, r1.1, by simp⟩ ?_ ?_
  · simp [go_sem, ↓IntWalk.iteOmega, IntWalk.iteOmega, IntWalk.toNatUp]
  rintro ⟨k, i, f⟩ ⟨hs, hd⟩
  have hdl := hd.len
  have hd0 := hd.i0
  simp only at hs hd hdl hd0
  by_cases hi : 0 < i
  · have ca := n_fn m k 3 hs (by omega)
    have cb := n_fn m (nextK m k) 4 hs.next (by omega)
    have ra := nV_range (l := m) (k := k) (n := 3) (by omega)
    have rb := nV_range (l := m) (k := nextK m k) (n := 4) (by omega)
    obtain ⟨x, hx⟩ : ∃ x, nV m k 3 = x := ⟨_, rfl⟩
    obtain ⟨y, hy⟩ : ∃ y, nV m (nextK m k) 4 = y := ⟨_, rfl⟩
    rw [hx] at ca ra
    rw [hy] at cb rb
    repeat (refine nf1_sound rfl ?_; simp [go_sem, ↓IntWalk.iteOmega, IntWalk.iteOmega, IntWalk.toNatUp]; (repeat (refine And.intro (by omega) ?_)); try (refine ⟨DrawChk_of (by kernel_rfl), ?_⟩))
    refine CallK.fn (ca) [(0, 116)] [] (by kernel_rfl) (by simp [go_sem, ↓IntWalk.iteOmega, IntWalk.iteOmega, IntWalk.toNatUp]) (by simp [go_sem, ↓IntWalk.iteOmega, IntWalk.iteOmega, IntWalk.toNatUp]) (by simp [go_sem, ↓IntWalk.iteOmega, IntWalk.iteOmega, IntWalk.toNatUp]) (Or.inl rfl) ?_
    simp [go_sem, ↓IntWalk.iteOmega, IntWalk.iteOmega, IntWalk.toNatUp]
    repeat (refine And.intro (by omega) ?_)
    try (refine ⟨DrawChk_of (by kernel_rfl), ?_⟩)
    refine CallK.fn (cb) [(0, 116)] [] (by kernel_rfl) (by simp [go_sem, ↓IntWalk.iteOmega, IntWalk.iteOmega, IntWalk.toNatUp]) (by simp [go_sem, ↓IntWalk.iteOmega, IntWalk.iteOmega, IntWalk.toNatUp]) (by simp [go_sem, ↓IntWalk.iteOmega, IntWalk.iteOmega, IntWalk.toNatUp]) (Or.inl rfl) ?_
    simp [go_sem, ↓IntWalk.iteOmega, IntWalk.iteOmega, IntWalk.toNatUp]
    repeat (refine And.intro (by omega) ?_)
    try (refine ⟨DrawChk_of (by kernel_rfl), ?_⟩)
    repeat (refine nf1_sound rfl ?_; simp [go_sem, ↓IntWalk.iteOmega, IntWalk.iteOmega, IntWalk.toNatUp]; (repeat (refine And.intro (by omega) ?_)); try (refine ⟨DrawChk_of (by kernel_rfl), ?_⟩))
    rw [RoundQ_normal]; refine ⟨(nextK m (nextK m k), i - 1, f ++ [(x, y)]), [(116, some 116), (500, some 130)], ?_, ?_, ?_⟩
    · refine ⟨hs.next.next, by simp; omega, by simp; omega, ?_⟩
      intro p hp
      rcases List.mem_append.1 hp with hp | hp
      · exact hd.each p hp
      · simp at hp; subst hp; exact ⟨ra, rb⟩
    · simp; omega
    simp [go_sem, ↓IntWalk.iteOmega, IntWalk.iteOmega, IntWalk.toNatUp]
  · have J := joins hd
    obtain ⟨g, hg⟩ : ∃ g, Pc.join f = g := ⟨_, rfl⟩
    rw [hg] at J
    have hgl := J.len
    have hv := J.v60
    have hfl : f.length ≤ 20 := by omega
    have m1 := merge_fn f (by omega)
    have m2 := merge_fn g (by omega)
    rw [J.eq] at m1
    have hgg : Pc.merge g = g := join_is2 J.vd
    rw [hgg] at m2
    have s1 := same_fn' g g (by omega) true (by simp)
    have t1 := sum_fn g J.vd.sane
    have t2 := sum_fn f (proper_sane hd.proper)
    rw [J.vol] at t1
    repeat (refine nf1_sound rfl ?_; simp [go_sem, ↓IntWalk.iteOmega, IntWalk.iteOmega, IntWalk.toNatUp]; (repeat (refine And.intro (by omega) ?_)); try (refine ⟨DrawChk_of (by kernel_rfl), ?_⟩))
    refine CallK.fn (m1) [(1000, 601)] [500] (by kernel_rfl) (by simp [go_sem, ↓IntWalk.iteOmega, IntWalk.iteOmega, IntWalk.toNatUp]) (by simp [go_sem, ↓IntWalk.iteOmega, IntWalk.iteOmega, IntWalk.toNatUp]) (by simp [go_sem, ↓IntWalk.iteOmega, IntWalk.iteOmega, IntWalk.toNatUp]) (Or.inr ⟨by simp [go_sem, ↓IntWalk.iteOmega, IntWalk.iteOmega, IntWalk.toNatUp], by simp [go_sem, ↓IntWalk.iteOmega, IntWalk.iteOmega, IntWalk.toNatUp]⟩) ?_
    simp [go_sem, ↓IntWalk.iteOmega, IntWalk.iteOmega, IntWalk.toNatUp]
    repeat (refine And.intro (by omega) ?_)
    try (refine ⟨DrawChk_of (by kernel_rfl), ?_⟩)
    repeat (refine nf1_sound rfl ?_; simp [go_sem, ↓IntWalk.iteOmega, IntWalk.iteOmega, IntWalk.toNatUp]; (repeat (refine And.intro (by omega) ?_)); try (refine ⟨DrawChk_of (by kernel_rfl), ?_⟩))
    refine CallK.fn (m2) [(1000, 602)] [601] (by kernel_rfl) (by simp [go_sem, ↓IntWalk.iteOmega, IntWalk.iteOmega, IntWalk.toNatUp]) (by simp [go_sem, ↓IntWalk.iteOmega, IntWalk.iteOmega, IntWalk.toNatUp]) (by simp [go_sem, ↓IntWalk.iteOmega, IntWalk.iteOmega, IntWalk.toNatUp]) (Or.inr ⟨by simp [go_sem, ↓IntWalk.iteOmega, IntWalk.iteOmega, IntWalk.toNatUp], by simp [go_sem, ↓IntWalk.iteOmega, IntWalk.iteOmega, IntWalk.toNatUp]⟩) ?_
    simp [go_sem, ↓IntWalk.iteOmega, IntWalk.iteOmega, IntWalk.toNatUp]
    repeat (refine And.intro (by omega) ?_)
    try (refine ⟨DrawChk_of (by kernel_rfl), ?_⟩)
    refine CallK.fn (s1) [] [602, 601] (by kernel_rfl) (by simp [go_sem, ↓IntWalk.iteOmega, IntWalk.iteOmega, IntWalk.toNatUp]) (by simp [go_sem, ↓IntWalk.iteOmega, IntWalk.iteOmega, IntWalk.toNatUp]) (by simp [go_sem, ↓IntWalk.iteOmega, IntWalk.iteOmega, IntWalk.toNatUp]) (Or.inr ⟨by simp [go_sem, ↓IntWalk.iteOmega, IntWalk.iteOmega, IntWalk.toNatUp], by simp [go_sem, ↓IntWalk.iteOmega, IntWalk.iteOmega, IntWalk.toNatUp]⟩) ?_
    simp [go_sem, ↓IntWalk.iteOmega, IntWalk.iteOmega, IntWalk.toNatUp]
    repeat (refine And.intro (by omega) ?_)
    try (refine ⟨DrawChk_of (by kernel_rfl), ?_⟩)
    refine CallK.fn (t1) [] [601] (by kernel_rfl) (by simp [go_sem, ↓IntWalk.iteOmega, IntWalk.iteOmega, IntWalk.toNatUp]) (by simp [go_sem, ↓IntWalk.iteOmega, IntWalk.iteOmega, IntWalk.toNatUp]) (by simp [go_sem, ↓IntWalk.iteOmega, IntWalk.iteOmega, IntWalk.toNatUp]) (Or.inr ⟨by simp [go_sem, ↓IntWalk.iteOmega, IntWalk.iteOmega, IntWalk.toNatUp], by simp [go_sem, ↓IntWalk.iteOmega, IntWalk.iteOmega, IntWalk.toNatUp]⟩) ?_
    simp [go_sem, ↓IntWalk.iteOmega, IntWalk.iteOmega, IntWalk.toNatUp]
    repeat (refine And.intro (by omega) ?_)
    try (refine ⟨DrawChk_of (by kernel_rfl), ?_⟩)
    refine CallK.fn (t2) [] [500] (by kernel_rfl) (by simp [go_sem, ↓IntWalk.iteOmega, IntWalk.iteOmega, IntWalk.toNatUp]) (by simp [go_sem, ↓IntWalk.iteOmega, IntWalk.iteOmega, IntWalk.toNatUp]) (by simp [go_sem, ↓IntWalk.iteOmega, IntWalk.iteOmega, IntWalk.toNatUp]) (Or.inr ⟨by simp [go_sem, ↓IntWalk.iteOmega, IntWalk.iteOmega, IntWalk.toNatUp], by simp [go_sem, ↓IntWalk.iteOmega, IntWalk.iteOmega, IntWalk.toNatUp]⟩) ?_
    simp [go_sem, ↓IntWalk.iteOmega, IntWalk.iteOmega, IntWalk.toNatUp]
    repeat (refine And.intro (by omega) ?_)
    try (refine ⟨DrawChk_of (by kernel_rfl), ?_⟩)
    repeat (refine nf1_sound rfl ?_; simp [go_sem, ↓IntWalk.iteOmega, IntWalk.iteOmega, IntWalk.toNatUp]; (repeat (refine And.intro (by omega) ?_)); try (refine ⟨DrawChk_of (by kernel_rfl), ?_⟩))
    have hpf : ∀ p ∈ f, 0 ≤ p.2 := fun p hp => (hd.each p hp).2.1
    have hpg := J.vd.nonneg
    clear m1 m2 s1 t1 t2
    refine nf1_sound' _ _ _ ?_; simp only [nf1]
    refine CW.loop (ι := Nat) (fun i => ⟨[(6, .t (encPs g)), (7, .own 700), (8, .t .nil), (45, .t (encPs f)), (46, .t (.int f.length)), (47, .t (.int i))], [(700, blkI (Pc.litres (f.take i)))]⟩) (fun i => i ≤ f.length) (fun i => f.length - i) 0 [(700, none)] (by omega) ?_ ?_
    · simp [go_sem, ↓IntWalk.iteOmega, IntWalk.iteOmega, IntWalk.toNatUp, Pc.litres]
    intro i hi
    by_cases hb : i < f.length
    · obtain ⟨p, hp⟩ := has_get hb
      have hpv := hd.each p (mem_get hp)
      have hlt := litres_take hp
      have hll := litres_take_len hpf i
      have hll2 := litres_take_len hpf (i + 1)
      obtain ⟨A, hA⟩ : ∃ A, Pc.litres (f.take i) = A := ⟨_, rfl⟩
      rw [hA] at hlt hll
      rw [hlt, List.length_append, List.length_replicate] at hll2
      repeat (refine nf1_sound rfl ?_; simp [go_sem, ↓IntWalk.iteOmega, IntWalk.iteOmega, IntWalk.toNatUp, hp, hA]; (repeat (refine And.intro (by omega) ?_)); try (refine ⟨DrawChk_of (by kernel_rfl), ?_⟩))
      refine nf1_sound' _ _ _ ?_; simp only [nf1]
      refine CW.loop (ι := Nat) (fun j => ⟨[(6, .t (encPs g)), (7, .own 701), (8, .t .nil), (10, .pt 110 [] 0), (11, .t (.int j)), (45, .t (encPs f)), (46, .t (.int f.length)), (47, .t (.int i))], [(701, blkI (A ++ List.replicate j p.1)), (110, .box 42 (.t (encP p)))]⟩) (fun j => (j : Int) ≤ p.2) (fun j => p.2.toNat - j) 0 [(701, some 700), (110, some 110)] (by omega) ?_ ?_
      · simp [go_sem, ↓IntWalk.iteOmega, IntWalk.iteOmega, IntWalk.toNatUp]
      intro j hj
      by_cases hjb : (j : Int) < p.2
      · have e1 := rep_snoc j p.1
        repeat (refine nf1_sound rfl ?_; simp [go_sem, ↓IntWalk.iteOmega, IntWalk.iteOmega, IntWalk.toNatUp]; (repeat (refine And.intro (by omega) ?_)); try (refine ⟨DrawChk_of (by kernel_rfl), ?_⟩))
        rw [RoundQ_normal]; refine ⟨j + 1, [(701, some 161), (110, some 110)], ?_, ?_, ?_⟩
        · omega
        · omega
        simp [go_sem, ↓IntWalk.iteOmega, IntWalk.iteOmega, IntWalk.toNatUp, rep_snocT j p.1]
      · obtain ⟨n, hn⟩ : ∃ n, p.2.toNat = n := ⟨_, rfl⟩
        obtain rfl : j = n := by omega
        rw [hn] at hlt
        repeat (refine nf1_sound rfl ?_; simp [go_sem, ↓IntWalk.iteOmega, IntWalk.iteOmega, IntWalk.toNatUp]; (repeat (refine And.intro (by omega) ?_)); try (refine ⟨DrawChk_of (by kernel_rfl), ?_⟩))
        rw [RoundQ_normal]; refine ⟨i + 1, [(700, some 701)], ?_, ?_, ?_⟩
        · omega
        · omega
        simp [go_sem, ↓IntWalk.iteOmega, IntWalk.iteOmega, IntWalk.toNatUp, hlt]
    · obtain rfl : i = f.length := by omega
      rw [List.take_length]
      obtain ⟨A, hA⟩ : ∃ A, Pc.litres f = A := ⟨_, rfl⟩
      have hAl : A.length ≤ 60 := by have := Pc.litres_length f hpf; rw [hA] at this; omega
      repeat (refine nf1_sound rfl ?_; simp [go_sem, ↓IntWalk.iteOmega, IntWalk.iteOmega, IntWalk.toNatUp, hA]; (repeat (refine And.intro (by omega) ?_)); try (refine ⟨DrawChk_of (by kernel_rfl), ?_⟩))
      refine nf1_sound' _ _ _ ?_; simp only [nf1]
      refine CW.loop (ι := Nat) (fun i => ⟨[(6, .t (encPs g)), (7, .t (encIs A)), (8, .own 700), (63, .t (encPs g)), (64, .t (.int g.length)), (65, .t (.int i))], [(700, blkI (Pc.litres (g.take i)))]⟩) (fun i => i ≤ g.length) (fun i => g.length - i) 0 [(700, none)] (by omega) ?_ ?_
      · simp [go_sem, ↓IntWalk.iteOmega, IntWalk.iteOmega, IntWalk.toNatUp, Pc.litres]
      intro i hi
      by_cases hb : i < g.length
      · obtain ⟨p, hp⟩ := has_get hb
        have hpv := J.vd.each p (mem_get hp)
        have hok := (J.vd.ok i hb p hp).2
        have hp2 := vol_ge hpg p (mem_get hp)
        have hlt := litres_take hp
        have hll := litres_take_len hpg i
        have hll2 := litres_take_len hpg (i + 1)
        have hjv := J.vol
        obtain ⟨B, hB⟩ : ∃ B, Pc.litres (g.take i) = B := ⟨_, rfl⟩
        rw [hB] at hlt hll
        rw [hlt, List.length_append, List.length_replicate] at hll2
        have key : ∀ (Q : Prop), (i = 0 → Q) → (∀ i' q, i = i' + 1 → g[i']? = some q → q.1 ≠ p.1 → Q) → Q := by
          intro Q h1 h2
          cases i with
          | zero => exact h1 rfl
          | succ i' =>
            obtain ⟨q, hq⟩ := has_get (show i' < g.length by omega)
            exact h2 i' q rfl hq (hok q (by omega) (by simpa using hq))
        refine key _ ?_ ?_
        · intro h0
          subst h0
          have hB0 : Pc.litres [] = B := by rw [← hB]; rfl
          repeat (refine nf1_sound rfl ?_; simp [go_sem, ↓IntWalk.iteOmega, IntWalk.iteOmega, IntWalk.toNatUp, hp, hB]; (repeat (refine And.intro (by omega) ?_)); try (refine ⟨DrawChk_of (by kernel_rfl), ?_⟩))
          refine nf1_sound' _ _ _ ?_; simp only [nf1]
          refine CW.loop (ι := Nat) (fun j => ⟨[(6, .t (encPs g)), (7, .t (encIs A)), (8, .own 701), (13, .pt 113 [] 0), (14, .t (.int j)), (63, .t (encPs g)), (64, .t (.int g.length)), (65, .t (.int 0))], [(701, blkI (B ++ List.replicate j p.1)), (113, .box 42 (.t (encP p)))]⟩) (fun j => (j : Int) ≤ p.2) (fun j => p.2.toNat - j) 0 [(701, some 700), (113, some 113)] (by omega) ?_ ?_
          · simp [go_sem, ↓IntWalk.iteOmega, IntWalk.iteOmega, IntWalk.toNatUp, hB0]
          intro j hj
          by_cases hjb : (j : Int) < p.2
          · have e1 := rep_snoc j p.1
            repeat (refine nf1_sound rfl ?_; simp [go_sem, ↓IntWalk.iteOmega, IntWalk.iteOmega, IntWalk.toNatUp]; (repeat (refine And.intro (by omega) ?_)); try (refine ⟨DrawChk_of (by kernel_rfl), ?_⟩))
            rw [RoundQ_normal]; refine ⟨j + 1, [(701, some 203), (113, some 113)], ?_, ?_, ?_⟩
            · omega
            · omega
            simp [go_sem, ↓IntWalk.iteOmega, IntWalk.iteOmega, IntWalk.toNatUp, rep_snocT j p.1]
          · obtain ⟨n, hn⟩ : ∃ n, p.2.toNat = n := ⟨_, rfl⟩
            obtain rfl : j = n := by omega
            rw [hn] at hlt
            repeat (refine nf1_sound rfl ?_; simp [go_sem, ↓IntWalk.iteOmega, IntWalk.iteOmega, IntWalk.toNatUp]; (repeat (refine And.intro (by omega) ?_)); try (refine ⟨DrawChk_of (by kernel_rfl), ?_⟩))
            rw [RoundQ_normal]; refine ⟨0 + 1, [(700, some 701)], ?_, ?_, ?_⟩
            · omega
            · omega
            simp [go_sem, ↓IntWalk.iteOmega, IntWalk.iteOmega, IntWalk.toNatUp, hlt]
        · intro i' q h0 hq hne
          subst h0
          repeat (refine nf1_sound rfl ?_; simp [go_sem, ↓IntWalk.iteOmega, IntWalk.iteOmega, IntWalk.toNatUp, hp, hB, hq]; (repeat (refine And.intro (by omega) ?_)); try (refine ⟨DrawChk_of (by kernel_rfl), ?_⟩))
          refine nf1_sound' _ _ _ ?_; simp only [nf1]
          refine CW.loop (ι := Nat) (fun j => ⟨[(6, .t (encPs g)), (7, .t (encIs A)), (8, .own 701), (13, .pt 113 [] 0), (14, .t (.int j)), (63, .t (encPs g)), (64, .t (.int g.length)), (65, .t (.int (i' + 1 : Nat)))], [(701, blkI (B ++ List.replicate j p.1)), (113, .box 42 (.t (encP p)))]⟩) (fun j => (j : Int) ≤ p.2) (fun j => p.2.toNat - j) 0 [(701, some 700), (113, some 113)] (by omega) ?_ ?_
          · simp [go_sem, ↓IntWalk.iteOmega, IntWalk.iteOmega, IntWalk.toNatUp, hB]
          intro j hj
          by_cases hjb : (j : Int) < p.2
          · have e1 := rep_snoc j p.1
            repeat (refine nf1_sound rfl ?_; simp [go_sem, ↓IntWalk.iteOmega, IntWalk.iteOmega, IntWalk.toNatUp]; (repeat (refine And.intro (by omega) ?_)); try (refine ⟨DrawChk_of (by kernel_rfl), ?_⟩))
            rw [RoundQ_normal]; refine ⟨j + 1, [(701, some 203), (113, some 113)], ?_, ?_, ?_⟩
            · omega
            · omega
            simp [go_sem, ↓IntWalk.iteOmega, IntWalk.iteOmega, IntWalk.toNatUp, rep_snocT j p.1]
          · obtain ⟨n, hn⟩ : ∃ n, p.2.toNat = n := ⟨_, rfl⟩
            obtain rfl : j = n := by omega
            rw [hn] at hlt
            repeat (refine nf1_sound rfl ?_; simp [go_sem, ↓IntWalk.iteOmega, IntWalk.iteOmega, IntWalk.toNatUp]; (repeat (refine And.intro (by omega) ?_)); try (refine ⟨DrawChk_of (by kernel_rfl), ?_⟩))
            rw [RoundQ_normal]; refine ⟨(i' + 1) + 1, [(700, some 701)], ?_, ?_, ?_⟩
            · omega
            · omega
            simp [go_sem, ↓IntWalk.iteOmega, IntWalk.iteOmega, IntWalk.toNatUp, hlt]
      · obtain rfl : i = g.length := by omega
        have hAg : decide (A = Pc.litres g) = true := by rw [J.lit, hA]; simp
        have it := ints_fn A (Pc.litres g) (by omega) true hAg
        rw [List.take_length]
        repeat (refine nf1_sound rfl ?_; simp [go_sem, ↓IntWalk.iteOmega, IntWalk.iteOmega, IntWalk.toNatUp]; (repeat (refine And.intro (by omega) ?_)); try (refine ⟨DrawChk_of (by kernel_rfl), ?_⟩))
        refine CallK.fn (it) [] [700] (by kernel_rfl) (by simp [go_sem, ↓IntWalk.iteOmega, IntWalk.iteOmega, IntWalk.toNatUp]) (by simp [go_sem, ↓IntWalk.iteOmega, IntWalk.iteOmega, IntWalk.toNatUp]) (by simp [go_sem, ↓IntWalk.iteOmega, IntWalk.iteOmega, IntWalk.toNatUp]) (Or.inr ⟨by simp [go_sem, ↓IntWalk.iteOmega, IntWalk.iteOmega, IntWalk.toNatUp], by simp [go_sem, ↓IntWalk.iteOmega, IntWalk.iteOmega, IntWalk.toNatUp]⟩) ?_
        simp [go_sem, ↓IntWalk.iteOmega, IntWalk.iteOmega, IntWalk.toNatUp]
        repeat (refine And.intro (by omega) ?_)
        try (refine ⟨DrawChk_of (by kernel_rfl), ?_⟩)
        refine CallK.fn (awake_fn) [] [] (by kernel_rfl) (by simp [go_sem, ↓IntWalk.iteOmega, IntWalk.iteOmega, IntWalk.toNatUp]) (by simp [go_sem, ↓IntWalk.iteOmega, IntWalk.iteOmega, IntWalk.toNatUp]) (by simp [go_sem, ↓IntWalk.iteOmega, IntWalk.iteOmega, IntWalk.toNatUp]) (Or.inl rfl) ?_
        simp [go_sem, ↓IntWalk.iteOmega, IntWalk.iteOmega, IntWalk.toNatUp]
        repeat (refine And.intro (by omega) ?_)
        try (refine ⟨DrawChk_of (by kernel_rfl), ?_⟩)
        repeat (refine nf1_sound rfl ?_; simp [go_sem, ↓IntWalk.iteOmega, IntWalk.iteOmega, IntWalk.toNatUp]; (repeat (refine And.intro (by omega) ?_)); try (refine ⟨DrawChk_of (by kernel_rfl), ?_⟩))
        first | rw [RetQ_ret] | rw [RetQ_normal]
        refine ⟨[], ?_⟩
        simp [go_sem, ↓IntWalk.iteOmega, IntWalk.iteOmega, IntWalk.toNatUp]
theorem merges_walk (x : Option Addr) (n cap : Nat) (l : List Int) (w : World) (hr : IRow .i64 w x n cap l) (wf : ∀ z ∈ l, -9223372036854775808 ≤ z ∧ z ≤ 9223372036854775807) :
    Calls Try.prog 5 #[.slice x n cap] w fun e w' => e = .returned (.bool true) ∧ Below w.heap.size w w' := by
  have hl : l.length ≤ 9223372036854775807 := by
    rw [hr.length]; have h1 := hr.le; have h2 := hr.capLe; unfold maxLen at h2; omega
  exact law_run (us := [.slice x n cap]) (merges_fn l hl wf) (reps_cons (rep_irow hr) reps_nil)
end Go.Proofs.Ytgfofmdpbabinaa
