/- Several texts of this proof, one behind the other. No condition. -/
import Derived.Test.YtdjmklobfjigoaaGreatDoorTTopsB15
import Derived.Test.YtdjmklobfjigoaaGreatDoorTTopsB14
import Derived.Test.YtdjmklobfjigoaaGreatDoorTTopsB11
import Derived.Test.YtdjmklobfjigoaaGreatDoorTTopsB12
import Derived.Test.YtdjmklobfjigoaaGreatDoorTTopsB10
import Derived.Test.YtdjmklobfjigoaaGreatDoorTTopsB8
set_option maxRecDepth 100000
set_option maxHeartbeats 16000000
set_option linter.unusedVariables false
set_option linter.unusedSimpArgs false
namespace Go.Proofs.YtdjmklobfjigoaaGreatDoor
open Go.RowKit Sy
open Go.IntWalk renaming iteOmega → iO, toNatUp → tN
structure FlowOk (d : NetD) (rates prates : List Int) (pl : List T) : Prop where
  pln : PlnOk d rates prates
  cap : ∀ (k : Nat) s r, d.segs[k]? = some s → rates[k]? = some r → -s.1.cp ≤ r ∧ r ≤ s.1.cp
  pum : pl.length = d.stns.length
  bal : (sumP (sgFl d.segs rates ++ ptFl d.ports prates)).1 = (sumP (sgFl d.segs rates ++ ptFl d.ports prates)).2
  acy : (ordV (sgFl d.segs rates) d.nn.length d.nn.length []).length = d.nn.length
theorem sumP_len (l : flows) (h : ∀ x ∈ l, -1000 ≤ x.2.2 ∧ x.2.2 ≤ 1000) : (sumP l).1.length = 24 ∧ (sumP l).2.length = 24 := ⟨(sumP_ok l _ _ zero24_ok h).l1, (sumP_ok l _ _ zero24_ok h).l2⟩
theorem fcheckG_fn (d : NetD) (h : NetOk d) (rates prates : List Int) (pl : List T) (hf : FlowOk d rates prates pl) :
    FnOk Tryz.prog 64 [.t (.agg d.l), .t (.agg (plnL rates prates (.sl 1 pl)))] [] (.t (.int 0)) [] := by
  have hp := hf.pln
  have h0 := h.n0
  have h1 := h.n1
  have h3 := h.s1
  have h4 := h.p1
  have h5 := h.t1
  have q1 := hp.l1
  have q2 := hp.l2
  have q3 := hf.pum
  have c1 := ncheckG_fn d h
  have c2 := fci_cont prates (by omega) (fun p hq => fcheck1_fn p (hp.b2 p hq))
  have c3 := sums_fn d h rates prates (.sl 1 pl) rfl hp
  have c4 := order_fn d h rates prates (.sl 1 pl) rfl hp
  obtain ⟨O, hO⟩ : ∃ O, ordV (sgFl d.segs rates) d.nn.length d.nn.length [] = O := ⟨_, rfl⟩
  rw [hO] at c4
  have q4 := hf.acy
  rw [hO] at q4
  obtain ⟨A, hA⟩ : ∃ A, (sumP (sgFl d.segs rates ++ ptFl d.ports prates)).1 = A := ⟨_, rfl⟩
  have hA2 := hf.bal
  rw [hA] at hA2
  have hl : A.length = 24 := by
    rw [hA2]
    refine (sumP_len _ fun x hx => ?_).2
    rcases List.mem_append.1 hx with hx | hx
    · obtain ⟨y, hy, rfl⟩ := List.mem_map.1 hx
      exact hp.b1 _ (List.of_mem_zip hy).2
    · obtain ⟨y, hy, rfl⟩ := List.mem_map.1 hx
      exact hp.b2 _ (List.of_mem_zip hy).2
  simp only [strT, ← hA2, hA] at c3
  have hq : eqAs Tryz.prog 3 (A.map encI) (A.map encI) = some true := eq_ints A
  refine FnOk.intro fact_mixed Tryz.func64 rfl Tryz.ntmps64 (by rfl) (by simp) ?_
  repeat (first | (refine nf1_sound rfl ?_; simp [go_sem, ↓iO, iO, tN]) | refine anI ?_ | refine ⟨dcK, ?_⟩ | ((first | refine iP ?_ | refine iN ?_); try simp [go_sem, ↓iO, iO, tN]))
  refine CallK.fn (c1) [] [] [] (by kernel_rfl) ?_ ?_ ?_ (Or.inl rfl) ?_ <;> simp [go_sem, ↓iO, iO, tN]
  repeat (refine anI ?_)
  try (refine ⟨dcK, ?_⟩)
  repeat (first | (refine nf1_sound rfl ?_; simp [go_sem, ↓iO, iO, tN, q1, q2, q3]) | refine anI ?_ | refine ⟨dcK, ?_⟩ | ((first | refine iP ?_ | refine iN ?_); try simp [go_sem, ↓iO, iO, tN, q1, q2, q3]))
  refine nf1_sound' _ _ _ ?_; simp only [nf1]
  refine CW.loop (ι := Nat) (fun k => ⟨[(2, .pt 502 [] 0), (3, .pt 503 [] 0), (40, .t (.sl 7 (d.segs.map encSg))), (41, .t (.int d.segs.length)), (42, .t (.int k))], [(502, .box 33 (.t (.agg d.l))), (503, .box 45 (.t (.agg (plnL rates prates (.sl 1 pl)))))]⟩) (fun k => k ≤ d.segs.length) (fun k => d.segs.length - k) 0 [(502, some 102), (503, some 103)] (by omega) ?_ ?_
  · simp [go_sem, ↓iO, iO, tN]
  intro k hk
  by_cases hb : k < d.segs.length
  · obtain ⟨s, hs⟩ := has_get hb
    obtain ⟨r, hr⟩ : ∃ r, rates[k]? = some r := has_get (by omega)
    have e1 := hf.cap k s r hs hr
    have e2 := hp.b1 r (mem_get hr)
    have e3 := (h.pipe s (mem_get hs)).cap
    obtain ⟨⟨nm, fr, to, cp, rs, wv⟩, pts⟩ := s
    dsimp only at e1 e3
    obtain ⟨m, hm⟩ : ∃ m, min 1000 cp = m := ⟨_, rfl⟩
    have c5 := within_fn r m (by omega) (by omega)
    repeat (first | (refine nf1_sound rfl ?_; simp [go_sem, ↓iO, iO, tN, hs, hr, hm]) | refine anI ?_ | refine ⟨dcK, ?_⟩ | ((first | refine iP ?_ | refine iN ?_); try simp [go_sem, ↓iO, iO, tN, hs, hr, hm]))
    refine CallK.fn (c5) [] [] [] (by kernel_rfl) ?_ ?_ ?_ (Or.inl rfl) ?_ <;> simp [go_sem, ↓iO, iO, tN, hs, hr, hm]
    repeat (refine anI ?_)
    try (refine ⟨dcK, ?_⟩)
    repeat (first | (refine nf1_sound rfl ?_; simp [go_sem, ↓iO, iO, tN]) | refine anI ?_ | refine ⟨dcK, ?_⟩ | ((first | refine iP ?_ | refine iN ?_); try simp [go_sem, ↓iO, iO, tN]))
    rw [RoundQ_normal]; refine ⟨k + 1, [(502, some 502), (503, some 503)], ?_, ?_, ?_⟩
    · omega
    · omega
    simp [go_sem, ↓iO, iO, tN]
  · obtain rfl : k = d.segs.length := by omega
    repeat (first | (refine nf1_sound rfl ?_; simp [go_sem, ↓iO, iO, tN]) | refine anI ?_ | refine ⟨dcK, ?_⟩ | ((first | refine iP ?_ | refine iN ?_); try simp [go_sem, ↓iO, iO, tN]))
    refine CallK.fn (c2) [] [] [] (by kernel_rfl) ?_ ?_ ?_ (Or.inl rfl) ?_ <;> simp [go_sem, ↓iO, iO, tN]
    repeat (refine anI ?_)
    try (refine ⟨dcK, ?_⟩)
    repeat (first | (refine nf1_sound rfl ?_; simp [go_sem, ↓iO, iO, tN]) | refine anI ?_ | refine ⟨dcK, ?_⟩ | ((first | refine iP ?_ | refine iN ?_); try simp [go_sem, ↓iO, iO, tN]))
    refine CallK.fn (c3) [] [] [] (by kernel_rfl) ?_ ?_ ?_ (Or.inl rfl) ?_ <;> simp [go_sem, ↓iO, iO, tN, hl]
    repeat (refine anI ?_)
    try (refine ⟨dcK, ?_⟩)
    repeat (first | (refine nf1_sound rfl ?_; simp [go_sem, ↓iO, iO, tN, hl, am_f, am_a, am_g, am_c, hq]) | refine anI ?_ | refine ⟨dcK, ?_⟩ | ((first | refine iP ?_ | refine iN ?_); try simp [go_sem, ↓iO, iO, tN, hl, am_f, am_a, am_g, am_c, hq]))
    refine CallK.fn (c4) [] [] [] (by kernel_rfl) ?_ ?_ ?_ (Or.inl rfl) ?_ <;> simp [go_sem, ↓iO, iO, tN]
    repeat (refine anI ?_)
    try (refine ⟨dcK, ?_⟩)
    repeat (first | (refine nf1_sound rfl ?_; simp [go_sem, ↓iO, iO, tN, q4]) | refine anI ?_ | refine ⟨dcK, ?_⟩ | ((first | refine iP ?_ | refine iN ?_); try simp [go_sem, ↓iO, iO, tN, q4]))
    first | rw [RetQ_ret] | rw [RetQ_normal]
    refine ⟨[], ?_⟩
    simp [go_sem, ↓iO, iO, tN]
theorem forderG_fn (d : NetD) (h : NetOk d) (rates prates : List Int) (pl : List T) (hf : FlowOk d rates prates pl) :
    FnOk Tryz.prog 48 [.t (.agg d.l), .t (.agg (plnL rates prates (.sl 1 pl)))] [] (.tup [.t (.sl 1 (((ordV (sgFl d.segs rates) d.nn.length d.nn.length []).map Int.ofNat).map encI)), .t (.int 0)]) [] := by
  have c1 := fcheckG_fn d h rates prates pl hf
  have c4 := order_fn d h rates prates (.sl 1 pl) rfl hf.pln
  obtain ⟨O, hO⟩ : ∃ O, ordV (sgFl d.segs rates) d.nn.length d.nn.length [] = O := ⟨_, rfl⟩
  rw [hO] at c4 ⊢
  refine FnOk.intro fact_mixed Tryz.func48 rfl Tryz.ntmps48 (by rfl) (by simp) ?_
  repeat (first | (refine nf1_sound rfl ?_; simp [go_sem, ↓iO, iO, tN]) | refine anI ?_ | refine ⟨dcK, ?_⟩ | ((first | refine iP ?_ | refine iN ?_); try simp [go_sem, ↓iO, iO, tN]))
  refine CallK.fn (c1) [] [] [] (by kernel_rfl) ?_ ?_ ?_ (Or.inl rfl) ?_ <;> simp [go_sem, ↓iO, iO, tN]
  repeat (refine anI ?_)
  try (refine ⟨dcK, ?_⟩)
  repeat (first | (refine nf1_sound rfl ?_; simp [go_sem, ↓iO, iO, tN]) | refine anI ?_ | refine ⟨dcK, ?_⟩ | ((first | refine iP ?_ | refine iN ?_); try simp [go_sem, ↓iO, iO, tN]))
  refine CallK.fn (c4) [] [] [] (by kernel_rfl) ?_ ?_ ?_ (Or.inl rfl) ?_ <;> simp [go_sem, ↓iO, iO, tN]
  repeat (refine anI ?_)
  try (refine ⟨dcK, ?_⟩)
  repeat (first | (refine nf1_sound rfl ?_; simp [go_sem, ↓iO, iO, tN]) | refine anI ?_ | refine ⟨dcK, ?_⟩ | ((first | refine iP ?_ | refine iN ?_); try simp [go_sem, ↓iO, iO, tN]))
  first | rw [RetQ_ret] | rw [RetQ_normal]
  refine ⟨[], ?_⟩
  simp [go_sem, ↓iO, iO, tN]
end Go.Proofs.YtdjmklobfjigoaaGreatDoor
namespace Go.Proofs.YtdjmklobfjigoaaGreatDoor
open Go.RowKit Sy Dl
def lpSeg (nm : Nat) (c : Int) : Sgm := (⟨[nm], 0, 1, c, 0, 0⟩, [(0, 0, 0), (c, 0, 0)])
def lpNet (c : Int) : NetD := ⟨[[97], [98]], [lpSeg 120 c, lpSeg 121 c], [([105, 110], 0, 0), ([111, 117, 116], 1, 0)], [], 0, 0⟩
theorem lpSeg_ok {nm : Nat} {c : Int} (h : 9 ≤ c ∧ c ≤ 30) : PipeOk (lpSeg nm c) := by
  refine ⟨by simp [lpSeg], by simp [lpSeg]; omega, by simp [lpSeg], by simp [lpSeg], by simp [lpSeg], fun k p hp => ?_, fun p hp => ?_, fun p hp => ?_⟩
  · match k, hp with
    | 0, hp => simp [lpSeg] at hp; subst hp; simp
    | 1, hp => simp [lpSeg] at hp; subst hp; simp [lpSeg]; omega
    | k + 2, hp => simp [lpSeg] at hp
  · simp [lpSeg] at hp; subst hp; rfl
  · simp [lpSeg] at hp; subst hp; rfl
theorem lpNet_ok {c : Int} (h : 9 ≤ c ∧ c ≤ 30) : NetOk (lpNet c) := by
  have one : ∀ k : List Nat, 1 ≤ k.length → k.length ≤ 12 → (∀ x ∈ k, 97 ≤ x ∧ x ≤ 122) → NameOk k := fun k => name_ok k
  refine ⟨by simp [lpNet], by simp [lpNet], by simp [lpNet], by simp [lpNet], by simp [lpNet], ?_, ?_, ?_, by simp [lpNet], by simp [lpNet], by simp [lpNet, lpSeg], by simp [lpNet], by simp [lpNet], by simp [lpNet], ?_, ?_, by simp [lpNet], ?_, ?_, by simp [lpNet], by simp [lpNet], by simp [lpNet]⟩
  · intro k hk
    simp [lpNet] at hk
    rcases hk with rfl | rfl <;> exact one _ (by simp) (by simp) (by simp)
  · intro s hs
    simp [lpNet] at hs
    rcases hs with rfl | rfl <;> exact one _ (by simp [lpSeg]) (by simp [lpSeg]) (by simp [lpSeg])
  · intro p hp
    simp [lpNet] at hp
    rcases hp with rfl | rfl <;> exact one _ (by simp) (by simp) (by simp)
  · intro s hs
    simp [lpNet] at hs
    rcases hs with rfl | rfl <;> simp [lpSeg, lpNet]
  · intro p hp
    simp [lpNet] at hp
    rcases hp with rfl | rfl <;> simp [lpNet]
  · intro s hs
    simp [lpNet] at hs
    rcases hs with rfl | rfl <;> exact lpSeg_ok h
  · intro p hp
    simp [lpNet] at hp
    rcases hp with rfl | rfl <;> simp
theorem lpFlow {c : Int} {r : Nat} (h : 1 ≤ r ∧ r ≤ 9) (hc : 9 ≤ c ∧ c ≤ 30) : FlowOk (lpNet c) [(r : Int), r] [2 * (r : Int), -(2 * (r : Int))] [] := by
  have e1 : sgFl (lpNet c).segs [(r : Int), r] = [(0, 1, (r : Int)), (0, 1, (r : Int))] := rfl
  have e2 : ptFl (lpNet c).ports [2 * (r : Int), -(2 * (r : Int))] = [(-1, 0, 2 * (r : Int)), (-1, 1, -(2 * (r : Int)))] := rfl
  refine ⟨⟨rfl, rfl, fun x hx => ?_, fun x hx => ?_⟩, fun k s x hs hx => ?_, rfl, ?_, ?_⟩
  · simp at hx; omega
  · simp at hx; omega
  · match k, hs, hx with
    | 0, hs, hx => simp [lpNet] at hs hx; subst hs; subst hx; simp only [lpSeg]; omega
    | 1, hs, hx => simp [lpNet] at hs hx; subst hs; subst hx; simp only [lpSeg]; omega
    | k + 2, hs, hx => simp at hx
  · rw [e1, e2]
    have : r = 1 ∨ r = 2 ∨ r = 3 ∨ r = 4 ∨ r = 5 ∨ r = 6 ∨ r = 7 ∨ r = 8 ∨ r = 9 := by omega
    rcases this with rfl | rfl | rfl | rfl | rfl | rfl | rfl | rfl | rfl <;> decide
  · rw [e1]
    show (ordV [(0, 1, (r : Int)), (0, 1, (r : Int))] 2 2 []).length = 2
    have : r = 1 ∨ r = 2 ∨ r = 3 ∨ r = 4 ∨ r = 5 ∨ r = 6 ∨ r = 7 ∨ r = 8 ∨ r = 9 := by omega
    rcases this with rfl | rfl | rfl | rfl | rfl | rfl | rfl | rfl | rfl <;> decide
def lpD (c : Int) (r : Nat) (b : Int) : LineD := ⟨.sl 1 ((lpNet c).nn.map encS), (lpNet c).segs, (lpNet c).ports, .sl 5 [], .int 0, .int 0, [(r : Int), r], [2 * (r : Int), -(2 * (r : Int))], .sl 1 [], [b, 0]⟩
theorem lpD_ok {c : Int} {r : Nat} {b : Int} (h : 1 ≤ r ∧ r ≤ 9) (hb : 0 ≤ b ∧ b < 1000) : LineOk (lpD c r b) := by
  refine ⟨rfl, rfl, rfl, rfl, rfl, rfl, rfl, rfl, by simp [lpD, lpNet], by simp [lpD, lpNet], by simp [lpD, lpNet], by simp [lpD, lpNet], fun x hx => ?_, fun x hx => ?_, fun x hx => ?_⟩
  · simp [lpD] at hx; omega
  · simp [lpD] at hx; omega
  · simp [lpD] at hx; omega
theorem lpD_ord {c : Int} {r : Nat} (h : 1 ≤ r ∧ r ≤ 9) (hc : 9 ≤ c ∧ c ≤ 30) (b : Int) : FnOk Tryz.prog 48 [.t (.agg (lpD c r b).net), .t (.agg (lpD c r b).plan)] [] (.tup [.t (.sl 1 ([(0 : Int), 1].map encI)), .t (.int 0)]) [] := by
  have := forderG_fn _ (lpNet_ok hc) _ _ _ (lpFlow h hc)
  have e1 : sgFl (lpNet c).segs [(r : Int), r] = [(0, 1, (r : Int)), (0, 1, (r : Int))] := rfl
  have e : (ordV (sgFl (lpNet c).segs [(r : Int), r]) (lpNet c).nn.length (lpNet c).nn.length []).map Int.ofNat = [0, 1] := by
    rw [e1]
    show (ordV [(0, 1, (r : Int)), (0, 1, (r : Int))] 2 2 []).map Int.ofNat = [0, 1]
    have : r = 1 ∨ r = 2 ∨ r = 3 ∨ r = 4 ∨ r = 5 ∨ r = 6 ∨ r = 7 ∨ r = 8 ∨ r = 9 := by omega
    rcases this with rfl | rfl | rfl | rfl | rfl | rfl | rfl | rfl | rfl <;> decide
  rw [e] at this
  exact this
theorem lp_deal {r : Nat} (h : 1 ≤ r ∧ r ≤ 9) {b : Int} (hb : 0 ≤ b ∧ b < 1000) : dealV [(b, 2 * (r : Int))] [(r : Int), r] = ([[(b, (r : Int))], [(b, (r : Int))]], 0) := by
  have hv : Pc.Vd [(b, 2 * (r : Int))] := vd_one hb (by omega) (by omega)
  have hR : Rates [(r : Int), r] := ⟨by simp, by simp; omega, by simp [tot]; omega⟩
  have hc : chk [(r : Int), r] (Pc.vol [(b, 2 * (r : Int))]) = 0 := chk_of hR (by simp [Pc.vol]; omega) (by simp [Pc.vol, tot]; omega)
  have hcs : cs [(r : Int), r] (2 * (r : Int)).toNat = [(r : Int), r] ∧ cs [(r : Int), r] 0 = [0, 0] := by
    have : r = 1 ∨ r = 2 ∨ r = 3 ∨ r = 4 ∨ r = 5 ∨ r = 6 ∨ r = 7 ∨ r = 8 ∨ r = 9 := by omega
    rcases this with rfl | rfl | rfl | rfl | rfl | rfl | rfl | rfl | rfl <;> decide
  unfold dealV
  rw [merge_vd hv]
  simp only [hc]
  rw [if_neg (by simp), if_neg (by simp)]
  have hr : (r : Int) ≠ 0 := by omega
  simp [dealt, List.range_succ, strm, hcs.1, hcs.2, rt, Pc.join, Pc.jstep, hr]
  omega
theorem join_two {f : List (Int × Int)} (hf : Pc.Vd f) (hl : f.length ≤ 90) (hbd : Pc.vol f ≤ 1000) : Pc.Vd (Pc.join (f ++ f)) ∧ Pc.vol (Pc.join (f ++ f)) = Pc.vol f + Pc.vol f ∧ Pc.Sane (f ++ f) := by
  have h0 : ∀ p ∈ f ++ f, 0 ≤ p.2 := fun p hp => hf.nonneg p (by simpa using hp)
  have hv : Pc.vol (Pc.join (f ++ f)) = Pc.vol f + Pc.vol f := by
    rw [vol_litres (Pc.join_canon h0), Pc.join_litres h0, Pc.litres_append, List.length_append, vol_litres hf.canon]; omega
  have hb := hf.sane.vol
  refine ⟨Pc.vd_of_canon (Pc.join_canon h0) (fun p hp => ?_) ?_ (by omega), hv, ⟨by simp; omega, fun p hp => hf.sane.each p (by simpa using hp)⟩⟩
  · have := mem_litres hp ((Pc.join_canon h0).pos p hp)
    rw [Pc.join_litres h0, Pc.litres_append] at this
    obtain ⟨q, hq, e⟩ := litres_mem (show p.1 ∈ Pc.litres f by simpa using this)
    rw [← e]; exact (hf.each q hq).1
  · have := Pc.join_length (f ++ f)
    rw [List.length_append] at this
    omega
theorem loop_tick {c r : Nat} (h : 1 ≤ r ∧ r ≤ 9) (hc : 9 ≤ c ∧ c ≤ 30) {b : Int} (hb : 0 ≤ b ∧ b < 1000) {X : List Int} (hX : TpOk X) {p : Nat} (hp : p + r + c ≤ X.length) (hfd : win X p r = List.replicate r b) :
    FnOk Tryz.prog 9 [.t (.agg (lpD c r b).net), .t (.sl 1 ([sgW X (p + r) c true, sgW X (p + r) c true].map encPs)), .t (.agg (lpD c r b).plan), .t (.sl 1 ([b, 0].map encI))] []
      (.tup [.own 1000, .own 1001, .t (.int 0)]) [(1000, blkG [some (sgW X p c true), some (sgW X p c true)]), (1001, blkG [none, some (Pc.join (stW X (p + c) r ++ stW X (p + c) r))])] := by
  have hd := lpD_ok (c := c) h hb
  have hr0 : (r : Int) ≠ 0 := by omega
  have hr1 : ¬ (r : Int) < 0 := by omega
  have hr2 : (2 * (r : Int)) ≠ 0 := by omega
  have hr3 : (0 : Int) < 2 * (r : Int) := by omega
  have hr4 : ¬ (0 : Int) < -(2 * (r : Int)) := by omega
  have hr5 : -(2 * (r : Int)) ≠ 0 := by omega
  have hr6 : r ≠ 0 := by omega
  have a1 : absI (2 * (r : Int)) = 2 * (r : Int) := by unfold absI; omega
  have a2 : absI (-(2 * (r : Int))) = 2 * (r : Int) := by unfold absI; omega
  have a3 : absI (r : Int) = r := by unfold absI; omega
  obtain ⟨d, hdd⟩ : ∃ d, lpD c r b = d := ⟨_, rfl⟩
  have eP : d.ports = [([105, 110], 0, 0), ([111, 117, 116], 1, 0)] := by rw [← hdd]; rfl
  have eR : d.prates = [2 * (r : Int), -(2 * (r : Int))] := by rw [← hdd]; rfl
  have eS : d.segs.map (·.1) = [(lpSeg 120 c).1, (lpSeg 121 c).1] := by rw [← hdd]; rfl
  have eS2 : d.segs = [lpSeg 120 c, lpSeg 121 c] := by rw [← hdd]; rfl
  have eT : d.rates = [(r : Int), r] := by rw [← hdd]; rfl
  have eF : d.feeds = [b, 0] := by rw [← hdd]; rfl
  have p00 : prtYs 0 true 0 d.ports d.prates = [(0, 2 * (r : Int))] := by rw [eP, eR]; simp [prtYs, hr3, hr4, a1, h.1]; omega
  have p01 : prtYs 0 false 0 d.ports d.prates = [] := by rw [eP, eR]; simp [prtYs, hr3, hr4]
  have p10 : prtYs 1 true 0 d.ports d.prates = [] := by rw [eP, eR]; simp [prtYs, hr3, hr4]; omega
  have p11 : prtYs 1 false 0 d.ports d.prates = [(1, 2 * (r : Int))] := by rw [eP, eR]; simp [prtYs, hr3, hr4, a2]; omega
  have s00 : segYs 0 true 0 (d.segs.map (·.1)) d.rates = [] := by rw [eS, eT]; simp [segYs, lpSeg, tgt, endB, hr1]
  have s01 : segYs 0 false 0 (d.segs.map (·.1)) d.rates = [(0, (r : Int)), (1, (r : Int))] := by rw [eS, eT]; simp [segYs, lpSeg, tgt, endA, hr1, a3, hr6]
  have s10 : segYs 1 true 0 (d.segs.map (·.1)) d.rates = [(0, (r : Int)), (1, (r : Int))] := by rw [eS, eT]; simp [segYs, lpSeg, tgt, endB, hr1, a3, hr6]
  have s11 : segYs 1 false 0 (d.segs.map (·.1)) d.rates = [] := by rw [eS, eT]; simp [segYs, lpSeg, tgt, endA, hr1]
  have hf := sgW_vd hX (p + r) c true
  have hfl := sgW_len hX (p + r) c true
  obtain ⟨o, ho1, ho2⟩ := push_win hX p r c hp true
  rw [stW_fed (by omega) hfd] at ho1
  simp only [Bool.not_true, Bool.false_eq_true, if_false, List.reverse_singleton] at ho1 ho2
  have hol := ho1.vo.len
  have hov := stW_vd hX (p + c) r
  have hon := win_rn hX (p + c) r
  have hovol := stW_vol (X := X) (p := p + c) (r := r) (by omega)
  obtain ⟨jv, jvol, jsane⟩ := join_two hov (by rw [stW, List.length_reverse]; exact hon) (by omega)
  obtain ⟨f, hff⟩ : ∃ f, sgW X (p + r) c true = f := ⟨_, rfl⟩
  obtain ⟨n, hnn⟩ : ∃ f, sgW X p c true = f := ⟨_, rfl⟩
  obtain ⟨q, hqq⟩ : ∃ q, stW X (p + c) r = q := ⟨_, rfl⟩
  obtain ⟨l, hll⟩ : ∃ l, Pc.join (q ++ q) = l := ⟨_, rfl⟩
  rw [hff] at hf hfl ho1
  rw [hnn] at ho1
  rw [hqq] at ho2 hov jv jvol jsane hovol
  rw [hll] at jv jvol
  rw [hff, hnn, hqq, hll]
  have hb0 : ∀ i, i < 2 → backAt d.rates (i, (r : Int)) = false := fun i hi => by
    rw [eT]
    match i, hi with
    | 0, _ => simp [backAt]
    | 1, _ => simp [backAt]
  have hfill : fillV f [(b, (r : Int))] false = n := by simp [fillV, ho1.eq]
  have hout : outV f [(b, (r : Int))] false = q := by simp [outV, ho1.eq, ho2]
  have hpe : pushE f [(b, (r : Int))] false = 0 := by simp [pushE, ho1.eq]
  have hv1 := vd_one (r := 2 * (r : Int)) hb (by omega) (by omega)
  have hql : q.length ≤ 1000000 := by have := hov.len; omega
  have g0 : ∀ i, i < 2 → gvAt [some f, some f] (i, (r : Int)) = f := fun i hi => by
    match i, hi with
    | 0, _ => rfl
    | 1, _ => rfl
  have n0 : NodeC d (.sl 1 ([(0 : Int), 1].map encI)) 0 [some f, some f] [none, none] [none, none] [some n, some n] [some q, some q] [none, none] := by
    have hcm : comesV d [none, none] 0 = [(b, 2 * (r : Int))] := by unfold comesV; rw [p00, s00, eF]; rfl
    have := node_fn d (hdd ▸ hd) (.sl 1 ([(0 : Int), 1].map encI)) rfl [some f, some f] [none, none] [none, none] 0 (by rw [eS2]; rfl) (by rw [eS2]; rfl) (by rw [eP]; rfl) (by rw [hcm]; exact hv1.sane) (by rw [s00]; simp)
      [(b, 2 * (r : Int))] (by rw [hcm]; exact Pc.join_self hv1.canon) (by simp) (by simp) [] [(0, (r : Int)), (1, (r : Int))] p01 s01 [[(b, (r : Int))], [(b, (r : Int))]] (lp_deal h hb) rfl (fun k y hy => by
        match k, hy with
        | 0, hy =>
          simp at hy; subst hy
          rw [hb0 0 (by omega), g0 0 (by omega)]
          exact ⟨⟨f, rfl, by omega⟩, by simp, by simp [hout, hql], by simpa using hpe⟩
        | 1, hy =>
          simp at hy; subst hy
          rw [hb0 1 (by omega), g0 1 (by omega)]
          exact ⟨⟨f, rfl, by omega⟩, by simp, by simp [hout, hql], by simpa using hpe⟩
        | k + 2, hy => simp at hy)
    unfold NodeC
    simp only [List.length_cons, List.length_nil, setK, nodeF, nodeG, outO, List.getD_cons_zero, List.getD_cons_succ, hb0 0 (by omega), hb0 1 (by omega), g0 0 (by omega), g0 1 (by omega), Nat.zero_add, Nat.reduceAdd, hfill, hout, List.set_cons_zero, List.set_cons_succ] at this
    exact this
  have hne : l ≠ [] := fun e => by
    rw [e] at jvol
    simp [Pc.vol] at jvol; omega
  have n1 : NodeC d (.sl 1 ([(0 : Int), 1].map encI)) 1 [some n, some n] [some q, some q] [none, none] [some n, some n] [some q, some q] [none, some l] := by
    have hcm : comesV d [some q, some q] 1 = q ++ q := by unfold comesV; rw [p10, s10]; simp [prtPc, gvAt]
    have := node_fn d (hdd ▸ hd) (.sl 1 ([(0 : Int), 1].map encI)) rfl [some n, some n] [some q, some q] [none, none] 1 (by rw [eS2]; rfl) (by rw [eS2]; rfl) (by rw [eP]; rfl) (by rw [hcm]; exact jsane) (by
        rw [s10]
        intro z hz p hp
        have : p ∈ q := by
          simp at hz
          rcases hz with rfl | rfl <;> simpa [gvAt] using hp
        have := (hov.each p this).2
        omega)
      l (by rw [hcm]; exact hll) hne jv.len [(1, 2 * (r : Int))] [] p11 s11 [l] (deal_one (2 * (r : Int)) (by omega) (by omega) l jv (by omega) hne) rfl (fun j y hy => by simp at hy)
    unfold NodeC
    simp only [List.length_singleton, List.length_nil, setK, nodeF, nodeG, outO, List.getD_cons_zero, List.set_cons_zero, List.set_cons_succ] at this
    exact this
  have ho := lpD_ord (c := (c : Int)) h (by omega) b
  have hnc := ncheckG_fn _ (lpNet_ok (c := (c : Int)) (by omega))
  have hfvol := sgW_vol (X := X) (p := p + r) (c := c) hp true
  rw [hff] at hfvol
  rw [hdd] at ho
  have := atick_fn d (hdd ▸ hd) (by unfold NetC; rw [← hdd]; exact hnc) [f, f] ⟨by rw [eS2]; rfl, fun g hg => by simp at hg; subst hg; exact hf, fun i g s hg hs => by
      rw [eS2] at hs
      match i, hg, hs with
      | 0, hg, hs => simp at hg hs; subst hg; subst hs; exact hfvol
      | 1, hg, hs => simp at hg hs; subst hg; subst hs; exact hfvol
      | i + 2, hg, hs => simp at hg⟩ [0, 1] (by simp) ho (by rw [eF]; intro x hx; simp at hx; omega)
    (fun k => if k = 0 then [some f, some f] else [some n, some n]) (fun k => if k = 0 then [none, none] else [some q, some q]) (fun k => if k < 2 then [none, none] else [none, some l]) rfl (by rw [eS2]; rfl) (by rw [eP]; rfl) (fun k node hk => by
      match k, hk with
      | 0, hk => simp at hk; subst hk; exact n0
      | 1, hk => simp at hk; subst hk; exact n1
      | k + 2, hk => simp at hk)
  rw [eF] at this
  rw [hdd]
  exact this
end Go.Proofs.YtdjmklobfjigoaaGreatDoor
namespace Go.Proofs.YtdjmklobfjigoaaGreatDoor
open Go.RowKit Sy Dl
open Go.IntWalk renaming iteOmega → iO, toNatUp → tN
def volV (b : Int) : List (List (Int × Int)) → Int
  | [] => 0
  | l :: r => Pc.of_ l b + volV b r
theorem volV_app (b : Int) : ∀ (x y : List (List (Int × Int))), volV b (x ++ y) = volV b x + volV b y
  | [], y => by simp [volV]
  | l :: r, y => by simp only [List.cons_append, volV, volV_app b r y]; omega
theorem volV_snoc {ls : List (List (Int × Int))} {k : Nat} {l : List (Int × Int)} (b : Int) (h : ls[k]? = some l) : volV b (ls.take (k + 1)) = volV b (ls.take k) + Pc.of_ l b := by
  obtain ⟨hk, rfl⟩ := List.getElem?_eq_some_iff.1 h
  rw [List.take_succ_eq_append_getElem hk, volV_app]; simp [volV]
structure VlOk (l : List (Int × Int)) : Prop where
  len : l.length ≤ 10000
  each : ∀ p ∈ l, 0 ≤ p.2 ∧ p.2 ≤ 1000000
theorem volV_bd (b : Int) : ∀ (ls : List (List (Int × Int))), (∀ l ∈ ls, VlOk l) → 0 ≤ volV b ls ∧ volV b ls ≤ 10000000000 * (ls.length : Int)
  | [], _ => by simp [volV]
  | l :: r, h => by
    have h1 := h l (by simp)
    have h2 := volV_bd b r fun x hx => h x (by simp [hx])
    have h3 := Pc.of_bound l b h1.each
    have h4 := h1.len
    simp only [volV, List.length_cons]
    omega
theorem tvolume_fn (ls : List (List (Int × Int))) (b : Int) (hl : ls.length ≤ 1000) (h : ∀ l ∈ ls, VlOk l) : FnOk Tryz.prog 12 [.t (.sl 1 (ls.map encPs)), .t (.int b)] [] (.t (.int (volV b ls))) [] := by
  refine FnOk.intro fact_mixed Tryz.func12 rfl Tryz.ntmps12 (by rfl) (by simp) ?_
  repeat (first | (refine nf1_sound rfl ?_; simp [go_sem, ↓iO, iO, tN]) | refine anI ?_ | refine ⟨dcK, ?_⟩ | ((first | refine iP ?_ | refine iN ?_); try simp [go_sem, ↓iO, iO, tN]))
  refine nf1_sound' _ _ _ ?_; simp only [nf1]
  refine CW.loop (ι := Nat) (fun k => ⟨[(0, .t (.sl 1 (ls.map encPs))), (1, .t (.int b)), (5, .t (.int (volV b (ls.take k)))), (10, .t (.int ls.length)), (11, .t (.int k))], []⟩) (fun k => k ≤ ls.length) (fun k => ls.length - k) 0 [] (by omega) ?_ ?_
  · simp [go_sem, ↓iO, iO, tN, volV]
  intro k hk
  by_cases hb : k < ls.length
  · obtain ⟨l, hp⟩ := has_get hb
    have hv := h l (mem_get hp)
    have hvl := hv.len
    have hs := volV_snoc b hp
    have hb1 := volV_bd b (ls.take k) fun x hx => h x (List.mem_of_mem_take hx)
    rw [List.length_take] at hb1
    obtain ⟨A, hA⟩ : ∃ A, volV b (ls.take k) = A := ⟨_, rfl⟩
    rw [hA] at hb1 hs ⊢
    repeat (first | (refine nf1_sound rfl ?_; simp [go_sem, ↓iO, iO, tN, hp]) | refine anI ?_ | refine ⟨dcK, ?_⟩ | ((first | refine iP ?_ | refine iN ?_); try simp [go_sem, ↓iO, iO, tN, hp]))
    refine nf1_sound' _ _ _ ?_; simp only [nf1]
    refine CW.loop (ι := Nat) (fun j => ⟨[(0, .t (.sl 1 (ls.map encPs))), (1, .t (.int b)), (5, .t (.int (A + Pc.of_ (l.take j) b))), (10, .t (.int ls.length)), (11, .t (.int k)), (17, .t (encPs l)), (18, .t (.int l.length)), (19, .t (.int j))], []⟩) (fun j => j ≤ l.length) (fun j => l.length - j) 0 [] (by omega) ?_ ?_
    · simp [go_sem, ↓iO, iO, tN, Pc.of_]
    intro j hj
    by_cases hb2 : j < l.length
    · obtain ⟨p, hp2⟩ := has_get hb2
      have hs2 := Pc.of_snoc b hp2
      have hb3 := Pc.of_bound (l.take j) b fun x hx => hv.each x (List.mem_of_mem_take hx)
      rw [List.length_take] at hb3
      have hpv := hv.each p (mem_get hp2)
      by_cases he : p.1 = b
      · rw [if_pos he] at hs2
        repeat (first | (refine nf1_sound rfl ?_; simp [go_sem, ↓iO, iO, tN, hp2, he]) | refine anI ?_ | refine ⟨dcK, ?_⟩ | ((first | refine iP ?_ | refine iN ?_); try simp [go_sem, ↓iO, iO, tN, hp2, he]))
        rw [RoundQ_normal]; refine ⟨j + 1, [], ?_, ?_, ?_⟩
        · omega
        · omega
        simp [go_sem, ↓iO, iO, tN, hs2]
        omega
      · rw [if_neg he] at hs2
        repeat (first | (refine nf1_sound rfl ?_; simp [go_sem, ↓iO, iO, tN, hp2, he]) | refine anI ?_ | refine ⟨dcK, ?_⟩ | ((first | refine iP ?_ | refine iN ?_); try simp [go_sem, ↓iO, iO, tN, hp2, he]))
        rw [RoundQ_normal]; refine ⟨j + 1, [], ?_, ?_, ?_⟩
        · omega
        · omega
        simp [go_sem, ↓iO, iO, tN, hs2]
    · obtain rfl : j = l.length := by omega
      rw [List.take_length]
      repeat (first | (refine nf1_sound rfl ?_; simp [go_sem, ↓iO, iO, tN]) | refine anI ?_ | refine ⟨dcK, ?_⟩ | ((first | refine iP ?_ | refine iN ?_); try simp [go_sem, ↓iO, iO, tN]))
      rw [RoundQ_normal]; refine ⟨k + 1, [], ?_, ?_, ?_⟩
      · omega
      · omega
      simp [go_sem, ↓iO, iO, tN, hs]
  · obtain rfl : k = ls.length := by omega
    repeat (first | (refine nf1_sound rfl ?_; simp [go_sem, ↓iO, iO, tN]) | refine anI ?_ | refine ⟨dcK, ?_⟩ | ((first | refine iP ?_ | refine iN ?_); try simp [go_sem, ↓iO, iO, tN]))
    first | rw [RetQ_ret] | rw [RetQ_normal]
    refine ⟨[], ?_⟩
    simp [go_sem, ↓iO, iO, tN, List.take_length]
end Go.Proofs.YtdjmklobfjigoaaGreatDoor
namespace Go.Proofs.YtdjmklobfjigoaaGreatDoor
open Go.RowKit Sy
open Go.IntWalk renaming iteOmega → iO, toNatUp → tN
def rangeV (l : List Int) (k : Nat) (lo hi : Int) : Int := lo + nV l k (hi - lo + 1)
theorem rangeV_range {l : List Int} {k : Nat} {lo hi : Int} (h : lo ≤ hi) : lo ≤ rangeV l k lo hi ∧ rangeV l k lo hi ≤ hi := by
  have := nV_range (l := l) (k := k) (n := hi - lo + 1) (by omega)
  unfold rangeV; omega
theorem range_fn (l : List Int) (k : Nat) (lo hi : Int) (h : SrcOk l k) (h1 : -1000000000000000000 ≤ lo) (h2 : lo ≤ hi) (h3 : hi ≤ 1000000000000000000) :
    FnOk Tryz.prog 8 [.pt 0 [] 0, .t (.int lo), .t (.int hi)] [(0, srcB l k)] (.t (.int (rangeV l k lo hi))) [(0, srcB l (nextK l k))] := by
  have h4 := nV_range (l := l) (k := k) (n := hi - lo + 1) (by omega)
  refine FnOk.intro fact_mixed Tryz.func8 rfl Tryz.ntmps8 (by rfl) (by simp) ?_
  repeat (first | (refine nf1_sound rfl ?_; simp [go_sem, ↓iO, iO, tN]) | refine anI ?_ | refine ⟨dcK, ?_⟩ | ((first | refine iP ?_ | refine iN ?_); try simp [go_sem, ↓iO, iO, tN]))
  refine CallK.fn (n_fn l k (hi - lo + 1) h (by omega)) [(0, 0)] [] [] (by kernel_rfl) ?_ ?_ ?_ (Or.inl rfl) ?_ <;> simp [go_sem, ↓iO, iO, tN]
  repeat (refine anI ?_)
  try (refine ⟨dcK, ?_⟩)
  repeat (first | (refine nf1_sound rfl ?_; simp [go_sem, ↓iO, iO, tN]) | refine anI ?_ | refine ⟨dcK, ?_⟩ | ((first | refine iP ?_ | refine iN ?_); try simp [go_sem, ↓iO, iO, tN]))
  first | rw [RetQ_ret] | rw [RetQ_normal]
  refine ⟨[(0, some 0)], ?_⟩
  simp [go_sem, ↓iO, iO, tN, rangeV]
def ndT (i : Nat) : T := .lit (.string (str [110, 97 + i]))
end Go.Proofs.YtdjmklobfjigoaaGreatDoor
namespace Go.Proofs.YtdjmklobfjigoaaGreatDoor
open Go.RowKit Sy Dl
theorem rle_app (a b : List Int) : (rle (a ++ b)).length ≤ (rle a).length + (rle b).length := by
  have hp : ∀ p ∈ rle a ++ rle b, 0 ≤ p.2 := fun p hp => by
    rcases List.mem_append.1 hp with h | h
    · exact Int.le_of_lt ((rle_canon a).pos p h)
    · exact Int.le_of_lt ((rle_canon b).pos p h)
  have : rle (a ++ b) = Pc.join (rle a ++ rle b) := (rle_of (Pc.join_canon hp) (by rw [Pc.join_litres hp, Pc.litres_append, rle_lit, rle_lit])).symm
  rw [this]
  have := Pc.join_length (rle a ++ rle b)
  rw [List.length_append] at this
  exact this
theorem rle_rep (n : Nat) (b : Int) : (rle (List.replicate n b)).length ≤ 1 := by
  cases n with
  | zero => simp [rle, Pc.join]
  | succ n =>
    have : [(b, ((n + 1 : Nat) : Int))] = rle (List.replicate (n + 1) b) := rle_of ⟨by show (0 : Int) < ((n + 1 : Nat) : Int); omega, by simp, trivial⟩ (litres_rep (n + 1) b)
    rw [← this]; simp
theorem win_skip (a b : List Int) (p n : Nat) : win (a ++ b) (a.length + p) n = win b p n := by
  simp only [win]
  rw [List.drop_append, List.drop_of_length_le (by omega), List.nil_append]
  congr 2; omega
end Go.Proofs.YtdjmklobfjigoaaGreatDoor
namespace Go.Proofs.YtdjmklobfjigoaaGreatDoor
open Go.RowKit Sy
open Go.IntWalk renaming iteOmega → iO, toNatUp → tN
end Go.Proofs.YtdjmklobfjigoaaGreatDoor
namespace Go.Proofs.YtdjmklobfjigoaaGreatDoor
open Go.RowKit Sy Dl
theorem sgW_of {X : List Int} {p c : Nat} {fw : Bool} (b : Int) : Pc.of_ (sgW X p c fw) b = ((win X p c).count b : Int) := by
  rw [of_count b (fun q hq => Int.le_of_lt ((sgW_canon X p c fw).pos q hq)), sgW_lit]
  split
  · rfl
  · rw [List.count_reverse]
theorem win_rev {X : List Int} {q c : Nat} (h : q + c ≤ X.length) : win X.reverse q c = (win X (X.length - q - c) c).reverse := by
  simp only [win]
  rw [List.drop_reverse, List.take_reverse, List.length_take, List.drop_take]
  have e1 : min (X.length - q) X.length - c = X.length - q - c := by omega
  have e2 : X.length - q - (X.length - q - c) = c := by omega
  rw [e1, e2]
def lpA (r : Nat) : List Int := List.replicate (10 * r) 3 ++ (List.replicate (10 * r) 2 ++ (List.replicate (10 * r) 1 ++ List.replicate (10 * r) 0))
def lpX (r c : Nat) : List Int := lpA r ++ List.replicate c 9
theorem lpA_len (r : Nat) : (lpA r).length = 40 * r := by simp [lpA]; omega
theorem lpX_len (r c : Nat) : (lpX r c).length = 40 * r + c := by simp [lpX, lpA_len]
theorem win_left {a b : List Int} {p n : Nat} (h : p + n ≤ a.length) : win (a ++ b) p n = win a p n := by
  simp only [win]
  rw [List.drop_append, List.take_append]
  have : n - (List.drop p a).length = 0 := by simp; omega
  rw [this]; simp
def lpFd (r : Nat) : Bool := (List.range 40).all fun k => decide (win (lpA r) ((39 - k) * r) r = List.replicate r ((k / 10 : Nat) : Int))
theorem lpFd_all : ∀ r, r < 9 → lpFd (r + 1) = true := by decide +kernel
theorem lp_fed {r c k : Nat} (h : 1 ≤ r ∧ r ≤ 9) (hk : k < 40) : win (lpX r c) ((39 - k) * r) r = List.replicate r ((k / 10 : Nat) : Int) := by
  have h1 := lpFd_all (r - 1) (by omega)
  rw [show r - 1 + 1 = r by omega] at h1
  have h2 := List.all_eq_true.1 h1 k (List.mem_range.2 hk)
  rw [lpX, win_left ?_]
  · exact of_decide_eq_true h2
  · rw [lpA_len]
    have e : (39 - k) * r + r = (39 - k + 1) * r := by rw [Nat.add_mul, Nat.one_mul]
    rw [e]
    exact Nat.mul_le_mul_right _ (by omega)
theorem lpX_ok {r c : Nat} (h : 1 ≤ r ∧ r ≤ 9) (hc : 9 ≤ c ∧ c ≤ 30) : TpOk (lpX r c) := by
  refine ⟨fun b hb => ?_, by rw [lpX_len]; omega, ?_⟩
  · simp only [lpX, lpA, List.mem_append, List.mem_replicate] at hb
    omega
  · have a1 := rle_app (lpA r) (List.replicate c 9)
    have a2 := rle_app (List.replicate (10 * r) 3) (List.replicate (10 * r) 2 ++ (List.replicate (10 * r) 1 ++ List.replicate (10 * r) 0))
    have a3 := rle_app (List.replicate (10 * r) 2) (List.replicate (10 * r) 1 ++ List.replicate (10 * r) 0)
    have a4 := rle_app (List.replicate (10 * r) 1) (List.replicate (10 * r) 0)
    have b0 := rle_rep (10 * r) 0
    have b1 := rle_rep (10 * r) 1
    have b2 := rle_rep (10 * r) 2
    have b3 := rle_rep (10 * r) 3
    have b9 := rle_rep c 9
    simp only [lpX]
    unfold lpA at a1 ⊢
    omega
def lpO (r c k : Nat) : List (Int × Int) := Pc.join (stW (lpX r c) ((39 - k) * r + c) r ++ stW (lpX r c) ((39 - k) * r + c) r)
def lpCm (r c : Nat) : Nat → List (Int × Int)
  | 0 => []
  | k + 1 => lpCm r c k ++ lpO r c k
def lastC : List (Int × Int) → Int → Bool
  | [], _ => true
  | p :: t, a => if p.1 ≠ 9 ∧ a < p.1 then decide (p.1 = a + 1) && lastC t p.1 else lastC t a
def lastL : List Int → Int → Option Int
  | [], a => some a
  | x :: t, a => if x ≠ 9 ∧ a < x then (if x = a + 1 then lastL t x else none) else lastL t a
theorem lastL_app : ∀ (u v : List Int) (a : Int), lastL (u ++ v) a = (lastL u a).bind (lastL v)
  | [], v, a => rfl
  | x :: t, v, a => by
    simp only [List.cons_append, lastL]
    split
    · split
      · exact lastL_app t v x
      · rfl
    · exact lastL_app t v a
theorem lastL_idle : ∀ {u : List Int} {a : Int}, (∀ x ∈ u, x = 9 ∨ x ≤ a) → lastL u a = some a
  | [], a, _ => rfl
  | x :: t, a, h => by
    have := h x (by simp)
    simp only [lastL]
    rw [if_neg (by omega)]
    exact lastL_idle fun y hy => h y (by simp [hy])
theorem lastL_max : ∀ {u : List Int} {a b : Int}, lastL u a = some b → a ≤ b ∧ ∀ x ∈ u, x = 9 ∨ x ≤ b
  | [], a, b, h => by simp [lastL] at h; subst h; simp
  | x :: t, a, b, h => by
    simp only [lastL] at h
    split at h
    · split at h
      · have := lastL_max h
        refine ⟨by omega, fun y hy => ?_⟩
        rcases List.mem_cons.1 hy with rfl | hy
        · exact .inr this.1
        · exact this.2 y hy
      · cases h
    · have := lastL_max h
      refine ⟨this.1, fun y hy => ?_⟩
      rcases List.mem_cons.1 hy with rfl | hy
      · omega
      · exact this.2 y hy
theorem lastC_of : ∀ {l : List (Int × Int)} {a b : Int}, (∀ p ∈ l, 0 < p.2) → lastL (Pc.litres l) a = some b → lastC l a = true
  | [], _, _, _, _ => rfl
  | p :: t, a, b, hp, h => by
    have h0 := hp p (by simp)
    have ht : ∀ q ∈ t, 0 < q.2 := fun q hq => hp q (by simp [hq])
    rw [Pc.litres_cons, lastL_app] at h
    obtain ⟨n, hn⟩ : ∃ n, p.2.toNat = n + 1 := ⟨p.2.toNat - 1, by omega⟩
    rw [hn, List.replicate_succ] at h
    simp only [lastL] at h
    simp only [lastC]
    by_cases hx : p.1 ≠ 9 ∧ a < p.1
    · rw [if_pos hx] at h ⊢
      by_cases he : p.1 = a + 1
      · rw [if_pos he, lastL_idle (fun y hy => by rw [(List.mem_replicate.1 hy).2]; exact .inr (Int.le_refl _))] at h
        rw [decide_eq_true he, Bool.true_and]
        exact lastC_of ht h
      · rw [if_neg he] at h; cases h
    · rw [if_neg hx] at h ⊢
      rw [lastL_idle (fun y hy => by rw [(List.mem_replicate.1 hy).2]; omega)] at h
      exact lastC_of ht h
theorem lpX_rev (r c : Nat) : (lpX r c).reverse = List.replicate c 9 ++ (List.replicate (10 * r) 0 ++ (List.replicate (10 * r) 1 ++ (List.replicate (10 * r) 2 ++ List.replicate (10 * r) 3))) := by
  simp [lpX, lpA]
theorem lpX_last {r c : Nat} (h : 1 ≤ r) : lastL (lpX r c).reverse (-1) = some 3 := by
  obtain ⟨m, hm⟩ : ∃ m, 10 * r = m + 1 := ⟨10 * r - 1, by omega⟩
  have st : ∀ x : Int, x ≠ 9 → lastL (List.replicate (m + 1) x) (x - 1) = some x := fun x hx => by
    rw [List.replicate_succ]
    simp only [lastL]
    rw [if_pos ⟨hx, by omega⟩, if_pos (by omega)]
    exact lastL_idle fun y hy => by rw [(List.mem_replicate.1 hy).2]; exact .inr (Int.le_refl _)
  have s0 := st 0 (by omega)
  have s1 := st 1 (by omega)
  have s2 := st 2 (by omega)
  have s3 := st 3 (by omega)
  have z9 : lastL (List.replicate c 9) (-1) = some (-1) := lastL_idle fun y hy => .inl (List.mem_replicate.1 hy).2
  rw [lpX_rev, hm, lastL_app, z9]
  simp only [Option.bind_some]
  rw [lastL_app, show (-1 : Int) = 0 - 1 by omega, s0]
  simp only [Option.bind_some]
  rw [lastL_app, show (0 : Int) = 1 - 1 by omega, s1]
  simp only [Option.bind_some]
  rw [lastL_app, show (1 : Int) = 2 - 1 by omega, s2]
  simp only [Option.bind_some]
  rw [show (2 : Int) = 3 - 1 by omega, s3]
theorem lp_chunk {r c k : Nat} (hk : k < 40) : (win (lpX r c) ((39 - k) * r + c) r).reverse = win (lpX r c).reverse (k * r) r := by
  have e : (39 - k) * r + k * r + r = 40 * r := by
    rw [← Nat.add_mul, show 39 - k + k = 39 by omega]
    omega
  rw [win_rev (by rw [lpX_len]; omega), lpX_len]
  congr 2
  omega
theorem lpO_lit {r c k : Nat} (hk : k < 40) : Pc.litres (lpO r c k) = win (lpX r c).reverse (k * r) r ++ win (lpX r c).reverse (k * r) r := by
  have h0 : ∀ p ∈ stW (lpX r c) ((39 - k) * r + c) r ++ stW (lpX r c) ((39 - k) * r + c) r, 0 ≤ p.2 := fun p hp => by
    have : p ∈ stW (lpX r c) ((39 - k) * r + c) r := by simpa using hp
    rw [stW, List.mem_reverse] at this
    exact Int.le_of_lt ((rle_canon _).pos p this)
  rw [lpO, Pc.join_litres h0, Pc.litres_append, stW, litres_rev, rle_lit, lp_chunk hk]
theorem lpO_pos {r c k : Nat} : ∀ p ∈ lpO r c k, 0 < p.2 := by
  have h0 : ∀ p ∈ stW (lpX r c) ((39 - k) * r + c) r ++ stW (lpX r c) ((39 - k) * r + c) r, 0 ≤ p.2 := fun p hp => by
    have : p ∈ stW (lpX r c) ((39 - k) * r + c) r := by simpa using hp
    rw [stW, List.mem_reverse] at this
    exact Int.le_of_lt ((rle_canon _).pos p this)
  exact fun p hp => (Pc.join_canon h0).pos p hp
theorem lpCm_pos {r c : Nat} : ∀ k, ∀ p ∈ lpCm r c k, 0 < p.2
  | 0, p, hp => by simp [lpCm] at hp
  | k + 1, p, hp => by
    simp only [lpCm, List.mem_append] at hp
    rcases hp with hp | hp
    · exact lpCm_pos k p hp
    · exact lpO_pos p hp
theorem lpCm_last {r c : Nat} (h : 1 ≤ r) : ∀ k, k ≤ 40 → ∃ b, lastL (Pc.litres (lpCm r c k)) (-1) = some b ∧ lastL ((lpX r c).reverse.take (k * r)) (-1) = some b
  | 0, _ => ⟨-1, rfl, by simp [lastL]⟩
  | k + 1, hk => by
    obtain ⟨b, h1, h2⟩ := lpCm_last h k (by omega)
    have hall := lpX_last (c := c) h
    have e : (lpX r c).reverse = (lpX r c).reverse.take ((k + 1) * r) ++ (lpX r c).reverse.drop ((k + 1) * r) := (List.take_append_drop _ _).symm
    have e2 : (lpX r c).reverse.take ((k + 1) * r) = (lpX r c).reverse.take (k * r) ++ win (lpX r c).reverse (k * r) r := by
      rw [Nat.add_mul, Nat.one_mul, List.take_add]; rfl
    rw [e, lastL_app] at hall
    cases hz : lastL ((lpX r c).reverse.take ((k + 1) * r)) (-1) with
    | none => rw [hz] at hall; cases hall
    | some b' =>
      refine ⟨b', ?_, rfl⟩
      rw [e2, lastL_app, h2] at hz
      simp only [Option.bind_some] at hz
      have h3 := lastL_max hz
      have h4 := lastL_idle h3.2
      simp only [lpCm, Pc.litres_append, lpO_lit (show k < 40 by omega)]
      rw [lastL_app, h1]
      simp only [Option.bind_some]
      rw [lastL_app, hz]
      exact h4
theorem lp_order {r c : Nat} (h : 1 ≤ r) : lastC (lpCm r c 40) (-1) = true := by
  obtain ⟨b, h1, _⟩ := lpCm_last (c := c) h 40 (Nat.le_refl _)
  exact lastC_of (lpCm_pos 40) h1
theorem lpCm_cnt {r c : Nat} (b : Int) : ∀ k, k ≤ 40 → (Pc.litres (lpCm r c k)).count b = 2 * ((lpX r c).reverse.take (k * r)).count b
  | 0, _ => by simp [lpCm, Pc.litres]
  | k + 1, hk => by
    have e2 : (lpX r c).reverse.take ((k + 1) * r) = (lpX r c).reverse.take (k * r) ++ win (lpX r c).reverse (k * r) r := by
      rw [Nat.add_mul, Nat.one_mul, List.take_add]; rfl
    simp only [lpCm, Pc.litres_append, lpO_lit (show k < 40 by omega), List.count_append, lpCm_cnt b k (by omega), e2]
    omega
theorem lp_sum {r c : Nat} (h : 1 ≤ r) {b : Int} (hb : 0 ≤ b ∧ b < 4) : Pc.of_ (lpCm r c 40) b + 2 * Pc.of_ (sgW (lpX r c) 0 c true) b = 20 * (r : Int) := by
  rw [of_count b fun p hp => Int.le_of_lt (lpCm_pos 40 p hp), sgW_of, lpCm_cnt b 40 (Nat.le_refl _)]
  have e1 : (win (lpX r c) 0 c).count b + ((lpX r c).reverse.take (40 * r)).count b = (lpX r c).count b := by
    rw [List.take_reverse, lpX_len, show 40 * r + c - 40 * r = c by omega, List.count_reverse]
    simp only [win, List.drop_zero]
    rw [← List.count_append, List.take_append_drop]
  have e2 : (lpX r c).count b = 10 * r := by
    have h9 : ¬ (9 : Int) = b := by omega
    have : b = 0 ∨ b = 1 ∨ b = 2 ∨ b = 3 := by omega
    rcases this with rfl | rfl | rfl | rfl <;> simp [lpX, lpA, List.count_append, List.count_replicate]
  omega
theorem lpO_len {r c : Nat} (h : 1 ≤ r ∧ r ≤ 9) (hc : 9 ≤ c ∧ c ≤ 30) (k : Nat) : (lpO r c k).length ≤ 180 := by
  have h1 := win_rn (lpX_ok h hc) ((39 - k) * r + c) r
  have h2 := Pc.join_length (stW (lpX r c) ((39 - k) * r + c) r ++ stW (lpX r c) ((39 - k) * r + c) r)
  rw [List.length_append, stW, List.length_reverse] at h2
  unfold lpO
  rw [stW]
  omega
theorem lpCm_len {r c : Nat} (h : 1 ≤ r ∧ r ≤ 9) (hc : 9 ≤ c ∧ c ≤ 30) : ∀ k, (lpCm r c k).length ≤ 180 * k
  | 0 => by simp [lpCm]
  | k + 1 => by
    have h1 := lpCm_len h hc k
    have h2 := lpO_len h hc k
    simp only [lpCm, List.length_append]
    omega
end Go.Proofs.YtdjmklobfjigoaaGreatDoor
namespace Go.Proofs.YtdjmklobfjigoaaGreatDoor.Sy
open Go.RowKit
set_option maxHeartbeats 1000000
def gd (p : Prop) [Decidable p] {α : Type} (x : Option α) : Option α := if p then x else none
theorem gd_some {p : Prop} [Decidable p] {α : Type} {x : Option α} {e : α} : gd p x = some e ↔ p ∧ x = some e := by
  unfold gd; split <;> simp_all
instance (P : Program) (t : TypeId) (s : S) : Decidable (okLd P t s) := by unfold okLd; infer_instance
def pickX (c x y : S) : Option Eff := match c with
  | .t (.lit (.bool b)) => some ⟨bif b then x else y, [], [], []⟩
  | _ => none
theorem pickX_spec {c x y : S} {E : Eff} {K : Eff → Prop} (h : pickX c x y = some E) (hK : K E) : pickK c x y K := by
  unfold pickX at h; unfold pickK
  split at h
  · rename_i b
    cases b <;> simp at h <;> subst h <;> simpa using hK
  · cases h
def allocX (P : Program) (e : TypeId) (d : Nat) : Option Eff := match zeroOf P e with
  | some z => some ⟨.pt d [] 0, [(d, some (.box e (.t z)))], [], [d]⟩
  | none => none
theorem allocX_spec {P : Program} {e : TypeId} {d : Nat} {E : Eff} {K : Eff → Prop} (h : allocX P e d = some E) (hK : K E) : allocK P e d K := by
  unfold allocX at h; unfold allocK; split at h <;> simp_all
def boxX (e : TypeId) (x : S) (d : Nat) : Option Eff := gd (x.solid = true ∧ x.free d = true) (some ⟨.pt d [] 0, [(d, some (.box e x))], [], [d]⟩)
theorem boxX_spec {e : TypeId} {x : S} {d : Nat} {E : Eff} {K : Eff → Prop} (h : boxX e x d = some E) (hK : K E) : boxK e x d K := by
  unfold boxX at h; unfold boxK; simp_all [gd_some]
def loadX (P : Program) (t : TypeId) (x : S) (h : Nat → Option Blk) : Option Eff := match x with
  | .rp y => gd (okLd P t (.t y)) (some ⟨.t y, [], [], []⟩)
  | .pt l p off => match h l with
    | some blk => match blk.at p with
      | some (o, y) => gd (o = off ∧ y.solid = true ∧ okLd P t y) (some ⟨y, [], [l], []⟩)
      | none => none
    | none => none
  | _ => none
theorem loadX_spec {P : Program} {t : TypeId} {x : S} {h : Nat → Option Blk} {E : Eff} {K : Eff → Prop} (e : loadX P t x h = some E) (hK : K E) : loadK P t x h K := by
  unfold loadX at e; unfold loadK; (repeat' split at e) <;> simp_all [gd_some]
def storeX (P : Program) (t : TypeId) (x v : S) (h : Nat → Option Blk) : Option Eff := match x with
  | .pt l p off => match h l with
    | some blk => match blk.at p with
      | some (o, z) => match blk.set p v with
        | some blk' => gd (o = off ∧ v.solid = true ∧ v.width = z.width ∧ szB P t = some v.width) (some ⟨.dead, [(l, some blk')], [l], []⟩)
        | none => none
      | none => none
    | none => none
  | _ => none
theorem storeX_spec {P : Program} {t : TypeId} {x v : S} {h : Nat → Option Blk} {E : Eff} {K : Eff → Prop} (e : storeX P t x v h = some E) (hK : K E) : storeK P t x v h K := by
  unfold storeX at e; unfold storeK; (repeat' split at e) <;> simp_all [gd_some]
def fieldAddrX (P : Program) (t : TypeId) (x : S) (f : Nat) : Option Eff := match fldB P t f with
  | some q => gd (nzB P q.2 = true) (match x with
    | .pt l p o => some ⟨.pt l (p ++ [f]) (o + q.1), [], [], []⟩
    | .rp (.agg xs) => match xs[f]? with
      | some y => gd (T.widths (xs.take f) = q.1) (some ⟨.rp y, [], [], []⟩)
      | none => none
    | _ => none)
  | none => none
theorem fieldAddrX_spec {P : Program} {t : TypeId} {x : S} {f : Nat} {E : Eff} {K : Eff → Prop} (e : fieldAddrX P t x f = some E) (hK : K E) : fieldAddrK P t x f K := by
  unfold fieldAddrX at e; unfold fieldAddrK
  split at e
  · rename_i q hq
    rw [gd_some] at e
    obtain ⟨e1, e2⟩ := e
    simp only [hq]
    refine ⟨e1, ?_⟩
    (repeat' split at e2) <;> simp_all [gd_some]
  · cases e
def indexAddrX (P : Program) (t : TypeId) (x i : S) (h : Nat → Option Blk) : Option Eff := match elemB P t with
  | some e => match i with
    | .t (.lit (.int k n)) => match x with
      | .t (.sl s xs) => gd (szB P e = some s ∧ 0 ≤ n ∧ n < (xs.length : Int)) (match xs[n.toNat]? with | some y => some ⟨.rp y, [], [], []⟩ | none => none)
      | .own l => match h l with
        | some (.list _ s xs) => gd (szB P e = some s ∧ 0 ≤ n ∧ n < (xs.length : Int)) (some ⟨.pt l [n.toNat] (n.toNat * s), [], [l], []⟩)
        | some (.rows _ s us _) => gd (szB P e = some s ∧ 0 ≤ n ∧ n < (us.length : Int)) (some ⟨.pt l [n.toNat] (n.toNat * s), [], [l], []⟩)
        | _ => none
      | .wn l p off m => match szB P e with
        | some s => gd (0 ≤ n ∧ n < (m : Int)) (some ⟨.pt l (p ++ [n.toNat]) (off + n.toNat * s), [], [], []⟩)
        | none => none
      | _ => none
    | _ => none
  | none => match arrB P t with
    | some (n, e) => match szB P e with
      | some s => match i, x with
        | .t (.lit (.int k m)), .pt l p off => gd (0 ≤ m ∧ m < (n : Int)) (some ⟨.pt l (p ++ [m.toNat]) (off + m.toNat * s), [], [], []⟩)
        | _, _ => none
      | none => none
    | none => none
theorem indexAddrX_spec {P : Program} {t : TypeId} {x i : S} {h : Nat → Option Blk} {E : Eff} {K : Eff → Prop} (e : indexAddrX P t x i h = some E) (hK : K E) : indexAddrK P t x i h K := by
  unfold indexAddrX at e; unfold indexAddrK; (repeat' split at e) <;> (try rw [gd_some] at e) <;> simp_all
def fieldX (P : Program) (t : TypeId) (x : S) (f : Nat) : Option Eff := match fldB P t f with
  | some q => match x with
    | .t (.agg xs) => match xs[f]? with
      | some y => gd (T.widths (xs.take f) = q.1 ∧ okLd P q.2 (.t y)) (some ⟨.t y, [], [], []⟩)
      | none => none
    | _ => none
  | none => none
theorem fieldX_spec {P : Program} {t : TypeId} {x : S} {f : Nat} {E : Eff} {K : Eff → Prop} (e : fieldX P t x f = some E) (hK : K E) : fieldK P t x f K := by
  unfold fieldX at e; unfold fieldK; (repeat' split at e) <;> simp_all [gd_some]
def extractX (x : S) (i : Nat) : Option Eff := match x with
  | .tup ss => match ss[i]? with
    | some s => some ⟨s, [], [], []⟩
    | none => none
  | _ => none
theorem extractX_spec {x : S} {i : Nat} {E : Eff} {K : Eff → Prop} (e : extractX x i = some E) (hK : K E) : extractK x i K := by
  unfold extractX at e; unfold extractK; (repeat' split at e) <;> simp_all
def litX (v : Value) : Option Eff := some ⟨.t (.lit v), [], [], []⟩
theorem litX_spec {v : Value} {E : Eff} {K : Eff → Prop} (e : litX v = some E) (hK : K E) : litK K v := by
  unfold litX at e; unfold litK; simp_all
def boolX (P : Program) (op : BinOp) (t : TypeId) (p q : Bool) : Option Eff := match op with
  | .eql => gd (boolB P t = true) (litX (.bool (p == q)))
  | .neq => gd (boolB P t = true) (litX (.bool (!(p == q))))
  | _ => none
theorem boolX_spec {P : Program} {op : BinOp} {t : TypeId} {p q : Bool} {E : Eff} {K : Eff → Prop} (e : boolX P op t p q = some E) (hK : K E) : boolK P op t p q K := by
  unfold boolX at e; unfold boolK
  split at e
  · rw [gd_some] at e; exact ⟨e.1, litX_spec e.2 hK⟩
  · rw [gd_some] at e; exact ⟨e.1, litX_spec e.2 hK⟩
  · cases e
def eqlX (op : BinOp) (b : Bool) : Option Eff := match op with
  | .eql => litX (.bool b)
  | .neq => litX (.bool (!b))
  | _ => none
def arrEqX (P : Program) (op : BinOp) (t : TypeId) (xs ys : List T) : Option Eff := match arrB P t with
  | some (n, e) => gd (cellB P e = true ∧ P.eqGuardType P.depth t = false ∧ n = xs.length) (match eqAs P e xs ys with
    | some b => eqlX op b
    | none => none)
  | none => none
theorem arrEqX_spec {P : Program} {op : BinOp} {t : TypeId} {xs ys : List T} {E : Eff} {K : Eff → Prop} (e : arrEqX P op t xs ys = some E) (hK : K E) : arrEqK P op t xs ys K := by
  unfold arrEqX at e; unfold arrEqK
  split at e
  · rename_i n e1 ha
    rw [gd_some] at e
    obtain ⟨⟨e1, e2, e3⟩, e4⟩ := e
    simp only [ha]
    refine ⟨e1, e2, e3, ?_⟩
    split at e4
    · rename_i b hb
      simp only [hb]
      unfold eqlX at e4
      split at e4
      · exact litX_spec e4 hK
      · exact litX_spec e4 hK
      · cases e4
    · cases e4
  · cases e
def aggX (P : Program) (op : BinOp) (t : TypeId) (xs ys : List T) : Option Eff := match fldsB P t with
  | some fl => gd (P.stoodInHeld t = false ∧ P.eqGuardType P.depth t = false) (match eqFs P fl 0 xs ys with
    | some b => eqlX op b
    | none => none)
  | none => arrEqX P op t xs ys
theorem aggX_spec {P : Program} {op : BinOp} {t : TypeId} {xs ys : List T} {E : Eff} {K : Eff → Prop} (e : aggX P op t xs ys = some E) (hK : K E) : aggK P op t xs ys K := by
  unfold aggX at e; unfold aggK
  split at e
  · rename_i fl hfl
    rw [gd_some] at e
    obtain ⟨⟨e1, e2⟩, e3⟩ := e
    simp only [hfl]
    refine ⟨e1, e2, ?_⟩
    split at e3
    · rename_i b hb
      simp only [hb]
      unfold eqlX at e3
      split at e3
      · exact litX_spec e3 hK
      · exact litX_spec e3 hK
      · cases e3
    · cases e3
  · rename_i hfl
    simp only [hfl]
    exact arrEqX_spec e hK
def arX (k : IntKind) (e : Int) : Option Value := match k with
  | .i64 => gd (-9223372036854775808 ≤ e ∧ e ≤ 9223372036854775807) (some (.int .i64 e))
  | k => if inR k e then some (.int k e) else some (.int k (k.wrap e))
theorem arX_spec {k : IntKind} {e : Int} {v : Value} {K : Value → Prop} (h : arX k e = some v) (hK : K v) : arK k e K := by
  unfold arX at h; unfold arK
  split at h
  · simp_all [gd_some]
  · split at h <;> simp_all
def strEq (x y : ByteArray) : Bool := (x.data.toList.map fun c => c.toNat) == (y.data.toList.map fun c => c.toNat)
theorem strEq_eq (x y : ByteArray) : strEq x y = (x.toList == y.toList) := by
  unfold strEq
  have h : ∀ a b : List UInt8, (a.map (fun c => c.toNat) == b.map fun c => c.toNat) = (a == b) := by
    intro a
    induction a with
    | nil => intro b; cases b <;> rfl
    | cons x r ih =>
      intro b
      cases b with
      | nil => rfl
      | cons y s =>
        simp only [List.map_cons, List.cons_beq_cons, ih]
        congr 1
        rw [Bool.eq_iff_iff]
        simp [UInt8.toNat_inj]
  rw [h]
  have h2 : ∀ a : ByteArray, a.toList = a.data.toList := fun ⟨⟨l⟩⟩ => by
    have := str_toList (l.map fun c => c.toNat)
    have e : (str (l.map fun c => c.toNat)) = ⟨⟨l⟩⟩ := by simp [str, Function.comp_def]
    rw [e] at this
    rw [this]; simp [Function.comp_def]
  rw [h2, h2]
def binVX (op : BinOp) (a b : Value) : Option Value :=
  match op, a, b with
  | .add, .int k x, .int k' y => gd (k = k') (arX k (x + y))
  | .sub, .int k x, .int k' y => gd (k = k') (arX k (x - y))
  | .mul, .int k x, .int k' y => gd (k = k') (arX k (x * y))
  | .quo, .int k x, .int k' y => gd (k = k') (gd (0 ≤ x ∧ 1 ≤ y) (gd (inR k x) (some (.int k (x / y)))))
  | .rem, .int k x, .int k' y => gd (k = k') (gd (0 ≤ x ∧ 1 ≤ y) (some (.int k (x % y))))
  | .lss, .int k x, .int k' y => gd (k = k') (some (.bool (decide (x < y))))
  | .leq, .int k x, .int k' y => gd (k = k') (some (.bool (decide (x ≤ y))))
  | .gtr, .int k x, .int k' y => gd (k = k') (some (.bool (decide (y < x))))
  | .geq, .int k x, .int k' y => gd (k = k') (some (.bool (decide (y ≤ x))))
  | .eql, .int k x, .int k' y => gd (k = k') (some (.bool (decide (x = y))))
  | .neq, .int k x, .int k' y => gd (k = k') (some (.bool (decide (x ≠ y))))
  | .eql, .string x, .string y => some (.bool (strEq x y))
  | .neq, .string x, .string y => some (.bool (!(strEq x y)))
  | .add, .string x, .string y => gd (x.size + y.size ≤ 9223372036854775807) (some (.string (x ++ y)))
  | .shl, .int k x, .int _ y => gd (0 ≤ y ∧ y ≤ kB k) (arX k (x * 2 ^ y.toNat))
  | .shr, .int k x, .int _ y => gd (0 ≤ y ∧ y ≤ kB k) (some (.int k (x / 2 ^ y.toNat)))
  | .and, .int k x, .int k' y => gd (k = k') (some (.int k (bits .and k x y)))
  | .or, .int k x, .int k' y => gd (k = k') (some (.int k (bits .or k x y)))
  | .xor, .int k x, .int k' y => gd (k = k') (some (.int k (bits .xor k x y)))
  | _, _, _ => none
theorem binVX_spec {op : BinOp} {a b v : Value} {K : Value → Prop} (h : binVX op a b = some v) (hK : K v) : binV op a b K := by
  unfold binVX at h
  split at h <;> (try simp only [gd_some, Option.some.injEq] at h) <;> (try simp only [binV])
  case h_1 => exact ⟨h.1, arX_spec h.2 hK⟩
  case h_2 => exact ⟨h.1, arX_spec h.2 hK⟩
  case h_3 => exact ⟨h.1, arX_spec h.2 hK⟩
  case h_4 => obtain ⟨h1, h2, h3, rfl⟩ := h; exact ⟨h1, by rw [if_pos h2, if_pos h3]; exact hK⟩
  case h_5 => obtain ⟨h1, h2, rfl⟩ := h; exact ⟨h1, by rw [if_pos h2]; exact hK⟩
  case h_12 => subst h; rw [← strEq_eq]; exact hK
  case h_13 => subst h; rw [← strEq_eq]; exact hK
  case h_14 => obtain ⟨h1, rfl⟩ := h; rw [if_pos h1]; exact hK
  case h_15 => rw [if_pos h.1]; exact arX_spec h.2 hK
  case h_16 => obtain ⟨h1, rfl⟩ := h; rw [if_pos h1]; exact hK
  all_goals first | (obtain ⟨h1, rfl⟩ := h; exact ⟨h1, hK⟩) | cases h
def nilEqX (P : Program) (op : BinOp) (t : TypeId) (b : Bool) : Option Eff := match op with
  | .eql => gd ((elemB P t).isSome = true) (some ⟨.t (.lit (.bool b)), [], [], []⟩)
  | _ => none
theorem nilEqX_spec {P : Program} {op : BinOp} {t : TypeId} {b : Bool} {E : Eff} {K : Eff → Prop} (e : nilEqX P op t b = some E) (hK : K E) : nilEqK P op t b K := by
  unfold nilEqX at e; unfold nilEqK; split at e <;> simp_all [gd_some]
def binX (P : Program) (op : BinOp) (t : TypeId) (x y : S) : Option Eff := match x, y with
  | .t (.lit (.bool p)), .t (.lit (.bool q)) => boolX P op t p q
  | .t (.lit (.slice none 0 0)), .t (.lit (.slice none 0 0)) => nilEqX P op t true
  | .t (.sl _ (_ :: _)), .t (.lit (.slice none 0 0)) => nilEqX P op t false
  | .t (.lit a), .t (.lit b) => match binVX op a b with
    | some v => litX v
    | none => none
  | .t (.agg xs), .t (.agg ys) => aggX P op t xs ys
  | _, _ => none
theorem binX_spec {P : Program} {op : BinOp} {t : TypeId} {x y : S} {E : Eff} {K : Eff → Prop} (e : binX P op t x y = some E) (hK : K E) : binK P op t x y K := by
  unfold binX at e
  split at e
  · simp only [binK]; exact boolX_spec e hK
  · simp only [binK]; exact nilEqX_spec e hK
  · simp only [binK]; exact nilEqX_spec e hK
  · split at e
    · rename_i h1 h2 _ v hv
      unfold binK
      split
      · rename_i g1 g2; cases g1; cases g2; exact (h1 _ _ rfl rfl).elim
      · rename_i g1 g2; cases g1; cases g2; exact (h2 rfl rfl).elim
      · rename_i g1 g2; cases g1
      · rename_i g1 g2; cases g1; cases g2
        exact binVX_spec hv (litX_spec e hK)
      · rename_i g1 g2; cases g1
      · rename_i g1 g2 g3 g4 g5; exact (g4 _ _ rfl rfl).elim
    · cases e
  · simp only [binK]; exact aggX_spec e hK
  · cases e
def nilIX (P : Program) (op : BinOp) (t : TypeId) (x : S) : Option Eff := match op, x with
  | .eql, .t (.lit .nilIface) => gd (ifcB P t = true) (some ⟨.t (.lit (.bool true)), [], [], []⟩)
  | .neq, .t (.lit .nilIface) => gd (ifcB P t = true) (some ⟨.t (.lit (.bool false)), [], [], []⟩)
  | _, _ => none
def binYX (P : Program) (op : BinOp) (t : TypeId) (x y : Operand) (R : Operand → S) : Option Eff := match y with
  | .const .nilIface => nilIX P op t (R x)
  | y => binX P op t (R x) (R y)
theorem binYX_spec {P : Program} {op : BinOp} {t : TypeId} {x y : Operand} {R : Operand → S} {E : Eff} {K : Eff → Prop} (e : binYX P op t x y R = some E) (hK : K E) : binYK P op t x y R K := by
  unfold binYX at e; unfold binYK
  split at e
  · unfold nilIX at e
    simp only
    unfold nilIK
    split at e
    · rename_i hx; rw [gd_some] at e; obtain ⟨e1, e2⟩ := e; cases e2; simp only [hx]; exact ⟨e1, hK⟩
    · rename_i hx; rw [gd_some] at e; obtain ⟨e1, e2⟩ := e; cases e2; simp only [hx]; exact ⟨e1, hK⟩
    · cases e
  · split
    · exfalso; simp_all
    · exact binX_spec e hK
def nilX (x : S) : Option Eff := match x with
  | .pt l p o => some ⟨.pt l p o, [], [], []⟩
  | .rp y => some ⟨.rp y, [], [], []⟩
  | _ => none
theorem nilX_spec {x : S} {E : Eff} {K : Eff → Prop} (e : nilX x = some E) (hK : K E) : nilK x K := by
  unfold nilX at e; unfold nilK; split at e <;> simp_all
def sliceX (P : Program) (t : TypeId) (x : S) (lo hi : Int → Option Int) (mx : Option Operand) (h : Nat → Option Blk) : Option Eff := match mx, elemB P t with
  | none, some e => match x with
    | .t (.sl s xs) => gd (szB P e = some s) (match lo 0, hi xs.length with
      | some l, some r => gd (0 ≤ l ∧ l ≤ r ∧ r ≤ (xs.length : Int)) (some ⟨.t (.sl s ((xs.take r.toNat).drop l.toNat)), [], [], []⟩)
      | _, _ => none)
    | .own k => match h k with
      | some (.list _ s xs) => gd (szB P e = some s) (match lo 0, hi xs.length with
        | some l, some r => gd (0 ≤ l ∧ l ≤ r ∧ r ≤ (xs.length : Int)) (some ⟨.t (.sl s ((xs.take r.toNat).drop l.toNat)), [(k, none)], [k], []⟩)
        | _, _ => none)
      | _ => none
    | .wn k p off n => gd (szB P e = some 1) (match lo 0, hi n with
      | some l, some r => gd (0 ≤ l ∧ l ≤ r ∧ r ≤ (n : Int)) (some ⟨.wn k p (off + l.toNat * 1) (r.toNat - l.toNat), [], [], []⟩)
      | _, _ => none)
    | _ => none
  | none, none => match arrB P t with
    | some _ => none
    | none => match x with
      | .t (.lit (.string b)) => gd (strB P t = true) (match lo 0, hi b.size with
        | some l, some r => gd (0 ≤ l ∧ l ≤ r ∧ r ≤ (b.size : Int)) (some ⟨.t (.lit (.string (strS b l.toNat r.toNat))), [], [], []⟩)
        | _, _ => none)
      | _ => none
  | _, _ => none
theorem sliceX_spec {P : Program} {t : TypeId} {x : S} {lo hi : Int → Option Int} {mx : Option Operand} {h : Nat → Option Blk} {E : Eff} {K : Eff → Prop} (e : sliceX P t x lo hi mx h = some E) (hK : K E) : sliceK P t x lo hi mx h K := by
  unfold sliceX at e; unfold sliceK
  split at e
  · rename_i e0 he
    simp only [he]
    split at e
    · rw [gd_some] at e
      obtain ⟨e1, e2⟩ := e
      refine ⟨e1, ?_⟩
      split at e2
      · simp_all [gd_some]
      · cases e2
    · split at e
      · rename_i hk
        rw [gd_some] at e
        obtain ⟨e1, e2⟩ := e
        simp only [hk]
        refine ⟨e1, ?_⟩
        split at e2
        · simp_all [gd_some]
        · cases e2
      · cases e
    · rw [gd_some] at e
      obtain ⟨e1, e2⟩ := e
      simp only [e1]
      refine ⟨.inl trivial, ?_⟩
      split at e2
      · simp_all [gd_some]
      · cases e2
    · cases e
  · rename_i he
    simp only [he]
    split at e
    · cases e
    · rename_i ha
      simp only [ha]
      unfold sliceTK
      split at e
      · rw [gd_some] at e
        obtain ⟨e1, e2⟩ := e
        refine ⟨e1, ?_⟩
        split at e2
        · simp_all [gd_some]
        · cases e2
      · cases e
  · cases e
def slice3X (P : Program) (t : TypeId) (x : S) (lo hi mx : Option Int) : Option Eff := match elemB P t, x, lo, hi, mx with
  | some e, .t (.sl s xs), some l, some r, some m => gd (szB P e = some s ∧ 0 ≤ l ∧ l ≤ r ∧ r ≤ m ∧ m ≤ (xs.length : Int)) (some ⟨.t (.sl s ((xs.take r.toNat).drop l.toNat)), [], [], []⟩)
  | _, _, _, _, _ => none
theorem slice3X_spec {P : Program} {t : TypeId} {x : S} {lo hi mx : Option Int} {E : Eff} {K : Eff → Prop} (e : slice3X P t x lo hi mx = some E) (hK : K E) : slice3K P t x lo hi mx K := by
  unfold slice3X at e; unfold slice3K
  split at e
  · rename_i he
    rw [gd_some] at e
    obtain ⟨⟨h1, h2⟩, h3⟩ := e
    simp only [he]
    refine ⟨h1, ?_⟩
    rw [if_pos h2]
    cases h3; exact hK
  · cases e
def clipX (P : Program) (t : TypeId) (x : S) (hi mx : Option Int) : Option Eff := match elemB P t, x, hi, mx with
  | some e, .t (.sl s xs), some r, some m => gd (szB P e = some s ∧ m = r ∧ 0 ≤ r ∧ r ≤ (xs.length : Int)) (some ⟨.cl s (xs.take r.toNat), [], [], []⟩)
  | _, _, _, _ => none
theorem clipX_spec {P : Program} {t : TypeId} {x : S} {hi mx : Option Int} {E : Eff} {K : Eff → Prop} (e : clipX P t x hi mx = some E) (hK : K E) : clipK P t x hi mx K := by
  unfold clipX at e; unfold clipK
  split at e
  · rename_i he
    rw [gd_some] at e
    obtain ⟨⟨h1, h2, h3⟩, h4⟩ := e
    simp only [he]
    refine ⟨h1, h2, ?_⟩
    rw [if_pos h3]
    cases h4; exact hK
  · cases e
def buildX (P : Program) (t : TypeId) (R : Operand → S) (parts : List (Nat × Operand)) : Option Eff := match arrB P t with
  | some (n, e) => match zeroOf P t, szB P e with
    | some (.agg zs), some s => match bldS (plA n s) (fun x => fnT (R x)) parts (zs.map S.t) with
      | some fs => some ⟨clp fs, [], [], []⟩
      | none => none
    | _, _ => none
  | none => match zeroOf P t, plB P t with
    | some (.agg zs), some pls => match bldS pls (fun x => fnT (R x)) parts (zs.map S.t) with
      | some fs => some ⟨clp fs, [], [], []⟩
      | none => none
    | _, _ => none
theorem buildX_spec {P : Program} {t : TypeId} {R : Operand → S} {parts : List (Nat × Operand)} {E : Eff} {K : Eff → Prop} (e : buildX P t R parts = some E) (hK : K E) : buildK P t R parts K := by
  unfold buildX at e; unfold buildK; (repeat' split at e) <;> simp_all
def unX (op : UnOp) (x : S) : Option Eff := match op, x with
  | .not, .t (.lit (.bool b)) => litX (.bool (!b))
  | .neg, .t (.lit (.int k n)) => match arX k (0 - n) with
    | some v => litX v
    | none => none
  | _, _ => none
theorem unX_spec {op : UnOp} {x : S} {E : Eff} {K : Eff → Prop} (e : unX op x = some E) (hK : K E) : unK op x K := by
  unfold unX at e; unfold unK
  split at e
  · exact litX_spec e hK
  · split at e
    · rename_i v hv
      exact arX_spec hv (litX_spec e hK)
    · cases e
  · cases e
def convX (P : Program) (s t : TypeId) (x : S) (h : Nat → Option Blk) : Option Eff := match x with
  | .t (.lit (.int k n)) => match intB P s, intB P t with
    | some _, some k' => match arX k' n with
      | some v => litX v
      | none => none
    | _, _ => none
  | .t (.lit (.string b)) => gd (strB P s = true ∧ strB P t = true) (litX (.string b))
  | _ => none
theorem convX_spec {P : Program} {s t : TypeId} {x : S} {h : Nat → Option Blk} {E : Eff} {K : Eff → Prop} (e : convX P s t x h = some E) (hK : K E) : convK P s t x h K := by
  unfold convX at e; unfold convK
  split at e
  · split at e
    · rename_i h1 h2
      split at e
      · rename_i v hv
        simp only [h1, h2]
        exact arX_spec hv (litX_spec e hK)
      · cases e
    · cases e
  · rw [gd_some] at e
    exact ⟨e.1.1, e.1.2, litX_spec e.2 hK⟩
  · cases e
def allWb (s : Nat) : List T → Bool
  | [] => true
  | x :: r => Nat.beq x.width s && allWb s r
theorem allWb_spec {s : Nat} : ∀ {xs : List T}, allWb s xs = true → allW s xs
  | [], _ => trivial
  | x :: r, h => by
    simp only [allWb, Bool.and_eq_true] at h
    exact ⟨Nat.eq_of_beq_eq_true h.1, allWb_spec h.2⟩
def buildSliceX (P : Program) (t : TypeId) (n : Nat) (ps : Option (List T)) (d : Nat) : Option Eff := match elemB P t with
  | some e => match elI P e with
    | some (s, _) => match ps with
      | some ys => gd (n = ys.length ∧ allWb s ys = true ∧ n * s ≤ 16777216) (some ⟨.own d, [(d, some (.list e s ys))], [], [d]⟩)
      | none => none
    | none => none
  | none => none
theorem buildSliceX_spec {P : Program} {t : TypeId} {n : Nat} {ps : Option (List T)} {d : Nat} {E : Eff} {K : Eff → Prop} (e : buildSliceX P t n ps d = some E) (hK : K E) : buildSliceK P t n ps d K := by
  unfold buildSliceX at e; unfold buildSliceK
  split at e
  · split at e
    · split at e
      · rw [gd_some] at e
        obtain ⟨⟨h1, h2, h3⟩, h4⟩ := e
        rename_i he _ s b hs _ ys
        simp only [he, hs]
        cases h4
        exact ⟨h1, allWb_spec h2, h3, hK⟩
      · cases e
    · cases e
  · cases e
def buildPtrX (P : Program) (t : TypeId) (n : Nat) (ys : List S) (d : Nat) : Option Eff := match elemB P t with
  | some e => match elI P e with
    | some (1, _) => gd (n = ys.length ∧ 0 < n ∧ S.frees d ys = true ∧ n ≤ 16777216) (some ⟨.wn d [] 0 n, [(d, some (.box e (.ag ys)))], [], [d]⟩)
    | _ => none
  | none => none
theorem buildPtrX_spec {P : Program} {t : TypeId} {n : Nat} {ys : List S} {d : Nat} {E : Eff} {K : Eff → Prop} (e : buildPtrX P t n ys d = some E) (hK : K E) : buildPtrK P t n ys d K := by
  unfold buildPtrX at e; unfold buildPtrK
  split at e
  · split at e
    · rw [gd_some] at e
      obtain ⟨⟨h1, h2, h3, h4⟩, h5⟩ := e
      rename_i he _ b hs
      simp only [he, hs]
      cases h5
      exact ⟨h1, h2, h3, h4, hK⟩
    · cases e
  · cases e
def makeSliceX (P : Program) (t : TypeId) (x y : S) (d : Nat) : Option Eff := match elemB P t, x, y with
  | some e, .t (.lit (.int .i64 n)), .t (.lit (.int .i64 m)) => match elI P e, zeroOf P e with
    | some (s, b), some z => if m = n then gd (z.width = s ∧ 0 ≤ n ∧ n.toNat * b ≤ 16777216) (some ⟨.own d, [(d, some (.list e s (List.replicate n.toNat z)))], [], [d]⟩)
      else gd (z.width = s ∧ n = 0 ∧ 0 ≤ m ∧ m.toNat * b ≤ 16777216) (some ⟨.own d, [(d, some (.list e s []))], [], [d]⟩)
    | _, _ => none
  | _, _, _ => none
theorem makeSliceX_spec {P : Program} {t : TypeId} {x y : S} {d : Nat} {E : Eff} {K : Eff → Prop} (e : makeSliceX P t x y d = some E) (hK : K E) : makeSliceK P t x y d K := by
  unfold makeSliceX at e; unfold makeSliceK
  split at e
  · split at e
    · rename_i he _ _ s b z hs hz
      simp only [he, hs, hz]
      split at e
      · rename_i hmn
        rw [gd_some] at e
        obtain ⟨⟨h1, h3⟩, h4⟩ := e
        refine ⟨h1, ?_⟩
        rw [if_pos hmn, if_pos h3]
        cases h4; exact hK
      · rename_i hmn
        rw [gd_some] at e
        obtain ⟨⟨h1, h3⟩, h4⟩ := e
        refine ⟨h1, ?_⟩
        rw [if_neg hmn, if_pos h3]
        cases h4; exact hK
    · cases e
  · cases e
def lenX (P : Program) (t : TypeId) (x : S) (h : Nat → Option Blk) : Option Eff := match x with
  | .t (.sl _ xs) => gd ((elemB P t).isSome = true) (litX (.int .i64 xs.length))
  | .own l => match h l with
    | some (.list _ _ xs) => gd ((elemB P t).isSome = true) (some ⟨.t (.int xs.length), [], [l], []⟩)
    | some (.rows _ _ us _) => gd ((elemB P t).isSome = true) (some ⟨.t (.int us.length), [], [l], []⟩)
    | _ => none
  | .t (.lit (.slice none 0 0)) => gd ((elemB P t).isSome = true) (litX (.int .i64 0))
  | .t (.lit (.string b)) => gd (strB P t = true) (litX (.int .i64 b.size))
  | .wn _ _ _ n => gd ((elemB P t).isSome = true) (litX (.int .i64 n))
  | _ => none
theorem lenX_spec {P : Program} {t : TypeId} {x : S} {h : Nat → Option Blk} {E : Eff} {K : Eff → Prop} (e : lenX P t x h = some E) (hK : K E) : lenK P t x h K := by
  unfold lenX at e; unfold lenK
  split at e
  · rw [gd_some] at e; exact ⟨e.1, litX_spec e.2 hK⟩
  · split at e <;> simp_all [gd_some]
  · rw [gd_some] at e; exact ⟨e.1, litX_spec e.2 hK⟩
  · rw [gd_some] at e; exact ⟨e.1, litX_spec e.2 hK⟩
  · rw [gd_some] at e; exact ⟨e.1, litX_spec e.2 hK⟩
  · cases e
def minX (x y : S) : Option Eff := match x, y with
  | .t (.lit (.int k m)), .t (.lit (.int k' n)) => litX (.int k (min m n))
  | _, _ => none
theorem minX_spec {x y : S} {E : Eff} {K : Eff → Prop} (e : minX x y = some E) (hK : K E) : minK x y K := by
  unfold minX at e; unfold minK; split at e
  · exact litX_spec e hK
  · cases e
def maxX (x y : S) : Option Eff := match x, y with
  | .t (.lit (.int k m)), .t (.lit (.int k' n)) => litX (.int k (max m n))
  | _, _ => none
theorem maxX_spec {x y : S} {E : Eff} {K : Eff → Prop} (e : maxX x y = some E) (hK : K E) : maxK x y K := by
  unfold maxX at e; unfold maxK; split at e
  · exact litX_spec e hK
  · cases e
def appendX (P : Program) (t : TypeId) (x y : S) (d : Nat) (h : Nat → Option Blk) : Option Eff := match elemB P t with
  | some e => match elI P e with
    | some (s, b) => match srcOf h s y with
      | some (ys, fp) => match x with
        | .own l => match h l with
          | some (.list e' s' xs) => gd (e' = e ∧ s' = s ∧ d ≠ l ∧ (xs.length + ys.length) * b ≤ 140737488355328) (some ⟨.own d, [(d, some (.list e s (xs ++ ys))), (l, none)], l :: fp, [d]⟩)
          | _ => none
        | .t (.lit (.slice none 0 0)) => gd (ys.length * b ≤ 140737488355328) (some ⟨.own d, [(d, some (.list e s ys))], fp, [d]⟩)
        | .cl s' xs => gd (s' = s ∧ 0 < ys.length ∧ (xs.length + ys.length) * b ≤ 140737488355328) (some ⟨.own d, [(d, some (.list e s (xs ++ ys)))], fp, [d]⟩)
        | _ => none
      | none => none
    | none => none
  | none => none
theorem appendX_spec {P : Program} {t : TypeId} {x y : S} {d : Nat} {h : Nat → Option Blk} {E : Eff} {K : Eff → Prop} (e : appendX P t x y d h = some E) (hK : K E) : appendK P t x y d h K := by
  unfold appendX at e
  unfold appendK
  split at e
  · rename_i e0 he
    split at e
    · rename_i s b hs
      split at e
      · rename_i ys fp hsrc
        split at e
        · rename_i l
          split at e
          · rename_i e' s' xs hl
            rw [gd_some] at e
            obtain ⟨⟨h1, h2, h3, h4⟩, h5⟩ := e
            unfold appendOK
            simp only [he, hs, hsrc, hl]
            refine ⟨h1, h2, h3, ?_⟩
            rw [if_pos h4]
            cases h5; exact hK
          · cases e
        · rw [gd_some] at e
          obtain ⟨h4, h5⟩ := e
          unfold appendOK
          simp only [he, hs, hsrc]
          rw [if_pos h4]
          cases h5; exact hK
        · rw [gd_some] at e
          obtain ⟨⟨h1, h3, h4⟩, h5⟩ := e
          unfold appendOK
          simp only [he, hs, hsrc]
          refine ⟨h1, h3, ?_⟩
          rw [if_pos h4]
          cases h5; exact hK
        · cases e
      · cases e
    · cases e
  · cases e
def allOne : List T → Bool
  | [] => true
  | x :: r => Nat.beq x.width 1 && allOne r
theorem allOne_spec : ∀ {xs : List T}, allOne xs = true → ∀ z ∈ xs, z.width = 1
  | [], _, z, hz => by cases hz
  | x :: r, h, z, hz => by
    simp only [allOne, Bool.and_eq_true] at h
    rcases List.mem_cons.1 hz with rfl | hz
    · exact Nat.eq_of_beq_eq_true h.1
    · exact allOne_spec h.2 z hz
def copyX (P : Program) (t : TypeId) (x y : S) (h : Nat → Option Blk) : Option Eff := match elemB P t with
  | some e => gd (szB P e = some 1) (match srcOf h 1 y with
    | some (ys, fp) => match x with
      | .wn l p off n => match h l with
        | some (.box be c) => match S.at c p with
          | some (o, .t (.agg zs)) => gd (o = off ∧ n = zs.length ∧ allOne zs = true) (match S.set c p (.t (.agg (ys.take (min ys.length zs.length) ++ zs.drop (min ys.length zs.length)))) with
            | some c' => some ⟨.t (.int (min ys.length zs.length : Nat)), [(l, some (.box be c'))], l :: fp, []⟩
            | none => none)
          | _ => none
        | _ => none
      | _ => none
    | none => none)
  | none => none
theorem copyWX_spec {P : Program} {t : TypeId} {x y : S} {h : Nat → Option Blk} {E : Eff} {K : Eff → Prop} (e : copyX P t x y h = some E) (hK : K E) : copyWK P t x y h K := by
  unfold copyX at e; unfold copyWK
  split at e
  · rename_i e0 he
    rw [gd_some] at e
    obtain ⟨e1, e2⟩ := e
    simp only [he]
    refine ⟨e1, ?_⟩
    split at e2
    · split at e2
      · split at e2
        · split at e2
          · rw [gd_some] at e2
            obtain ⟨⟨h1, h2, h3⟩, h4⟩ := e2
            split at h4
            · rename_i hl _ _ _ hat _ c' hset
              simp only [*]
              refine ⟨trivial, trivial, allOne_spec h3, ?_⟩
              cases h4; exact hK
            · cases h4
          · cases e2
        · cases e2
      · cases e2
    · cases e2
  · cases e
theorem copyX_spec {P : Program} {t : TypeId} {x y : S} {h : Nat → Option Blk} {E : Eff} {K : Eff → Prop} (e : copyX P t x y h = some E) (hK : K E) : copyK P t x y h K := by
  unfold copyK
  split
  · exfalso
    unfold copyX at e
    cases he : elemB P t <;> rw [he] at e
    · cases e
    · simp only [gd_some] at e
      obtain ⟨_, e⟩ := e
      cases hs : srcOf h 1 y <;> rw [hs] at e <;> cases e
  · unfold copyVK
    split
    · exfalso
      unfold copyX at e
      cases he : elemB P t <;> rw [he] at e
      · cases e
      · simp only [gd_some] at e
        obtain ⟨_, e⟩ := e
        cases e
    · exact copyWX_spec e hK
  · exact copyWX_spec e hK
def builtX (P : Program) (b : Builtin) (az : List S) (ts : List TypeId) (d : Nat) (h : Nat → Option Blk) : Option Eff := match b, az, ts with
  | .len, [x], [t] => lenX P t x h
  | .append, [x, y], [t, t'] => gd (t' = t) (appendX P t x y d h)
  | .copy, [x, y], [t, _] => copyX P t x y h
  | .min, [x, y], _ => minX x y
  | .max, [x, y], _ => maxX x y
  | _, _, _ => none
theorem builtX_spec {P : Program} {b : Builtin} {az : List S} {ts : List TypeId} {d : Nat} {h : Nat → Option Blk} {E : Eff} {K : Eff → Prop} (e : builtX P b az ts d h = some E) (hK : K E) : builtK P b az ts d h K := by
  unfold builtX at e; unfold builtK
  split at e
  · exact lenX_spec e hK
  · rw [gd_some] at e; exact ⟨e.1, appendX_spec e.2 hK⟩
  · exact copyX_spec e hK
  · exact minX_spec e hK
  · exact maxX_spec e hK
  · cases e
def callX (P : Program) (cf : FuncId → List S → Option Eff) (c : Call) (d : Nat) (R : Operand → S) (h : Nat → Option Blk) : Option Eff := match c.callee with
  | .builtin b => builtX P b (c.args.toList.map R) c.argTypes.toList d h
  | .value x => match R x with
    | .fn f caps => gd (entB P f = true) (cf f (c.args.toList.map R ++ caps))
    | .fb f caps => gd (entB P f = true) (cf f (caps ++ c.args.toList.map R))
    | .t (.lit v) => match litFn v with
      | some f => gd (entB P f = true) (cf f (c.args.toList.map R))
      | none => none
    | _ => none
  | _ => none
def CfOk (P : Program) (h : Nat → Option Blk) (cf : FuncId → List S → Option Eff) : Prop := ∀ f az E, cf f az = some E → CallOk P f az h E ∧ ∀ l ∈ E.nw, 100 ≤ l
theorem callX_spec {P : Program} {cf : FuncId → List S → Option Eff} {c : Call} {d : Nat} {R : Operand → S} {h : Nat → Option Blk} {E : Eff} {K : Eff → Prop} (hcf : CfOk P h cf) (e : callX P cf c d R h = some E) (hK : K E) : callK P c d R h K := by
  unfold callX at e; unfold callK
  split at e
  · rename_i hc
    simp only [hc]
    exact builtX_spec e hK
  · rename_i x hc
    simp only [hc]
    split at e
    · rename_i hx
      rw [gd_some] at e
      obtain ⟨h1, h2⟩ := hcf _ _ _ e.2
      simp only [hx]
      exact ⟨e.1, E, h1, h2, hK⟩
    · rename_i hx
      rw [gd_some] at e
      obtain ⟨h1, h2⟩ := hcf _ _ _ e.2
      simp only [hx]
      exact ⟨e.1, E, h1, h2, hK⟩
    · rename_i hx
      split at e
      · rename_i hl
        rw [gd_some] at e
        obtain ⟨h1, h2⟩ := hcf _ _ _ e.2
        simp only [hx, hl]
        exact ⟨e.1, E, h1, h2, hK⟩
      · cases e
    · cases e
  · cases e
def makeFuncX (fn : Fn) (first : List S) (caps : List S) : Option Eff := match fn, first with
  | .func f, [] => some ⟨.fn f caps, [], [], []⟩
  | .func f, x :: r => match caps with
    | [] => some ⟨.fb f (x :: r), [], [], []⟩
    | _ => none
  | _, _ => none
theorem makeFuncX_spec {fn : Fn} {first caps : List S} {E : Eff} {K : Eff → Prop} (e : makeFuncX fn first caps = some E) (hK : K E) : makeFuncK fn first caps K := by
  unfold makeFuncX at e; unfold makeFuncK; (repeat' split at e) <;> simp_all
def frzX : List Nat → (Operand → S) → (Nat → Option Blk) → ((Operand → S) → (Nat → Option Blk) → Option Eff) → Option Eff
  | [], R, h, A => A R h
  | l :: r, R, h, A => match h l with
    | some (.list e s xs) => match frzX r (fun y => frzS l (.sl s xs) (R y)) (hput h l none) A with
      | some E => some ⟨E.r, E.u ++ [(l, none)], l :: E.fp, E.nw⟩
      | none => none
    | _ => frzX r R h A
theorem frzX_spec {A : (Operand → S) → (Nat → Option Blk) → Option Eff} {B : (Operand → S) → (Nat → Option Blk) → (Eff → Prop) → Prop} (hA : ∀ R h E (K : Eff → Prop), A R h = some E → K E → B R h K) :
    ∀ (ls : List Nat) (R : Operand → S) (h : Nat → Option Blk) (E : Eff) (K : Eff → Prop), frzX ls R h A = some E → K E → frzK ls R h B K
  | [], R, h, E, K, e, hK => hA R h E K e hK
  | l :: r, R, h, E, K, e, hK => by
    simp only [frzX] at e
    simp only [frzK]
    split at e
    · split at e
      · rename_i E' he
        cases e
        simp only [*]
        exact frzX_spec hA r _ _ E' _ he hK
      · cases e
    · rename_i hn
      split
      · rename_i h2; exact (hn _ _ _ h2).elim
      · exact frzX_spec hA r R h E K e hK
def indexX (P : Program) (t : TypeId) (x i : S) : Option Eff := match x, i with
  | .t (.lit (.string b)), .t (.lit (.int _ n)) => gd (strB P t = true ∧ 0 ≤ n) (match b.data.toList[n.toNat]? with | some u => some ⟨.t (.lit (.int .u8 u.toNat)), [], [], []⟩ | none => none)
  | .t (.agg xs), .t (.lit (.int _ m)) => match arrB P t with
    | some (n, e) => match szB P e with
      | some s => gd (0 ≤ m ∧ m < (n : Int)) (match xs[m.toNat]? with | some y => gd (T.widths (xs.take m.toNat) = m.toNat * s ∧ okLd P e (.t y)) (some ⟨.t y, [], [], []⟩) | none => none)
      | none => none
    | none => none
  | _, _ => none
theorem indexX_spec {P : Program} {t : TypeId} {x i : S} {E : Eff} {K : Eff → Prop} (e : indexX P t x i = some E) (hK : K E) : indexK P t x i K := by
  unfold indexX at e; unfold indexK
  split at e
  · rw [gd_some] at e
    obtain ⟨⟨h1, h2⟩, h3⟩ := e
    simp only
    refine ⟨h1, ?_⟩
    rw [if_pos h2]
    split at h3
    · rename_i hu
      simp only [hu]
      cases h3; exact hK
    · cases h3
  · split at e
    · rename_i ha
      split at e
      · rename_i hs
        rw [gd_some] at e
        obtain ⟨h1, h2⟩ := e
        simp only [ha, hs]
        rw [if_pos h1]
        split at h2
        · rename_i hy
          rw [gd_some] at h2
          obtain ⟨⟨h3, h4⟩, h5⟩ := h2
          simp only [hy]
          cases h5
          exact ⟨h3, h4, hK⟩
        · cases h2
      · cases e
    · cases e
  · cases e
def opX (P : Program) (cf : FuncId → List S → Option Eff) (o : Op) (d : Nat) (R : Operand → S) (h : Nat → Option Blk) : Option Eff := match o with
  | .move x => some ⟨R x, [], [], []⟩
  | .assign x => some ⟨R x, [], [], []⟩
  | .pick c x y => pickX (R c) (R x) (R y)
  | .alloc e => allocX P e d
  | .box e x => boxX e (R x) d
  | .load t x => loadX P t (R x) h
  | .store t x v => storeX P t (R x) (R v) h
  | .fieldAddr t x f => fieldAddrX P t (R x) f
  | .indexAddr t x i => indexAddrX P t (R x) (R i) h
  | .field t x f => fieldX P t (R x) f
  | .extract x i => extractX (R x) i
  | .binOp op t x y _ => binYX P op t x y R
  | .unOp op _ x => unX op (R x)
  | .convert s t x => convX P s t (R x) h
  | .buildSlice t n parts => match ptrsOf R parts.toList with
    | some ys => buildPtrX P t n ys d
    | none => frzX (ownsL R parts.toList) R h (fun R' _ => buildSliceX P t n (partsT R' 0 parts.toList) d)
  | .makeSlice t x y => makeSliceX P t (R x) (R y) d
  | .call c => callX P cf c d R h
  | .makeFunc fn first caps => makeFuncX fn (first.toList.map R) (caps.toList.map R)
  | .nilCheck x => nilX (R x)
  | .slice t x lo hi mx => match lo, hi, mx with
    | some y, some z, some u => frzX (ownsS (R x)) R h (fun R' _ => slice3X P t (R' x) (bnd3 R' y) (bnd3 R' z) (bnd3 R' u))
    | none, some z, some u => clipX P t (R x) (bnd3 R z) (bnd3 R u)
    | lo, hi, mx => sliceX P t (R x) (bndJ R lo) (bndJ R hi) mx h
  | .build t parts => buildX P t R parts.toList
  | .index t x i => indexX P t (R x) (R i)
  | _ => none
theorem opX_spec {P : Program} {cf : FuncId → List S → Option Eff} {o : Op} {d : Nat} {R : Operand → S} {h : Nat → Option Blk} {E : Eff} {K : Eff → Prop} (hcf : CfOk P h cf) (e : opX P cf o d R h = some E) (hK : K E) : opK P o d R h K := by
  cases o <;> simp only [opX] at e <;> simp only [opK]
  case move x => cases e; exact hK
  case assign x => cases e; exact hK
  case pick => exact pickX_spec e hK
  case alloc => exact allocX_spec e hK
  case box => exact boxX_spec e hK
  case load => exact loadX_spec e hK
  case store => exact storeX_spec e hK
  case fieldAddr => exact fieldAddrX_spec e hK
  case indexAddr => exact indexAddrX_spec e hK
  case field => exact fieldX_spec e hK
  case extract => exact extractX_spec e hK
  case binOp => exact binYX_spec e hK
  case unOp => exact unX_spec e hK
  case convert => exact convX_spec e hK
  case buildSlice =>
    split at e
    · rename_i ys hys
      simp only [hys]
      exact buildPtrX_spec e hK
    · rename_i hys
      simp only [hys]
      exact frzX_spec (A := fun R' _ => buildSliceX P _ _ (partsT R' 0 _) d) (fun R h E K e hK => buildSliceX_spec e hK) _ _ _ _ _ e hK
  case makeSlice => exact makeSliceX_spec e hK
  case call => exact callX_spec hcf e hK
  case makeFunc => exact makeFuncX_spec e hK
  case nilCheck => exact nilX_spec e hK
  case slice t x lo hi mx =>
    split at e
    · exact frzX_spec (A := fun R' _ => slice3X P t (R' x) (bnd3 R' _) (bnd3 R' _) (bnd3 R' _)) (fun R h E K e hK => slice3X_spec e hK) _ _ _ _ _ e hK
    · exact clipX_spec e hK
    · rename_i h1 h2
      split
      · exact (h1 _ _ _ rfl rfl rfl).elim
      · exact (h2 _ _ rfl rfl rfl).elim
      · exact sliceX_spec e hK
  case build => exact buildX_spec e hK
  case index => exact indexX_spec e hK
  all_goals cases e
def updQ (u : List (Nat × Option Blk)) (h : List (Nat × Blk)) : List (Nat × Blk) := match u with
  | [] => h
  | q :: r => updB (q :: r) h
theorem updQ_eq (u : List (Nat × Option Blk)) (h : List (Nat × Blk)) : updQ u h = updB u h := by cases u <;> rfl
noncomputable def lkQ (g : List (Nat × S)) (k : Nat) : S := List.rec (motive := fun _ => S) .dead (fun q _ ih => Bool.rec (motive := fun _ => S) ih q.2 (Nat.beq k q.1)) g
theorem lkQ_eq (g : List (Nat × S)) : lkQ g = lkS g := by
  funext k
  induction g with
  | nil => rfl
  | cons q r ih =>
    obtain ⟨t, s⟩ := q
    show Bool.rec (motive := fun _ => S) (lkQ r k) s (Nat.beq k t) = _
    simp only [lkS]
    cases hb : Nat.beq k t
    · rw [if_neg (by rintro rfl; rw [Nat.beq_refl] at hb; cases hb)]
      exact ih
    · rw [if_pos (Nat.eq_of_beq_eq_true hb)]
noncomputable def opsX (P : Program) (cf : St → FuncId → List S → Option Eff) (all : List Oper) : List Oper → St → List (Option Eff) → Option (St × List (Option Eff))
  | [], σ, acc => some (σ, acc)
  | o :: r, σ, acc => match o.guard with
    | none => match opX P (cf σ) o.op (lab o) (rdS (lkQ σ.g)) (lkB σ.h) with
      | some E => if nwOk σ E.nw = true then opsX P cf all r ⟨putS o.dst E.r σ.g, updQ E.u σ.h⟩ (some E :: acc) else none
      | none => none
    | some (j, b) => match gslot all j with
      | some t => match lkQ σ.g t with
        | .t (.lit (.bool c)) => if c = b then match opX P (cf ⟨(t, .t (.bool b)) :: σ.g, σ.h⟩) o.op (lab o) (rdS (lkQ ((t, .t (.bool b)) :: σ.g))) (lkB σ.h) with
              | some E => if nwOk ⟨(t, .t (.bool b)) :: σ.g, σ.h⟩ E.nw = true then opsX P cf all r ⟨putS o.dst E.r ((t, .t (.bool b)) :: σ.g), updQ E.u σ.h⟩ (some E :: acc) else none
              | none => none
            else opsX P cf all r ⟨putS o.dst (.tup []) ((t, .t (.bool (!b))) :: σ.g), σ.h⟩ (none :: acc)
        | .tup [] => opsX P cf all r ⟨putS o.dst (.tup []) σ.g, σ.h⟩ (none :: acc)
        | _ => none
      | none => none
theorem opsX_spec {P : Program} {cf : St → FuncId → List S → Option Eff} {all : List Oper} {K : St → List (Option Eff) → Prop} (hcf : ∀ σ, CfOk P (lkB σ.h) (cf σ)) : ∀ (r : List Oper) (σ : St) (acc : List (Option Eff)) (σ' : St) (acc' : List (Option Eff)),
    opsX P cf all r σ acc = some (σ', acc') → K σ' acc' → opsK P all K r σ acc
  | [], σ, acc, σ', acc', e, hK => by
    simp only [opsX, Option.some.injEq, Prod.mk.injEq] at e
    obtain ⟨rfl, rfl⟩ := e
    exact hK
  | o :: r, σ, acc, σ', acc', e, hK => by
    unfold opsX at e
    simp only [lkQ_eq, updQ_eq] at e
    unfold opsK
    split at e
    · rename_i hg
      simp only [hg]
      split at e
      · rename_i E hE
        split at e
        · rename_i hn
          exact opX_spec (hcf σ) hE ⟨hn, opsX_spec hcf r _ _ _ _ e hK⟩
        · cases e
      · cases e
    · rename_i j b hg
      simp only [hg]
      split at e
      · rename_i t ht
        simp only [ht]
        split at e
        · rename_i c hc
          simp only [hc]
          split at e
          · rename_i hcb
            rw [if_pos hcb]
            split at e
            · rename_i E hE
              split at e
              · rename_i hn
                exact opX_spec (hcf ⟨(t, .t (.bool b)) :: σ.g, σ.h⟩) hE ⟨hn, opsX_spec hcf r _ _ _ _ e hK⟩
              · cases e
            · cases e
          · rename_i hcb
            rw [if_neg hcb]
            exact opsX_spec hcf r _ _ _ _ e hK
        · rename_i hc
          simp only [hc]
          exact opsX_spec hcf r _ _ _ _ e hK
        · cases e
      · cases e
end Go.Proofs.YtdjmklobfjigoaaGreatDoor.Sy
