/- Several texts of this proof, one behind the other. No condition. -/
import Derived.Test.YtcehllkmfkoncaaGreatTTolsB22
import Derived.Test.YtcehllkmfkoncaaGreatTTolsB18
import Derived.Test.YtcehllkmfkoncaaGreatTTolsB17
import Derived.Test.YtcehllkmfkoncaaGreatTTolsB14
/- advance.Run as a contract. No condition. -/
namespace Go.Proofs.YtcehllkmfkoncaaGreat
open Go.RowKit Sy Dl
open Go.IntWalk renaming iteOmega → iO, toNatUp → tN
set_option linter.unusedVariables false
set_option linter.unusedSimpArgs false
/-- The contract of a tick, whatever lists the line bore. -/
def TickC (d : LineD) (ord : List Int) (f0 f1 g1 o1 : List (Option (List (Int × Int)))) : Prop := ∀ gi oo : List (Option (List (Int × Int))),
  FnOk Tryz.prog 31 [.pt 0 [] 0] [(0, lineX d.net d.plan (.sl 1 (d.feeds.map encI)) (.sl 1 (ord.map encI)) (.own 2) (.own 3)), (1, blkG f0), (2, blkG gi), (3, blkG oo)]
      (.t (.int 0)) [(0, lineX d.net d.plan (.sl 1 (d.feeds.map encI)) (.sl 1 (ord.map encI)) (.own 1000) (.own 1001)), (1, blkG f1), (1000, blkG g1), (1001, blkG o1)]
/-- What has come out at a port in k ticks. -/
def allV (O : Nat → List (Option (List (Int × Int)))) : Nat → Nat → List (Int × Int)
  | 0, i => []
  | k + 1, i => allV O k i ++ ((O (k + 1)).getD i none).getD []
@[go_sem] def lineY (net plan : List T) (feeds order : T) (f a b : S) : Blk := .box 92 (.ag [.t (.agg net), .t (.agg plan), .t feeds, .t order, f, a, b])
set_option maxRecDepth 100000 in
set_option maxHeartbeats 8000000 in
theorem arun_fn (d : LineD) (hd : LineOk d) (hn : NetC d) (fills : List (List (Int × Int))) (hf : FillsOk d fills) (ord : List Int) (ho : FnOk Tryz.prog 70 [.t (.agg d.net), .t (.agg d.plan)] [] (.tup [.t (.sl 1 (ord.map encI)), .t (.int 0)]) [])
    (hfd : ∀ b ∈ d.feeds, 0 ≤ b ∧ b < 1000) (ticks : Nat) (ht : ticks ≤ 400) (F G O : Nat → List (Option (List (Int × Int)))) (hF0 : F 0 = fills.map some) (hG0 : G 0 = []) (hO0 : O 0 = []) (hOl : ∀ k, (O (k + 1)).length = d.ports.length)
    (hT : ∀ k, k < ticks → TickC d ord (F k) (F (k + 1)) (G (k + 1)) (O (k + 1))) (hS : ∀ k i, k < ticks → Pc.Sane (allV O (k + 1) i)) (hz : ∀ k i p, k < ticks → p ∈ ((O (k + 1)).getD i none).getD [] → p.2 ≠ 0) (hL : ∀ k i, k < ticks → (Pc.join (allV O (k + 1) i)).length ≤ 200) :
    FnOk Tryz.prog 21 [.t (.agg d.net), .t (.sl 1 (fills.map encPs)), .t (.agg d.plan), .t (.sl 1 (d.feeds.map encI)), .t (.int ticks)] []
      (.tup [.own 1000, .t (.sl 1 ((List.range d.ports.length).map fun i => encPs (Pc.join (allV O ticks i)))), .t (.int 0)]) [(1000, blkG (F ticks))] := by
  have w1 := hd.w1
  have w2 := hd.w2
  have w3 := hd.w3
  have w4 := hd.w4
  have w5 := hd.w5
  have hmP := hd.maxP
  have c1 := astart_fn d hd hn fills hf ord ho hfd
  rw [← hF0] at c1
  obtain ⟨W, wl, wg, ws, wn, w0, wt, wf⟩ := rows_ex 73 d.ports.length (fun k i => Pc.join (allV O k i))
  have hW0 := w0 (fun q => rfl)
  have hwt := wt ticks
  refine FnOk.intro fact_mixed Tryz.func21 rfl Tryz.ntmps21 (by rfl) (by simp) ?_
  repeat (first | (refine nf1_sound rfl ?_; simp [go_sem, ↓iO, iO, tN, w1, w2, w3, w4, w5]; (repeat (refine anI ?_)); try (refine ⟨dcK, ?_⟩)) | ((first | refine itePos (by omega) ?_ | refine iteNeg (by omega) ?_); try simp [go_sem, ↓iO, iO, tN, w1, w2, w3, w4, w5]) | (refine ⟨dcK, ?_⟩))
  refine CallK.fn (c1) [(1000, 600), (1001, 601)] [] [] (by kernel_rfl) ?_ ?_ ?_ (Or.inl rfl) ?_ <;> simp [go_sem, ↓iO, iO, tN, w1, w2, w3, w4, w5]
  repeat (refine anI ?_)
  try (refine ⟨dcK, ?_⟩)
  repeat (first | (refine nf1_sound rfl ?_; simp [go_sem, ↓iO, iO, tN, w1, w2, w3, w4, w5]; (repeat (refine anI ?_)); try (refine ⟨dcK, ?_⟩)) | ((first | refine itePos (by omega) ?_ | refine iteNeg (by omega) ?_); try simp [go_sem, ↓iO, iO, tN, w1, w2, w3, w4, w5]) | (refine ⟨dcK, ?_⟩))
  refine nf1_sound' _ _ _ ?_; simp only [nf1]
  refine CW.toRows 139 (W 0 0) (e := 43) (s := 1) (xs := List.replicate d.ports.length (.lit (.slice none 0 0))) (by rfl) (by rw [wl]; simp) (fun i x u h1 h2 => ?_) ?_
  · rw [hW0, List.getElem?_replicate] at h2
    rw [List.getElem?_replicate] at h1
    split at h1
    · rename_i hi
      rw [if_pos hi] at h2
      cases h1; cases h2
      unfold relTU; trivial
    · cases h1
  simp [go_sem, ↓iO, iO, tN]
  refine CW.loop (ι := Nat) (fun k => ⟨[(13, .pt 600 [] 0), (15, .own 511), (40, .t (.int ticks)), (41, .t (.int k))], [(600, lineY d.net d.plan (.sl 1 (d.feeds.map encI)) (.sl 1 (ord.map encI)) (.own 601) (.own 602) (.own 603)), (601, blkG (F k)), (602, blkG (G k)), (603, blkG (O k)), (511, .rows 43 1 (W k 0) [])]⟩) (fun k => k ≤ ticks) (fun k => ticks - k) 0
    [(600, some 600), (601, some 601), (602, none), (603, none), (511, some 139)] (by omega) ?_ ?_
  · simp [go_sem, ↓iO, iO, tN, hG0, hO0]
  intro k hk
  by_cases hb : k < ticks
  · have ct := hT k hb (G k) (O k)
    have hol := hOl k
    obtain ⟨F0, hF0⟩ : ∃ X, F k = X := ⟨_, rfl⟩
    obtain ⟨G0, hG0⟩ : ∃ X, G k = X := ⟨_, rfl⟩
    obtain ⟨O0, hO0⟩ : ∃ X, O k = X := ⟨_, rfl⟩
    obtain ⟨F1, hF1⟩ : ∃ X, F (k + 1) = X := ⟨_, rfl⟩
    obtain ⟨G1, hG1⟩ : ∃ X, G (k + 1) = X := ⟨_, rfl⟩
    obtain ⟨O1, hO1⟩ : ∃ X, O (k + 1) = X := ⟨_, rfl⟩
    rw [hF0, hG0, hO0, hF1, hG1, hO1] at ct
    rw [hF0, hG0, hO0]
    rw [hO1] at hol
    repeat (first | (refine nf1_sound rfl ?_; simp [go_sem, ↓iO, iO, tN, hb]; (repeat (refine anI ?_)); try (refine ⟨dcK, ?_⟩)) | ((first | refine itePos (by omega) ?_ | refine iteNeg (by omega) ?_); try simp [go_sem, ↓iO, iO, tN, hb]) | (refine ⟨dcK, ?_⟩))
    refine CallK.fn (ct) [(0, 600), (1, 601), (2, 602), (3, 603), (1000, 612), (1001, 613)] [] [] (by kernel_rfl) ?_ ?_ ?_ (Or.inl rfl) ?_ <;> simp [go_sem, ↓iO, iO, tN]
    repeat (refine anI ?_)
    try (refine ⟨dcK, ?_⟩)
    repeat (first | (refine nf1_sound rfl ?_; simp [go_sem, ↓iO, iO, tN]; (repeat (refine anI ?_)); try (refine ⟨dcK, ?_⟩)) | ((first | refine itePos (by omega) ?_ | refine iteNeg (by omega) ?_); try simp [go_sem, ↓iO, iO, tN]) | (refine ⟨dcK, ?_⟩))
    refine nf1_sound' _ _ _ ?_; simp only [nf1]
    refine CW.loop (ι := Nat) (fun i => ⟨[(13, .pt 600 [] 0), (15, .own 511), (40, .t (.int ticks)), (41, .t (.int k)), (51, .own 613), (52, .t (.int d.ports.length)), (53, .t (.int i))], [(600, lineY d.net d.plan (.sl 1 (d.feeds.map encI)) (.sl 1 (ord.map encI)) (.own 601) (.own 612) (.own 613)), (601, blkG F1), (612, blkG G1), (613, blkG O1), (511, .rows 43 1 (W k i) [])]⟩) (fun i => i ≤ d.ports.length) (fun i => d.ports.length - i) 0
      [(600, some 600), (601, some 601), (612, some 612), (613, some 613), (511, some 511)] (by omega) ?_ ?_
    · simp [go_sem, ↓iO, iO, tN, hol]
    intro i hi
    by_cases hb2 : i < d.ports.length
    · have hwl := wl k i
      have hwg := wg k i hb2
      have hws := ws k i hb2
      obtain ⟨o, hoi⟩ : ∃ o, O1[i]? = some o := has_get (by omega)
      have hoi2 : O1[i]'(by omega) = o := (List.getElem?_eq_some_iff.1 hoi).2
      have hod : (O1.getD i none).getD [] = o.getD [] := by rw [List.getD_eq_getElem?_getD, hoi]; rfl
      have ha : allV O (k + 1) i = allV O k i ++ o.getD [] := by simp only [allV, hO1, hod]
      have hs := hS k i hb
      have hzz := fun p => hz k i p hb
      rw [hO1, hod] at hzz
      have hll := hL k i hb
      rw [ha] at hs hws hll
      have j1 := join_fn (allV O k i) (o.getD []) hs hzz
      obtain ⟨J, hJ⟩ : ∃ J, Pc.join (allV O k i) = J := ⟨_, rfl⟩
      obtain ⟨J2, hJ2⟩ : ∃ J2, Pc.join (allV O k i ++ o.getD []) = J2 := ⟨_, rfl⟩
      rw [hJ, hJ2] at j1
      rw [hJ] at hwg
      rw [hJ2] at hws hll
      obtain ⟨X1, hX1⟩ : ∃ X, W k i = X := ⟨_, rfl⟩
      rw [hX1] at hwl hwg hws ⊢
      have hol2 : i < O1.length := by omega
      cases o with
      | none =>
        iterate 4 (refine nf1_sound rfl ?_; simp [go_sem, ↓iO, iO, tN, hoi, hoi2, hol2, hb2, hol, widths_gv, width_gv]; (repeat (refine anI ?_)); try (refine ⟨dcK, ?_⟩))
        refine CW.openRow 511 i 555 (us := X1) (ex := []) (u := .ow 73 2 (J.map encP)) (b := .list 73 2 (J.map encP)) (by rfl) hwg (by rfl) (by rfl) (by kernel_rfl) (by omega) ?_
        simp [go_sem, ↓iO, iO, tN]
        iterate 1 (refine nf1_sound rfl ?_; simp [go_sem, ↓iO, iO, tN, hwl, hwg, hb2]; (repeat (refine anI ?_)); try (refine ⟨dcK, ?_⟩))
        refine CallK.fn (j1) [(0, 555), (1000, 660)] [] [] (by kernel_rfl) ?_ ?_ ?_ (Or.inl rfl) ?_ <;> simp [go_sem, ↓iO, iO, tN, hwl, hwg, hb2]
        repeat (refine anI ?_)
        try (refine ⟨dcK, ?_⟩)
        iterate 1 (refine nf1_sound rfl ?_; simp [go_sem, ↓iO, iO, tN, hwl, hwg, hb2, hll]; (repeat (refine anI ?_)); try (refine ⟨dcK, ?_⟩))
        refine CW.closeRow 511 i 660 (.ow 73 2 (J2.map encP)) (us := X1) (ex := [(i, .own 660)]) (by rfl) (by rfl) (by simp [go_sem]) (by rfl) ?_
        simp [go_sem, ↓iO, iO, tN, hws]
        repeat (first | (refine nf1_sound rfl ?_; simp [go_sem, ↓iO, iO, tN, hll]; (repeat (refine anI ?_)); try (refine ⟨dcK, ?_⟩)) | ((first | refine itePos (by omega) ?_ | refine iteNeg (by omega) ?_); try simp [go_sem, ↓iO, iO, tN, hll]) | (refine ⟨dcK, ?_⟩))
        rw [RoundQ_normal]; refine ⟨i + 1, [(600, some 600), (601, some 601), (612, some 612), (613, some 613), (511, some 511)], ?_, ?_, ?_⟩
        · omega
        · omega
        simp [go_sem, ↓iO, iO, tN]
      | some o =>
        iterate 4 (refine nf1_sound rfl ?_; simp [go_sem, ↓iO, iO, tN, hoi, hoi2, hol2, hb2, hol, widths_gv, width_gv]; (repeat (refine anI ?_)); try (refine ⟨dcK, ?_⟩))
        refine CW.openRow 511 i 555 (us := X1) (ex := []) (u := .ow 73 2 (J.map encP)) (b := .list 73 2 (J.map encP)) (by rfl) hwg (by rfl) (by rfl) (by kernel_rfl) (by omega) ?_
        simp [go_sem, ↓iO, iO, tN]
        iterate 1 (refine nf1_sound rfl ?_; simp [go_sem, ↓iO, iO, tN, hwl, hwg, hb2]; (repeat (refine anI ?_)); try (refine ⟨dcK, ?_⟩))
        refine CallK.fn (j1) [(0, 555), (1000, 660)] [] [] (by kernel_rfl) ?_ ?_ ?_ (Or.inl rfl) ?_ <;> simp [go_sem, ↓iO, iO, tN, hwl, hwg, hb2]
        repeat (refine anI ?_)
        try (refine ⟨dcK, ?_⟩)
        iterate 1 (refine nf1_sound rfl ?_; simp [go_sem, ↓iO, iO, tN, hwl, hwg, hb2, hll]; (repeat (refine anI ?_)); try (refine ⟨dcK, ?_⟩))
        refine CW.closeRow 511 i 660 (.ow 73 2 (J2.map encP)) (us := X1) (ex := [(i, .own 660)]) (by rfl) (by rfl) (by simp [go_sem]) (by rfl) ?_
        simp [go_sem, ↓iO, iO, tN, hws]
        repeat (first | (refine nf1_sound rfl ?_; simp [go_sem, ↓iO, iO, tN, hll]; (repeat (refine anI ?_)); try (refine ⟨dcK, ?_⟩)) | ((first | refine itePos (by omega) ?_ | refine iteNeg (by omega) ?_); try simp [go_sem, ↓iO, iO, tN, hll]) | (refine ⟨dcK, ?_⟩))
        rw [RoundQ_normal]; refine ⟨i + 1, [(600, some 600), (601, some 601), (612, some 612), (613, some 613), (511, some 511)], ?_, ?_, ?_⟩
        · omega
        · omega
        simp [go_sem, ↓iO, iO, tN]
    · obtain rfl : i = d.ports.length := by omega
      rw [wn]
      repeat (first | (refine nf1_sound rfl ?_; simp [go_sem, ↓iO, iO, tN]; (repeat (refine anI ?_)); try (refine ⟨dcK, ?_⟩)) | ((first | refine itePos (by omega) ?_ | refine iteNeg (by omega) ?_); try simp [go_sem, ↓iO, iO, tN]) | (refine ⟨dcK, ?_⟩))
      rw [RoundQ_normal]; refine ⟨k + 1, [(600, some 600), (601, some 601), (602, some 612), (603, some 613), (511, some 511)], ?_, ?_, ?_⟩
      · omega
      · omega
      simp [go_sem, ↓iO, iO, tN, hF1, hG1, hO1]
  · obtain rfl : k = ticks := by omega
    repeat (first | (refine nf1_sound rfl ?_; simp [go_sem, ↓iO, iO, tN]; (repeat (refine anI ?_)); try (refine ⟨dcK, ?_⟩)) | ((first | refine itePos (by omega) ?_ | refine iteNeg (by omega) ?_); try simp [go_sem, ↓iO, iO, tN]) | (refine ⟨dcK, ?_⟩))
    first | rw [RetQ_ret] | rw [RetQ_normal]
    refine ⟨[(1000, some 601)], ?_⟩
    simp [go_sem, ↓iO, iO, tN, hwt]
end Go.Proofs.YtcehllkmfkoncaaGreat
/- Pushing back what has left. Plain Lean. -/
namespace Go.Proofs.YtcehllkmfkoncaaGreat
set_option linter.unusedVariables false
set_option linter.unusedSimpArgs false
theorem mem_litres {l : List (Int × Int)} {p : Int × Int} (h : p ∈ l) (hp : 0 < p.2) : p.1 ∈ Pc.litres l := by
  unfold Pc.litres
  refine List.mem_flatMap.2 ⟨p, h, List.mem_replicate.2 ⟨by omega, rfl⟩⟩
theorem litres_mem {l : List (Int × Int)} {x : Int} (h : x ∈ Pc.litres l) : ∃ q ∈ l, q.1 = x := by
  unfold Pc.litres at h
  obtain ⟨q, hq, hx⟩ := List.mem_flatMap.1 h
  exact ⟨q, hq, (List.mem_replicate.1 hx).2.symm⟩
/-- What a cut gives. -/
structure CutOk (ps : List (Int × Int)) (k : Nat) (a b : List (Int × Int)) : Prop where
  ca : Pc.Canon a
  cb : Pc.Canon b
  la : Pc.litres a = (Pc.litres ps).take k
  lb : Pc.litres b = (Pc.litres ps).drop k
  na : a.length ≤ ps.length
  nb : b.length ≤ ps.length
theorem cut_ok {ps : List (Int × Int)} (h : Pc.Sane ps) (k : Nat) : CutOk ps k (Pc.join (Pc.heads ps k)) (Pc.join (Pc.tails ps k)) := by
  have h1 := (heads_sane h (Int.natCast_nonneg k)).each
  have h2 := (tails_sane h (Int.natCast_nonneg k)).each
  have h3 := fun p hp => (h.each p hp).1
  refine ⟨Pc.join_canon fun p hp => (h1 p hp).1, Pc.join_canon fun p hp => (h2 p hp).1, ?_, ?_, ?_, ?_⟩
  · rw [Pc.join_litres fun p hp => (h1 p hp).1, Pc.heads_litres ps h3]
  · rw [Pc.join_litres fun p hp => (h2 p hp).1, Pc.tails_litres ps h3]
  · have := Pc.join_length (Pc.heads ps k); rw [Pc.heads_length] at this; exact this
  · have := Pc.join_length (Pc.tails ps k); rw [Pc.tails_length] at this; exact this
theorem vol_litres {a : List (Int × Int)} (h : Pc.Canon a) : Pc.vol a = ((Pc.litres a).length : Int) := (Pc.litres_length a fun p hp => Int.le_of_lt (h.pos p hp)).symm
/-- Canonical pieces of litres that are some of a valid fill's or two: valid. -/
theorem vd_part {a f g : List (Int × Int)} (hf : Pc.Vd f) (hg : Pc.Vd g) (hc : Pc.Canon a) (hl : ∀ x ∈ Pc.litres a, x ∈ Pc.litres f ∨ x ∈ Pc.litres g) (hn : a.length ≤ 200) (hv : (Pc.litres a).length ≤ 1000000) : Pc.Vd a := by
  refine Pc.vd_of_canon hc (fun p hp => ?_) hn (by rw [vol_litres hc]; omega)
  rcases hl p.1 (mem_litres hp (hc.pos p hp)) with h | h
  · obtain ⟨q, hq, he⟩ := litres_mem h; rw [← he]; exact (hf.each q hq).1
  · obtain ⟨q, hq, he⟩ := litres_mem h; rw [← he]; exact (hg.each q hq).1
/-- What a push of small fills gives: next, out. -/
structure PushOk (f g : List (Int × Int)) (back : Bool) (n o : List (Int × Int)) : Prop where
  eq : Pc.push f g back = (n, o, 0)
  vn : Pc.Vd n
  vo : Pc.Vd o
  ln : Pc.litres n = if back then (Pc.litres f ++ Pc.litres g).drop (Pc.litres g).length else (Pc.litres g ++ Pc.litres f).take (Pc.litres f).length
  lo : Pc.litres o = if back then (Pc.litres f ++ Pc.litres g).take (Pc.litres g).length else (Pc.litres g ++ Pc.litres f).drop (Pc.litres f).length
  nn : n.length ≤ f.length + g.length
  no : o.length ≤ f.length + g.length
theorem push_small {f g : List (Int × Int)} (hf : Pc.Vd f) (hg : Pc.Vd g) (hs : f.length + g.length ≤ 200) (back : Bool) : ∃ n o, PushOk f g back n o := by
  have vf := vol_litres hf.canon
  have vg := vol_litres hg.canon
  have bf := hf.vol
  have bg := hg.vol
  cases back with
  | true =>
    have hc := cut_ok (sane_app hf hg) (Pc.litres g).length
    rw [← vg] at hc
    have la := hc.la
    have lb := hc.lb
    rw [Pc.litres_append] at la lb
    have na := hc.na
    have nb := hc.nb
    rw [List.length_append] at na nb
    have hsh : Pc.shift f g true = (Pc.join (Pc.tails (f ++ g) (Pc.vol g)), Pc.join (Pc.heads (f ++ g) (Pc.vol g))) := rfl
    refine ⟨_, _, ?_, ?_, ?_, lb, la, nb, na⟩
    · rw [push_ok (Pc.valid_t hf) (Pc.valid_t hg) (by rw [hsh]; dsimp only; exact ⟨by omega, by omega⟩), hsh]
    · refine vd_part hf hg hc.cb (fun x hx => ?_) (by omega) (by rw [lb, List.length_drop, List.length_append]; omega)
      rw [lb] at hx; exact List.mem_append.1 (List.mem_of_mem_drop hx)
    · refine vd_part hf hg hc.ca (fun x hx => ?_) (by omega) (by rw [la, List.length_take, List.length_append]; omega)
      rw [la] at hx; exact List.mem_append.1 (List.mem_of_mem_take hx)
  | false =>
    have hc := cut_ok (sane_app hg hf) (Pc.litres f).length
    rw [← vf] at hc
    have la := hc.la
    have lb := hc.lb
    rw [Pc.litres_append] at la lb
    have na := hc.na
    have nb := hc.nb
    rw [List.length_append] at na nb
    have hsh : Pc.shift f g false = (Pc.join (Pc.heads (g ++ f) (Pc.vol f)), Pc.join (Pc.tails (g ++ f) (Pc.vol f))) := rfl
    refine ⟨_, _, ?_, ?_, ?_, la, lb, by omega, by omega⟩
    · rw [push_ok (Pc.valid_t hf) (Pc.valid_t hg) (by rw [hsh]; dsimp only; exact ⟨by omega, by omega⟩), hsh]
    · refine vd_part hg hf hc.ca (fun x hx => ?_) (by omega) (by rw [la, List.length_take, List.length_append]; omega)
      rw [la] at hx; exact List.mem_append.1 (List.mem_of_mem_take hx)
    · refine vd_part hg hf hc.cb (fun x hx => ?_) (by omega) (by rw [lb, List.length_drop, List.length_append]; omega)
      rw [lb] at hx; exact List.mem_append.1 (List.mem_of_mem_drop hx)
theorem push_undo {f g n o : List (Int × Int)} {back : Bool} (hf : Pc.Vd f) (hg : Pc.Vd g) (hs : f.length + g.length ≤ 100) (h : PushOk f g back n o) : Pc.push n o (!back) = (f, g, 0) := by
  obtain ⟨n2, o2, h2⟩ := push_small h.vn h.vo (by have := h.nn; have := h.no; omega) (!back)
  have e1 : n2 = f := by
    refine Pc.canon_unique h2.vn.canon hf.canon ?_
    rw [h2.ln, h.ln, h.lo]
    cases back <;> simp
  have e2 : o2 = g := by
    refine Pc.canon_unique h2.vo.canon hg.canon ?_
    rw [h2.lo, h.ln, h.lo]
    cases back <;> simp
  rw [h2.eq, e1, e2]
end Go.Proofs.YtcehllkmfkoncaaGreat
/- Batches counted litre by litre; a litre's batch. Plain Lean. -/
namespace Go.Proofs.YtcehllkmfkoncaaGreat
set_option linter.unusedVariables false
set_option linter.unusedSimpArgs false
theorem of_count (b : Int) : ∀ {l : List (Int × Int)}, (∀ p ∈ l, 0 ≤ p.2) → Pc.of_ l b = ((Pc.litres l).count b : Int)
  | [], _ => by simp [Pc.of_, Pc.litres]
  | p :: r, h => by
    have ih := of_count b (l := r) fun q hq => h q (List.mem_cons_of_mem _ hq)
    have hp := h p (List.mem_cons_self)
    rw [Pc.litres_cons, List.count_append, Pc.of_, ih]
    by_cases he : p.1 = b
    · rw [if_pos he, he, List.count_replicate_self]; omega
    · have h0 : (List.replicate p.2.toNat p.1).count b = 0 := List.count_eq_zero.2 (by intro hm; exact he (List.mem_replicate.1 hm).2.symm)
      rw [if_neg he, h0]; omega
theorem at_litres : ∀ {l : List (Int × Int)}, (∀ p ∈ l, 0 ≤ p.2) → ∀ k : Nat, Pc.atIn l k = (Pc.litres l).getD k (-1)
  | [], _, k => by simp [Pc.atIn, Pc.litres]
  | p :: r, h, k => by
    have hp := h p (List.mem_cons_self)
    rw [Pc.litres_cons, Pc.atIn]
    by_cases hk : (k : Int) < p.2
    · rw [if_pos hk, List.getD_eq_getElem?_getD, List.getElem?_append_left (by rw [List.length_replicate]; omega), List.getElem?_replicate, if_pos (by omega)]; rfl
    · rw [if_neg hk]
      have e : (k : Int) - p.2 = ((k - p.2.toNat : Nat) : Int) := by omega
      rw [e, at_litres (fun q hq => h q (List.mem_cons_of_mem _ hq)), List.getD_eq_getElem?_getD, List.getD_eq_getElem?_getD, List.getElem?_append_right (by rw [List.length_replicate]; omega), List.length_replicate]
theorem push_of {f g n o : List (Int × Int)} {back : Bool} (hf : Pc.Vd f) (hg : Pc.Vd g) (h : PushOk f g back n o) (b : Int) : Pc.of_ f b + Pc.of_ g b = Pc.of_ n b + Pc.of_ o b := by
  rw [of_count b hf.nonneg, of_count b hg.nonneg, of_count b h.vn.nonneg, of_count b h.vo.nonneg, h.ln, h.lo]
  have key : ∀ (L : List Int) (k : Nat), ((L.take k).count b : Int) + ((L.drop k).count b : Int) = (L.count b : Int) := fun L k => by
    have := List.count_append (a := b) (l₁ := L.take k) (l₂ := L.drop k)
    rw [List.take_append_drop] at this
    omega
  cases back with
  | true =>
    simp only [if_true]
    have := key (Pc.litres f ++ Pc.litres g) (Pc.litres g).length
    rw [List.count_append] at this; omega
  | false =>
    simp only [Bool.false_eq_true, if_false]
    have := key (Pc.litres g ++ Pc.litres f) (Pc.litres f).length
    rw [List.count_append] at this; omega
theorem push_vol {f g n o : List (Int × Int)} {back : Bool} (hf : Pc.Vd f) (hg : Pc.Vd g) (h : PushOk f g back n o) : Pc.vol n = Pc.vol f ∧ Pc.vol o = Pc.vol g := by
  rw [vol_litres h.vn.canon, vol_litres h.vo.canon, vol_litres hf.canon, vol_litres hg.canon, h.ln, h.lo]
  cases back <;> simp <;> omega
end Go.Proofs.YtcehllkmfkoncaaGreat
/- A tick of the line of one segment. No condition. -/
namespace Go.Proofs.YtcehllkmfkoncaaGreat
open Go.RowKit Sy Dl
set_option linter.unusedVariables false
set_option linter.unusedSimpArgs false
theorem vol_rev : ∀ f : List (Int × Int), Pc.vol f.reverse = Pc.vol f
  | [] => rfl
  | p :: r => by rw [List.reverse_cons, Pc.vol_append, vol_rev r]; simp only [Pc.vol]; omega
theorem rev_get {α : Type} {l : List α} {i : Nat} (h : i < l.length) : l.reverse[i]? = l[l.length - 1 - i]? := List.getElem?_reverse h
theorem vd_rev {f : List (Int × Int)} (h : Pc.Vd f) : Pc.Vd f.reverse := by
  refine ⟨by rw [List.length_reverse]; exact h.len, ?_, by rw [vol_rev]; exact h.vol⟩
  intro i hi p hp
  rw [List.length_reverse] at hi
  rw [rev_get hi] at hp
  have h1 := h.each p (mem_get hp)
  refine ⟨by omega, fun q h0 hq => ?_⟩
  rw [rev_get (by omega)] at hq
  have e : f.length - 1 - (i - 1) = f.length - 1 - i + 1 := by omega
  rw [e] at hq
  have h2 := (h.ok (f.length - 1 - i + 1) (by omega) q hq).2 p (by omega) (by simpa using hp)
  exact fun hh => h2 hh.symm
theorem litres_rev : ∀ f : List (Int × Int), Pc.litres f.reverse = (Pc.litres f).reverse
  | [] => rfl
  | p :: r => by rw [List.reverse_cons, Pc.litres_append, litres_rev r]; simp [Pc.litres]
theorem cs_one (r : Int) (hr : 0 < r) : ∀ k : Nat, cs [r] k = [(k : Int)]
  | 0 => rfl
  | k + 1 => by
    simp only [cs, cs_one r hr k]
    simp [bump, nx, rt, hr]
theorem strm_one (r : Int) (hr : 0 < r) : ∀ (l : List (Int × Int)) (a : Nat), (∀ p ∈ l, 0 ≤ p.2) → strm [r] 0 l a = l
  | [], _, _ => rfl
  | p :: t, a, h => by
    have hp := h p (by simp)
    simp only [strm, cs_one r hr, rt]
    rw [strm_one r hr t _ (fun q hq => h q (by simp [hq]))]
    have : ((a + p.2.toNat : Nat) : Int) - (a : Int) = p.2 := by omega
    simp
    rw [Int.max_eq_left hp]
    ext <;> simp
    omega
theorem merge_vd {l : List (Int × Int)} (h : Pc.Vd l) : Pc.merge l = l := by
  rw [merge_good ⟨by have := h.len; omega, fun p hp => by have := h.each p hp; omega⟩, Pc.join_self h.canon]
theorem deal_one (r : Int) (hr : 0 < r) (h1 : r ≤ 1000) (l : List (Int × Int)) (hl : Pc.Vd l) (hv : Pc.vol l ≤ r) (hne : l ≠ []) : dealV l [r] = ([l], 0) := by
  have hR : Rates [r] := ⟨by simp, by simp; omega, by simp [tot]; omega⟩
  have hc := chk_of hR (hl.sane.vol).1 (by simp [tot]; omega)
  unfold dealV
  rw [merge_vd hl]
  have hlen := hl.len
  simp only [hc]
  rw [if_neg (by simp [hne]; omega), if_neg (by simp)]
  simp [dealt, List.range_succ, strm_one r hr l 0 hl.nonneg, Pc.join_self hl.canon]
/-- The line of one segment. -/
def dP (pm : T) (c r : Int) (fd : List Int) : LineD := { nodes := .sl 1 nodesC, segs := [sgC c], ports := [([112], 0, 300000), ([113], 1, 0)], stat := .lit (.slice none 0 0), vap := .int 0, stl := .int 0, rates := [r], prates := [r, -r], pumps := pm, feeds := fd }
abbrev dC (c r : Int) (fd : List Int) : LineD := dP (.lit (.slice none 0 0)) c r fd
theorem dC_net (c r : Int) (fd : List Int) : (dC c r fd).net = netCl c := rfl
theorem dC_plan (c r : Int) (fd : List Int) : (dC c r fd).plan = plRl r := rfl
theorem dP_ok (pm : T) (hpm : pm.width = 1) (c r : Int) (fd : List Int) (h0 : 0 ≤ r) (h1 : r ≤ 1000) (hf : fd.length = 2) (hb : ∀ b ∈ fd, 0 ≤ b ∧ b < 1000) : LineOk (dP pm c r fd) := by
  refine ⟨rfl, rfl, rfl, rfl, hpm, rfl, rfl, hf, by simp [dP], by simp [dP], by simp [dP], by simp [dP], ?_, ?_, ?_⟩
  · intro x hx; simp [dP] at hx; omega
  · intro x hx; simp [dP] at hx; omega
  · intro x hx; have := hb x hx; omega
theorem dC_netC (c r : Int) (fd : List Int) (h0 : 20 ≤ c) (h1 : c ≤ 200) : NetC (dC c r fd) := ncheck_fn c h0 h1
section
variable {pm : T} {c r b b' : Int} {f n o : List (Int × Int)}
theorem dc_pi0 (hr : 0 < r) : prtYs 0 true 0 (dP pm c r [b, b']).ports (dP pm c r [b, b']).prates = [(0, r)] := by
  have h1 : r ≠ 0 := by omega
  have h2 : max r (-r) = r := by omega
  simp [dP, prtYs, absI, h1, h2, hr]
theorem dc_po0 (hr : 0 < r) : prtYs 0 false 0 (dP pm c r [b, b']).ports (dP pm c r [b, b']).prates = [] := by
  have h1 : ¬ (r ≤ 0) := by omega
  simp [dP, prtYs, absI, h1, hr]
theorem dc_pi1 (hr : 0 < r) : prtYs 1 true 0 (dP pm c r [b, b']).ports (dP pm c r [b, b']).prates = [] := by
  have h1 : ¬ (r < 0) := by omega
  simp [dP, prtYs, absI, h1, hr]
theorem dc_po1 (hr : 0 < r) : prtYs 1 false 0 (dP pm c r [b, b']).ports (dP pm c r [b, b']).prates = [(1, r)] := by
  have h1 : r ≠ 0 := by omega
  have h2 : max (-r) r = r := by omega
  have h3 : 0 ≤ r := by omega
  simp [dP, prtYs, absI, h1, h2, h3, hr]
theorem dc_si0 (hr : 0 < r) : segYs 0 true 0 ((dP pm c r [b, b']).segs.map (·.1)) (dP pm c r [b, b']).rates = [] := by
  have h1 : ¬ (r < 0) := by omega
  simp [dP, sgC, segYs, tgt, endA, endB, h1]
theorem dc_so0 (hr : 0 < r) : segYs 0 false 0 ((dP pm c r [b, b']).segs.map (·.1)) (dP pm c r [b, b']).rates = [(0, r)] := by
  have h1 : ¬ (r < 0) := by omega
  have h2 : max r (-r) = r := by omega
  have h3 : r ≠ 0 := by omega
  simp [dP, sgC, segYs, tgt, endA, endB, h1, absI, h2, h3]
theorem dc_si1 (hr : 0 < r) : segYs 1 true 0 ((dP pm c r [b, b']).segs.map (·.1)) (dP pm c r [b, b']).rates = [(0, r)] := by
  have h1 : ¬ (r < 0) := by omega
  have h2 : max r (-r) = r := by omega
  have h3 : r ≠ 0 := by omega
  simp [dP, sgC, segYs, tgt, endA, endB, h1, absI, h2, h3]
theorem dc_so1 (hr : 0 < r) : segYs 1 false 0 ((dP pm c r [b, b']).segs.map (·.1)) (dP pm c r [b, b']).rates = [] := by
  have h1 : ¬ (r < 0) := by omega
  simp [dP, sgC, segYs, tgt, endA, endB, h1]
abbrev ordC : T := .sl 1 (([0, 1] : List Int).map encI)
theorem vd_one (hb : 0 ≤ b ∧ b < 1000) (hr : 0 < r) (h1 : r ≤ 1000) : Pc.Vd [(b, r)] := by
  refine Pc.vd_of_canon ⟨hr, by simp, trivial⟩ (fun p hp => ?_) (by simp) (by simp [Pc.vol]; omega)
  simp at hp; subst hp; exact hb
theorem node0_c (hpm : pm.width = 1) (hr : 0 < r) (h1 : r ≤ 1000) (hb : 0 ≤ b ∧ b < 1000) (hb' : 0 ≤ b' ∧ b' < 1000) (hf : Pc.Vd f) (hp : PushOk f [(b, r)] false n o) :
    NodeC (dP pm c r [b, b']) ordC 0 [some f] [none] [none, none] [some n] [some o.reverse] [none, none] := by
  have hok := dP_ok pm hpm c r [b, b'] (by omega) h1 rfl (fun x hx => by simp at hx; omega)
  have hv := vd_one hb hr h1
  have hcm : comesV (dP pm c r [b, b']) [none] 0 = [(b, r)] := by
    unfold comesV
    rw [dc_pi0 hr, dc_si0 hr]
    simp [prtPc, dP]
  have hbk : backAt (dP pm c r [b, b']).rates (0, r) = false := by
    have : ¬ (r < 0) := by omega
    simp [backAt, dP, this]
  have hg0 : gvAt [some f] (0, r) = f := rfl
  have hfv : fillV f [(b, r)] false = n := by simp [fillV, hp.eq]
  have hov : outV f [(b, r)] false = o.reverse := by simp [outV, hp.eq]
  have hpe : pushE f [(b, r)] false = 0 := by simp [pushE, hp.eq]
  have hfl := hf.len
  have hol := hp.vo.len
  have := node_fn (dP pm c r [b, b']) hok ordC rfl [some f] [none] [none, none] 0 rfl rfl rfl (by rw [hcm]; exact hv.sane) (by rw [dc_si0 hr]; simp)
    [(b, r)] (by rw [hcm]; exact Pc.join_self hv.canon) (by simp) (by simp) [] [(0, r)] (dc_po0 hr) (dc_so0 hr) [[(b, r)]] (deal_one r hr h1 _ hv (by simp [Pc.vol]) (by simp)) rfl
    (fun k y hy => by
      match k, hy with
      | 0, hy =>
        simp at hy; subst hy
        rw [hbk, hg0]
        refine ⟨⟨f, rfl, by omega⟩, by simp, ?_, ?_⟩
        · simp only [List.length_nil, Nat.zero_add, List.getD_cons_zero]; rw [hov, List.length_reverse]; omega
        · simp only [List.length_nil, Nat.zero_add, List.getD_cons_zero]; exact hpe
      | k + 1, hy => simp at hy)
  unfold NodeC
  simp only [List.length_singleton, List.length_nil, setK, nodeF, nodeG, outO, List.getD_cons_zero, hbk, hg0, Nat.zero_add, hfv, hov, List.set_cons_zero] at this
  exact this
theorem node1_c (hpm : pm.width = 1) (hr : 0 < r) (h1 : r ≤ 1000) (hb : 0 ≤ b ∧ b < 1000) (hb' : 0 ≤ b' ∧ b' < 1000) (ho : Pc.Vd o) (hov : Pc.vol o = r) (fl : List (Int × Int)) :
    NodeC (dP pm c r [b, b']) ordC 1 [some fl] [some o.reverse] [none, none] [some fl] [some o.reverse] [none, some o.reverse] := by
  have hok := dP_ok pm hpm c r [b, b'] (by omega) h1 rfl (fun x hx => by simp at hx; omega)
  have hv := vd_rev ho
  have hcm : comesV (dP pm c r [b, b']) [some o.reverse] 1 = o.reverse := by
    unfold comesV
    rw [dc_pi1 hr, dc_si1 hr]
    simp [prtPc, gvAt]
  have hvol : Pc.vol o.reverse = r := by rw [vol_rev, hov]
  have hne : o.reverse ≠ [] := fun e => by rw [e] at hvol; simp [Pc.vol] at hvol; omega
  have hlen := hv.len
  have := node_fn (dP pm c r [b, b']) hok ordC rfl [some fl] [some o.reverse] [none, none] 1 rfl rfl rfl (by rw [hcm]; exact hv.sane)
    (by
      rw [dc_si1 hr]
      intro z hz p hp
      simp at hz; subst hz
      have : p ∈ o.reverse := hp
      have := hv.each p this
      omega)
    o.reverse (by rw [hcm]; exact Pc.join_self hv.canon) hne hlen [(1, r)] [] (dc_po1 hr) (dc_so1 hr) [o.reverse] (deal_one r hr h1 _ hv (by omega) hne) rfl (fun k y hy => by simp at hy)
  unfold NodeC
  simp only [List.length_singleton, List.length_nil, setK, nodeF, nodeG, outO, List.getD_cons_zero, List.set_cons_zero, List.set_cons_succ] at this
  exact this
theorem nodeZ_c (hpm : pm.width = 1) (hb : 0 ≤ b ∧ b < 1000) (hb' : 0 ≤ b' ∧ b' < 1000) (node : Int) (fl : List (Int × Int)) :
    NodeC (dP pm c 0 [b, b']) ordC node [some fl] [none] [none, none] [some fl] [none] [none, none] := by
  have hok := dP_ok pm hpm c 0 [b, b'] (by omega) (by omega) rfl (fun x hx => by simp at hx; omega)
  have hs : segYs node true 0 ((dP pm c 0 [b, b']).segs.map (·.1)) (dP pm c 0 [b, b']).rates = [] := by simp [dP, sgC, segYs]
  have hcm : comesV (dP pm c 0 [b, b']) [none] node = [] := by
    unfold comesV
    rw [hs]
    simp [prtPc, prtYs, dP]
  exact node0_fn (dP pm c 0 [b, b']) hok ordC rfl [some fl] [none] [none, none] node rfl (by rw [hcm]; exact ⟨by simp, by simp⟩) (by rw [hs]; simp) (by rw [hcm]; rfl)
set_option maxRecDepth 100000 in
theorem atickP_fn (h0 : 20 ≤ c) (h2 : c ≤ 200) (hr : 0 < r) (h1 : r ≤ 11) (hb : 0 ≤ b ∧ b < 1000) (hb' : 0 ≤ b' ∧ b' < 1000) (hf : Pc.Vd f) (hv : Pc.vol f = c) (hp : PushOk f [(b, r)] false n o) :
    FnOk Tryz.prog 13 [.t (netC c), .t (.sl 1 [encPs f]), .t (plR r), .t (.sl 1 [.int b, .int b'])] [] (.tup [.own 1000, .own 1001, .t (.int 0)]) [(1000, blkG [some n]), (1001, blkG [none, some o.reverse])] := by
  have hok := dP_ok (.lit (.slice none 0 0)) rfl c r [b, b'] (by omega) (by omega) rfl (fun x hx => by simp at hx; omega)
  have hov : Pc.vol o = r := by
    have := (push_vol hf (vd_one hb hr (by omega)) hp).2
    rw [this]; simp [Pc.vol]
  exact atick_fn (dC c r [b, b']) hok (dC_netC c r _ h0 h2) [f] ⟨rfl, fun g hg => by simp at hg; subst hg; exact hf, fun i g s hi hs => by
      match i, hi, hs with
      | 0, hi, hs => simp at hi; simp [dC, dP] at hs; subst hi; subst hs; exact hv
      | i + 1, hi, hs => simp at hi⟩ [0, 1] (by simp) (forder_fn c r h0 h2 (by omega) h1) (fun x hx => by simp [dC, dP] at hx; omega)
    (fun k => match k with | 0 => [some f] | _ + 1 => [some n]) (fun k => match k with | 0 => [none] | _ + 1 => [some o.reverse]) (fun k => match k with | 0 => [none, none] | 1 => [none, none] | _ + 2 => [none, some o.reverse]) rfl rfl rfl
    (fun k node hk => by
      match k, hk with
      | 0, hk => simp at hk; subst hk; exact node0_c rfl hr (by omega) hb hb' hf hp
      | 1, hk => simp at hk; subst hk; exact node1_c rfl hr (by omega) hb hb' hp.vo hov n
      | k + 2, hk => simp at hk)
set_option maxRecDepth 100000 in
theorem atickZ_fn (h0 : 20 ≤ c) (h2 : c ≤ 200) (hb : 0 ≤ b ∧ b < 1000) (hb' : 0 ≤ b' ∧ b' < 1000) (hf : Pc.Vd f) (hv : Pc.vol f = c) :
    FnOk Tryz.prog 13 [.t (netC c), .t (.sl 1 [encPs f]), .t (plR 0), .t (.sl 1 [.int b, .int b'])] [] (.tup [.own 1000, .own 1001, .t (.int 0)]) [(1000, blkG [some f]), (1001, blkG [none, none])] := by
  have hok := dP_ok (.lit (.slice none 0 0)) rfl c 0 [b, b'] (by omega) (by omega) rfl (fun x hx => by simp at hx; omega)
  exact atick_fn (dC c 0 [b, b']) hok (dC_netC c 0 _ h0 h2) [f] ⟨rfl, fun g hg => by simp at hg; subst hg; exact hf, fun i g s hi hs => by
      match i, hi, hs with
      | 0, hi, hs => simp at hi; simp [dC, dP] at hs; subst hi; subst hs; exact hv
      | i + 1, hi, hs => simp at hi⟩ [0, 1] (by simp) (forder_fn c 0 h0 h2 (by omega) (by omega)) (fun x hx => by simp [dC, dP] at hx; omega)
    (fun k => [some f]) (fun k => [none]) (fun k => [none, none]) rfl rfl rfl
    (fun k node hk => nodeZ_c rfl hb hb' node f)
end
end Go.Proofs.YtcehllkmfkoncaaGreat
/- advance.Run of the sanity check: two ticks on the network of one segment. No condition. -/
namespace Go.Proofs.YtcehllkmfkoncaaGreat
open Go.RowKit Sy
set_option linter.unusedVariables false
set_option linter.unusedSimpArgs false
abbrev d5 : LineD := dP (.sl 1 []) 20 5 [2, 0]
def f5 : Nat → List (Option (List (Int × Int)))
  | 0 => [some [(1, 20)]]
  | 1 => [some [(2, 5), (1, 15)]]
  | _ => [some [(2, 10), (1, 10)]]
def g5 : Nat → List (Option (List (Int × Int)))
  | 0 => []
  | _ => [some [(1, 5)]]
def o5 : Nat → List (Option (List (Int × Int)))
  | 0 => []
  | _ => [none, some [(1, 5)]]
theorem vd1 : Pc.Vd [(1, 20)] := Pc.vd_of_canon ⟨by simp, by simp, trivial⟩ (by simp) (by simp) (by simp [Pc.vol])
theorem vd2 : Pc.Vd [(2, 5), (1, 15)] := Pc.vd_of_canon ⟨by simp, by simp, by simp, by simp, trivial⟩ (by simp) (by simp) (by simp [Pc.vol])
theorem push_at {f n o : List (Int × Int)} (hf : Pc.Vd f) (hl : f.length ≤ 10) (h : Pc.push f [(2, 5)] false = (n, o, 0)) : PushOk f [(2, 5)] false n o := by
  obtain ⟨n', o', hp⟩ := push_small hf (vd_one (b := 2) (r := 5) (by omega) (by omega) (by omega)) (by simp; omega) false
  have := hp.eq
  rw [h] at this
  cases this
  exact hp
theorem push_eq {f g n o : List (Int × Int)} {back : Bool} (hf : Pc.Vd f) (hg : Pc.Vd g) (h : Pc.shift f g back = (n, o)) (hn : n.length ≤ 200) (ho : o.length ≤ 200) : Pc.push f g back = (n, o, 0) := by
  unfold Pc.push
  rw [if_pos ⟨Pc.valid_t hf, Pc.valid_t hg⟩, h, if_pos ⟨hn, ho⟩]
theorem tick5 {f n : List (Int × Int)} (hf : Pc.Vd f) (hp : PushOk f [(2, 5)] false n [(1, 5)]) : TickC d5 [0, 1] [some f] [some n] [some [(1, 5)]] [none, some [(1, 5)]] := by
  intro gi oo
  have h0 := node0_c (pm := .sl 1 []) (c := 20) (b' := 0) rfl (r := 5) (by omega) (by omega) (by omega) (by omega) hf hp
  have h1 := node1_c (pm := .sl 1 []) (c := 20) (b := 2) (b' := 0) rfl (r := 5) (by omega) (by omega) (by omega) (by omega) hp.vo (by simp [Pc.vol]) n
  exact tick_fn d5 (dP_ok _ rfl 20 5 _ (by omega) (by omega) rfl (by simp)) [0, 1] (by simp) gi oo
    (fun k => match k with | 0 => [some f] | _ + 1 => [some n]) (fun k => match k with | 0 => [none] | _ + 1 => [some [(1, 5)]]) (fun k => match k with | 0 => [none, none] | 1 => [none, none] | _ + 2 => [none, some [(1, 5)]]) rfl rfl
    (fun k node hk => by
      match k, hk with
      | 0, hk => simp at hk; subst hk; exact h0
      | 1, hk => simp at hk; subst hk; exact h1
      | k + 2, hk => simp at hk)
theorem o5_ok (k i : Nat) (hk : k < 2) : Pc.Sane (allV o5 (k + 1) i) ∧ (Pc.join (allV o5 (k + 1) i)).length ≤ 200 := by
  have h : (allV o5 (k + 1) i).length ≤ 2 ∧ ∀ p ∈ allV o5 (k + 1) i, p = (1, 5) := by
    match k, i, hk with
    | 0, 0, _ => simp [allV, o5]
    | 0, 1, _ => simp [allV, o5]
    | 0, i + 2, _ => simp [allV, o5]
    | 1, 0, _ => simp [allV, o5]
    | 1, 1, _ => simp [allV, o5]
    | 1, i + 2, _ => simp [allV, o5]
    | k + 2, _, hk => omega
  refine ⟨⟨by omega, fun p hp => ?_⟩, ?_⟩
  · rw [h.2 p hp]; simp
  · have := Pc.join_length (allV o5 (k + 1) i); omega
theorem aw_arun : FnOk Tryz.prog 21 (([net1, .sl 1 [.sl 2 [.agg [.int 1, .int 20]]], pl5e, .sl 1 [.int 2, .int 0], .int 2] : List T).map S.t) [] (.tup [(.own 1000), (.t (.sl 1 [.sl 2 [], .sl 2 [.agg [.int 1, .int 10]]])), (.t (.int 0))]) [(1000, (.list 43 1 [.sl 2 [.agg [.int 2, .int 10], .agg [.int 1, .int 10]]]))] :=
  arun_fn d5 (dP_ok _ rfl 20 5 _ (by omega) (by omega) rfl (by simp)) (ncheck_fn 20 (by omega) (by omega)) [[(1, 20)]] ⟨rfl, fun g hg => by simp at hg; subst hg; exact vd1, fun i g s hi hs => by
      match i, hi, hs with
      | 0, hi, hs => simp at hi; simp [dP] at hs; subst hi; subst hs; rfl
      | i + 1, hi, hs => simp at hi⟩ [0, 1] aw_ord (fun x hx => by simp [dP] at hx; omega) 2 (by omega) f5 g5 o5 rfl rfl rfl (fun k => rfl)
    (fun k hk => by
      match k, hk with
      | 0, _ => exact tick5 vd1 (push_at vd1 (by simp) (push_eq vd1 (vd_one (by omega) (by omega) (by omega)) (by decide) (by simp) (by simp)))
      | 1, _ => exact tick5 vd2 (push_at vd2 (by simp) (push_eq vd2 (vd_one (by omega) (by omega) (by omega)) (by decide) (by simp) (by simp)))
      | k + 2, hk => omega)
    (fun k i hk => (o5_ok k i hk).1) (fun k i p hk hp => by
      match i, hp with
      | 0, hp => simp [o5] at hp
      | 1, hp => simp [o5] at hp; subst hp; simp
      | i + 2, hp => simp [o5] at hp) (fun k i hk => (o5_ok k i hk).2)
end Go.Proofs.YtcehllkmfkoncaaGreat
/- How a new batch moves through the segment: plain. No condition. -/
namespace Go.Proofs.YtcehllkmfkoncaaGreat
open Go.RowKit Sy
set_option linter.unusedVariables false
set_option linter.unusedSimpArgs false
structure TlI (c : Int) (L : List Int) (t : Nat) (K : Int) (f : List (Int × Int)) : Prop where
  vd : Pc.Vd f
  vol : Pc.vol f = c
  len : f.length ≤ 12 + t
  K0 : 0 ≤ K
  K1 : K ≤ c
  lit : Pc.litres f = List.replicate K.toNat 7 ++ L.take (c - K).toNat
  ll : (L.length : Int) = c
  l7 : ∀ x ∈ L, x ≠ 7
theorem litres_one (b r : Int) : Pc.litres [(b, r)] = List.replicate r.toNat b := by simp [Pc.litres]
theorem tl_push {c : Int} {L : List Int} {t : Nat} {K r : Int} {f : List (Int × Int)} (h : TlI c L t K f) (hc : c ≤ 1000) (ht : t ≤ 100) (hr : 0 < r) (hrc : r ≤ c) : ∃ n o, PushOk f [(7, r)] false n o ∧ n.length ≤ 12 + (t + 1) ∧ Pc.vol n = c ∧
    Pc.litres n = (List.replicate (r.toNat + K.toNat) 7 ++ L.take (c - K).toNat).take c.toNat ∧ Pc.litres o = (List.replicate K.toNat 7 ++ L.take (c - K).toNat).drop (c - r).toNat := by
  have hg := vd_one (b := 7) (r := r) (by omega) hr (by omega)
  obtain ⟨n, o, hp⟩ := push_small h.vd hg (by have := h.len; simp; omega) false
  have hfl := vol_litres h.vd.canon
  rw [h.vol] at hfl
  have h1 := hp.ln
  have h2 := hp.lo
  rw [litres_one] at h1 h2
  simp only [Bool.false_eq_true, if_false] at h1 h2
  have hlen : (Pc.litres f).length = c.toNat := by omega
  rw [hlen, h.lit] at h1 h2
  refine ⟨n, o, hp, by have := hp.nn; have := h.len; simp at *; omega, by rw [(push_vol h.vd hg hp).1, h.vol], ?_, ?_⟩
  · rw [h1, ← List.append_assoc, List.replicate_append_replicate]
  · rw [h2, List.drop_append, List.drop_of_length_le (by simp; omega), List.nil_append, List.length_replicate]
    congr 1
    omega
theorem tl_next {c : Int} {L : List Int} {t : Nat} {K r : Int} {f n o : List (Int × Int)} (h : TlI c L t K f) (hr : 0 < r) (hK : K + r ≤ c) (hp : PushOk f [(7, r)] false n o) (hl : n.length ≤ 12 + (t + 1)) (hv : Pc.vol n = c)
    (hn : Pc.litres n = (List.replicate (r.toNat + K.toNat) 7 ++ L.take (c - K).toNat).take c.toNat) : TlI c L (t + 1) (K + r) n := by
  refine ⟨hp.vn, hv, hl, by have := h.K0; omega, hK, ?_, h.ll, h.l7⟩
  have h0 := h.K0
  rw [hn, List.take_append, List.take_of_length_le (by simp; omega), List.length_replicate, List.take_take]
  congr 1
  · congr 1; omega
  · congr 1; omega
theorem tl_out0 {c : Int} {L : List Int} {t : Nat} {K r : Int} {f o : List (Int × Int)} (h : TlI c L t K f) (hr : 0 < r) (hK : K + r ≤ c) (ho : Pc.Vd o) (hlo : Pc.litres o = (List.replicate K.toNat 7 ++ L.take (c - K).toNat).drop (c - r).toNat) : Pc.of_ o.reverse 7 = 0 := by
  rw [of_count 7 (vd_rev ho).nonneg, litres_rev, List.count_reverse, hlo]
  have h0 := h.K0
  rw [List.drop_append, List.drop_of_length_le (by simp; omega), List.nil_append]
  rw [List.count_eq_zero_of_not_mem]
  · rfl
  · intro hm
    exact h.l7 7 (List.mem_of_mem_take (List.mem_of_mem_drop hm)) rfl
theorem tl_out1 {c : Int} {L : List Int} {t : Nat} {K r : Int} {f o : List (Int × Int)} (h : TlI c L t K f) (hr : 0 < r) (hrc : r ≤ c) (hK : c < K + r) (ho : Pc.Vd o) (hlo : Pc.litres o = (List.replicate K.toNat 7 ++ L.take (c - K).toNat).drop (c - r).toNat) : 0 < Pc.of_ o.reverse 7 := by
  rw [of_count 7 (vd_rev ho).nonneg, litres_rev, List.count_reverse, hlo]
  have h0 := h.K0
  rw [List.drop_append, List.drop_replicate, List.count_append, List.count_replicate]
  have : 0 < K.toNat - (c - r).toNat := by omega
  simp
  omega
theorem tl_zero {c : Int} {L : List Int} {t : Nat} {f : List (Int × Int)} (h : TlI c L t 0 f) : ∀ p ∈ f, p.1 ≠ 7 := by
  intro p hp
  have h1 := mem_litres hp (h.vd.canon.pos p hp)
  rw [h.lit] at h1
  simp at h1
  exact h.l7 _ (List.mem_of_mem_take h1)
theorem tl_head {c : Int} {L : List Int} {t : Nat} {K : Int} {f : List (Int × Int)} (h : TlI c L t K f) (hK : 0 < K) : ∃ q, f = (7, K) :: q ∧ (∀ p ∈ q, p.1 ≠ 7) ∧ Pc.vol q = c - K := by
  have hl := h.lit
  have hcn := h.vd.canon
  obtain ⟨k, hk⟩ : ∃ k, K.toNat = k + 1 := ⟨K.toNat - 1, by omega⟩
  cases f with
  | nil => rw [hk] at hl; simp [Pc.litres] at hl
  | cons p q =>
    obtain ⟨hp0, hp1, hp2⟩ := hcn
    rw [Pc.litres_cons] at hl
    obtain ⟨j, hj⟩ : ∃ j, p.2.toNat = j + 1 := ⟨p.2.toNat - 1, by omega⟩
    have e7 : p.1 = 7 := by
      rw [hj, hk] at hl
      simp [List.replicate_succ] at hl
      exact hl.1
    rw [e7] at hl
    obtain ⟨a1, a2⟩ := Pc.rep_eq (b := 7) (fun x hx => by
      rw [Pc.litres_head hp2] at hx
      obtain ⟨y, hy, rfl⟩ := Option.map_eq_some_iff.1 hx
      have := hp1 y hy
      rw [e7] at this
      exact fun hh => this hh.symm) (fun x hx => h.l7 x (List.mem_of_mem_take (List.mem_of_mem_head? hx))) hl
    have e2 : p.2 = K := by omega
    refine ⟨q, ?_, fun y hy => ?_, ?_⟩
    · rw [← e7, ← e2]
    · have h1 := mem_litres hy (hp2.pos y hy)
      rw [a2] at h1
      exact h.l7 _ (List.mem_of_mem_take h1)
    · have := h.vol
      simp only [Pc.vol] at this
      omega
end Go.Proofs.YtcehllkmfkoncaaGreat
