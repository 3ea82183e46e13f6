/- Several texts of this proof, one behind the other. No condition. -/
import Derived.Test.YtcehllkmfkoncaaGreatTTolsB16
/- Merging and cutting as plain facts. No condition. -/
namespace Go.Proofs.YtcehllkmfkoncaaGreat
open Go.RowKit Sy
set_option linter.unusedVariables false
set_option linter.unusedSimpArgs false
theorem vol_ge : ∀ {l : List (Int × Int)}, (∀ q ∈ l, 0 ≤ q.2) → ∀ q ∈ l, q.2 ≤ Pc.vol l
  | [], _, q, hq => by cases hq
  | x :: s, hl, q, hq => by
    have h0 : ∀ (m : List (Int × Int)), (∀ q ∈ m, 0 ≤ q.2) → 0 ≤ Pc.vol m := by
      intro m
      induction m with
      | nil => intro _; simp [Pc.vol]
      | cons y t ih => intro hs; have := ih fun q hq => hs q (List.mem_cons_of_mem _ hq); have := hs y (List.mem_cons_self); simp only [Pc.vol]; omega
    have h1 := hl x (List.mem_cons_self)
    have h2 := h0 s fun q hq => hl q (List.mem_cons_of_mem _ hq)
    simp only [Pc.vol]
    rcases List.mem_cons.1 hq with rfl | hq
    · omega
    · have := vol_ge (fun z hz => hl z (List.mem_cons_of_mem _ hz)) q hq; omega
theorem join_each {l : List (Int × Int)} (h : Pc.Sane l) : ∀ q ∈ Pc.join l, 0 ≤ q.2 ∧ q.2 ≤ 100000000000 := by
  intro q hq
  have h1 := Pc.join_canon fun p hp => (h.each p hp).1
  have h2 := fun q hq => Int.le_of_lt (h1.pos q hq)
  have h3 := vol_ge h2 q hq
  rw [Pc.join_vol fun p hp => (h.each p hp).1] at h3
  have := h.vol
  exact ⟨h2 q hq, by omega⟩
theorem heads_sane {l : List (Int × Int)} (h : Pc.Sane l) {k : Int} (hk : 0 ≤ k) : Pc.Sane (Pc.heads l k) := ⟨by rw [Pc.heads_length]; exact h.len, Pc.heads_each l h.each k hk⟩
theorem tails_sane {l : List (Int × Int)} (h : Pc.Sane l) {k : Int} (hk : 0 ≤ k) : Pc.Sane (Pc.tails l k) := ⟨by rw [Pc.tails_length]; exact h.len, Pc.tails_each l h.each k hk⟩
end Go.Proofs.YtcehllkmfkoncaaGreat
/- piece.merged and ref.Joined as contracts. No condition. -/
namespace Go.Proofs.YtcehllkmfkoncaaGreat
open Go.RowKit Sy
open Go.IntWalk renaming iteOmega → iO, toNatUp → tN
set_option linter.unusedVariables false
set_option linter.unusedSimpArgs false
set_option maxRecDepth 100000 in
set_option maxHeartbeats 4000000 in
theorem merged_fn (l : List (Int × Int)) (h : Pc.Sane l) : FnOk Tryz.prog 164 [.t (encPs l)] [] (.own 1000) [(1000, blkP (Pc.join l))] := by
  have hlen := h.len
  refine FnOk.intro fact_mixed Tryz.func164 rfl Tryz.ntmps164 (by rfl) (by simp) ?_
  repeat (first | (refine nf1_sound rfl ?_; simp [go_sem, ↓iO, iO, tN]; (repeat (refine anI ?_)); try (refine ⟨dcK, ?_⟩)) | ((first | refine itePos (by omega) ?_ | refine iteNeg (by omega) ?_); try simp [go_sem, ↓iO, iO, tN]) | (refine ⟨dcK, ?_⟩))
  refine nf1_sound' _ _ _ ?_; simp only [nf1]
  refine CW.loop (ι := Nat) (fun k => ⟨[(3, .own 500), (7, .t (encPs l)), (8, .t (.int l.length)), (9, .t (.int k))], [(500, blkP (Pc.join (l.take k)))]⟩) (fun k => k ≤ l.length) (fun k => l.length - k) 0 [(500, none)] (by omega) ?_ ?_
  · simp [go_sem, ↓iO, iO, tN, Pc.join]
  intro k hk
  by_cases hb : k < l.length
  · obtain ⟨p, hp⟩ := has_get hb
    have hs := Pc.join_snoc hp
    have hpv := h.each p (mem_get hp)
    have hjl := Pc.join_length (l.take k)
    rw [List.length_take] at hjl
    have hje := join_each (h.take k)
    obtain ⟨out, hout⟩ : ∃ out, out = Pc.join (l.take k) := ⟨_, rfl⟩
    rw [← hout] at hs hjl hje
    by_cases hz : p.2 = 0
    · rw [Pc.jstep_zero hz] at hs
      repeat (first | (refine nf1_sound rfl ?_; simp [go_sem, ↓iO, iO, tN, hp, hz, ← hout]; (repeat (refine anI ?_)); try (refine ⟨dcK, ?_⟩)) | ((first | refine itePos (by omega) ?_ | refine iteNeg (by omega) ?_); try simp [go_sem, ↓iO, iO, tN, hp, hz, ← hout]) | (refine ⟨dcK, ?_⟩))
      rw [RoundQ_normal]; refine ⟨k + 1, [(500, some 500)], ?_, ?_, ?_⟩
      · omega
      · omega
      simp [go_sem, ↓iO, iO, tN, hs, ← hout]
    · rcases List.eq_nil_or_concat out with rfl | ⟨o, q, rfl⟩
      · rw [Pc.jstep_new hz (by simp)] at hs
        repeat (first | (refine nf1_sound rfl ?_; simp [go_sem, ↓iO, iO, tN, hp, hz, ← hout]; (repeat (refine anI ?_)); try (refine ⟨dcK, ?_⟩)) | ((first | refine itePos (by omega) ?_ | refine iteNeg (by omega) ?_); try simp [go_sem, ↓iO, iO, tN, hp, hz, ← hout]) | (refine ⟨dcK, ?_⟩))
        rw [RoundQ_normal]; refine ⟨k + 1, [(500, some 118)], ?_, ?_, ?_⟩
        · omega
        · omega
        simp [go_sem, ↓iO, iO, tN, hs, ← hout]
      · simp only [List.concat_eq_append] at *
        simp only [List.length_append, List.length_singleton] at hjl
        have hq := hje q (by simp)
        by_cases he : q.1 = p.1
        · rw [Pc.jstep_same hz (by simp) he, List.dropLast_concat] at hs
          repeat (first | (refine nf1_sound rfl ?_; simp [go_sem, ↓iO, iO, tN, hp, hz, ← hout, he]; (repeat (refine anI ?_)); try (refine ⟨dcK, ?_⟩)) | ((first | refine itePos (by omega) ?_ | refine iteNeg (by omega) ?_); try simp [go_sem, ↓iO, iO, tN, hp, hz, ← hout, he]) | (refine ⟨dcK, ?_⟩))
          rw [RoundQ_normal]; refine ⟨k + 1, [(500, some 500)], ?_, ?_, ?_⟩
          · omega
          · omega
          simp [go_sem, ↓iO, iO, tN, hs, ← hout, he]
        · rw [Pc.jstep_new hz (by simpa using he)] at hs
          repeat (first | (refine nf1_sound rfl ?_; simp [go_sem, ↓iO, iO, tN, hp, hz, ← hout, he]; (repeat (refine anI ?_)); try (refine ⟨dcK, ?_⟩)) | ((first | refine itePos (by omega) ?_ | refine iteNeg (by omega) ?_); try simp [go_sem, ↓iO, iO, tN, hp, hz, ← hout, he]) | (refine ⟨dcK, ?_⟩))
          rw [RoundQ_normal]; refine ⟨k + 1, [(500, some 118)], ?_, ?_, ?_⟩
          · omega
          · omega
          simp [go_sem, ↓iO, iO, tN, hs, ← hout, he]
  · obtain rfl : k = l.length := by omega
    repeat (first | (refine nf1_sound rfl ?_; simp [go_sem, ↓iO, iO, tN]; (repeat (refine anI ?_)); try (refine ⟨dcK, ?_⟩)) | ((first | refine itePos (by omega) ?_ | refine iteNeg (by omega) ?_); try simp [go_sem, ↓iO, iO, tN]) | (refine ⟨dcK, ?_⟩))
    first | rw [RetQ_ret] | rw [RetQ_normal]
    refine ⟨[(1000, some 500)], ?_⟩
    simp [go_sem, ↓iO, iO, tN, List.take_length]
end Go.Proofs.YtcehllkmfkoncaaGreat
/- advance.join as a contract; the makers of the iterators. No condition. -/
namespace Go.Proofs.YtcehllkmfkoncaaGreat
open Go.RowKit Sy
open Go.IntWalk renaming iteOmega → iO, toNatUp → tN
set_option linter.unusedVariables false
set_option linter.unusedSimpArgs false
set_option maxRecDepth 100000 in
set_option maxHeartbeats 4000000 in
theorem join_fn (l0 m : List (Int × Int)) (h : Pc.Sane (l0 ++ m)) (hz : ∀ p ∈ m, p.2 ≠ 0) : FnOk Tryz.prog 57 [.own 0, .t (encPs m)] [(0, blkP (Pc.join l0))] (.own 1000) [(1000, blkP (Pc.join (l0 ++ m)))] := by
  have hlen := h.len
  rw [List.length_append] at hlen
  have jsn : ∀ (k : Nat) (p : Int × Int), m[k]? = some p → Pc.join (l0 ++ m.take (k + 1)) = Pc.jstep (Pc.join (l0 ++ m.take k)) p := by
    intro k p hp
    obtain ⟨hk, rfl⟩ := List.getElem?_eq_some_iff.1 hp
    unfold Pc.join
    rw [List.take_succ_eq_append_getElem hk, ← List.append_assoc, List.foldl_append]
    rfl
  have tk : ∀ k, l0 ++ m.take k = (l0 ++ m).take (l0.length + k) := by
    intro k
    rw [List.take_append, Nat.add_sub_cancel_left, List.take_of_length_le (l := l0) (by omega)]
  refine FnOk.intro fact_mixed Tryz.func57 rfl Tryz.ntmps57 (by rfl) (by simp) ?_
  repeat (first | (refine nf1_sound rfl ?_; simp [go_sem, ↓iO, iO, tN]; (repeat (refine anI ?_)); try (refine ⟨dcK, ?_⟩)) | ((first | refine itePos (by omega) ?_ | refine iteNeg (by omega) ?_); try simp [go_sem, ↓iO, iO, tN]) | (refine ⟨dcK, ?_⟩))
  refine nf1_sound' _ _ _ ?_; simp only [nf1]
  refine CW.loop (ι := Nat) (fun k => ⟨[(0, .own 500), (8, .t (encPs m)), (9, .t (.int m.length)), (10, .t (.int k))], [(500, blkP (Pc.join (l0 ++ m.take k)))]⟩) (fun k => k ≤ m.length) (fun k => m.length - k) 0 [(500, some 0)] (by omega) ?_ ?_
  · simp [go_sem, ↓iO, iO, tN]
  intro k hk
  by_cases hb : k < m.length
  · obtain ⟨p, hp⟩ := has_get hb
    have hs := jsn k p hp
    have hpv := h.each p (List.mem_append_right _ (mem_get hp))
    have hz := hz p (mem_get hp)
    have hjl := Pc.join_length (l0 ++ m.take k)
    rw [List.length_append, List.length_take] at hjl
    have hje := join_each (l := l0 ++ m.take k) (by rw [tk]; exact h.take _)
    obtain ⟨out, hout⟩ : ∃ out, out = Pc.join (l0 ++ m.take k) := ⟨_, rfl⟩
    rw [← hout] at hs hjl hje
    rcases List.eq_nil_or_concat out with rfl | ⟨o, q, rfl⟩
    · rw [Pc.jstep_new hz (by simp)] at hs
      repeat (first | (refine nf1_sound rfl ?_; simp [go_sem, ↓iO, iO, tN, hp, hz, ← hout]; (repeat (refine anI ?_)); try (refine ⟨dcK, ?_⟩)) | ((first | refine itePos (by omega) ?_ | refine iteNeg (by omega) ?_); try simp [go_sem, ↓iO, iO, tN, hp, hz, ← hout]) | (refine ⟨dcK, ?_⟩))
      rw [RoundQ_normal]; refine ⟨k + 1, [(500, some 143)], ?_, ?_, ?_⟩
      · omega
      · omega
      simp [go_sem, ↓iO, iO, tN, hs, ← hout]
    · simp only [List.concat_eq_append] at *
      simp only [List.length_append, List.length_singleton] at hjl
      have hq := hje q (by simp)
      by_cases he : q.1 = p.1
      · rw [Pc.jstep_same hz (by simp) he, List.dropLast_concat] at hs
        repeat (first | (refine nf1_sound rfl ?_; simp [go_sem, ↓iO, iO, tN, hp, hz, ← hout, he]; (repeat (refine anI ?_)); try (refine ⟨dcK, ?_⟩)) | ((first | refine itePos (by omega) ?_ | refine iteNeg (by omega) ?_); try simp [go_sem, ↓iO, iO, tN, hp, hz, ← hout, he]) | (refine ⟨dcK, ?_⟩))
        rw [RoundQ_normal]; refine ⟨k + 1, [(500, some 500)], ?_, ?_, ?_⟩
        · omega
        · omega
        simp [go_sem, ↓iO, iO, tN, hs, ← hout, he]
      · rw [Pc.jstep_new hz (by simpa using he)] at hs
        repeat (first | (refine nf1_sound rfl ?_; simp [go_sem, ↓iO, iO, tN, hp, hz, ← hout, he]; (repeat (refine anI ?_)); try (refine ⟨dcK, ?_⟩)) | ((first | refine itePos (by omega) ?_ | refine iteNeg (by omega) ?_); try simp [go_sem, ↓iO, iO, tN, hp, hz, ← hout, he]) | (refine ⟨dcK, ?_⟩))
        rw [RoundQ_normal]; refine ⟨k + 1, [(500, some 143)], ?_, ?_, ?_⟩
        · omega
        · omega
        simp [go_sem, ↓iO, iO, tN, hs, ← hout, he]
  · obtain rfl : k = m.length := by omega
    repeat (first | (refine nf1_sound rfl ?_; simp [go_sem, ↓iO, iO, tN]; (repeat (refine anI ?_)); try (refine ⟨dcK, ?_⟩)) | ((first | refine itePos (by omega) ?_ | refine iteNeg (by omega) ?_); try simp [go_sem, ↓iO, iO, tN]) | (refine ⟨dcK, ?_⟩))
    first | rw [RetQ_ret] | rw [RetQ_normal]
    refine ⟨[(1000, some 500)], ?_⟩
    simp [go_sem, ↓iO, iO, tN, List.take_length]
/-- A list of pieces that may be nil. -/
@[go_sem] def encGv (o : Option (List (Int × Int))) : T := match o with
  | some l => .sl 2 (l.map encP)
  | none => .lit (.slice none 0 0)
theorem width_gv (o : Option (List (Int × Int))) : (encGv o).width = 1 := by cases o <;> rfl
theorem widths_gv : ∀ l : List (Option (List (Int × Int))), T.widths (l.map encGv) = l.length
  | [] => rfl
  | x :: r => by simp only [List.map_cons, T.widths, widths_gv r, width_gv, List.length_cons]; omega
@[go_sem] def blkG (l : List (Option (List (Int × Int)))) : Blk := .list 43 1 (l.map encGv)
/-- The line: its own lists are fills (1), given (2), out (3). -/
@[go_sem] def lineB (net plan : List T) (feeds order : T) : Blk := .box 92 (.ag [.t (.agg net), .t (.agg plan), .t feeds, .t order, .own 1, .own 2, .own 3])
set_option maxRecDepth 100000 in
theorem ports_fn (net plan : List T) (feeds order : T) (fi gi oo : List (Option (List (Int × Int)))) (node : Int) (inn : Bool) : FnOk Tryz.prog 117 [.pt 0 [] 0, .t (.int node), .t (.bool inn)] [(0, lineB net plan feeds order), (1, blkG fi), (2, blkG gi), (3, blkG oo)] (.fn 149 [.pt 1000 [] 0, .pt 1001 [] 0, .pt 1002 [] 0])
    [(0, lineB net plan feeds order), (1, blkG fi), (2, blkG gi), (3, blkG oo), (1000, .box 87 (.pt 0 [] 0)), (1001, .box 3 (.t (.int node))), (1002, .box 4 (.t (.bool inn)))] := by
  refine FnOk.intro fact_mixed Tryz.func117 rfl Tryz.ntmps117 (by rfl) (by simp) ?_
  repeat (first | (refine nf1_sound rfl ?_; simp [go_sem, ↓iO, iO, tN]; (repeat (refine anI ?_)); try (refine ⟨dcK, ?_⟩)) | ((first | refine itePos (by omega) ?_ | refine iteNeg (by omega) ?_); try simp [go_sem, ↓iO, iO, tN]) | (refine ⟨dcK, ?_⟩))
  first | rw [RetQ_ret] | rw [RetQ_normal]
  refine ⟨[(0, some 0), (1, some 1), (2, some 2), (3, some 3), (1000, some 103), (1001, some 104), (1002, some 105)], ?_⟩
  simp [go_sem, ↓iO, iO, tN]
set_option maxRecDepth 100000 in
theorem segments_fn (net plan : List T) (feeds order : T) (fi gi oo : List (Option (List (Int × Int)))) (node : Int) (inn : Bool) : FnOk Tryz.prog 118 [.pt 0 [] 0, .t (.int node), .t (.bool inn)] [(0, lineB net plan feeds order), (1, blkG fi), (2, blkG gi), (3, blkG oo)] (.fn 150 [.pt 1000 [] 0, .pt 1001 [] 0, .pt 1002 [] 0])
    [(0, lineB net plan feeds order), (1, blkG fi), (2, blkG gi), (3, blkG oo), (1000, .box 87 (.pt 0 [] 0)), (1001, .box 4 (.t (.bool inn))), (1002, .box 3 (.t (.int node)))] := by
  refine FnOk.intro fact_mixed Tryz.func118 rfl Tryz.ntmps118 (by rfl) (by simp) ?_
  repeat (first | (refine nf1_sound rfl ?_; simp [go_sem, ↓iO, iO, tN]; (repeat (refine anI ?_)); try (refine ⟨dcK, ?_⟩)) | ((first | refine itePos (by omega) ?_ | refine iteNeg (by omega) ?_); try simp [go_sem, ↓iO, iO, tN]) | (refine ⟨dcK, ?_⟩))
  first | rw [RetQ_ret] | rw [RetQ_normal]
  refine ⟨[(0, some 0), (1, some 1), (2, some 2), (3, some 3), (1000, some 103), (1001, some 105), (1002, some 104)], ?_⟩
  simp [go_sem, ↓iO, iO, tN]
end Go.Proofs.YtcehllkmfkoncaaGreat
/- What comes to a node: line.stream as a contract. No condition. -/
namespace Go.Proofs.YtcehllkmfkoncaaGreat
open Go.RowKit Sy
open Go.IntWalk renaming iteOmega → iO, toNatUp → tN
set_option linter.unusedVariables false
set_option linter.unusedSimpArgs false
attribute [go_sem] ThenB_normal EndQ_normal
/-- A network and a plan, as the line bears them. -/
structure LineD where
  nodes : T
  segs : List Sgm
  ports : List Prt
  stat : T
  vap : T
  stl : T
  rates : List Int
  prates : List Int
  pumps : T
  feeds : List Int
structure LineOk (d : LineD) : Prop where
  w1 : d.nodes.width = 1
  w2 : d.stat.width = 1
  w3 : d.vap.width = 1
  w4 : d.stl.width = 1
  w5 : d.pumps.width = 1
  lenR : d.rates.length = d.segs.length
  lenP : d.prates.length = d.ports.length
  lenF : d.feeds.length = d.ports.length
  neS : d.segs ≠ []
  neP : d.ports ≠ []
  maxS : d.segs.length ≤ 1000
  maxP : d.ports.length ≤ 1000
  bR : ∀ r ∈ d.rates, -1000000 ≤ r ∧ r ≤ 1000000
  bP : ∀ r ∈ d.prates, -1000000 ≤ r ∧ r ≤ 1000000
  bF : ∀ r ∈ d.feeds, -1000000 ≤ r ∧ r ≤ 1000000
@[go_sem] def LineD.net (d : LineD) : List T := [d.nodes, .sl 7 (d.segs.map encSg), .sl 3 (d.ports.map encPr), d.stat, d.vap, d.stl]
@[go_sem] def LineD.plan (d : LineD) : List T := [.sl 1 (d.rates.map encI), .sl 1 (d.prates.map encI), d.pumps]
theorem prtYs_get {node : Int} {inn : Bool} : ∀ {ps : List Prt} {rs : List Int} {k : Nat} {y : Nat × Int}, y ∈ prtYs node inn k ps rs → k ≤ y.1 ∧ y.1 < k + ps.length ∧ 0 < y.2 ∧ ∃ r ∈ rs, y.2 = absI r
  | [], rs, k, y, h => by simp [prtYs] at h
  | p :: ps, [], k, y, h => by simp [prtYs] at h
  | p :: ps, r :: rs, k, y, h => by
    simp only [prtYs] at h
    have go : y ∈ prtYs node inn (k + 1) ps rs → k ≤ y.1 ∧ y.1 < k + (p :: ps).length ∧ 0 < y.2 ∧ ∃ r' ∈ r :: rs, y.2 = absI r' := fun h => by
      obtain ⟨h1, h2, h3, r', h4, h5⟩ := prtYs_get h
      exact ⟨by omega, by simp only [List.length_cons]; omega, h3, r', by simp [h4], h5⟩
    split at h
    · rename_i hc
      rcases List.mem_cons.1 h with rfl | h
      · refine ⟨Nat.le_refl _, by simp, ?_, r, by simp, rfl⟩
        have := hc.2.1
        simp only [absI]; omega
      · exact go h
    · exact go h
theorem prtYs_len2 (node : Int) (inn : Bool) : ∀ (k : Nat) (ps : List Prt) (rs : List Int), (prtYs node inn k ps rs).length ≤ ps.length
  | k, [], rs => by simp [prtYs]
  | k, p :: ps, [] => by simp [prtYs]
  | k, p :: ps, r :: rs => by
    have := prtYs_len2 node inn (k + 1) ps rs
    simp only [prtYs]
    split <;> simp <;> omega
/-- The pieces of ports. -/
def prtPc (feeds : List Int) (ys : List (Nat × Int)) : List (Int × Int) := ys.map fun y => (feeds.getD y.1 0, y.2)
theorem segYs_get {node : Int} {inn : Bool} : ∀ {ps : List SegV} {rs : List Int} {k : Nat} {y : Nat × Int}, y ∈ segYs node inn k ps rs → k ≤ y.1 ∧ y.1 < k + ps.length ∧ 0 < y.2 ∧ ∃ r ∈ rs, y.2 = absI r
  | [], rs, k, y, h => by simp [segYs] at h
  | p :: ps, [], k, y, h => by simp [segYs] at h
  | p :: ps, r :: rs, k, y, h => by
    simp only [segYs] at h
    have go : y ∈ segYs node inn (k + 1) ps rs → k ≤ y.1 ∧ y.1 < k + (p :: ps).length ∧ 0 < y.2 ∧ ∃ r' ∈ r :: rs, y.2 = absI r' := fun h => by
      obtain ⟨h1, h2, h3, r', h4, h5⟩ := segYs_get h
      exact ⟨by omega, by simp only [List.length_cons]; omega, h3, r', by simp [h4], h5⟩
    split at h
    · rename_i hc
      rcases List.mem_cons.1 h with rfl | h
      · refine ⟨Nat.le_refl _, by simp, ?_, r, by simp, rfl⟩
        have := hc.1
        simp only [absI]; omega
      · exact go h
    · exact go h
/-- The pieces that a segment has given out. -/
def gvAt (gi : List (Option (List (Int × Int)))) (z : Nat × Int) : List (Int × Int) := (gi.getD z.1 none).getD []
/-- What comes to a node, piece by piece. -/
def comesV (d : LineD) (gi : List (Option (List (Int × Int)))) (node : Int) : List (Int × Int) := prtPc d.feeds (prtYs node true 0 d.ports d.prates) ++ (segYs node true 0 (d.segs.map (·.1)) d.rates).flatMap (gvAt gi)
set_option maxRecDepth 100000 in
set_option maxHeartbeats 8000000 in
theorem stream_fn (d : LineD) (hd : LineOk d) (order : T) (w6 : order.width = 1) (fi gi oo : List (Option (List (Int × Int)))) (node : Int) (hg : gi.length = d.segs.length) (hS : Pc.Sane (comesV d gi node)) (hnz : ∀ z ∈ segYs node true 0 (d.segs.map (·.1)) d.rates, ∀ p ∈ gvAt gi z, p.2 ≠ 0) :
    FnOk Tryz.prog 116 [.pt 0 [] 0, .t (.int node)] [(0, lineB d.net d.plan (.sl 1 (d.feeds.map encI)) order), (1, blkG fi), (2, blkG gi), (3, blkG oo)]
      (.own 1000) [(0, lineB d.net d.plan (.sl 1 (d.feeds.map encI)) order), (1, blkG fi), (2, blkG gi), (3, blkG oo), (1000, blkP (Pc.join (comesV d gi node)))] := by
  unfold comesV at hS ⊢
  refine FnOk.intro fact_mixed Tryz.func116 rfl Tryz.ntmps116 (by rfl) (by simp) ?_
  repeat (first | (refine nf1_sound rfl ?_; simp [go_sem, ↓iO, iO, tN]; (repeat (refine anI ?_)); try (refine ⟨dcK, ?_⟩)) | ((first | refine itePos (by omega) ?_ | refine iteNeg (by omega) ?_); try simp [go_sem, ↓iO, iO, tN]) | (refine ⟨dcK, ?_⟩))
  refine CallK.fn (ports_fn d.net d.plan (.sl 1 (d.feeds.map encI)) order fi gi oo node true) [(0, 0), (1, 1), (2, 2), (3, 3), (1000, 500), (1001, 501), (1002, 502)] [] [] (by kernel_rfl) ?_ ?_ ?_ (Or.inl rfl) ?_ <;> simp [go_sem, ↓iO, iO, tN]
  repeat (refine anI ?_)
  try (refine ⟨dcK, ?_⟩)
  refine nf1_sound' _ _ _ ?_; simp only [nf1]
  obtain ⟨Y, hY⟩ : ∃ Y, prtYs node true 0 d.ports d.prates = Y := ⟨_, rfl⟩
  have hYg : ∀ y ∈ Y, y.1 < d.ports.length ∧ 0 < y.2 ∧ y.2 ≤ 1000000 := fun y hy => by
    rw [← hY] at hy
    obtain ⟨h1, h2, h3, r, h4, h5⟩ := prtYs_get hy
    have := hd.bP r h4
    unfold absI at h5
    exact ⟨by omega, h3, by omega⟩
  obtain ⟨pc, hpc⟩ : ∃ pc, prtPc d.feeds Y = pc := ⟨_, rfl⟩
  obtain ⟨Z, hZ⟩ : ∃ Z, segYs node true 0 (d.segs.map (·.1)) d.rates = Z := ⟨_, rfl⟩
  have hZg : ∀ z ∈ Z, z.1 < d.segs.length ∧ 0 < z.2 := fun y hy => by
    rw [← hZ] at hy
    obtain ⟨h1, h2, h3, _⟩ := segYs_get hy
    exact ⟨by simpa using h2, h3⟩
  rw [hY, hpc, hZ] at hS
  rw [hZ] at hnz
  rw [hY, hpc, hZ]
  refine CW.rangeF (N := 41) [(0, .pt 0 [] 0), (1, .t (.int node)), (2, .pt 102 [] 0), (5, .pt 105 [] 0), (11, .fn 149 [.pt 500 [] 0, .pt 501 [] 0, .pt 502 [] 0])]
    (fun k => [(0, lineB d.net d.plan (.sl 1 (d.feeds.map encI)) order), (1, blkG fi), (2, blkG gi), (3, blkG oo), (102, .box 87 (.pt 0 [] 0)), (105, .box 43 (.own 510)), (510, blkP (Pc.join (pc.take k))), (500, .box 87 (.pt 0 [] 0)), (501, .box 3 (.t (.int node))), (502, .box 4 (.t (.bool true)))])
    [(0, some 0), (1, some 1), (2, some 2), (3, some 3), (102, some 102), (105, some 105), (510, none), (500, some 500), (501, some 501), (502, some 502)]
    (lineI 500 501 502 0 (.t (.int node)) (.t (.bool true)) 3 4 d.net d.plan [.t (.sl 1 (d.feeds.map encI)), .t order, .own 1, .own 2, .own 3]) (Y.map encY)
    [(0, some 0), (1, some 1), (2, some 2), (3, some 3), (102, some 102), (105, some 105), (510, some 510), (500, some 500), (501, some 501), (502, some 502)]
    ?_ rfl (by kernel_rfl) (by kernel_rfl) (by kernel_rfl) (by kernel_rfl) (by kernel_rfl) (by kernel_rfl) (by kernel_rfl) ?_ ?_ ?_ rfl ?_ ?_ ?_
  · simp [go_sem, ↓iO, iO, tN, Pc.join]
  · intro y hy
    obtain ⟨z, _, rfl⟩ := List.mem_map.1 hy
    rfl
  · intro y hy v hv
    obtain ⟨z, _, rfl⟩ := List.mem_map.1 hy
    simp [encY] at hv
    rcases hv with rfl | rfl <;> rfl
  · rw [← hY]
    exact ports_iter 500 501 502 0 rfl node true d.nodes (.sl 7 (d.segs.map encSg)) d.stat d.ports d.vap d.stl (.sl 1 (d.rates.map encI)) d.pumps d.prates _ hd.w1 rfl rfl hd.w2 hd.w3 hd.w4 hd.lenP hd.neP hd.maxP (fun r hr => by have := hd.bP r hr; omega)
  · intro k hk
    simp [go_sem, ↓iO, iO, tN, lineI]
    rfl
  · intro k y hy
    obtain ⟨z, hz, rfl⟩ : ∃ z, Y[k]? = some z ∧ y = encY z := by
      rw [List.getElem?_map] at hy
      obtain ⟨z, h1, h2⟩ := Option.map_eq_some_iff.1 hy
      exact ⟨z, h1, h2.symm⟩
    obtain ⟨z1, z2⟩ := z
    obtain ⟨q1, q2, q3⟩ := hYg _ (List.mem_of_getElem? hz)
    dsimp only at q1 q2 q3
    obtain ⟨f, hf⟩ : ∃ f, d.feeds[z1]? = some f := has_get (by rw [hd.lenF]; exact q1)
    have hpk : pc[k]? = some (f, z2) := by rw [← hpc]; simp [prtPc, hz, List.getD, hf]
    have hlf := hd.lenF
    have hmx := hd.maxP
    have w1 := hd.w1
    have w2 := hd.w2
    have w3 := hd.w3
    have w4 := hd.w4
    have w5 := hd.w5
    have q4 : z1 < d.feeds.length := by omega
    have hf2 : d.feeds[z1] = f := by rw [List.getElem?_eq_getElem q4] at hf; exact Option.some.inj hf
    have j1 := join_fn (pc.take k) [(f, z2)] (by
      refine ⟨?_, fun p hp => ?_⟩
      · have : pc.length = Y.length := by rw [← hpc]; simp [prtPc]
        have h3 := prtYs_len2 node true 0 d.ports d.prates
        rw [hY] at h3
        simp; omega
      · rcases List.mem_append.1 hp with hp | hp
        · have hp := List.mem_of_mem_take hp
          rw [← hpc] at hp
          obtain ⟨y, hy, rfl⟩ := List.mem_map.1 hp
          have := hYg y hy
          dsimp only; omega
        · simp at hp; subst hp; dsimp only; omega) (by simp; omega)
    have e1 : pc.take k ++ [(f, z2)] = pc.take (k + 1) := by
      obtain ⟨hk, e⟩ := List.getElem?_eq_some_iff.1 hpk
      rw [List.take_succ_eq_append_getElem hk, e]
    rw [e1] at j1
    refine ⟨[(0, 0), (1, 1), (2, 2), (3, 3), (4, 102), (5, 105), (6, 510), (1000, 511)], [(2, .pt 4 [] 0), (5, .pt 5 [] 0)],
      [(0, lineB d.net d.plan (.sl 1 (d.feeds.map encI)) order), (1, blkG fi), (2, blkG gi), (3, blkG oo), (4, .box 87 (.pt 0 [] 0)), (5, .box 43 (.own 6)), (6, blkP (Pc.join (pc.take k)))],
      [(0, lineB d.net d.plan (.sl 1 (d.feeds.map encI)) order), (1, blkG fi), (2, blkG gi), (3, blkG oo), (4, .box 87 (.pt 0 [] 0)), (5, .box 43 (.own 1000)), (1000, blkP (Pc.join (pc.take (k + 1))))],
      [(0, some 0), (1, some 1), (2, some 2), (3, some 3), (102, some 102), (105, some 105), (510, some 511), (500, some 500), (501, some 501), (502, some 502)], ?_⟩
    refine ⟨by kernel_rfl, ?_, ?_, rfl, by kernel_rfl, ?_, ?_⟩
    · simp [go_sem, ↓iO, iO, tN]
    · simp [go_sem, ↓iO, iO, tN, slotsR, S.ren]
    · simp [go_sem, ↓iO, iO, tN, psS, encY, hf, w1, w2, w3, w4, w5, q4]
      repeat (refine anI ?_)
      refine CallK.fn (j1) [(0, 6), (1000, 600)] [124] [] (by kernel_rfl) ?_ ?_ ?_ (Or.inr ⟨?_, ?_⟩) ?_ <;> simp [go_sem, ↓iO, iO, tN, w1, w2, w3, w4, w5, hf, hf2]
      repeat (refine anI ?_)
      try (refine ⟨dcK, ?_⟩)
      refine ⟨[(0, some 0), (1, some 1), (2, some 2), (3, some 3), (4, some 4), (5, some 5), (1000, some 600)], ?_⟩
      simp [go_sem, ↓iO, iO, tN]
    · simp [go_sem, ↓iO, iO, tN]
  · have hpl : (Y.map encY).length = pc.length := by rw [← hpc]; simp [prtPc]
    rw [hpl]
    simp [go_sem, ↓iO, iO, tN, List.take_length]
    repeat (first | (refine nf1_sound rfl ?_; simp [go_sem, ↓iO, iO, tN]; (repeat (refine anI ?_)); try (refine ⟨dcK, ?_⟩)) | ((first | refine itePos (by omega) ?_ | refine iteNeg (by omega) ?_); try simp [go_sem, ↓iO, iO, tN]) | (refine ⟨dcK, ?_⟩))
    refine CallK.fn (segments_fn d.net d.plan (.sl 1 (d.feeds.map encI)) order fi gi oo node true) [(0, 0), (1, 1), (2, 2), (3, 3), (1000, 520), (1001, 521), (1002, 522)] [] [] (by kernel_rfl) ?_ ?_ ?_ (Or.inl rfl) ?_ <;> simp [go_sem, ↓iO, iO, tN]
    repeat (refine anI ?_)
    try (refine ⟨dcK, ?_⟩)
    refine nf1_sound' _ _ _ ?_; simp only [nf1]
    refine CW.rangeF (N := 41) [(0, .pt 0 [] 0), (1, .t (.int node)), (2, .pt 102 [] 0), (5, .pt 105 [] 0), (28, .fn 150 [.pt 520 [] 0, .pt 521 [] 0, .pt 522 [] 0])]
      (fun k => [(0, lineB d.net d.plan (.sl 1 (d.feeds.map encI)) order), (1, blkG fi), (2, blkG gi), (3, blkG oo), (102, .box 87 (.pt 0 [] 0)), (105, .box 43 (.own 510)), (510, blkP (Pc.join (pc ++ (Z.take k).flatMap (gvAt gi)))), (520, .box 87 (.pt 0 [] 0)), (521, .box 4 (.t (.bool true))), (522, .box 3 (.t (.int node)))])
      [(0, some 0), (1, some 1), (2, some 2), (3, some 3), (102, some 102), (105, some 105), (510, some 510), (520, some 520), (521, some 521), (522, some 522)]
      (lineI 520 521 522 0 (.t (.bool true)) (.t (.int node)) 4 3 d.net d.plan [.t (.sl 1 (d.feeds.map encI)), .t order, .own 1, .own 2, .own 3]) (Z.map encY)
      [(0, some 0), (1, some 1), (2, some 2), (3, some 3), (102, some 102), (105, some 105), (510, some 510), (520, some 520), (521, some 521), (522, some 522)]
      ?_ rfl (by kernel_rfl) (by kernel_rfl) (by kernel_rfl) (by kernel_rfl) (by kernel_rfl) (by kernel_rfl) (by kernel_rfl) ?_ ?_ ?_ rfl ?_ ?_ ?_
    · simp [go_sem, ↓iO, iO, tN]
    · intro y hy
      obtain ⟨z, _, rfl⟩ := List.mem_map.1 hy
      rfl
    · intro y hy v hv
      obtain ⟨z, _, rfl⟩ := List.mem_map.1 hy
      simp [encY] at hv
      rcases hv with rfl | rfl <;> rfl
    · rw [← hZ]
      exact segs_iter 520 521 522 0 rfl node true d.nodes (.sl 3 (d.ports.map encPr)) d.stat d.segs d.vap d.stl (.sl 1 (d.prates.map encI)) d.pumps d.rates _ hd.w1 rfl hd.w2 hd.w3 hd.w4 hd.lenR hd.neS hd.maxS (fun r hr => by have := hd.bR r hr; omega)
    · intro k hk
      simp [go_sem, ↓iO, iO, tN, lineI]
      rfl
    · intro k y hy
      obtain ⟨z, hz, rfl⟩ : ∃ z, Z[k]? = some z ∧ y = encY z := by
        rw [List.getElem?_map] at hy
        obtain ⟨z, h1, h2⟩ := Option.map_eq_some_iff.1 hy
        exact ⟨z, h1, h2.symm⟩
      obtain ⟨q1, q2⟩ := hZg _ (List.mem_of_getElem? hz)
      have hnz := hnz _ (List.mem_of_getElem? hz)
      obtain ⟨o, ho⟩ : ∃ o, gi[z.1]? = some o := has_get (by rw [hg]; exact q1)
      have hgv : gvAt gi z = o.getD [] := by unfold gvAt; rw [List.getD_eq_getElem?_getD, ho]; rfl
      have e1 : (Z.take (k + 1)).flatMap (gvAt gi) = (Z.take k).flatMap (gvAt gi) ++ gvAt gi z := by
        obtain ⟨hk, e⟩ := List.getElem?_eq_some_iff.1 hz
        rw [List.take_succ_eq_append_getElem hk, e, List.flatMap_append]; simp
      obtain ⟨z1, z2⟩ := z
      dsimp only at q1 q2 ho
      have j1 := join_fn (pc ++ (Z.take k).flatMap (gvAt gi)) (gvAt gi (z1, z2)) (by
        have h3 : pc ++ Z.flatMap (gvAt gi) = (pc ++ (Z.take k).flatMap (gvAt gi)) ++ gvAt gi (z1, z2) ++ (Z.drop (k + 1)).flatMap (gvAt gi) := by
          rw [List.append_assoc pc, ← e1, List.append_assoc, ← List.flatMap_append, List.take_append_drop]
        rw [h3] at hS
        exact ⟨by have := hS.len; simp only [List.length_append] at this ⊢; omega, fun p hp => hS.each p (List.mem_append_left _ hp)⟩) hnz
      rw [List.append_assoc, ← e1] at j1
      rw [hgv] at j1
      have w1 := hd.w1
      have w2 := hd.w2
      have w3 := hd.w3
      have w4 := hd.w4
      have w5 := hd.w5
      have hmx := hd.maxS
      have q4 : z1 < gi.length := by omega
      have hf2 : gi[z1] = o := by rw [List.getElem?_eq_getElem q4] at ho; exact Option.some.inj ho
      refine ⟨[(0, 0), (1, 1), (2, 2), (3, 3), (4, 102), (5, 105), (6, 510), (1000, 511)], [(2, .pt 4 [] 0), (5, .pt 5 [] 0)],
        [(0, lineB d.net d.plan (.sl 1 (d.feeds.map encI)) order), (1, blkG fi), (2, blkG gi), (3, blkG oo), (4, .box 87 (.pt 0 [] 0)), (5, .box 43 (.own 6)), (6, blkP (Pc.join (pc ++ (Z.take k).flatMap (gvAt gi))))],
        [(0, lineB d.net d.plan (.sl 1 (d.feeds.map encI)) order), (1, blkG fi), (2, blkG gi), (3, blkG oo), (4, .box 87 (.pt 0 [] 0)), (5, .box 43 (.own 1000)), (1000, blkP (Pc.join (pc ++ (Z.take (k + 1)).flatMap (gvAt gi))))],
        [(0, some 0), (1, some 1), (2, some 2), (3, some 3), (102, some 102), (105, some 105), (510, some 511), (520, some 520), (521, some 521), (522, some 522)], ?_⟩
      refine ⟨by kernel_rfl, ?_, ?_, rfl, by kernel_rfl, ?_, ?_⟩
      · simp [go_sem, ↓iO, iO, tN]
      · simp [go_sem, ↓iO, iO, tN, slotsR, S.ren]
      · obtain ⟨J, hJ⟩ : ∃ J, Pc.join (pc ++ (Z.take k).flatMap (gvAt gi)) = J := ⟨_, rfl⟩
        obtain ⟨J2, hJ2⟩ : ∃ J2, Pc.join (pc ++ (Z.take (k + 1)).flatMap (gvAt gi)) = J2 := ⟨_, rfl⟩
        rw [hJ, hJ2] at j1
        rw [hJ, hJ2]
        cases o with
        | none =>
          simp [go_sem, ↓iO, iO, tN, psS, encY, ho, w1, w2, w3, w4, w5, w6, q4, hf2, widths_gv, width_gv]
          repeat (refine anI ?_)
          refine CallK.fn (j1) [(0, 6), (1000, 600)] [] [] (by kernel_rfl) ?_ ?_ ?_ (Or.inl rfl) ?_ <;> simp [go_sem, ↓iO, iO, tN, w1, w2, w3, w4, w5, w6, ho, hf2]
          repeat (refine anI ?_)
          try (refine ⟨dcK, ?_⟩)
          refine ⟨[(0, some 0), (1, some 1), (2, some 2), (3, some 3), (4, some 4), (5, some 5), (1000, some 600)], ?_⟩
          simp [go_sem, ↓iO, iO, tN]
        | some l =>
          simp [go_sem, ↓iO, iO, tN, psS, encY, ho, w1, w2, w3, w4, w5, w6, q4, hf2, widths_gv, width_gv]
          repeat (refine anI ?_)
          refine CallK.fn (j1) [(0, 6), (1000, 600)] [] [] (by kernel_rfl) ?_ ?_ ?_ (Or.inl rfl) ?_ <;> simp [go_sem, ↓iO, iO, tN, w1, w2, w3, w4, w5, w6, ho, hf2]
          repeat (refine anI ?_)
          try (refine ⟨dcK, ?_⟩)
          refine ⟨[(0, some 0), (1, some 1), (2, some 2), (3, some 3), (4, some 4), (5, some 5), (1000, some 600)], ?_⟩
          simp [go_sem, ↓iO, iO, tN]
      · simp [go_sem, ↓iO, iO, tN]
    · have hpl : (Z.map encY).length = Z.length := by simp
      rw [hpl]
      simp [go_sem, ↓iO, iO, tN, List.take_length]
      repeat (first | (refine nf1_sound rfl ?_; simp [go_sem, ↓iO, iO, tN]; (repeat (refine anI ?_)); try (refine ⟨dcK, ?_⟩)) | ((first | refine itePos (by omega) ?_ | refine iteNeg (by omega) ?_); try simp [go_sem, ↓iO, iO, tN]) | (refine ⟨dcK, ?_⟩))
      first | rw [RetQ_ret] | rw [RetQ_normal]
      refine ⟨[(0, some 0), (1, some 1), (2, some 2), (3, some 3), (1000, some 510)], ?_⟩
      simp [go_sem, ↓iO, iO, tN]
end Go.Proofs.YtcehllkmfkoncaaGreat
/- slices.Clone of pieces as a contract. No condition. -/
namespace Go.Proofs.YtcehllkmfkoncaaGreat
open Go.RowKit Sy
open Go.IntWalk renaming iteOmega → iO, toNatUp → tN
set_option linter.unusedVariables false
set_option linter.unusedSimpArgs false
set_option maxRecDepth 100000 in
set_option maxHeartbeats 4000000 in
theorem clone_fn (l : List (Int × Int)) (hl : l.length ≤ 1000000) : FnOk Tryz.prog 73 [.t (encPs l)] [] (.own 1000) [(1000, blkP l)] := by
  refine FnOk.intro fact_mixed Tryz.func73 rfl Tryz.ntmps73 (by rfl) (by simp) ?_
  iterate 1 (refine nf1_sound rfl ?_; simp [go_sem, ↓iO, iO, tN]; (repeat (refine anI ?_)); try (refine ⟨dcK, ?_⟩))
  refine CW.seq (CW.seq (CW.nilTest (k := 2) (xs := l.map encP) (e := 73) (by simp [go_sem]) (by simp [go_sem]) ?_ ?_))
  · intro hx
    have hx : l = [] := by simpa using hx
    simp [go_sem, ↓iO, iO, tN]
    repeat (first | (refine nf1_sound rfl ?_; simp [go_sem, ↓iO, iO, tN]; (repeat (refine anI ?_)); try (refine ⟨dcK, ?_⟩)) | ((first | refine itePos (by omega) ?_ | refine iteNeg (by omega) ?_); try simp [go_sem, ↓iO, iO, tN]) | (refine ⟨dcK, ?_⟩))
    first | rw [RetQ_ret] | rw [RetQ_normal]
    refine ⟨[(1000, none)], ?_⟩
    simp [go_sem, ↓iO, iO, tN, hx]
  · simp [go_sem, ↓iO, iO, tN]
    repeat (first | (refine nf1_sound rfl ?_; simp [go_sem, ↓iO, iO, tN]; (repeat (refine anI ?_)); try (refine ⟨dcK, ?_⟩)) | ((first | refine itePos (by omega) ?_ | refine iteNeg (by omega) ?_); try simp [go_sem, ↓iO, iO, tN]) | (refine ⟨dcK, ?_⟩))
    first | rw [RetQ_ret] | rw [RetQ_normal]
    refine ⟨[(1000, some 107)], ?_⟩
    simp [go_sem, ↓iO, iO, tN]
end Go.Proofs.YtcehllkmfkoncaaGreat
/- piece.cut as a contract. No condition. -/
namespace Go.Proofs.YtcehllkmfkoncaaGreat
open Go.RowKit Sy
open Go.IntWalk renaming iteOmega → iO, toNatUp → tN
set_option linter.unusedVariables false
set_option linter.unusedSimpArgs false
set_option maxRecDepth 100000 in
set_option maxHeartbeats 4000000 in
theorem cut_fn (l : List (Int × Int)) (k : Int) (h : Pc.Sane l) (hk : 0 ≤ k) (hk2 : k ≤ 1000000000000) : FnOk Tryz.prog 166 [.t (encPs l), .t (.int k)] [] (.tup [.own 1000, .own 1001])
    [(1000, blkP (Pc.join (Pc.heads l k))), (1001, blkP (Pc.join (Pc.tails l k)))] := by
  have hlen := h.len
  refine FnOk.intro fact_mixed Tryz.func166 rfl Tryz.ntmps166 (by rfl) (by simp) ?_
  repeat (first | (refine nf1_sound rfl ?_; simp [go_sem, ↓iO, iO, tN]; (repeat (refine anI ?_)); try (refine ⟨dcK, ?_⟩)) | ((first | refine itePos (by omega) ?_ | refine iteNeg (by omega) ?_); try simp [go_sem, ↓iO, iO, tN]) | (refine ⟨dcK, ?_⟩))
  refine CallK.fn (clone_fn l (by omega)) [(1000, 111)] [] [] (by kernel_rfl) ?_ ?_ ?_ (Or.inl rfl) ?_ <;> simp [go_sem, ↓iO, iO, tN]
  repeat (refine anI ?_)
  try (refine ⟨dcK, ?_⟩)
  refine CallK.fn (clone_fn l (by omega)) [(1000, 113)] [] [] (by kernel_rfl) ?_ ?_ ?_ (Or.inl rfl) ?_ <;> simp [go_sem, ↓iO, iO, tN]
  repeat (refine anI ?_)
  try (refine ⟨dcK, ?_⟩)
  repeat (first | (refine nf1_sound rfl ?_; simp [go_sem, ↓iO, iO, tN]; (repeat (refine anI ?_)); try (refine ⟨dcK, ?_⟩)) | ((first | refine itePos (by omega) ?_ | refine iteNeg (by omega) ?_); try simp [go_sem, ↓iO, iO, tN]) | (refine ⟨dcK, ?_⟩))
  refine nf1_sound' _ _ _ ?_; simp only [nf1]
  refine CW.loop (ι := Nat) (fun i => ⟨[(6, .own 500), (7, .own 501), (1, .t (.int (Pc.rest (l.take i) k))), (14, .t (encPs l)), (15, .t (.int l.length)), (16, .t (.int i))], [(500, blkP (Pc.heads (l.take i) k ++ l.drop i)), (501, blkP (Pc.tails (l.take i) k ++ l.drop i))]⟩)
    (fun i => i ≤ l.length) (fun i => l.length - i) 0 [(500, some 111), (501, some 113)] (by omega) ?_ ?_
  · simp [go_sem, ↓iO, iO, tN, Pc.heads, Pc.tails, Pc.rest]
  intro i hi
  have hrr := Pc.rest_range (l.take i) (fun p hp => ((h.take i).each p hp).1) k hk
  by_cases hb : i < l.length
  · obtain ⟨p, hp⟩ := has_get hb
    have hpv := h.each p (mem_get hp)
    have e1 := Pc.heads_snoc k hp
    have e2 := Pc.tails_snoc k hp
    have e3 := Pc.rest_snoc k hp
    have e4 := drop_get hp
    have l1 : (Pc.heads (l.take i) k).length = i := by rw [Pc.heads_length, List.length_take]; omega
    have l2 : (Pc.tails (l.take i) k).length = i := by rw [Pc.tails_length, List.length_take]; omega
    obtain ⟨hd, hhd⟩ : ∃ x, x = Pc.heads (l.take i) k := ⟨_, rfl⟩
    obtain ⟨tl, htl⟩ : ∃ x, x = Pc.tails (l.take i) k := ⟨_, rfl⟩
    obtain ⟨r, hr⟩ : ∃ x, x = Pc.rest (l.take i) k := ⟨_, rfl⟩
    obtain ⟨d, hdd⟩ : ∃ x, x = l.drop (i + 1) := ⟨_, rfl⟩
    rw [← hr] at e1 e2 e3 hrr
    rw [← hhd] at e1 l1
    rw [← htl] at e2 l2
    rw [← hdd] at e4
    have hdl : d.length = l.length - (i + 1) := by rw [hdd, List.length_drop]
    have hm : 0 ≤ min p.2 r ∧ min p.2 r ≤ p.2 ∧ min p.2 r ≤ r := by omega
    repeat (first | (refine nf1_sound rfl ?_; simp [go_sem, ↓iO, iO, tN, hp, ← hhd, ← htl, ← hr, e4, l1, l2]; (repeat (refine anI ?_)); try (refine ⟨dcK, ?_⟩)) | ((first | refine itePos (by omega) ?_ | refine iteNeg (by omega) ?_); try simp [go_sem, ↓iO, iO, tN, hp, ← hhd, ← htl, ← hr, e4, l1, l2]) | (refine ⟨dcK, ?_⟩))
    have hdm : (l.map encP).drop (i + 1) = d.map encP := by rw [hdd, List.map_drop]
    rw [RoundQ_normal]; refine ⟨i + 1, [(500, some 500), (501, some 501)], ?_, ?_, ?_⟩
    · omega
    · omega
    simp [go_sem, ↓iO, iO, tN, e1, e2, e3, hdm]
  · obtain rfl : i = l.length := by omega
    repeat (first | (refine nf1_sound rfl ?_; simp [go_sem, ↓iO, iO, tN]; (repeat (refine anI ?_)); try (refine ⟨dcK, ?_⟩)) | ((first | refine itePos (by omega) ?_ | refine iteNeg (by omega) ?_); try simp [go_sem, ↓iO, iO, tN]) | (refine ⟨dcK, ?_⟩))
    refine CallK.fn (merged_fn (Pc.heads l k) (heads_sane h hk)) [(1000, 150)] [500] [] (by kernel_rfl) ?_ ?_ ?_ (Or.inr ⟨?_, ?_⟩) ?_ <;> simp [go_sem, ↓iO, iO, tN]
    repeat (refine anI ?_)
    try (refine ⟨dcK, ?_⟩)
    refine CallK.fn (merged_fn (Pc.tails l k) (tails_sane h hk)) [(1000, 152)] [501] [] (by kernel_rfl) ?_ ?_ ?_ (Or.inr ⟨?_, ?_⟩) ?_ <;> simp [go_sem, ↓iO, iO, tN]
    repeat (refine anI ?_)
    try (refine ⟨dcK, ?_⟩)
    repeat (first | (refine nf1_sound rfl ?_; simp [go_sem, ↓iO, iO, tN]; (repeat (refine anI ?_)); try (refine ⟨dcK, ?_⟩)) | ((first | refine itePos (by omega) ?_ | refine iteNeg (by omega) ?_); try simp [go_sem, ↓iO, iO, tN]) | (refine ⟨dcK, ?_⟩))
    first | rw [RetQ_ret] | rw [RetQ_normal]
    refine ⟨[(1000, some 150), (1001, some 152)], ?_⟩
    simp [go_sem, ↓iO, iO, tN]
end Go.Proofs.YtcehllkmfkoncaaGreat
/- piece.litre, total; ref.Proper, Sum, Of as contracts. No condition. -/
namespace Go.Proofs.YtcehllkmfkoncaaGreat
open Go.RowKit Sy
open Go.IntWalk renaming iteOmega → iO, toNatUp → tN
set_option linter.unusedVariables false
set_option linter.unusedSimpArgs false
set_option maxRecDepth 100000 in
theorem litre_fn (p : Int × Int) : FnOk Tryz.prog 122 [.t (encP p)] [] (.t (.bool (decide (Lit p)))) [] := by
  refine FnOk.intro fact_mixed Tryz.func122 rfl Tryz.ntmps122 (by rfl) (by simp) ?_
  by_cases h1 : 0 ≤ p.1
  · by_cases h2 : p.1 < 1000
    · by_cases h3 : 0 ≤ p.2
      · by_cases h4 : p.2 ≤ 1000000
        · repeat (first | (refine nf1_sound rfl ?_; simp [go_sem, ↓iO, iO, tN]; (repeat (refine anI ?_)); try (refine ⟨dcK, ?_⟩)) | ((first | refine itePos (by omega) ?_ | refine iteNeg (by omega) ?_); try simp [go_sem, ↓iO, iO, tN]) | (refine ⟨dcK, ?_⟩))
          first | rw [RetQ_ret] | rw [RetQ_normal]
          refine ⟨[], ?_⟩
          simp [go_sem, ↓iO, iO, tN, h1, h2, h3, h4]
        · repeat (first | (refine nf1_sound rfl ?_; simp [go_sem, ↓iO, iO, tN]; (repeat (refine anI ?_)); try (refine ⟨dcK, ?_⟩)) | ((first | refine itePos (by omega) ?_ | refine iteNeg (by omega) ?_); try simp [go_sem, ↓iO, iO, tN]) | (refine ⟨dcK, ?_⟩))
          first | rw [RetQ_ret] | rw [RetQ_normal]
          refine ⟨[], ?_⟩
          simp [go_sem, ↓iO, iO, tN, h1, h2, h3, h4]
      · repeat (first | (refine nf1_sound rfl ?_; simp [go_sem, ↓iO, iO, tN]; (repeat (refine anI ?_)); try (refine ⟨dcK, ?_⟩)) | ((first | refine itePos (by omega) ?_ | refine iteNeg (by omega) ?_); try simp [go_sem, ↓iO, iO, tN]) | (refine ⟨dcK, ?_⟩))
        first | rw [RetQ_ret] | rw [RetQ_normal]
        refine ⟨[], ?_⟩
        simp [go_sem, ↓iO, iO, tN, h1, h2, h3]
    · repeat (first | (refine nf1_sound rfl ?_; simp [go_sem, ↓iO, iO, tN]; (repeat (refine anI ?_)); try (refine ⟨dcK, ?_⟩)) | ((first | refine itePos (by omega) ?_ | refine iteNeg (by omega) ?_); try simp [go_sem, ↓iO, iO, tN]) | (refine ⟨dcK, ?_⟩))
      first | rw [RetQ_ret] | rw [RetQ_normal]
      refine ⟨[], ?_⟩
      simp [go_sem, ↓iO, iO, tN, h1, h2]
  · repeat (first | (refine nf1_sound rfl ?_; simp [go_sem, ↓iO, iO, tN]; (repeat (refine anI ?_)); try (refine ⟨dcK, ?_⟩)) | ((first | refine itePos (by omega) ?_ | refine iteNeg (by omega) ?_); try simp [go_sem, ↓iO, iO, tN]) | (refine ⟨dcK, ?_⟩))
    first | rw [RetQ_ret] | rw [RetQ_normal]
    refine ⟨[], ?_⟩
    simp [go_sem, ↓iO, iO, tN, h1]
set_option maxRecDepth 100000 in
theorem proper_fn (x : Int) : FnOk Tryz.prog 34 [.t (.int x)] [] (.t (.bool (decide (0 ≤ x ∧ x < 1000)))) [] := by
  refine FnOk.intro fact_mixed Tryz.func34 rfl Tryz.ntmps34 (by rfl) (by simp) ?_
  by_cases h1 : 0 ≤ x
  · by_cases h2 : x < 1000
    · repeat (first | (refine nf1_sound rfl ?_; simp [go_sem, ↓iO, iO, tN]; (repeat (refine anI ?_)); try (refine ⟨dcK, ?_⟩)) | ((first | refine itePos (by omega) ?_ | refine iteNeg (by omega) ?_); try simp [go_sem, ↓iO, iO, tN]) | (refine ⟨dcK, ?_⟩))
      first | rw [RetQ_ret] | rw [RetQ_normal]
      refine ⟨[], ?_⟩
      simp [go_sem, ↓iO, iO, tN, h1, h2]
    · repeat (first | (refine nf1_sound rfl ?_; simp [go_sem, ↓iO, iO, tN]; (repeat (refine anI ?_)); try (refine ⟨dcK, ?_⟩)) | ((first | refine itePos (by omega) ?_ | refine iteNeg (by omega) ?_); try simp [go_sem, ↓iO, iO, tN]) | (refine ⟨dcK, ?_⟩))
      first | rw [RetQ_ret] | rw [RetQ_normal]
      refine ⟨[], ?_⟩
      simp [go_sem, ↓iO, iO, tN, h1, h2]
  · repeat (first | (refine nf1_sound rfl ?_; simp [go_sem, ↓iO, iO, tN]; (repeat (refine anI ?_)); try (refine ⟨dcK, ?_⟩)) | ((first | refine itePos (by omega) ?_ | refine iteNeg (by omega) ?_); try simp [go_sem, ↓iO, iO, tN]) | (refine ⟨dcK, ?_⟩))
    first | rw [RetQ_ret] | rw [RetQ_normal]
    refine ⟨[], ?_⟩
    simp [go_sem, ↓iO, iO, tN, h1]
set_option maxRecDepth 100000 in
set_option maxHeartbeats 4000000 in
theorem total_fn (l : List (Int × Int)) (h : Pc.Sane l) : FnOk Tryz.prog 123 [.t (encPs l)] [] (.t (.int (Pc.vol l))) [] := by
  have hlen := h.len
  refine FnOk.intro fact_mixed Tryz.func123 rfl Tryz.ntmps123 (by rfl) (by simp) ?_
  repeat (first | (refine nf1_sound rfl ?_; simp [go_sem, ↓iO, iO, tN]; (repeat (refine anI ?_)); try (refine ⟨dcK, ?_⟩)) | ((first | refine itePos (by omega) ?_ | refine iteNeg (by omega) ?_); try simp [go_sem, ↓iO, iO, tN]) | (refine ⟨dcK, ?_⟩))
  refine nf1_sound' _ _ _ ?_; simp only [nf1]
  refine CW.loop (ι := Nat) (fun k => ⟨[(3, .t (.int (Pc.vol (l.take k)))), (6, .t (encPs l)), (7, .t (.int l.length)), (8, .t (.int k))], []⟩) (fun k => k ≤ l.length) (fun k => l.length - k) 0 [] (by omega) ?_ ?_
  · simp [go_sem, ↓iO, iO, tN, Pc.vol]
  intro k hk
  by_cases hb : k < l.length
  · obtain ⟨p, hp⟩ := has_get hb
    have hs := Pc.vol_snoc hp
    have hv := (h.take k).vol
    have hpv := h.each p (mem_get hp)
    repeat (first | (refine nf1_sound rfl ?_; simp [go_sem, ↓iO, iO, tN, hp]; (repeat (refine anI ?_)); try (refine ⟨dcK, ?_⟩)) | ((first | refine itePos (by omega) ?_ | refine iteNeg (by omega) ?_); try simp [go_sem, ↓iO, iO, tN, hp]) | (refine ⟨dcK, ?_⟩))
    rw [RoundQ_normal]; refine ⟨k + 1, [], ?_, ?_, ?_⟩
    · omega
    · omega
    simp [go_sem, ↓iO, iO, tN, hs]
  · obtain rfl : k = l.length := by omega
    repeat (first | (refine nf1_sound rfl ?_; simp [go_sem, ↓iO, iO, tN]; (repeat (refine anI ?_)); try (refine ⟨dcK, ?_⟩)) | ((first | refine itePos (by omega) ?_ | refine iteNeg (by omega) ?_); try simp [go_sem, ↓iO, iO, tN]) | (refine ⟨dcK, ?_⟩))
    first | rw [RetQ_ret] | rw [RetQ_normal]
    refine ⟨[], ?_⟩
    simp [go_sem, ↓iO, iO, tN, List.take_length]
set_option maxRecDepth 100000 in
set_option maxHeartbeats 4000000 in
theorem sum_fn (l : List (Int × Int)) (h : Pc.Sane l) : FnOk Tryz.prog 58 [.t (encPs l)] [] (.t (.int (Pc.vol l))) [] := by
  have hlen := h.len
  refine FnOk.intro fact_mixed Tryz.func58 rfl Tryz.ntmps58 (by rfl) (by simp) ?_
  repeat (first | (refine nf1_sound rfl ?_; simp [go_sem, ↓iO, iO, tN]; (repeat (refine anI ?_)); try (refine ⟨dcK, ?_⟩)) | ((first | refine itePos (by omega) ?_ | refine iteNeg (by omega) ?_); try simp [go_sem, ↓iO, iO, tN]) | (refine ⟨dcK, ?_⟩))
  refine nf1_sound' _ _ _ ?_; simp only [nf1]
  refine CW.loop (ι := Nat) (fun k => ⟨[(0, .t (encPs l)), (3, .t (.int (Pc.vol (l.take k)))), (6, .t (.int l.length)), (7, .t (.int k))], []⟩) (fun k => k ≤ l.length) (fun k => l.length - k) 0 [] (by omega) ?_ ?_
  · simp [go_sem, ↓iO, iO, tN, Pc.vol]
  intro k hk
  by_cases hb : k < l.length
  · obtain ⟨p, hp⟩ := has_get hb
    have hs := Pc.vol_snoc hp
    have hv := (h.take k).vol
    have hpv := h.each p (mem_get hp)
    repeat (first | (refine nf1_sound rfl ?_; simp [go_sem, ↓iO, iO, tN, hp]; (repeat (refine anI ?_)); try (refine ⟨dcK, ?_⟩)) | ((first | refine itePos (by omega) ?_ | refine iteNeg (by omega) ?_); try simp [go_sem, ↓iO, iO, tN, hp]) | (refine ⟨dcK, ?_⟩))
    rw [RoundQ_normal]; refine ⟨k + 1, [], ?_, ?_, ?_⟩
    · omega
    · omega
    simp [go_sem, ↓iO, iO, tN, hs]
  · obtain rfl : k = l.length := by omega
    repeat (first | (refine nf1_sound rfl ?_; simp [go_sem, ↓iO, iO, tN]; (repeat (refine anI ?_)); try (refine ⟨dcK, ?_⟩)) | ((first | refine itePos (by omega) ?_ | refine iteNeg (by omega) ?_); try simp [go_sem, ↓iO, iO, tN]) | (refine ⟨dcK, ?_⟩))
    first | rw [RetQ_ret] | rw [RetQ_normal]
    refine ⟨[], ?_⟩
    simp [go_sem, ↓iO, iO, tN, List.take_length]
set_option maxRecDepth 100000 in
set_option maxHeartbeats 4000000 in
theorem of_fn (l : List (Int × Int)) (b : Int) (h : Pc.Sane l) : FnOk Tryz.prog 33 [.t (encPs l), .t (.int b)] [] (.t (.int (Pc.of_ l b))) [] := by
  have hlen := h.len
  refine FnOk.intro fact_mixed Tryz.func33 rfl Tryz.ntmps33 (by rfl) (by simp) ?_
  repeat (first | (refine nf1_sound rfl ?_; simp [go_sem, ↓iO, iO, tN]; (repeat (refine anI ?_)); try (refine ⟨dcK, ?_⟩)) | ((first | refine itePos (by omega) ?_ | refine iteNeg (by omega) ?_); try simp [go_sem, ↓iO, iO, tN]) | (refine ⟨dcK, ?_⟩))
  refine nf1_sound' _ _ _ ?_; simp only [nf1]
  refine CW.loop (ι := Nat) (fun k => ⟨[(1, .t (.int b)), (5, .t (.int (Pc.of_ (l.take k) b))), (8, .t (encPs l)), (9, .t (.int l.length)), (10, .t (.int k))], []⟩) (fun k => k ≤ l.length) (fun k => l.length - k) 0 [] (by omega) ?_ ?_
  · simp [go_sem, ↓iO, iO, tN, Pc.of_]
  intro k hk
  by_cases hb : k < l.length
  · obtain ⟨p, hp⟩ := has_get hb
    have hs := Pc.of_snoc b hp
    have hv := Pc.of_bound (l.take k) b (h.take k).each
    rw [List.length_take] at hv
    have hpv := h.each p (mem_get hp)
    by_cases he : p.1 = b
    · rw [if_pos he] at hs
      repeat (first | (refine nf1_sound rfl ?_; simp [go_sem, ↓iO, iO, tN, hp, he]; (repeat (refine anI ?_)); try (refine ⟨dcK, ?_⟩)) | ((first | refine itePos (by omega) ?_ | refine iteNeg (by omega) ?_); try simp [go_sem, ↓iO, iO, tN, hp, he]) | (refine ⟨dcK, ?_⟩))
      rw [RoundQ_normal]; refine ⟨k + 1, [], ?_, ?_, ?_⟩
      · omega
      · omega
      simp [go_sem, ↓iO, iO, tN, hs]
    · rw [if_neg he] at hs
      repeat (first | (refine nf1_sound rfl ?_; simp [go_sem, ↓iO, iO, tN, hp, he]; (repeat (refine anI ?_)); try (refine ⟨dcK, ?_⟩)) | ((first | refine itePos (by omega) ?_ | refine iteNeg (by omega) ?_); try simp [go_sem, ↓iO, iO, tN, hp, he]) | (refine ⟨dcK, ?_⟩))
      rw [RoundQ_normal]; refine ⟨k + 1, [], ?_, ?_, ?_⟩
      · omega
      · omega
      simp [go_sem, ↓iO, iO, tN, hs]
  · obtain rfl : k = l.length := by omega
    repeat (first | (refine nf1_sound rfl ?_; simp [go_sem, ↓iO, iO, tN]; (repeat (refine anI ?_)); try (refine ⟨dcK, ?_⟩)) | ((first | refine itePos (by omega) ?_ | refine iteNeg (by omega) ?_); try simp [go_sem, ↓iO, iO, tN]) | (refine ⟨dcK, ?_⟩))
    first | rw [RetQ_ret] | rw [RetQ_normal]
    refine ⟨[], ?_⟩
    simp [go_sem, ↓iO, iO, tN, List.take_length]
end Go.Proofs.YtcehllkmfkoncaaGreat
/- piece.Valid, Volume, At, Batch; ref.Valid, Volume, At, Batch as contracts. No condition. -/
namespace Go.Proofs.YtcehllkmfkoncaaGreat
open Go.RowKit Sy
open Go.IntWalk renaming iteOmega → iO, toNatUp → tN
set_option linter.unusedVariables false
set_option linter.unusedSimpArgs false
theorem litre_fn' (p : Int × Int) (b : Bool) (h : decide (Lit p) = b) : FnOk Tryz.prog 122 [.t (encP p)] [] (.t (.bool b)) [] := h ▸ litre_fn p
theorem proper_fn' (x : Int) (b : Bool) (h : decide (0 ≤ x ∧ x < 1000) = b) : FnOk Tryz.prog 34 [.t (.int x)] [] (.t (.bool b)) [] := h ▸ proper_fn x
theorem sane_of_ok {l : List (Int × Int)} (h : l.length ≤ 200) (ho : ∀ i, i < l.length → Pc.OkAt l i) : Pc.Sane l := by
  refine ⟨by omega, fun p hp => ?_⟩
  obtain ⟨i, hi⟩ := List.getElem?_of_mem hp
  have := (ho i (List.getElem?_eq_some_iff.1 hi).1 p hi).1
  omega
theorem ok_snoc {l : List (Int × Int)} {k : Nat} (h : ∀ i, i < k → Pc.OkAt l i) (hk : Pc.OkAt l k) : ∀ i, i < k + 1 → Pc.OkAt l i := fun i hi => by
  rcases Nat.lt_or_ge i k with h1 | h1
  · exact h i h1
  · obtain rfl : i = k := by omega
    exact hk
theorem ok_take {l : List (Int × Int)} {k : Nat} (hl : l.length ≤ 200) (h : ∀ i, i < k → Pc.OkAt l i) : Pc.Sane (l.take k) := by
  refine ⟨by rw [List.length_take]; omega, fun p hp => ?_⟩
  obtain ⟨i, hi⟩ := List.getElem?_of_mem hp
  rw [List.getElem?_take] at hi
  split at hi
  · rename_i hik
    have := (h i hik p hi).1
    omega
  · cases hi
set_option maxRecDepth 100000 in
set_option maxHeartbeats 4000000 in
theorem valid_fn (l : List (Int × Int)) (hl : l.length ≤ 1000000) : FnOk Tryz.prog 77 [.t (encPs l)] [] (.t (.bool (Pc.valid l))) [] := by
  refine FnOk.intro fact_mixed Tryz.func77 rfl Tryz.ntmps77 (by rfl) (by simp) ?_
  by_cases h2 : l.length ≤ 200
  · repeat (first | (refine nf1_sound rfl ?_; simp [go_sem, ↓iO, iO, tN]; (repeat (refine anI ?_)); try (refine ⟨dcK, ?_⟩)) | ((first | refine itePos (by omega) ?_ | refine iteNeg (by omega) ?_); try simp [go_sem, ↓iO, iO, tN]) | (refine ⟨dcK, ?_⟩))
    refine nf1_sound' _ _ _ ?_; simp only [nf1]
    refine CW.loop (ι := Nat) (fun k => ⟨[(0, .t (encPs l)), (8, .t (encPs l)), (9, .t (.int l.length)), (10, .t (.int k))], []⟩) (fun k => k ≤ l.length ∧ ∀ i, i < k → Pc.OkAt l i) (fun k => l.length - k) 0 [] ⟨by omega, fun i hi => absurd hi (by omega)⟩ ?_ ?_
    · simp [go_sem, ↓iO, iO, tN]
    rintro k ⟨hk, ho⟩
    by_cases hb : k < l.length
    · obtain ⟨p, hp⟩ := has_get hb
      by_cases hL : Lit p
      · by_cases hz : p.2 = 0
        · have hn : Pc.valid l = false := Pc.valid_f fun h => by have := (h.ok k hb p hp).1; omega
          repeat (first | (refine nf1_sound rfl ?_; simp [go_sem, ↓iO, iO, tN, hp]; (repeat (refine anI ?_)); try (refine ⟨dcK, ?_⟩)) | ((first | refine itePos (by omega) ?_ | refine iteNeg (by omega) ?_); try simp [go_sem, ↓iO, iO, tN, hp]) | (refine ⟨dcK, ?_⟩))
          refine CallK.fn (litre_fn' p true (decide_eq_true hL)) [] [] [] (by kernel_rfl) ?_ ?_ ?_ (Or.inl rfl) ?_ <;> simp [go_sem, ↓iO, iO, tN, hp]
          repeat (refine anI ?_)
          try (refine ⟨dcK, ?_⟩)
          repeat (first | (refine nf1_sound rfl ?_; simp [go_sem, ↓iO, iO, tN, hp, hz]; (repeat (refine anI ?_)); try (refine ⟨dcK, ?_⟩)) | ((first | refine itePos (by omega) ?_ | refine iteNeg (by omega) ?_); try simp [go_sem, ↓iO, iO, tN, hp, hz]) | (refine ⟨dcK, ?_⟩))
          first | rw [RetQ_ret] | rw [RetQ_normal]
          refine ⟨[], ?_⟩
          simp [go_sem, ↓iO, iO, tN, hn]
        · rcases k with _ | j
          · have hok : Pc.OkAt l 0 := fun x hx => by
              rw [hp] at hx; obtain rfl := Option.some.inj hx
              exact ⟨by omega, fun _ h0 => by omega⟩
            repeat (first | (refine nf1_sound rfl ?_; simp [go_sem, ↓iO, iO, tN, hp]; (repeat (refine anI ?_)); try (refine ⟨dcK, ?_⟩)) | ((first | refine itePos (by omega) ?_ | refine iteNeg (by omega) ?_); try simp [go_sem, ↓iO, iO, tN, hp]) | (refine ⟨dcK, ?_⟩))
            refine CallK.fn (litre_fn' p true (decide_eq_true hL)) [] [] [] (by kernel_rfl) ?_ ?_ ?_ (Or.inl rfl) ?_ <;> simp [go_sem, ↓iO, iO, tN, hp]
            repeat (refine anI ?_)
            try (refine ⟨dcK, ?_⟩)
            repeat (first | (refine nf1_sound rfl ?_; simp [go_sem, ↓iO, iO, tN, hp, hz]; (repeat (refine anI ?_)); try (refine ⟨dcK, ?_⟩)) | ((first | refine itePos (by omega) ?_ | refine iteNeg (by omega) ?_); try simp [go_sem, ↓iO, iO, tN, hp, hz]) | (refine ⟨dcK, ?_⟩))
            rw [RoundQ_normal]; refine ⟨1, [], ?_, ?_, ?_⟩
            · exact ⟨by omega, ok_snoc ho hok⟩
            · omega
            simp [go_sem, ↓iO, iO, tN]
          · obtain ⟨q, hq⟩ := has_get (show j < l.length by omega)
            by_cases he : q.1 = p.1
            · have hn : Pc.valid l = false := Pc.valid_f fun h => (h.ok (j + 1) hb p hp).2 q (by omega) hq he
              repeat (first | (refine nf1_sound rfl ?_; simp [go_sem, ↓iO, iO, tN, hp, hq]; (repeat (refine anI ?_)); try (refine ⟨dcK, ?_⟩)) | ((first | refine itePos (by omega) ?_ | refine iteNeg (by omega) ?_); try simp [go_sem, ↓iO, iO, tN, hp, hq]) | (refine ⟨dcK, ?_⟩))
              refine CallK.fn (litre_fn' p true (decide_eq_true hL)) [] [] [] (by kernel_rfl) ?_ ?_ ?_ (Or.inl rfl) ?_ <;> simp [go_sem, ↓iO, iO, tN, hp, hq]
              repeat (refine anI ?_)
              try (refine ⟨dcK, ?_⟩)
              repeat (first | (refine nf1_sound rfl ?_; simp [go_sem, ↓iO, iO, tN, hp, hz, hq, he]; (repeat (refine anI ?_)); try (refine ⟨dcK, ?_⟩)) | ((first | refine itePos (by omega) ?_ | refine iteNeg (by omega) ?_); try simp [go_sem, ↓iO, iO, tN, hp, hz, hq, he]) | (refine ⟨dcK, ?_⟩))
              first | rw [RetQ_ret] | rw [RetQ_normal]
              refine ⟨[], ?_⟩
              simp [go_sem, ↓iO, iO, tN, hn]
            · have hok : Pc.OkAt l (j + 1) := fun x hx => by
                rw [hp] at hx; obtain rfl := Option.some.inj hx
                refine ⟨by omega, fun y _ hy => ?_⟩
                rw [Nat.add_sub_cancel, hq] at hy; obtain rfl := Option.some.inj hy
                exact he
              repeat (first | (refine nf1_sound rfl ?_; simp [go_sem, ↓iO, iO, tN, hp, hq]; (repeat (refine anI ?_)); try (refine ⟨dcK, ?_⟩)) | ((first | refine itePos (by omega) ?_ | refine iteNeg (by omega) ?_); try simp [go_sem, ↓iO, iO, tN, hp, hq]) | (refine ⟨dcK, ?_⟩))
              refine CallK.fn (litre_fn' p true (decide_eq_true hL)) [] [] [] (by kernel_rfl) ?_ ?_ ?_ (Or.inl rfl) ?_ <;> simp [go_sem, ↓iO, iO, tN, hp, hq]
              repeat (refine anI ?_)
              try (refine ⟨dcK, ?_⟩)
              repeat (first | (refine nf1_sound rfl ?_; simp [go_sem, ↓iO, iO, tN, hp, hz, hq, he]; (repeat (refine anI ?_)); try (refine ⟨dcK, ?_⟩)) | ((first | refine itePos (by omega) ?_ | refine iteNeg (by omega) ?_); try simp [go_sem, ↓iO, iO, tN, hp, hz, hq, he]) | (refine ⟨dcK, ?_⟩))
              rw [RoundQ_normal]; refine ⟨j + 1 + 1, [], ?_, ?_, ?_⟩
              · exact ⟨by omega, ok_snoc ho hok⟩
              · omega
              simp [go_sem, ↓iO, iO, tN]
      · have hn : Pc.valid l = false := Pc.valid_f fun h => hL (by have := (h.ok k hb p hp).1; omega)
        repeat (first | (refine nf1_sound rfl ?_; simp [go_sem, ↓iO, iO, tN, hp]; (repeat (refine anI ?_)); try (refine ⟨dcK, ?_⟩)) | ((first | refine itePos (by omega) ?_ | refine iteNeg (by omega) ?_); try simp [go_sem, ↓iO, iO, tN, hp]) | (refine ⟨dcK, ?_⟩))
        refine CallK.fn (litre_fn' p false (decide_eq_false hL)) [] [] [] (by kernel_rfl) ?_ ?_ ?_ (Or.inl rfl) ?_ <;> simp [go_sem, ↓iO, iO, tN, hp]
        repeat (refine anI ?_)
        try (refine ⟨dcK, ?_⟩)
        repeat (first | (refine nf1_sound rfl ?_; simp [go_sem, ↓iO, iO, tN, hp]; (repeat (refine anI ?_)); try (refine ⟨dcK, ?_⟩)) | ((first | refine itePos (by omega) ?_ | refine iteNeg (by omega) ?_); try simp [go_sem, ↓iO, iO, tN, hp]) | (refine ⟨dcK, ?_⟩))
        first | rw [RetQ_ret] | rw [RetQ_normal]
        refine ⟨[], ?_⟩
        simp [go_sem, ↓iO, iO, tN, hn]
    · obtain rfl : k = l.length := by omega
      have hs := sane_of_ok h2 ho
      have hv : Pc.valid l = decide (Pc.vol l ≤ 1000000) := by
        by_cases h : Pc.vol l ≤ 1000000
        · rw [Pc.valid_t ⟨h2, ho, h⟩, decide_eq_true h]
        · rw [Pc.valid_f fun hh => h hh.vol, decide_eq_false h]
      repeat (first | (refine nf1_sound rfl ?_; simp [go_sem, ↓iO, iO, tN]; (repeat (refine anI ?_)); try (refine ⟨dcK, ?_⟩)) | ((first | refine itePos (by omega) ?_ | refine iteNeg (by omega) ?_); try simp [go_sem, ↓iO, iO, tN]) | (refine ⟨dcK, ?_⟩))
      refine CallK.fn (total_fn l hs) [] [] [] (by kernel_rfl) ?_ ?_ ?_ (Or.inl rfl) ?_ <;> simp [go_sem, ↓iO, iO, tN]
      repeat (refine anI ?_)
      try (refine ⟨dcK, ?_⟩)
      repeat (first | (refine nf1_sound rfl ?_; simp [go_sem, ↓iO, iO, tN]; (repeat (refine anI ?_)); try (refine ⟨dcK, ?_⟩)) | ((first | refine itePos (by omega) ?_ | refine iteNeg (by omega) ?_); try simp [go_sem, ↓iO, iO, tN]) | (refine ⟨dcK, ?_⟩))
      first | rw [RetQ_ret] | rw [RetQ_normal]
      refine ⟨[], ?_⟩
      simp [go_sem, ↓iO, iO, tN, hv]
  · have hn : Pc.valid l = false := Pc.valid_f fun h => h2 h.len
    repeat (first | (refine nf1_sound rfl ?_; simp [go_sem, ↓iO, iO, tN]; (repeat (refine anI ?_)); try (refine ⟨dcK, ?_⟩)) | ((first | refine itePos (by omega) ?_ | refine iteNeg (by omega) ?_); try simp [go_sem, ↓iO, iO, tN]) | (refine ⟨dcK, ?_⟩))
    first | rw [RetQ_ret] | rw [RetQ_normal]
    refine ⟨[], ?_⟩
    simp [go_sem, ↓iO, iO, tN, hn]
end Go.Proofs.YtcehllkmfkoncaaGreat
