/- Several texts of this proof, one behind the other. No condition. -/
import Derived.Test.YtdjmklobfjigoaaGreatDoorTTrnsB15
import Derived.Test.YtdjmklobfjigoaaGreatDoorTTrnsB14
import Derived.Test.YtdjmklobfjigoaaGreatDoorTTrnsB10
set_option maxRecDepth 100000
set_option maxHeartbeats 16000000
set_option linter.unusedVariables false
set_option linter.unusedSimpArgs false
namespace Go.Proofs.YtdjmklobfjigoaaGreatDoor
open Go.RowKit Sy
open Go.IntWalk renaming iteOmega → iO, toNatUp → tN
def addP (s : List Int × List Int) (x : Int × Int × Int) : List Int × List Int := (addC s.1 (fTo x.1 x.2.1 x.2.2) (fAb x.2.2), addC s.2 (fFr x.1 x.2.1 x.2.2) (fAb x.2.2))
abbrev flows := List (Int × Int × Int)
def sgFl (segs : List Sgm) (rates : List Int) : flows := (segs.zip rates).map fun x => (x.1.1.fr, x.1.1.to, x.2)
def ptFl (ports : List Prt) (rates : List Int) : flows := (ports.zip rates).map fun x => (-1, x.1.2.1, x.2)
def zero24 : List Int × List Int := (List.replicate 24 0, List.replicate 24 0)
def sumP (l : flows) : List Int × List Int := l.foldl addP zero24
theorem addC_bd {c : List Int} {k r B : Int} (hr : 0 ≤ r ∧ r ≤ 1000) (h : ∀ x ∈ c, 0 ≤ x ∧ x ≤ B) : ∀ x ∈ addC c k r, 0 ≤ x ∧ x ≤ B + 1000 := by
  intro x hx
  unfold addC at hx
  split at hx
  · rcases List.mem_or_eq_of_mem_set hx with hx | rfl
    · have := h x hx; omega
    · by_cases hk : k.toNat < c.length
      · have h1 : c.getD k.toNat 0 = c[k.toNat] := by simp [List.getD, hk]
        have := h _ (List.getElem_mem hk)
        rw [h1]; omega
      · rw [List.set_eq_of_length_le (by omega)] at hx
        have := h _ hx; omega
  · have := h x hx; omega
theorem fAb_bd {r : Int} (h : -1000 ≤ r ∧ r ≤ 1000) : 0 ≤ fAb r ∧ fAb r ≤ 1000 := by unfold fAb; split <;> omega
structure SumOk (s : List Int × List Int) (B : Int) : Prop where
  l1 : s.1.length = 24
  l2 : s.2.length = 24
  b1 : ∀ x ∈ s.1, 0 ≤ x ∧ x ≤ B
  b2 : ∀ x ∈ s.2, 0 ≤ x ∧ x ≤ B
theorem addP_ok {s : List Int × List Int} {B : Int} (h : SumOk s B) (x : Int × Int × Int) (hx : -1000 ≤ x.2.2 ∧ x.2.2 ≤ 1000) : SumOk (addP s x) (B + 1000) :=
  ⟨by simp only [addP, addC_len, h.l1], by simp only [addP, addC_len, h.l2], addC_bd (fAb_bd hx) h.b1, addC_bd (fAb_bd hx) h.b2⟩
theorem zero24_ok : SumOk zero24 0 := ⟨rfl, rfl, fun x hx => by simp [zero24] at hx; omega, fun x hx => by simp [zero24] at hx; omega⟩
theorem sumP_ok : ∀ (l : flows) (s : List Int × List Int) (B : Int), SumOk s B → (∀ x ∈ l, -1000 ≤ x.2.2 ∧ x.2.2 ≤ 1000) → SumOk (l.foldl addP s) (B + 1000 * l.length)
  | [], s, B, h, _ => by simpa using h
  | x :: r, s, B, h, hl => by
    have := sumP_ok r (addP s x) (B + 1000) (addP_ok h x (hl x (by simp))) (fun y hy => hl y (by simp [hy]))
    rw [List.foldl_cons]
    have e : B + 1000 + 1000 * (r.length : Int) = B + 1000 * ((x :: r).length : Int) := by simp only [List.length_cons]; omega
    rw [← e]; exact this
theorem sums_ex (segs : List Sgm) (ports : List Prt) (rates prates : List Int) (h1 : rates.length = segs.length) (h2 : prates.length = ports.length) (hs : segs.length ≤ 32) (hp : ports.length ≤ 24)
    (hr : ∀ r ∈ rates, -1000 ≤ r ∧ r ≤ 1000) (hq : ∀ r ∈ prates, -1000 ≤ r ∧ r ≤ 1000) : ∃ A P : Nat → List Int × List Int,
    A 0 = zero24 ∧ (∀ (k : Nat) s r, segs[k]? = some s → rates[k]? = some r → A (k + 1) = addP (A k) (s.1.fr, s.1.to, r)) ∧ (∀ k, SumOk (A k) 100000) ∧
    P 0 = A segs.length ∧ (∀ (k : Nat) s r, ports[k]? = some s → prates[k]? = some r → P (k + 1) = addP (P k) (-1, s.2.1, r)) ∧ (∀ k, SumOk (P k) 100000) ∧ P ports.length = sumP (sgFl segs rates ++ ptFl ports prates) := by
  have l1 : (sgFl segs rates).length = segs.length := by simp [sgFl, h1]
  have l2 : (ptFl ports prates).length = ports.length := by simp [ptFl, h2]
  have b1 : ∀ x ∈ sgFl segs rates, -1000 ≤ x.2.2 ∧ x.2.2 ≤ 1000 := by
    intro x hx
    obtain ⟨y, hy, rfl⟩ := List.mem_map.1 hx
    exact hr _ (List.of_mem_zip hy).2
  have b2 : ∀ x ∈ ptFl ports prates, -1000 ≤ x.2.2 ∧ x.2.2 ≤ 1000 := by
    intro x hx
    obtain ⟨y, hy, rfl⟩ := List.mem_map.1 hx
    exact hq _ (List.of_mem_zip hy).2
  have up : ∀ {s : List Int × List Int} {B : Int}, SumOk s B → B ≤ 100000 → SumOk s 100000 := fun h hB => ⟨h.l1, h.l2, fun x hx => by have := h.b1 x hx; omega, fun x hx => by have := h.b2 x hx; omega⟩
  refine ⟨fun k => ((sgFl segs rates).take k).foldl addP zero24, fun k => ((ptFl ports prates).take k).foldl addP (sumP (sgFl segs rates)), rfl, fun k s r hk hk2 => ?_, fun k => ?_, ?_, fun k s r hk hk2 => ?_, fun k => ?_, ?_⟩
  · have e : (sgFl segs rates)[k]? = some (s.1.fr, s.1.to, r) := by
      simp only [sgFl, List.getElem?_map, (List.getElem?_zip_eq_some (z := (s, r))).2 ⟨hk, hk2⟩, Option.map_some]
    obtain ⟨hk3, e2⟩ := List.getElem?_eq_some_iff.1 e
    simp only [List.take_succ_eq_append_getElem hk3, e2, List.foldl_append, List.foldl_cons, List.foldl_nil]
  · have := sumP_ok ((sgFl segs rates).take k) _ _ zero24_ok (fun x hx => b1 x (List.mem_of_mem_take hx))
    exact up this (by rw [List.length_take]; omega)
  · simp only [List.take_zero, List.foldl_nil, sumP]
    rw [List.take_of_length_le (by omega)]
  · have e : (ptFl ports prates)[k]? = some (-1, s.2.1, r) := by
      simp only [ptFl, List.getElem?_map, (List.getElem?_zip_eq_some (z := (s, r))).2 ⟨hk, hk2⟩, Option.map_some]
    obtain ⟨hk3, e2⟩ := List.getElem?_eq_some_iff.1 e
    simp only [List.take_succ_eq_append_getElem hk3, e2, List.foldl_append, List.foldl_cons, List.foldl_nil]
  · have h0 := sumP_ok (sgFl segs rates) _ _ zero24_ok b1
    have := sumP_ok ((ptFl ports prates).take k) _ _ h0 (fun x hx => b2 x (List.mem_of_mem_take hx))
    exact up this (by rw [List.length_take]; omega)
  · simp only [sumP, List.foldl_append]
    rw [List.take_of_length_le (by omega)]
@[go_sem] def plnL (rates prates : List Int) (pumps : T) : List T := [.sl 1 (rates.map encI), .sl 1 (prates.map encI), pumps]
structure PlnOk (d : NetD) (rates prates : List Int) : Prop where
  l1 : rates.length = d.segs.length
  l2 : prates.length = d.ports.length
  b1 : ∀ r ∈ rates, -1000 ≤ r ∧ r ≤ 1000
  b2 : ∀ r ∈ prates, -1000 ≤ r ∧ r ≤ 1000
@[go_sem] def strT (s : List Int × List Int) : T := .agg [.agg (s.1.map encI), .agg (s.2.map encI)]
@[go_sem] def zeroT : T := .agg [.agg [.int 0, .int 0, .int 0, .int 0, .int 0, .int 0, .int 0, .int 0, .int 0, .int 0, .int 0, .int 0, .int 0, .int 0, .int 0, .int 0, .int 0, .int 0, .int 0, .int 0, .int 0, .int 0, .int 0, .int 0], .agg [.int 0, .int 0, .int 0, .int 0, .int 0, .int 0, .int 0, .int 0, .int 0, .int 0, .int 0, .int 0, .int 0, .int 0, .int 0, .int 0, .int 0, .int 0, .int 0, .int 0, .int 0, .int 0, .int 0, .int 0]]
theorem sums_fn (d : NetD) (h : NetOk d) (rates prates : List Int) (pumps : T) (hw : pumps.width = 1) (hp : PlnOk d rates prates) :
    FnOk Tryz.prog 96 [.t (.agg d.l), .t (.agg (plnL rates prates pumps))] [] (.t (strT (sumP (sgFl d.segs rates ++ ptFl d.ports prates)))) [] := by
  have h1 := h.n1
  have h3 := h.s1
  have h4 := h.p1
  have q1 := hp.l1
  have q2 := hp.l2
  obtain ⟨A, P, a0, aS, ao, p0, pS, po, pe⟩ := sums_ex d.segs d.ports rates prates q1 q2 h3 h4 hp.b1 hp.b2
  rw [← pe]
  have a0' : A 0 = ([0,0,0,0,0,0,0,0,0,0,0,0,0,0,0,0,0,0,0,0,0,0,0,0], [0,0,0,0,0,0,0,0,0,0,0,0,0,0,0,0,0,0,0,0,0,0,0,0]) := a0
  refine FnOk.intro fact_mixed Tryz.func96 rfl Tryz.ntmps96 (by rfl) (by simp) ?_
  repeat (first | (refine nf1_sound rfl ?_; simp [go_sem, ↓iO, iO, tN]) | refine anI ?_ | refine ⟨dcK, ?_⟩ | ((first | refine iP ?_ | refine iN ?_); try simp [go_sem, ↓iO, iO, tN]))
  refine nf1_sound' _ _ _ ?_; simp only [nf1]
  refine CW.loop (ι := Nat) (fun k => ⟨[(2, .pt 502 [] 0), (3, .pt 503 [] 0), (4, .pt 504 [] 0), (5, .pt 505 [] 0), (11, .t (.sl 7 (d.segs.map encSg))), (12, .t (.int d.segs.length)), (13, .t (.int k))], [(502, .box 33 (.t (.agg d.l))), (503, .box 45 (.t (.agg (plnL rates prates pumps)))), (504, .box 151 (.t zeroT)), (505, .box 151 (.t (strT (A k))))]⟩)
    (fun k => k ≤ d.segs.length) (fun k => d.segs.length - k) 0 [(502, some 102), (503, some 103), (504, some 104), (505, some 105)] (by omega) ?_ ?_
  · simp [go_sem, ↓iO, iO, tN, a0']
  intro k hk
  by_cases hb : k < d.segs.length
  · obtain ⟨s, hs⟩ := has_get hb
    obtain ⟨r, hr⟩ : ∃ r, rates[k]? = some r := has_get (by omega)
    have e1 := aS k s r hs hr
    have e2 := ao k
    have e3 := h.knS s (mem_get hs)
    have e4 := hp.b1 r (mem_get hr)
    obtain ⟨⟨nm, fr, to, cp, rs, wv⟩, pts⟩ := s
    dsimp only at e1 e3
    have c := add_fn (A k).1 (A k).2 fr to r e2.l1 e2.l2 (by omega) (by omega) e4 (fun x hx => by have := e2.b1 x hx; omega) (fun x hx => by have := e2.b2 x hx; omega)
    repeat (first | (refine nf1_sound rfl ?_; simp [go_sem, ↓iO, iO, tN, hs, hr]) | refine anI ?_ | refine ⟨dcK, ?_⟩ | ((first | refine iP ?_ | refine iN ?_); try simp [go_sem, ↓iO, iO, tN, hs, hr]))
    refine CallK.fn (c) [(0, 505)] [] [] (by kernel_rfl) ?_ ?_ ?_ (Or.inl rfl) ?_ <;> simp [go_sem, ↓iO, iO, tN, hs, hr]
    repeat (refine anI ?_)
    try (refine ⟨dcK, ?_⟩)
    repeat (first | (refine nf1_sound rfl ?_; simp [go_sem, ↓iO, iO, tN, hs, hr]) | refine anI ?_ | refine ⟨dcK, ?_⟩ | ((first | refine iP ?_ | refine iN ?_); try simp [go_sem, ↓iO, iO, tN, hs, hr]))
    rw [RoundQ_normal]; refine ⟨k + 1, [(502, some 502), (503, some 503), (504, some 504), (505, some 505)], ?_, ?_, ?_⟩
    · omega
    · omega
    simp [go_sem, ↓iO, iO, tN, e1, addP]
  · obtain rfl : k = d.segs.length := by omega
    repeat (first | (refine nf1_sound rfl ?_; simp [go_sem, ↓iO, iO, tN]) | refine anI ?_ | refine ⟨dcK, ?_⟩ | ((first | refine iP ?_ | refine iN ?_); try simp [go_sem, ↓iO, iO, tN]))
    refine nf1_sound' _ _ _ ?_; simp only [nf1]
    refine CW.loop (ι := Nat) (fun k => ⟨[(2, .pt 502 [] 0), (3, .pt 503 [] 0), (4, .pt 504 [] 0), (5, .pt 505 [] 0), (30, .t (.sl 3 (d.ports.map encPr))), (31, .t (.int d.ports.length)), (32, .t (.int k))], [(502, .box 33 (.t (.agg d.l))), (503, .box 45 (.t (.agg (plnL rates prates pumps)))), (504, .box 151 (.t zeroT)), (505, .box 151 (.t (strT (P k))))]⟩)
      (fun k => k ≤ d.ports.length) (fun k => d.ports.length - k) 0 [(502, some 502), (503, some 503), (504, some 504), (505, some 505)] (by omega) ?_ ?_
    · simp [go_sem, ↓iO, iO, tN, p0]
    intro k hk
    by_cases hb : k < d.ports.length
    · obtain ⟨s, hs⟩ := has_get hb
      obtain ⟨r, hr⟩ : ∃ r, prates[k]? = some r := has_get (by omega)
      have e1 := pS k s r hs hr
      have e2 := po k
      have e3 := h.knP s (mem_get hs)
      have e4 := hp.b2 r (mem_get hr)
      obtain ⟨nm, nd, pr⟩ := s
      dsimp only at e1 e3
      have c := add_fn (P k).1 (P k).2 (-1) nd r e2.l1 e2.l2 (by omega) (by omega) e4 (fun x hx => by have := e2.b1 x hx; omega) (fun x hx => by have := e2.b2 x hx; omega)
      repeat (first | (refine nf1_sound rfl ?_; simp [go_sem, ↓iO, iO, tN, hs, hr]) | refine anI ?_ | refine ⟨dcK, ?_⟩ | ((first | refine iP ?_ | refine iN ?_); try simp [go_sem, ↓iO, iO, tN, hs, hr]))
      refine CallK.fn (c) [(0, 505)] [] [] (by kernel_rfl) ?_ ?_ ?_ (Or.inl rfl) ?_ <;> simp [go_sem, ↓iO, iO, tN, hs, hr]
      repeat (refine anI ?_)
      try (refine ⟨dcK, ?_⟩)
      repeat (first | (refine nf1_sound rfl ?_; simp [go_sem, ↓iO, iO, tN, hs, hr]) | refine anI ?_ | refine ⟨dcK, ?_⟩ | ((first | refine iP ?_ | refine iN ?_); try simp [go_sem, ↓iO, iO, tN, hs, hr]))
      rw [RoundQ_normal]; refine ⟨k + 1, [(502, some 502), (503, some 503), (504, some 504), (505, some 505)], ?_, ?_, ?_⟩
      · omega
      · omega
      simp [go_sem, ↓iO, iO, tN, e1, addP]
    · obtain rfl : k = d.ports.length := by omega
      have o1 := (po d.ports.length).l1
      have o2 := (po d.ports.length).l2
      repeat (first | (refine nf1_sound rfl ?_; simp [go_sem, ↓iO, iO, tN, o1, o2]) | refine anI ?_ | refine ⟨dcK, ?_⟩ | ((first | refine iP ?_ | refine iN ?_); try simp [go_sem, ↓iO, iO, tN, o1, o2]))
      first | rw [RetQ_ret] | rw [RetQ_normal]
      refine ⟨[], ?_⟩
      simp [go_sem, ↓iO, iO, tN, o1, o2]
theorem ends2_fn (s : Sgm) (r : Int) : FnOk Tryz.prog 97 [.t (encSg s), .t (.int r)] [] (.tup [.t (.int (fFr s.1.fr s.1.to r)), .t (.int (fTo s.1.fr s.1.to r))]) [] := by
  obtain ⟨⟨nm, fr, to, cp, rs, wv⟩, pts⟩ := s
  refine FnOk.intro fact_mixed Tryz.func97 rfl Tryz.ntmps97 (by rfl) (by simp) ?_
  by_cases hr : r < 0
  · repeat (first | (refine nf1_sound rfl ?_; simp [go_sem, ↓iO, iO, tN, hr]) | refine anI ?_ | refine ⟨dcK, ?_⟩ | ((first | refine iP ?_ | refine iN ?_); try simp [go_sem, ↓iO, iO, tN, hr]))
    first | rw [RetQ_ret] | rw [RetQ_normal]
    refine ⟨[], ?_⟩
    simp [go_sem, ↓iO, iO, tN, fFr, fTo, hr]
  · repeat (first | (refine nf1_sound rfl ?_; simp [go_sem, ↓iO, iO, tN, hr]) | refine anI ?_ | refine ⟨dcK, ?_⟩ | ((first | refine iP ?_ | refine iN ?_); try simp [go_sem, ↓iO, iO, tN, hr]))
    first | rw [RetQ_ret] | rw [RetQ_normal]
    refine ⟨[], ?_⟩
    simp [go_sem, ↓iO, iO, tN, fFr, fTo, hr]
@[go_sem] def encBl (b : Bool) : T := .bool b
def blkB (out : List Nat) (k : Nat) (x : Int × Int × Int) : Bool := x.2.2 != 0 && fTo x.1 x.2.1 x.2.2 == (k : Int) && !(out.contains (fFr x.1 x.2.1 x.2.2).toNat)
def rdyB (F : flows) (out : List Nat) (k : Nat) : Bool := F.all fun x => !(blkB out k x)
def nextB (F : flows) (n : Nat) (out : List Nat) : Option Nat := (List.range n).find? fun k => !out.contains k && rdyB F out k
def ordV (F : flows) (n : Nat) : Nat → List Nat → List Nat
  | 0, out => out
  | f + 1, out => match nextB F n out with
    | none => out
    | some k => ordV F n f (out ++ [k])
def thV (n : Nat) (out : List Nat) : List Bool := (List.range n).map fun j => out.contains j
theorem thV_len (n out) : (thV n out).length = n := by simp [thV]
theorem thV_get (n : Nat) (out : List Nat) (j : Nat) (h : j < n) : (thV n out)[j]? = some (out.contains j) := by simp [thV, h]
theorem thV_nil (n : Nat) : thV n [] = List.replicate n false := by
  apply List.ext_getElem <;> simp [thV]
theorem thV_set (n : Nat) (out : List Nat) (k : Nat) (h : k < n) : (thV n out).set k true = thV n (out ++ [k]) := by
  apply List.ext_getElem
  · simp [thV]
  intro i h1 h2
  rw [List.getElem_set]
  simp only [thV, List.getElem_map, List.getElem_range]
  by_cases e : k = i
  · subst e; simp
  · simp only [if_neg e]
    have : i ≠ k := fun q => e q.symm
    simp [List.contains_eq_mem, this]
structure OrdI (F : flows) (n : Nat) (fin : List Nat) (p : List Nat × Nat) : Prop where
  k1 : p.2 ≤ n
  nd : p.1.Nodup
  lt : ∀ j ∈ p.1, j < n
  bf : ∀ j, j < p.2 → p.1.contains j = true ∨ rdyB F p.1 j = false
  fi : ordV F n (n - p.1.length) p.1 = fin
theorem nodup_len {n : Nat} {l : List Nat} (hn : l.Nodup) (hl : ∀ j ∈ l, j < n) : l.length ≤ n := by
  have := List.Nodup.length_le_of_subset hn (l₂ := List.range n) (fun j hj => List.mem_range.2 (hl j hj))
  simpa using this
theorem OrdI.len {F n fin p} (h : OrdI F n fin p) : p.1.length ≤ n := nodup_len h.nd h.lt
theorem OrdI.skip {F n fin p} (h : OrdI F n fin p) (hk : p.2 < n) (hb : p.1.contains p.2 = true ∨ rdyB F p.1 p.2 = false) : OrdI F n fin (p.1, p.2 + 1) :=
  ⟨by show p.2 + 1 ≤ n; omega, h.nd, h.lt, fun j hj => by
    by_cases e : j = p.2
    · subst e; exact hb
    · exact h.bf j (by have : j < p.2 + 1 := hj; omega), h.fi⟩
theorem OrdI.take {F n fin p} (h : OrdI F n fin p) (hk : p.2 < n) (hb : p.1.contains p.2 = false) (hr : rdyB F p.1 p.2 = true) : p.1.length < n ∧ OrdI F n fin (p.1 ++ [p.2], 0) := by
  have hnm : p.2 ∉ p.1 := by simpa [List.contains_eq_mem] using hb
  have nd' : (p.1 ++ [p.2]).Nodup := by
    rw [List.nodup_append]
    exact ⟨h.nd, by simp, fun a ha b hb e => by simp at hb; subst hb; subst e; exact hnm ha⟩
  have lt' : ∀ j ∈ p.1 ++ [p.2], j < n := fun j hj => by
    rcases List.mem_append.1 hj with hj | hj
    · exact h.lt j hj
    · simp at hj; omega
  have hl := nodup_len nd' lt'
  simp only [List.length_append, List.length_cons, List.length_nil] at hl
  refine ⟨by omega, Nat.zero_le _, nd', lt', fun j hj => absurd hj (by simp), ?_⟩
  rw [← h.fi]
  obtain ⟨f, hf⟩ : ∃ f, n - p.1.length = f + 1 := ⟨n - p.1.length - 1, by omega⟩
  have hN : nextB F n p.1 = some p.2 := by
    unfold nextB
    rw [List.find?_range_eq_some]
    refine ⟨by simp [hnm, hr], by simpa using hk, fun j hj => ?_⟩
    rcases h.bf j hj with e | e
    · have e : j ∈ p.1 := by simpa using e
      simp [e]
    · simp [e]
  rw [hf]
  show _ = (match nextB F n p.1 with | none => p.1 | some k => ordV F n f (p.1 ++ [k]))
  rw [hN]
  show ordV F n (n - (p.1 ++ [p.2]).length) (p.1 ++ [p.2]) = _
  have : n - (p.1 ++ [p.2]).length = f := by simp only [List.length_append, List.length_cons, List.length_nil]; omega
  rw [this]
theorem OrdI.done {F n fin p} (h : OrdI F n fin p) (hk : p.2 = n) : p.1 = fin := by
  rw [← h.fi]
  cases hf : n - p.1.length with
  | zero => rfl
  | succ f =>
    show _ = (match nextB F n p.1 with | none => p.1 | some k => ordV F n f (p.1 ++ [k]))
    have hN : nextB F n p.1 = none := by
      unfold nextB
      rw [List.find?_eq_none]
      intro j hj
      rcases h.bf j (by rw [hk]; exact List.mem_range.1 hj) with e | e
      · have e : j ∈ p.1 := by simpa using e
        simp [e]
      · simp [e]
    rw [hN]
theorem ends3 (d : NetD) (h : NetOk d) (s : Sgm) (hs : s ∈ d.segs) (r : Int) : 0 ≤ fFr s.1.fr s.1.to r ∧ fFr s.1.fr s.1.to r < d.nn.length := by
  have := h.knS s hs
  unfold fFr; split <;> omega
theorem rdy_of (F : flows) (out : List Nat) (k : Nat) (h : ∀ (i : Nat) x, F[i]? = some x → blkB out k x = false) : rdyB F out k = true := by
  rw [rdyB, List.all_eq_true]
  intro x hx
  obtain ⟨i, hi, rfl⟩ := List.getElem_of_mem hx
  simp [h i _ (List.getElem?_eq_getElem hi)]
theorem nrdy_of (F : flows) (out : List Nat) (k i : Nat) (x : Int × Int × Int) (hx : F[i]? = some x) (h : blkB out k x = true) : rdyB F out k = false := by
  rw [rdyB, List.all_eq_false]
  exact ⟨x, mem_get hx, by simp [h]⟩
theorem order_fn (d : NetD) (h : NetOk d) (rates prates : List Int) (pumps : T) (hw : pumps.width = 1) (hp : PlnOk d rates prates) :
    FnOk Tryz.prog 65 [.t (.agg d.l), .t (.agg (plnL rates prates pumps))] [] (.t (.sl 1 (((ordV (sgFl d.segs rates) d.nn.length d.nn.length []).map Int.ofNat).map encI))) [] := by
  have h0 := h.n0
  have h1 := h.n1
  have h3 := h.s1
  have q1 := hp.l1
  obtain ⟨n, hn⟩ : ∃ n, d.nn.length = n := ⟨_, rfl⟩
  obtain ⟨F, hF⟩ : ∃ F, sgFl d.segs rates = F := ⟨_, rfl⟩
  have hFg : ∀ (i : Nat) s r, d.segs[i]? = some s → rates[i]? = some r → F[i]? = some (s.1.fr, s.1.to, r) := fun i s r hs hr => by
    rw [← hF]
    simp only [sgFl, List.getElem?_map, (List.getElem?_zip_eq_some (z := (s, r))).2 ⟨hs, hr⟩, Option.map_some]
  have hFl : F.length = d.segs.length := by rw [← hF]; simp [sgFl, q1]
  rw [hF, hn]
  obtain ⟨fin, hfin⟩ : ∃ fin, ordV F n n [] = fin := ⟨_, rfl⟩
  rw [hfin]
  have t0 := thV_nil n
  have tl := thV_len n
  refine FnOk.intro fact_mixed Tryz.func65 rfl Tryz.ntmps65 (by rfl) (by simp) ?_
  repeat (first | (refine nf1_sound rfl ?_; simp [go_sem, ↓iO, iO, tN, hn]) | refine anI ?_ | refine ⟨dcK, ?_⟩ | ((first | refine iP ?_ | refine iN ?_); try simp [go_sem, ↓iO, iO, tN, hn]))
  refine nf1_sound' _ _ _ ?_; simp only [nf1]
  refine CW.loop (ι := List Nat × Nat) (fun p => ⟨[(2, .pt 502 [] 0), (3, .pt 503 [] 0), (5, .own 510), (6, .own 511), (7, .t (.int p.2))], [(502, .box 33 (.t (.agg d.l))), (503, .box 45 (.t (.agg (plnL rates prates pumps)))), (510, .list 3 1 ((p.1.map Int.ofNat).map encI)), (511, .list 4 1 ((thV n p.1).map encBl))]⟩)
    (fun p => OrdI F n fin p) (fun p => (n - p.1.length) * (n + 1) + (n - p.2)) ([], 0) [(502, some 102), (503, some 103), (510, none), (511, some 115)] ⟨Nat.zero_le _, List.nodup_nil, by simp, by simp, hfin⟩ ?_ ?_
  · simp [go_sem, ↓iO, iO, tN, t0]
  rintro ⟨o, k⟩ hI
  have hkn := hI.k1
  have hol := hI.len
  dsimp only at hkn hol ⊢
  by_cases hk : k < n
  · have hg := thV_get n o k hk
    by_cases hc : o.contains k = true
    · rw [hc] at hg
      repeat (first | (refine nf1_sound rfl ?_; simp [go_sem, ↓iO, iO, tN, hn, hg, tl]) | refine anI ?_ | refine ⟨dcK, ?_⟩ | ((first | refine iP ?_ | refine iN ?_); try simp [go_sem, ↓iO, iO, tN, hn, hg, tl]))
      rw [RoundQ_normal]; refine ⟨(o, k + 1), [(502, some 502), (503, some 503), (510, some 510), (511, some 511)], ?_, ?_, ?_⟩
      · exact hI.skip hk (Or.inl hc)
      · show (n - o.length) * (n + 1) + (n - (k + 1)) < (n - o.length) * (n + 1) + (n - k)
        omega
      simp [go_sem, ↓iO, iO, tN]
    · have hc : o.contains k = false := by simpa using hc
      rw [hc] at hg
      repeat (first | (refine nf1_sound rfl ?_; simp [go_sem, ↓iO, iO, tN, hn, hg, tl]) | refine anI ?_ | refine ⟨dcK, ?_⟩ | ((first | refine iP ?_ | refine iN ?_); try simp [go_sem, ↓iO, iO, tN, hn, hg, tl]))
      refine nf1_sound' _ _ _ ?_; simp only [nf1]
      refine CW.loop (ι := Nat) (fun i => ⟨[(2, .pt 502 [] 0), (3, .pt 503 [] 0), (5, .own 510), (6, .own 511), (7, .t (.int k)), (28, .t (.sl 7 (d.segs.map encSg))), (29, .t (.int d.segs.length)), (30, .t (.int i))], [(502, .box 33 (.t (.agg d.l))), (503, .box 45 (.t (.agg (plnL rates prates pumps)))), (510, .list 3 1 ((o.map Int.ofNat).map encI)), (511, .list 4 1 ((thV n o).map encBl))]⟩)
        (fun i => i ≤ d.segs.length ∧ ∀ (j : Nat) x, j < i → F[j]? = some x → blkB o k x = false) (fun i => d.segs.length - i) 0 [(502, some 502), (503, some 503), (510, some 510), (511, some 511)] ⟨by omega, by omega⟩ ?_ ?_
      · simp [go_sem, ↓iO, iO, tN]
      rintro i ⟨hi, hbf⟩
      by_cases hb : i < d.segs.length
      · obtain ⟨s, hs⟩ := has_get hb
        obtain ⟨r, hr⟩ : ∃ r, rates[i]? = some r := has_get (by omega)
        have e1 := hFg i s r hs hr
        have e2 := ends3 d h s (mem_get hs) r
        have c := ends2_fn s r
        obtain ⟨fi, hfi⟩ : ∃ f, fFr s.1.fr s.1.to r = f := ⟨_, rfl⟩
        obtain ⟨ti, hti⟩ : ∃ f, fTo s.1.fr s.1.to r = f := ⟨_, rfl⟩
        rw [hfi, hti] at c
        rw [hfi] at e2
        have hB : blkB o k (s.1.fr, s.1.to, r) = (r != 0 && ti == (k : Int) && !(o.contains fi.toNat)) := by simp only [blkB, hfi, hti]
        obtain ⟨m, hm⟩ : ∃ m, o.contains fi.toNat = m := ⟨_, rfl⟩
        have hgf := thV_get n o fi.toNat (by omega)
        rw [hm] at hgf hB
        have go : blkB o k (s.1.fr, s.1.to, r) = false → ∀ (j : Nat) x, j < i + 1 → F[j]? = some x → blkB o k x = false := fun hz j x hj hx => by
          by_cases e : j = i
          · subst e; rw [e1] at hx; cases hx; exact hz
          · exact hbf j x (by omega) hx
        repeat (first | (refine nf1_sound rfl ?_; simp [go_sem, ↓iO, iO, tN, hn, hs, hr]) | refine anI ?_ | refine ⟨dcK, ?_⟩ | ((first | refine iP ?_ | refine iN ?_); try simp [go_sem, ↓iO, iO, tN, hn, hs, hr]))
        refine CallK.fn (c) [] [] [] (by kernel_rfl) ?_ ?_ ?_ (Or.inl rfl) ?_ <;> simp [go_sem, ↓iO, iO, tN, hn, hs, hr]
        repeat (refine anI ?_)
        try (refine ⟨dcK, ?_⟩)
        obtain ⟨⟨nm, fr, to, cp, rs, wv⟩, pts⟩ := s
        by_cases hr0 : r = 0
        · have hz : blkB o k (fr, to, r) = false := by rw [hB]; simp [hr0]
          repeat (first | (refine nf1_sound rfl ?_; simp [go_sem, ↓iO, iO, tN, hn, hs, hr, hr0]) | refine anI ?_ | refine ⟨dcK, ?_⟩ | ((first | refine iP ?_ | refine iN ?_); try simp [go_sem, ↓iO, iO, tN, hn, hs, hr, hr0]))
          rw [RoundQ_normal]; refine ⟨i + 1, [(502, some 502), (503, some 503), (510, some 510), (511, some 511)], ?_, ?_, ?_⟩
          · exact ⟨by omega, fun j a b c => go hz j (a, b, c)⟩
          · omega
          simp [go_sem, ↓iO, iO, tN]
        · by_cases ht : ti = k
          · cases m with
            | true =>
              have hz : blkB o k (fr, to, r) = false := by rw [hB]; simp
              repeat (first | (refine nf1_sound rfl ?_; simp [go_sem, ↓iO, iO, tN, hn, hs, hr, hr0, ht, hgf, tl]) | refine anI ?_ | refine ⟨dcK, ?_⟩ | ((first | refine iP ?_ | refine iN ?_); try simp [go_sem, ↓iO, iO, tN, hn, hs, hr, hr0, ht, hgf, tl]))
              rw [RoundQ_normal]; refine ⟨i + 1, [(502, some 502), (503, some 503), (510, some 510), (511, some 511)], ?_, ?_, ?_⟩
              · exact ⟨by omega, fun j a b c => go hz j (a, b, c)⟩
              · omega
              simp [go_sem, ↓iO, iO, tN]
            | false =>
              have hz : blkB o k (fr, to, r) = true := by rw [hB]; simp [hr0, ht]
              repeat (first | (refine nf1_sound rfl ?_; simp [go_sem, ↓iO, iO, tN, hn, hs, hr, hr0, ht, hgf, tl]) | refine anI ?_ | refine ⟨dcK, ?_⟩ | ((first | refine iP ?_ | refine iN ?_); try simp [go_sem, ↓iO, iO, tN, hn, hs, hr, hr0, ht, hgf, tl]))
              rw [RoundQ_normal]; refine ⟨(o, k + 1), [(502, some 502), (503, some 503), (510, some 510), (511, some 511)], ?_, ?_, ?_⟩
              · exact hI.skip hk (Or.inr (nrdy_of F o k i _ e1 hz))
              · show (n - o.length) * (n + 1) + (n - (k + 1)) < (n - o.length) * (n + 1) + (n - k)
                omega
              simp [go_sem, ↓iO, iO, tN]
          · have hz : blkB o k (fr, to, r) = false := by rw [hB]; simp [ht]
            repeat (first | (refine nf1_sound rfl ?_; simp [go_sem, ↓iO, iO, tN, hn, hs, hr, hr0, ht]) | refine anI ?_ | refine ⟨dcK, ?_⟩ | ((first | refine iP ?_ | refine iN ?_); try simp [go_sem, ↓iO, iO, tN, hn, hs, hr, hr0, ht]))
            rw [RoundQ_normal]; refine ⟨i + 1, [(502, some 502), (503, some 503), (510, some 510), (511, some 511)], ?_, ?_, ?_⟩
            · exact ⟨by omega, fun j a b c => go hz j (a, b, c)⟩
            · omega
            simp [go_sem, ↓iO, iO, tN]
      · obtain rfl : i = d.segs.length := by omega
        have hrd : rdyB F o k = true := rdy_of F o k fun i x hx => hbf i x (by have := (List.getElem?_eq_some_iff.1 hx).1; omega) hx
        obtain ⟨z1, z2⟩ := hI.take hk hc hrd
        dsimp only at z1
        have e5 := thV_set n o k hk
        repeat (first | (refine nf1_sound rfl ?_; simp [go_sem, ↓iO, iO, tN, hn, hg, tl]) | refine anI ?_ | refine ⟨dcK, ?_⟩ | ((first | refine iP ?_ | refine iN ?_); try simp [go_sem, ↓iO, iO, tN, hn, hg, tl]))
        rw [RoundQ_normal]; refine ⟨(o ++ [k], 0), [(502, some 502), (503, some 503), (510, some 170), (511, some 511)], ?_, ?_, ?_⟩
        · exact z2
        · show (n - (o ++ [k]).length) * (n + 1) + (n - 0) < (n - o.length) * (n + 1) + (n - k)
          simp only [List.length_append, List.length_cons, List.length_nil]
          obtain ⟨q, hq⟩ : ∃ q, n - o.length = q + 1 := ⟨n - o.length - 1, by omega⟩
          have : n - (o.length + (0 + 1)) = q := by omega
          rw [this, hq, Nat.add_mul]; omega
        simp [go_sem, ↓iO, iO, tN]
        rw [← e5, List.map_set]
        rfl
  · obtain rfl : k = n := by omega
    have := hI.done rfl
    dsimp only at this
    subst this
    repeat (first | (refine nf1_sound rfl ?_; simp [go_sem, ↓iO, iO, tN, hn]) | refine anI ?_ | refine ⟨dcK, ?_⟩ | ((first | refine iP ?_ | refine iN ?_); try simp [go_sem, ↓iO, iO, tN, hn]))
    first | rw [RetQ_ret] | rw [RetQ_normal]
    refine ⟨[], ?_⟩
    simp [go_sem, ↓iO, iO, tN]
structure FlowOk (d : NetD) (rates prates : List Int) (pl : List T) : Prop where
  pln : PlnOk d rates prates
  cap : ∀ (k : Nat) s r, d.segs[k]? = some s → rates[k]? = some r → -s.1.cp ≤ r ∧ r ≤ s.1.cp
  pum : pl.length = d.stns.length
  bal : (sumP (sgFl d.segs rates ++ ptFl d.ports prates)).1 = (sumP (sgFl d.segs rates ++ ptFl d.ports prates)).2
  acy : (ordV (sgFl d.segs rates) d.nn.length d.nn.length []).length = d.nn.length
theorem sumP_len (l : flows) (h : ∀ x ∈ l, -1000 ≤ x.2.2 ∧ x.2.2 ≤ 1000) : (sumP l).1.length = 24 ∧ (sumP l).2.length = 24 := ⟨(sumP_ok l _ _ zero24_ok h).l1, (sumP_ok l _ _ zero24_ok h).l2⟩
theorem fcheckG_fn (d : NetD) (h : NetOk d) (rates prates : List Int) (pl : List T) (hf : FlowOk d rates prates pl) :
    FnOk Tryz.prog 64 [.t (.agg d.l), .t (.agg (plnL rates prates (.sl 1 pl)))] [] (.t (.int 0)) [] := by
  have hp := hf.pln
  have h0 := h.n0
  have h1 := h.n1
  have h3 := h.s1
  have h4 := h.p1
  have h5 := h.t1
  have q1 := hp.l1
  have q2 := hp.l2
  have q3 := hf.pum
  have c1 := ncheckG_fn d h
  have c2 := fci_cont prates (by omega) (fun p hq => fcheck1_fn p (hp.b2 p hq))
  have c3 := sums_fn d h rates prates (.sl 1 pl) rfl hp
  have c4 := order_fn d h rates prates (.sl 1 pl) rfl hp
  obtain ⟨O, hO⟩ : ∃ O, ordV (sgFl d.segs rates) d.nn.length d.nn.length [] = O := ⟨_, rfl⟩
  rw [hO] at c4
  have q4 := hf.acy
  rw [hO] at q4
  obtain ⟨A, hA⟩ : ∃ A, (sumP (sgFl d.segs rates ++ ptFl d.ports prates)).1 = A := ⟨_, rfl⟩
  have hA2 := hf.bal
  rw [hA] at hA2
  have hl : A.length = 24 := by
    rw [hA2]
    refine (sumP_len _ fun x hx => ?_).2
    rcases List.mem_append.1 hx with hx | hx
    · obtain ⟨y, hy, rfl⟩ := List.mem_map.1 hx
      exact hp.b1 _ (List.of_mem_zip hy).2
    · obtain ⟨y, hy, rfl⟩ := List.mem_map.1 hx
      exact hp.b2 _ (List.of_mem_zip hy).2
  simp only [strT, ← hA2, hA] at c3
  have hq : eqAs Tryz.prog 3 (A.map encI) (A.map encI) = some true := eq_ints A
  refine FnOk.intro fact_mixed Tryz.func64 rfl Tryz.ntmps64 (by rfl) (by simp) ?_
  repeat (first | (refine nf1_sound rfl ?_; simp [go_sem, ↓iO, iO, tN]) | refine anI ?_ | refine ⟨dcK, ?_⟩ | ((first | refine iP ?_ | refine iN ?_); try simp [go_sem, ↓iO, iO, tN]))
  refine CallK.fn (c1) [] [] [] (by kernel_rfl) ?_ ?_ ?_ (Or.inl rfl) ?_ <;> simp [go_sem, ↓iO, iO, tN]
  repeat (refine anI ?_)
  try (refine ⟨dcK, ?_⟩)
  repeat (first | (refine nf1_sound rfl ?_; simp [go_sem, ↓iO, iO, tN, q1, q2, q3]) | refine anI ?_ | refine ⟨dcK, ?_⟩ | ((first | refine iP ?_ | refine iN ?_); try simp [go_sem, ↓iO, iO, tN, q1, q2, q3]))
  refine nf1_sound' _ _ _ ?_; simp only [nf1]
  refine CW.loop (ι := Nat) (fun k => ⟨[(2, .pt 502 [] 0), (3, .pt 503 [] 0), (40, .t (.sl 7 (d.segs.map encSg))), (41, .t (.int d.segs.length)), (42, .t (.int k))], [(502, .box 33 (.t (.agg d.l))), (503, .box 45 (.t (.agg (plnL rates prates (.sl 1 pl)))))]⟩) (fun k => k ≤ d.segs.length) (fun k => d.segs.length - k) 0 [(502, some 102), (503, some 103)] (by omega) ?_ ?_
  · simp [go_sem, ↓iO, iO, tN]
  intro k hk
  by_cases hb : k < d.segs.length
  · obtain ⟨s, hs⟩ := has_get hb
    obtain ⟨r, hr⟩ : ∃ r, rates[k]? = some r := has_get (by omega)
    have e1 := hf.cap k s r hs hr
    have e2 := hp.b1 r (mem_get hr)
    have e3 := (h.pipe s (mem_get hs)).cap
    obtain ⟨⟨nm, fr, to, cp, rs, wv⟩, pts⟩ := s
    dsimp only at e1 e3
    obtain ⟨m, hm⟩ : ∃ m, min 1000 cp = m := ⟨_, rfl⟩
    have c5 := within_fn r m (by omega) (by omega)
    repeat (first | (refine nf1_sound rfl ?_; simp [go_sem, ↓iO, iO, tN, hs, hr, hm]) | refine anI ?_ | refine ⟨dcK, ?_⟩ | ((first | refine iP ?_ | refine iN ?_); try simp [go_sem, ↓iO, iO, tN, hs, hr, hm]))
    refine CallK.fn (c5) [] [] [] (by kernel_rfl) ?_ ?_ ?_ (Or.inl rfl) ?_ <;> simp [go_sem, ↓iO, iO, tN, hs, hr, hm]
    repeat (refine anI ?_)
    try (refine ⟨dcK, ?_⟩)
    repeat (first | (refine nf1_sound rfl ?_; simp [go_sem, ↓iO, iO, tN]) | refine anI ?_ | refine ⟨dcK, ?_⟩ | ((first | refine iP ?_ | refine iN ?_); try simp [go_sem, ↓iO, iO, tN]))
    rw [RoundQ_normal]; refine ⟨k + 1, [(502, some 502), (503, some 503)], ?_, ?_, ?_⟩
    · omega
    · omega
    simp [go_sem, ↓iO, iO, tN]
  · obtain rfl : k = d.segs.length := by omega
    repeat (first | (refine nf1_sound rfl ?_; simp [go_sem, ↓iO, iO, tN]) | refine anI ?_ | refine ⟨dcK, ?_⟩ | ((first | refine iP ?_ | refine iN ?_); try simp [go_sem, ↓iO, iO, tN]))
    refine CallK.fn (c2) [] [] [] (by kernel_rfl) ?_ ?_ ?_ (Or.inl rfl) ?_ <;> simp [go_sem, ↓iO, iO, tN]
    repeat (refine anI ?_)
    try (refine ⟨dcK, ?_⟩)
    repeat (first | (refine nf1_sound rfl ?_; simp [go_sem, ↓iO, iO, tN]) | refine anI ?_ | refine ⟨dcK, ?_⟩ | ((first | refine iP ?_ | refine iN ?_); try simp [go_sem, ↓iO, iO, tN]))
    refine CallK.fn (c3) [] [] [] (by kernel_rfl) ?_ ?_ ?_ (Or.inl rfl) ?_ <;> simp [go_sem, ↓iO, iO, tN, hl]
    repeat (refine anI ?_)
    try (refine ⟨dcK, ?_⟩)
    repeat (first | (refine nf1_sound rfl ?_; simp [go_sem, ↓iO, iO, tN, hl, am_f, am_a, am_g, am_c, hq]) | refine anI ?_ | refine ⟨dcK, ?_⟩ | ((first | refine iP ?_ | refine iN ?_); try simp [go_sem, ↓iO, iO, tN, hl, am_f, am_a, am_g, am_c, hq]))
    refine CallK.fn (c4) [] [] [] (by kernel_rfl) ?_ ?_ ?_ (Or.inl rfl) ?_ <;> simp [go_sem, ↓iO, iO, tN]
    repeat (refine anI ?_)
    try (refine ⟨dcK, ?_⟩)
    repeat (first | (refine nf1_sound rfl ?_; simp [go_sem, ↓iO, iO, tN, q4]) | refine anI ?_ | refine ⟨dcK, ?_⟩ | ((first | refine iP ?_ | refine iN ?_); try simp [go_sem, ↓iO, iO, tN, q4]))
    first | rw [RetQ_ret] | rw [RetQ_normal]
    refine ⟨[], ?_⟩
    simp [go_sem, ↓iO, iO, tN]
theorem forderG_fn (d : NetD) (h : NetOk d) (rates prates : List Int) (pl : List T) (hf : FlowOk d rates prates pl) :
    FnOk Tryz.prog 48 [.t (.agg d.l), .t (.agg (plnL rates prates (.sl 1 pl)))] [] (.tup [.t (.sl 1 (((ordV (sgFl d.segs rates) d.nn.length d.nn.length []).map Int.ofNat).map encI)), .t (.int 0)]) [] := by
  have c1 := fcheckG_fn d h rates prates pl hf
  have c4 := order_fn d h rates prates (.sl 1 pl) rfl hf.pln
  obtain ⟨O, hO⟩ : ∃ O, ordV (sgFl d.segs rates) d.nn.length d.nn.length [] = O := ⟨_, rfl⟩
  rw [hO] at c4 ⊢
  refine FnOk.intro fact_mixed Tryz.func48 rfl Tryz.ntmps48 (by rfl) (by simp) ?_
  repeat (first | (refine nf1_sound rfl ?_; simp [go_sem, ↓iO, iO, tN]) | refine anI ?_ | refine ⟨dcK, ?_⟩ | ((first | refine iP ?_ | refine iN ?_); try simp [go_sem, ↓iO, iO, tN]))
  refine CallK.fn (c1) [] [] [] (by kernel_rfl) ?_ ?_ ?_ (Or.inl rfl) ?_ <;> simp [go_sem, ↓iO, iO, tN]
  repeat (refine anI ?_)
  try (refine ⟨dcK, ?_⟩)
  repeat (first | (refine nf1_sound rfl ?_; simp [go_sem, ↓iO, iO, tN]) | refine anI ?_ | refine ⟨dcK, ?_⟩ | ((first | refine iP ?_ | refine iN ?_); try simp [go_sem, ↓iO, iO, tN]))
  refine CallK.fn (c4) [] [] [] (by kernel_rfl) ?_ ?_ ?_ (Or.inl rfl) ?_ <;> simp [go_sem, ↓iO, iO, tN]
  repeat (refine anI ?_)
  try (refine ⟨dcK, ?_⟩)
  repeat (first | (refine nf1_sound rfl ?_; simp [go_sem, ↓iO, iO, tN]) | refine anI ?_ | refine ⟨dcK, ?_⟩ | ((first | refine iP ?_ | refine iN ?_); try simp [go_sem, ↓iO, iO, tN]))
  first | rw [RetQ_ret] | rw [RetQ_normal]
  refine ⟨[], ?_⟩
  simp [go_sem, ↓iO, iO, tN]
end Go.Proofs.YtdjmklobfjigoaaGreatDoor
namespace Go.Proofs.YtdjmklobfjigoaaGreatDoor
open Go.RowKit Sy Dl
theorem segYs_none (node : Int) (inn : Bool) : ∀ (k : Nat) (ps : List SegV) (rs : List Int), (∀ (i : Nat) p r, ps[i]? = some p → rs[i]? = some r → ¬ (r ≠ 0 ∧ tgt inn p.fr p.to r = node)) → segYs node inn k ps rs = []
  | k, [], rs, _ => by simp [segYs]
  | k, p :: ps, [], _ => by simp [segYs]
  | k, p :: ps, r :: rs, h => by
    simp only [segYs]
    rw [if_neg (h 0 p r rfl rfl)]
    exact segYs_none node inn (k + 1) ps rs fun i q s h1 h2 => h (i + 1) q s (by simpa using h1) (by simpa using h2)
theorem segYs_one (node : Int) (inn : Bool) : ∀ (k : Nat) (ps : List SegV) (rs : List Int) (i : Nat) (p : SegV) (r : Int), ps[i]? = some p → rs[i]? = some r → (r ≠ 0 ∧ tgt inn p.fr p.to r = node) → (∀ (j : Nat) p r, j ≠ i → ps[j]? = some p → rs[j]? = some r → ¬ (r ≠ 0 ∧ tgt inn p.fr p.to r = node)) → segYs node inn k ps rs = [(k + i, absI r)]
  | k, [], rs, i, p, r, h1, _, _, _ => by simp at h1
  | k, q :: ps, [], i, p, r, _, h2, _, _ => by simp at h2
  | k, q :: ps, s :: rs, 0, p, r, h1, h2, h3, h4 => by
    simp only [List.getElem?_cons_zero, Option.some.injEq] at h1 h2
    subst h1; subst h2
    simp only [segYs]
    rw [if_pos h3, segYs_none node inn (k + 1) ps rs fun j x y g1 g2 => h4 (j + 1) x y (by omega) (by simpa using g1) (by simpa using g2)]
    rfl
  | k, q :: ps, s :: rs, i + 1, p, r, h1, h2, h3, h4 => by
    simp only [List.getElem?_cons_succ] at h1 h2
    simp only [segYs]
    rw [if_neg (h4 0 q s (by omega) rfl rfl), segYs_one node inn (k + 1) ps rs i p r h1 h2 h3 fun j x y hj g1 g2 => h4 (j + 1) x y (by omega) (by simpa using g1) (by simpa using g2)]
    congr 2; omega
def key3 (x : Int × Int × Int) : Int × Int × Int := (fFr x.1 x.2.1 x.2.2, fTo x.1 x.2.1 x.2.2, fAb x.2.2)
def addK (s : List Int × List Int) (y : Int × Int × Int) : List Int × List Int := (addC s.1 y.2.1 y.2.2, addC s.2 y.1 y.2.2)
def sumK (l : flows) : List Int × List Int := l.foldl addK zero24
theorem sumP_key (l : flows) : sumP l = sumK (l.map key3) := by
  unfold sumP sumK
  rw [List.foldl_map]
  rfl
theorem blk_key (out : List Nat) (k : Nat) (x : Int × Int × Int) : blkB out k x = ((key3 x).2.2 != 0 && (key3 x).2.1 == (k : Int) && !(out.contains (key3 x).1.toNat)) := by
  have : (x.2.2 != 0) = (fAb x.2.2 != 0) := by
    unfold fAb
    split
    · have h1 : x.2.2 ≠ 0 := by omega
      have h2 : -x.2.2 ≠ 0 := by omega
      rw [bne_iff_ne.2 h1, bne_iff_ne.2 h2]
    · rfl
  simp only [blkB, key3, this]
structure LnOk (m : Nat) (S : Nat → Sgm) : Prop where
  m1 : 1 ≤ m
  m4 : m ≤ 4
  nm : ∀ i, i < m → (S i).1.nm = [103, 97 + i]
  ends : ∀ i, i < m → ((S i).1.fr = (i : Int) ∧ (S i).1.to = ((i + 1 : Nat) : Int)) ∨ ((S i).1.fr = ((i + 1 : Nat) : Int) ∧ (S i).1.to = (i : Int))
  pipe : ∀ i, i < m → PipeOk (S i)
  cap : ∀ i, i < m → (S i).1.cp ≤ 1000
def lnNet (m : Nat) (S : Nat → Sgm) : NetD := ⟨(List.range (m + 1)).map fun i => [110, 97 + i], (List.range m).map S, [([113, 97], 0, 0), ([113, 98], m, 0)], [], 0, 0⟩
theorem lnSeg {m : Nat} {S : Nat → Sgm} {s : Sgm} (h : s ∈ (List.range m).map S) : ∃ i, i < m ∧ s = S i := by
  obtain ⟨i, hi, rfl⟩ := List.mem_map.1 h
  exact ⟨i, List.mem_range.1 hi, rfl⟩
theorem nodup_map_range {α : Type} (f : Nat → α) (n : Nat) (h : ∀ i j, i < n → j < n → f i = f j → i = j) : ((List.range n).map f).Nodup := by
  induction n with
  | zero => simp
  | succ n ih =>
    rw [map_range_succ, List.nodup_append]
    refine ⟨ih fun i j hi hj => h i j (by omega) (by omega), by simp, fun a ha b hb e => ?_⟩
    obtain ⟨i, hi, rfl⟩ := List.mem_map.1 ha
    simp at hb
    subst hb
    have hi := List.mem_range.1 hi
    have := h i n (by omega) (by omega) e
    omega
theorem lnNet_ok {m : Nat} {S : Nat → Sgm} (h : LnOk m S) : NetOk (lnNet m S) := by
  have h1 := h.m1
  have h4 := h.m4
  have two : ∀ (c i : Nat), 97 ≤ c → c ≤ 122 → i ≤ 4 → NameOk [c, 97 + i] := fun c i h1 h2 h3 => name_ok _ (by simp) (by simp) (fun x hx => by simp at hx; omega)
  refine ⟨by simp [lnNet], by simp [lnNet]; omega, by simp [lnNet]; omega, by simp [lnNet], by simp [lnNet], ?_, ?_, ?_, by simp [lnNet], ?_, ?_, ?_, by simp [lnNet], by simp [lnNet], ?_, ?_, by simp [lnNet], ?_, ?_, by simp [lnNet], by simp [lnNet], by simp [lnNet]⟩
  · intro k hk
    obtain ⟨i, hi, rfl⟩ := List.mem_map.1 hk
    have hi := List.mem_range.1 hi
    exact two 110 i (by omega) (by omega) (by omega)
  · intro s hs
    obtain ⟨i, hi, rfl⟩ := lnSeg hs
    rw [h.nm i hi]
    exact two 103 i (by omega) (by omega) (by omega)
  · intro p hp
    simp [lnNet] at hp
    rcases hp with rfl | rfl
    · exact two 113 0 (by omega) (by omega) (by omega)
    · exact two 113 1 (by omega) (by omega) (by omega)
  · exact nodup_map_range _ _ fun i j _ _ e => by simpa using e
  · simp only [lnNet, List.map_map]
    refine nodup_map_range _ _ fun i j hi hj e => ?_
    simp only [Function.comp, h.nm i hi, h.nm j hj] at e
    simpa using e
  · simp [lnNet]
  · intro s hs
    obtain ⟨i, hi, rfl⟩ := lnSeg hs
    have := h.ends i hi
    simp only [lnNet, List.length_map, List.length_range]
    omega
  · intro p hp
    simp [lnNet] at hp
    simp only [lnNet, List.length_map, List.length_range]
    rcases hp with rfl | rfl <;> dsimp only <;> omega
  · intro s hs
    obtain ⟨i, hi, rfl⟩ := lnSeg hs
    exact h.pipe i hi
  · intro p hp
    simp [lnNet] at hp
    rcases hp with rfl | rfl <;> dsimp only <;> omega
def lnRates (m : Nat) (S : Nat → Sgm) (ρ : Int) : List Int := (List.range m).map (rtI S ρ)
theorem lnGet {m : Nat} {S : Nat → Sgm} {i : Nat} {s : Sgm} (h : ((List.range m).map S)[i]? = some s) : i < m ∧ s = S i := by
  obtain ⟨hi, e⟩ := List.getElem?_eq_some_iff.1 h
  simp at hi e
  exact ⟨hi, e.symm⟩
theorem lnGetR {m : Nat} {S : Nat → Sgm} {ρ : Int} {i : Nat} {r : Int} (h : (lnRates m S ρ)[i]? = some r) : i < m ∧ r = rtI S ρ i := by
  obtain ⟨hi, e⟩ := List.getElem?_eq_some_iff.1 h
  simp [lnRates] at hi e
  exact ⟨hi, e.symm⟩
def lnKey (m : Nat) (ρ : Int) : flows := (List.range m).map fun (i : Nat) => if 0 < ρ then ((i : Int), ((i + 1 : Nat) : Int), ρ) else (((i + 1 : Nat) : Int), (i : Int), -ρ)
theorem lnFl {m : Nat} {S : Nat → Sgm} (h : LnOk m S) {ρ : Int} (hρ : ρ ≠ 0) : (sgFl ((List.range m).map S) (lnRates m S ρ)).map key3 = lnKey m ρ := by
  apply List.ext_getElem?
  intro i
  by_cases hi : i < m
  · have e : (sgFl ((List.range m).map S) (lnRates m S ρ))[i]? = some ((S i).1.fr, (S i).1.to, rtI S ρ i) := by
      simp only [sgFl, List.getElem?_map]
      rw [(List.getElem?_zip_eq_some (z := (S i, rtI S ρ i))).2 ⟨by simp [hi], by simp [lnRates, hi]⟩]
      rfl
    rw [List.getElem?_map, e]
    simp only [lnKey, List.getElem?_map, List.getElem?_range, hi, if_true, Option.map_some, key3, rtI]
    congr 1
    rcases h.ends i hi with ⟨a, b⟩ | ⟨a, b⟩
    · rw [a, b, if_pos (by omega)]
      by_cases hp : 0 < ρ
      · rw [if_pos hp]; simp only [fFr, fTo, fAb]; rw [if_neg (by omega), if_neg (by omega), if_neg (by omega)]
      · rw [if_neg hp]; simp only [fFr, fTo, fAb]; rw [if_pos (by omega), if_pos (by omega), if_pos (by omega)]
    · rw [a, b, if_neg (by omega)]
      by_cases hp : 0 < ρ
      · rw [if_pos hp]; simp only [fFr, fTo, fAb]; rw [if_pos (by omega), if_pos (by omega), if_pos (by omega)]; simp
      · rw [if_neg hp]; simp only [fFr, fTo, fAb]; rw [if_neg (by omega), if_neg (by omega), if_neg (by omega)]
  · rw [List.getElem?_eq_none (by simp [sgFl, lnRates]; omega), List.getElem?_eq_none (by simp [lnKey]; omega)]
theorem lnPt {m : Nat} (hm : 1 ≤ m) {ρ : Int} (hρ : ρ ≠ 0) : (ptFl [([113, 97], 0, 0), ([113, 98], (m : Int), 0)] [ρ, -ρ]).map key3 = if 0 < ρ then [(-1, 0, ρ), ((m : Int), -1, ρ)] else [(0, -1, -ρ), (-1, (m : Int), -ρ)] := by
  by_cases hp : 0 < ρ
  · have h1 : ¬ ρ < 0 := by omega
    have h2 : -ρ < 0 := by omega
    simp [ptFl, key3, fFr, fTo, fAb, hp, h1, h2]
  · have h1 : ρ < 0 := by omega
    have h2 : ¬ -ρ < 0 := by omega
    simp [ptFl, key3, fFr, fTo, fAb, hp, h1, h2]
theorem lnBal (m : Nat) (h1 : 1 ≤ m) (h4 : m ≤ 4) (r : Int) (b : Bool) : (sumK (((List.range m).map fun (i : Nat) => if b then ((i : Int), ((i + 1 : Nat) : Int), r) else (((i + 1 : Nat) : Int), (i : Int), r)) ++ if b then [(-1, 0, r), ((m : Int), -1, r)] else [(0, -1, r), (-1, (m : Int), r)])).1 =
    (sumK (((List.range m).map fun (i : Nat) => if b then ((i : Int), ((i + 1 : Nat) : Int), r) else (((i + 1 : Nat) : Int), (i : Int), r)) ++ if b then [(-1, 0, r), ((m : Int), -1, r)] else [(0, -1, r), (-1, (m : Int), r)])).2 := by
  have : m = 1 ∨ m = 2 ∨ m = 3 ∨ m = 4 := by omega
  rcases this with rfl | rfl | rfl | rfl <;> cases b <;> rfl
def keyO (y : Int × Int × Int) : Bool × Int × Int := (y.2.2 != 0, y.1, y.2.1)
theorem rdy_keyO (F G : flows) (h : (F.map key3).map keyO = (G.map key3).map keyO) (out : List Nat) (k : Nat) : rdyB F out k = rdyB G out k := by
  have gen : ∀ F : flows, rdyB F out k = ((F.map key3).map keyO).all fun y => !(y.1 && y.2.2 == (k : Int) && !(out.contains y.2.1.toNat)) := fun F => by
    rw [rdyB, List.all_map, List.all_map]
    have : (fun x => !(blkB out k x)) = ((fun y : Bool × Int × Int => !(y.1 && y.2.2 == (k : Int) && !(out.contains y.2.1.toNat))) ∘ keyO) ∘ key3 := funext fun x => by
      show (!(blkB out k x)) = _
      rw [blk_key]; rfl
    rw [this]
  rw [gen, gen, h]
theorem ord_keyO (F G : flows) (h : (F.map key3).map keyO = (G.map key3).map keyO) (n : Nat) : ∀ (f : Nat) (out : List Nat), ordV F n f out = ordV G n f out
  | 0, out => rfl
  | f + 1, out => by
    have : nextB F n out = nextB G n out := by
      unfold nextB
      congr 1
      funext k
      rw [rdy_keyO F G h]
    simp only [ordV, this]
    split
    · rfl
    · exact ord_keyO F G h n f _
theorem lnOrd0 (m : Nat) (h1 : 1 ≤ m) (h4 : m ≤ 4) (b : Bool) : ordV ((List.range m).map fun (i : Nat) => if b then ((i : Int), ((i + 1 : Nat) : Int), (1 : Int)) else (((i + 1 : Nat) : Int), (i : Int), 1)) (m + 1) (m + 1) [] = if b then List.range (m + 1) else (List.range (m + 1)).reverse := by
  have : m = 1 ∨ m = 2 ∨ m = 3 ∨ m = 4 := by omega
  rcases this with rfl | rfl | rfl | rfl <;> cases b <;> decide
theorem lnOrd {m : Nat} {S : Nat → Sgm} (h : LnOk m S) {ρ : Int} (hρ : ρ ≠ 0) : ordV (sgFl ((List.range m).map S) (lnRates m S ρ)) (m + 1) (m + 1) [] = if 0 < ρ then List.range (m + 1) else (List.range (m + 1)).reverse := by
  rw [ord_keyO _ ((List.range m).map fun (i : Nat) => if decide (0 < ρ) then ((i : Int), ((i + 1 : Nat) : Int), (1 : Int)) else (((i + 1 : Nat) : Int), (i : Int), 1)) ?_, lnOrd0 m h.m1 h.m4]
  · by_cases hp : 0 < ρ <;> simp [hp]
  · rw [lnFl h hρ]
    simp only [lnKey, List.map_map]
    apply List.map_congr_left
    intro i _
    by_cases hp : 0 < ρ
    · have h2 : (ρ != 0) = true := bne_iff_ne.2 hρ
      simp only [Function.comp, decide_eq_true_eq, if_pos hp, keyO, key3, fFr, fTo, fAb, h2]
      rfl
    · have h2 : (-ρ != 0) = true := bne_iff_ne.2 (by omega)
      simp only [Function.comp, decide_eq_true_eq, if_neg hp, keyO, key3, fFr, fTo, fAb, h2]
      rfl
theorem rtI_cases (S : Nat → Sgm) (ρ : Int) (i : Nat) : rtI S ρ i = ρ ∨ rtI S ρ i = -ρ := by unfold rtI; split <;> simp
theorem lnPln {m : Nat} {S : Nat → Sgm} {ρ : Int} (hb : -1000 ≤ ρ ∧ ρ ≤ 1000) : PlnOk (lnNet m S) (lnRates m S ρ) [ρ, -ρ] := by
  refine ⟨by simp [lnRates, lnNet], by simp [lnNet], fun r hr => ?_, fun r hr => ?_⟩
  · obtain ⟨i, hi, rfl⟩ := List.mem_map.1 hr
    rcases rtI_cases S ρ i with e | e <;> rw [e] <;> omega
  · simp at hr; omega
theorem lnFlow {m : Nat} {S : Nat → Sgm} (h : LnOk m S) {ρ : Int} (hρ : ρ ≠ 0) (hb : -1000 ≤ ρ ∧ ρ ≤ 1000) (hc : ∀ i, i < m → -(S i).1.cp ≤ ρ ∧ ρ ≤ (S i).1.cp) : FlowOk (lnNet m S) (lnRates m S ρ) [ρ, -ρ] [] := by
  refine ⟨lnPln hb, fun k s r hs hr => ?_, rfl, ?_, ?_⟩
  · obtain ⟨hk, rfl⟩ := lnGet hs
    obtain ⟨_, rfl⟩ := lnGetR hr
    have := hc k hk
    rcases rtI_cases S ρ k with e | e <;> rw [e] <;> omega
  · rw [sumP_key, List.map_append]
    show (sumK ((sgFl ((List.range m).map S) (lnRates m S ρ)).map key3 ++ (ptFl [([113, 97], 0, 0), ([113, 98], (m : Int), 0)] [ρ, -ρ]).map key3)).1 = (sumK ((sgFl ((List.range m).map S) (lnRates m S ρ)).map key3 ++ (ptFl [([113, 97], 0, 0), ([113, 98], (m : Int), 0)] [ρ, -ρ]).map key3)).2
    rw [lnFl h hρ, lnPt h.m1 hρ]
    by_cases hp : 0 < ρ
    · have := lnBal m h.m1 h.m4 ρ true
      simp only [lnKey, if_pos hp]
      simpa using this
    · have := lnBal m h.m1 h.m4 (-ρ) false
      simp only [lnKey, if_neg hp]
      simpa using this
  · have := lnOrd h hρ
    show (ordV (sgFl ((List.range m).map S) (lnRates m S ρ)) ((List.range (m + 1)).map fun i => [110, 97 + i]).length ((List.range (m + 1)).map fun i => [110, 97 + i]).length []).length = ((List.range (m + 1)).map fun i => [110, 97 + i]).length
    rw [List.length_map, List.length_range, this]
    split <;> simp
def lnD (m : Nat) (S : Nat → Sgm) (ρ : Int) (feeds : List Int) : LineD := ⟨.sl 1 ((lnNet m S).nn.map encS), (lnNet m S).segs, (lnNet m S).ports, .sl 5 [], .int 0, .int 0, lnRates m S ρ, [ρ, -ρ], .sl 1 [], feeds⟩
theorem lnD_ok {m : Nat} {S : Nat → Sgm} (h : LnOk m S) {ρ : Int} (hb : -1000 ≤ ρ ∧ ρ ≤ 1000) {feeds : List Int} (hl : feeds.length = 2) (hf : ∀ b ∈ feeds, 0 ≤ b ∧ b < 1000) : LineOk (lnD m S ρ feeds) := by
  have h1 := h.m1
  have h4 := h.m4
  have hp := lnPln (S := S) (m := m) hb
  refine ⟨rfl, rfl, rfl, rfl, rfl, hp.l1, hp.l2, ?_, ?_, by simp [lnD, lnNet], ?_, ?_, fun r hr => ?_, fun r hr => ?_, fun r hr => ?_⟩
  · simp [lnD, lnNet, hl]
  · simp only [lnD, lnNet]
    intro e
    have := congrArg List.length e
    simp at this; omega
  · simp [lnD, lnNet]; omega
  · simp [lnD, lnNet]
  · have := hp.b1 r hr; omega
  · have := hp.b2 r hr; omega
  · have := hf r hr; omega
theorem lnD_net {m : Nat} {S : Nat → Sgm} (h : LnOk m S) (ρ : Int) (feeds : List Int) : NetC (lnD m S ρ feeds) := ncheckG_fn _ (lnNet_ok h)
theorem lnD_ord {m : Nat} {S : Nat → Sgm} (h : LnOk m S) {ρ : Int} (hρ : ρ ≠ 0) (hb : -1000 ≤ ρ ∧ ρ ≤ 1000) (hc : ∀ i, i < m → -(S i).1.cp ≤ ρ ∧ ρ ≤ (S i).1.cp) (feeds : List Int) :
    FnOk Tryz.prog 48 [.t (.agg (lnD m S ρ feeds).net), .t (.agg (lnD m S ρ feeds).plan)] [] (.tup [.t (.sl 1 (((List.range (m + 1)).map fun (j : Nat) => if 0 < ρ then (j : Int) else ((m - j : Nat) : Int)).map encI)), .t (.int 0)]) [] := by
  have := forderG_fn _ (lnNet_ok h) _ _ _ (lnFlow h hρ hb hc)
  have e : (ordV (sgFl (lnNet m S).segs (lnRates m S ρ)) (lnNet m S).nn.length (lnNet m S).nn.length []).map Int.ofNat = (List.range (m + 1)).map fun (j : Nat) => if 0 < ρ then (j : Int) else ((m - j : Nat) : Int) := by
    have h2 := lnOrd h hρ
    have hl : (lnNet m S).nn.length = m + 1 := by simp [lnNet]
    rw [hl]
    show (ordV (sgFl ((List.range m).map S) (lnRates m S ρ)) (m + 1) (m + 1) []).map Int.ofNat = _
    rw [h2]
    by_cases hp : 0 < ρ
    · simp only [if_pos hp]; rfl
    · simp only [if_neg hp]
      apply List.ext_getElem
      · simp
      · intro i g1 g2
        simp at g1
        simp only [List.getElem_map, List.getElem_reverse, List.getElem_range, List.length_range]
        show (((m + 1 - 1 - i : Nat) : Nat) : Int) = _
        congr 1
  rw [e] at this
  exact this
def lnT (ρ : Int) (inn : Bool) (i : Nat) : Int := if decide (0 < ρ) = inn then ((i + 1 : Nat) : Int) else (i : Int)
theorem lnTgt {m : Nat} {S : Nat → Sgm} (h : LnOk m S) {ρ : Int} (hρ : ρ ≠ 0) (inn : Bool) {i : Nat} (hi : i < m) : rtI S ρ i ≠ 0 ∧ tgt inn (S i).1.fr (S i).1.to (rtI S ρ i) = lnT ρ inn i := by
  refine ⟨by rcases rtI_cases S ρ i with e | e <;> rw [e] <;> omega, ?_⟩
  rcases h.ends i hi with ⟨a, b⟩ | ⟨a, b⟩
  · have e : rtI S ρ i = ρ := by unfold rtI; rw [a, b, if_pos (by omega)]
    rw [e, a, b]
    by_cases hp : 0 < ρ
    · have hq : ¬ ρ < 0 := by omega
      cases inn <;> simp [tgt, lnT, endA, endB, hp, hq]
    · have hq : ρ < 0 := by omega
      cases inn <;> simp [tgt, lnT, endA, endB, hp, hq]
  · have e : rtI S ρ i = -ρ := by unfold rtI; rw [a, b, if_neg (by omega)]
    rw [e, a, b]
    by_cases hp : 0 < ρ
    · have hq : -ρ < 0 := by omega
      cases inn <;> simp only [tgt, lnT, endA, endB, hp, hq] <;> simp
    · have hq : ¬ -ρ < 0 := by omega
      cases inn <;> simp only [tgt, lnT, endA, endB, hp, hq] <;> simp
theorem lnV {m : Nat} {S : Nat → Sgm} {i : Nat} {p : SegV} (h : ((lnNet m S).segs.map (·.1))[i]? = some p) : i < m ∧ p = (S i).1 := by
  simp only [lnNet, List.map_map] at h
  obtain ⟨hi, e⟩ := List.getElem?_eq_some_iff.1 h
  simp at hi e
  exact ⟨hi, e.symm⟩
theorem lnSY_one {m : Nat} {S : Nat → Sgm} (h : LnOk m S) {ρ : Int} (hρ : ρ ≠ 0) (inn : Bool) {i : Nat} (hi : i < m) {node : Int} (hn : lnT ρ inn i = node) : segYs node inn 0 ((lnNet m S).segs.map (·.1)) (lnRates m S ρ) = [(i, absI ρ)] := by
  have := segYs_one node inn 0 ((lnNet m S).segs.map (·.1)) (lnRates m S ρ) i (S i).1 (rtI S ρ i) (by simp [lnNet, hi]) (by simp [lnRates, hi]) (by have := lnTgt h hρ inn hi; rw [hn] at this; exact this) (fun j p r hj h1 h2 hc => by
    obtain ⟨hjm, rfl⟩ := lnV h1
    obtain ⟨_, rfl⟩ := lnGetR h2
    have h3 := (lnTgt h hρ inn hjm).2
    rw [hc.2, ← hn] at h3
    unfold lnT at h3
    split at h3 <;> omega)
  rw [this, Nat.zero_add]
  have e : absI (rtI S ρ i) = absI ρ := by rcases rtI_cases S ρ i with e | e <;> rw [e] <;> unfold absI <;> omega
  rw [e]
theorem lnSY_none {m : Nat} {S : Nat → Sgm} (h : LnOk m S) {ρ : Int} (hρ : ρ ≠ 0) (inn : Bool) {node : Int} (hn : ∀ i, i < m → lnT ρ inn i ≠ node) : segYs node inn 0 ((lnNet m S).segs.map (·.1)) (lnRates m S ρ) = [] :=
  segYs_none node inn 0 _ _ fun j p r h1 h2 hc => by
    obtain ⟨hjm, rfl⟩ := lnV h1
    obtain ⟨_, rfl⟩ := lnGetR h2
    have h3 := (lnTgt h hρ inn hjm).2
    rw [hc.2] at h3
    exact hn j hjm h3.symm
theorem lnPY {m : Nat} {S : Nat → Sgm} (hm : 1 ≤ m) {ρ : Int} (hρ : ρ ≠ 0) (inn : Bool) (node : Int) : prtYs node inn 0 (lnNet m S).ports [ρ, -ρ] =
    if (decide (0 < ρ) = inn) then (if node = 0 then [(0, absI ρ)] else []) else (if node = (m : Int) then [(1, absI ρ)] else []) := by
  have e : absI (-ρ) = absI ρ := by unfold absI; omega
  by_cases hp : 0 < ρ
  · have h2 : ¬ -ρ > 0 := by omega
    cases inn
    · by_cases hn : node = (m : Int)
      · subst hn; simp [prtYs, lnNet, hp, h2, hρ, e] <;> omega
      · have hn2 : ¬ (m : Int) = node := fun q => hn q.symm
        simp [prtYs, lnNet, hp, h2, hρ, hn, hn2] <;> omega
    · by_cases hn : node = 0
      · subst hn; simp [prtYs, lnNet, hp, h2, hρ] <;> omega
      · have hn2 : ¬ 0 = node := fun q => hn q.symm
        simp [prtYs, lnNet, hp, h2, hρ, hn, hn2] <;> omega
  · have h2 : -ρ > 0 := by omega
    have h3 : ρ < 0 := by omega
    cases inn
    · by_cases hn : node = 0
      · subst hn; simp [prtYs, lnNet, hp, h3, hρ] <;> omega
      · have hn2 : ¬ 0 = node := fun q => hn q.symm
        simp [prtYs, lnNet, hp, h3, hρ, hn, hn2] <;> omega
    · by_cases hn : node = (m : Int)
      · subst hn; simp [prtYs, lnNet, hp, h3, hρ, e] <;> omega
      · have hn2 : ¬ (m : Int) = node := fun q => hn q.symm
        simp [prtYs, lnNet, hp, h3, hρ, hn, hn2] <;> omega
theorem lnBack {m : Nat} {S : Nat → Sgm} {ρ : Int} (feeds : List Int) {i : Nat} (hi : i < m) (r : Int) : backAt (lnD m S ρ feeds).rates (i, r) = decide (rtI S ρ i < 0) := by
  simp [backAt, lnD, lnRates, hi, List.getD_eq_getElem?_getD]
theorem lnFwd {m : Nat} {S : Nat → Sgm} (h : LnOk m S) {r : Nat} (h0 : 0 < r) (h1 : r ≤ 1000) (feeds : List Int) : ChainOk (lnD m S (r : Int) feeds) m (fun j => j) (fun (j : Nat) => (j : Int)) 0 1 r (feeds.getD 0 0) (fun j => (S j).1.cp.toNat) (fun j => decide ((S j).1.fr < (S j).1.to)) := by
  have hm := h.m1
  have hρ : (r : Int) ≠ 0 := by omega
  have hp : (0 : Int) < r := by omega
  have hr0 : r ≠ 0 := by omega
  have ha : absI (r : Int) = r := by unfold absI; omega
  refine ⟨by simp [lnD, lnNet], fun i j _ _ e => e, fun i hi => ⟨i, hi, rfl⟩, fun j hj => hj, h0, h1, ?_, rfl, ?_, fun j hj => ?_, fun j hj => ?_, fun j hj => ?_, fun j hj => ?_, ?_, ?_, fun j hj => ?_⟩
  · rw [show (lnD m S (r : Int) feeds).ports = (lnNet m S).ports from rfl, show (lnD m S (r : Int) feeds).prates = [(r : Int), -(r : Int)] from rfl, lnPY hm hρ, ha]; simp [hp, hr0, h0]
  · exact lnSY_none h hρ true fun i hi e => by simp only [lnT, hp, decide_true, if_true] at e; omega
  · have := lnSY_one h hρ true hj (node := ((j + 1 : Nat) : Int)) (by simp [lnT, hp, hr0, h0])
    rw [ha] at this; exact this
  · rw [show (lnD m S (r : Int) feeds).ports = (lnNet m S).ports from rfl, show (lnD m S (r : Int) feeds).prates = [(r : Int), -(r : Int)] from rfl, lnPY hm hρ, if_pos (by simp [hp, hr0, h0]), if_neg (by omega)]
  · have := lnSY_one h hρ false hj (node := (j : Int)) (by simp [lnT, hp, hr0, h0])
    rw [ha] at this; exact this
  · rw [show (lnD m S (r : Int) feeds).ports = (lnNet m S).ports from rfl, show (lnD m S (r : Int) feeds).prates = [(r : Int), -(r : Int)] from rfl, lnPY hm hρ, if_neg (by simp [hp, hr0, h0]), if_neg (by omega)]
  · rw [show (lnD m S (r : Int) feeds).ports = (lnNet m S).ports from rfl, show (lnD m S (r : Int) feeds).prates = [(r : Int), -(r : Int)] from rfl, lnPY hm hρ, if_neg (by simp [hp, hr0, h0]), if_pos rfl, ha]
  · exact lnSY_none h hρ false fun i hi e => by simp only [lnT, hp, decide_true] at e; rw [if_neg (by simp)] at e; omega
  · rw [lnBack feeds hj]
    unfold rtI
    by_cases hl : (S j).1.fr < (S j).1.to
    · rw [if_pos hl]; simp [hl] <;> omega
    · rw [if_neg hl]; simp [hl] <;> omega
theorem lnBwd {m : Nat} {S : Nat → Sgm} (h : LnOk m S) {r : Nat} (h0 : 0 < r) (h1 : r ≤ 1000) (feeds : List Int) : ChainOk (lnD m S (-(r : Int)) feeds) m (fun j => m - 1 - j) (fun (j : Nat) => ((m - j : Nat) : Int)) 1 0 r (feeds.getD 1 0) (fun j => (S (m - 1 - j)).1.cp.toNat) (fun j => !decide ((S (m - 1 - j)).1.fr < (S (m - 1 - j)).1.to)) := by
  have hm := h.m1
  have hρ : -(r : Int) ≠ 0 := by omega
  have hp : ¬ (0 : Int) < -(r : Int) := by omega
  have ha : absI (-(r : Int)) = r := by unfold absI; omega
  refine ⟨by simp [lnD, lnNet], fun i j _ _ e => by omega, fun i hi => ⟨m - 1 - i, by omega, by omega⟩, fun j hj => by omega, h0, h1, ?_, rfl, ?_, fun j hj => ?_, fun j hj => ?_, fun j hj => ?_, fun j hj => ?_, ?_, ?_, fun j hj => ?_⟩
  · rw [show (lnD m S (-(r : Int)) feeds).ports = (lnNet m S).ports from rfl, show (lnD m S (-(r : Int)) feeds).prates = [-(r : Int), - -(r : Int)] from rfl, lnPY hm hρ, ha, if_neg (by simp [hp]), if_pos (by simp)]
  · exact lnSY_none h hρ true fun i hi e => by simp only [lnT, hp, decide_false] at e; rw [if_neg (by simp)] at e; omega
  · have := lnSY_one h hρ true (i := m - 1 - j) (by omega) (node := ((m - (j + 1) : Nat) : Int)) (by simp only [lnT, hp, decide_false]; rw [if_neg (by simp)]; omega)
    rw [ha] at this; exact this
  · rw [show (lnD m S (-(r : Int)) feeds).ports = (lnNet m S).ports from rfl, show (lnD m S (-(r : Int)) feeds).prates = [-(r : Int), - -(r : Int)] from rfl, lnPY hm hρ, if_neg (by simp [hp]), if_neg (by omega)]
  · have := lnSY_one h hρ false (i := m - 1 - j) (by omega) (node := ((m - j : Nat) : Int)) (by simp only [lnT, hp, decide_false, if_true]; omega)
    rw [ha] at this; exact this
  · rw [show (lnD m S (-(r : Int)) feeds).ports = (lnNet m S).ports from rfl, show (lnD m S (-(r : Int)) feeds).prates = [-(r : Int), - -(r : Int)] from rfl, lnPY hm hρ, if_pos (by simp [hp]), if_neg (by omega)]
  · rw [show (lnD m S (-(r : Int)) feeds).ports = (lnNet m S).ports from rfl, show (lnD m S (-(r : Int)) feeds).prates = [-(r : Int), - -(r : Int)] from rfl, lnPY hm hρ, if_pos (by simp [hp]), if_pos (by omega), ha]
  · exact lnSY_none h hρ false fun i hi e => by simp only [lnT, hp, decide_false, if_true] at e; omega
  · rw [lnBack feeds (by omega)]
    unfold rtI
    by_cases hl : (S (m - 1 - j)).1.fr < (S (m - 1 - j)).1.to
    · rw [if_pos hl]; simp [hl] <;> omega
    · rw [if_neg hl]; simp [hl] <;> omega
def orL (fw : Bool) (L : List Int) : List Int := if fw then L else L.reverse
theorem orL_len (fw : Bool) (L : List Int) : (orL fw L).length = L.length := by unfold orL; split <;> simp
theorem orL_mem {fw : Bool} {L : List Int} {x : Int} : x ∈ orL fw L ↔ x ∈ L := by unfold orL; split <;> simp
def tapeW (f : Nat → List Int) : Nat → List Int
  | 0 => []
  | j + 1 => tapeW f j ++ f j
theorem tapeW_len {f : Nat → List Int} {c : Nat → Nat} {m : Nat} (h : ∀ j, j < m → (f j).length = c j) : ∀ j, j ≤ m → (tapeW f j).length = preS c j
  | 0, _ => rfl
  | j + 1, hj => by simp only [tapeW, preS, List.length_append, tapeW_len h j (by omega), h j (by omega)]
theorem tapeW_pre {f : Nat → List Int} {i : Nat} : ∀ {j : Nat}, i ≤ j → ∃ r, tapeW f j = tapeW f i ++ r
  | 0, h => by have : i = 0 := by omega
               subst this; exact ⟨[], by simp [tapeW]⟩
  | j + 1, h => by
    by_cases e : i = j + 1
    · subst e; exact ⟨[], by simp⟩
    · obtain ⟨r, hr⟩ := tapeW_pre (f := f) (i := i) (j := j) (by omega)
      exact ⟨r ++ f j, by simp only [tapeW, hr, List.append_assoc]⟩
theorem tapeW_win {f : Nat → List Int} {c : Nat → Nat} {m : Nat} (h : ∀ j, j < m → (f j).length = c j) {j : Nat} (hj : j < m) : win (tapeW f m) (preS c j) (c j) = f j := by
  obtain ⟨r, hr⟩ := tapeW_pre (f := f) (i := j + 1) (j := m) (by omega)
  have hl := tapeW_len h j (by omega)
  rw [hr]
  simp only [tapeW, win]
  rw [List.append_assoc, ← hl, List.drop_left, ← h j hj, List.take_left]
theorem tapeW_mem {f : Nat → List Int} {x : Int} : ∀ {j : Nat}, x ∈ tapeW f j → ∃ i, i < j ∧ x ∈ f i
  | 0, h => by simp [tapeW] at h
  | j + 1, h => by
    simp only [tapeW, List.mem_append] at h
    rcases h with h | h
    · obtain ⟨i, hi, hx⟩ := tapeW_mem h
      exact ⟨i, by omega, hx⟩
    · exact ⟨j, by omega, h⟩
theorem rle_app (a b : List Int) : (rle (a ++ b)).length ≤ (rle a).length + (rle b).length := by
  have hp : ∀ p ∈ rle a ++ rle b, 0 ≤ p.2 := fun p hp => by
    rcases List.mem_append.1 hp with h | h
    · exact Int.le_of_lt ((rle_canon a).pos p h)
    · exact Int.le_of_lt ((rle_canon b).pos p h)
  have : rle (a ++ b) = Pc.join (rle a ++ rle b) := (rle_of (Pc.join_canon hp) (by rw [Pc.join_litres hp, Pc.litres_append, rle_lit, rle_lit])).symm
  rw [this]
  have := Pc.join_length (rle a ++ rle b)
  rw [List.length_append] at this
  exact this
theorem rle_rep (n : Nat) (b : Int) : (rle (List.replicate n b)).length ≤ 1 := by
  cases n with
  | zero => simp [rle, Pc.join]
  | succ n =>
    have : [(b, ((n + 1 : Nat) : Int))] = rle (List.replicate (n + 1) b) := rle_of ⟨by show (0 : Int) < ((n + 1 : Nat) : Int); omega, by simp, trivial⟩ (litres_rep (n + 1) b)
    rw [← this]; simp
theorem tapeW_rn {f : Nat → List Int} {B m : Nat} (h : ∀ j, j < m → (rle (f j)).length ≤ B) : ∀ j, j ≤ m → (rle (tapeW f j)).length ≤ B * j
  | 0, _ => by simp [tapeW, rle, Pc.join]
  | j + 1, hj => by
    have h1 := rle_app (tapeW f j) (f j)
    have h2 := tapeW_rn h j (by omega)
    have h3 := h j (by omega)
    simp only [tapeW]
    rw [Nat.mul_succ]; omega
theorem win_skip (a b : List Int) (p n : Nat) : win (a ++ b) (a.length + p) n = win b p n := by
  simp only [win]
  rw [List.drop_append, List.drop_of_length_le (by omega), List.nil_append]
  congr 2; omega
theorem sgW_self {X : List Int} {p c : Nat} {fw : Bool} {f : List (Int × Int)} (hf : Pc.Canon f) (h : win X p c = orL fw (Pc.litres f)) : sgW X p c fw = f := by
  unfold sgW
  rw [h]
  unfold orL
  cases fw
  · simp only [Bool.false_eq_true, if_false, rle_rev, List.reverse_reverse]
    exact (rle_of hf rfl).symm
  · simp only [if_true]
    exact (rle_of hf rfl).symm
abbrev lnC (S : Nat → Sgm) (i : Nat) : Nat := (S i).1.cp.toNat
abbrev lnW (S : Nat → Sgm) (i : Nat) : Bool := decide ((S i).1.fr < (S i).1.to)
structure LfOk (m : Nat) (S : Nat → Sgm) (fl : List (List (Int × Int))) : Prop where
  len : fl.length = m
  at_ : ∀ (i : Nat) f, fl[i]? = some f → Pc.Vd f ∧ Pc.vol f = (S i).1.cp ∧ f.length ≤ 12
def lnF (S : Nat → Sgm) (fl : List (List (Int × Int))) (i : Nat) : List Int := orL (lnW S i) (Pc.litres (fl.getD i []))
def lnX (m : Nat) (S : Nat → Sgm) (fl : List (List (Int × Int))) (n : Nat) (b : Int) : List Int := List.replicate n b ++ tapeW (lnF S fl) m
theorem lfAt {m : Nat} {S : Nat → Sgm} {fl : List (List (Int × Int))} (h : LfOk m S fl) {i : Nat} (hi : i < m) : ∃ f, fl[i]? = some f ∧ fl.getD i [] = f ∧ Pc.Vd f ∧ Pc.vol f = (S i).1.cp ∧ f.length ≤ 12 := by
  obtain ⟨f, hf⟩ : ∃ f, fl[i]? = some f := has_get (by rw [h.len]; exact hi)
  exact ⟨f, hf, by rw [List.getD_eq_getElem?_getD, hf]; rfl, h.at_ i f hf⟩
theorem lnF_len {m : Nat} {S : Nat → Sgm} {fl : List (List (Int × Int))} (h : LfOk m S fl) : ∀ i, i < m → (lnF S fl i).length = lnC S i := fun i hi => by
  obtain ⟨f, _, e, h1, h2, _⟩ := lfAt h hi
  have := vol_litres h1.canon
  rw [lnF, orL_len, e]
  show _ = (S i).1.cp.toNat
  omega
theorem lnX_ok {m : Nat} {S : Nat → Sgm} (hS : LnOk m S) {fl : List (List (Int × Int))} (h : LfOk m S fl) {n : Nat} (hn : n ≤ 100000) {b : Int} (hb : 0 ≤ b ∧ b < 1000) : TpOk (lnX m S fl n b) := by
  have h4 := hS.m4
  refine ⟨fun x hx => ?_, ?_, ?_⟩
  · rcases List.mem_append.1 hx with hx | hx
    · rw [(List.mem_replicate.1 hx).2]; exact hb
    · obtain ⟨i, hi, hx⟩ := tapeW_mem hx
      obtain ⟨f, _, e, h1, _, _⟩ := lfAt h hi
      rw [lnF, e, orL_mem] at hx
      obtain ⟨q, hq, rfl⟩ := litres_mem hx
      exact (h1.each q hq).1
  · have hc : ∀ j, j ≤ m → preS (lnC S) j ≤ 1000 * j := by
      intro j
      induction j with
      | zero => intro _; exact Nat.le_refl _
      | succ j ih =>
        intro hj
        have := hS.cap j (by omega)
        have := ih (by omega)
        have hq : lnC S j ≤ 1000 := by show (S j).1.cp.toNat ≤ 1000; omega
        simp only [preS]; omega
    have := hc m (Nat.le_refl _)
    simp only [lnX, List.length_append, List.length_replicate, tapeW_len (lnF_len h) m (Nat.le_refl _)]
    omega
  · have h1 := rle_app (List.replicate n b) (tapeW (lnF S fl) m)
    have h2 := rle_rep n b
    have h3 := tapeW_rn (f := lnF S fl) (B := 12) (m := m) (fun j hj => by
      obtain ⟨f, _, e, h1, _, h3⟩ := lfAt h hj
      have e2 : rle (Pc.litres f) = f := (rle_of h1.canon rfl).symm
      rw [lnF, e]
      unfold orL
      split
      · rw [e2]; exact h3
      · rw [rle_rev, List.length_reverse, e2]; exact h3) m (Nat.le_refl _)
    simp only [lnX]
    omega
theorem lnX_len {m : Nat} {S : Nat → Sgm} {fl : List (List (Int × Int))} (h : LfOk m S fl) (n : Nat) (b : Int) : (lnX m S fl n b).length = n + preS (lnC S) m := by
  simp only [lnX, List.length_append, List.length_replicate, tapeW_len (lnF_len h) m (Nat.le_refl _)]
def lnFs (m : Nat) (S : Nat → Sgm) (X : List Int) (p : Nat) : List (List (Int × Int)) := (List.range m).map fun i => sgW X (p + preS (lnC S) i) (lnC S i) (lnW S i)
theorem lnFs_ok (m : Nat) (S : Nat → Sgm) (X : List Int) (p : Nat) : FiOk m (fun j => j) X p (lnC S) (lnW S) ((lnFs m S X p).map some) :=
  ⟨by simp [lnFs], fun j hj => by simp [lnFs, hj]⟩
theorem lnFs_self {m : Nat} {S : Nat → Sgm} {fl : List (List (Int × Int))} (h : LfOk m S fl) (n : Nat) (b : Int) : lnFs m S (lnX m S fl n b) n = fl := by
  apply List.ext_getElem?
  intro i
  by_cases hi : i < m
  · obtain ⟨f, e1, e2, h1, h2, _⟩ := lfAt h hi
    rw [e1]
    simp only [lnFs, List.getElem?_map, List.getElem?_range hi, Option.map_some]
    congr 1
    refine sgW_self h1.canon ?_
    have := win_skip (List.replicate n b) (tapeW (lnF S fl) m) (preS (lnC S) i) (lnC S i)
    rw [List.length_replicate] at this
    rw [lnX, this, tapeW_win (lnF_len h) hi, lnF, e2]
  · rw [List.getElem?_eq_none (by simp [lnFs]; omega), List.getElem?_eq_none (by rw [h.len]; omega)]
theorem line_run {m : Nat} {S : Nat → Sgm} (hS : LnOk m S) {fl : List (List (Int × Int))} (h : LfOk m S fl) {r : Nat} (h0 : 0 < r) (h1 : ∀ i, i < m → (r : Int) ≤ (S i).1.cp) (hr : r ≤ 1000) {t : Nat} (ht : t ≤ 100) {b : Int} (hb : 0 ≤ b ∧ b < 1000) :
    FnOk Tryz.prog 16 [.t (.agg (lnD m S (r : Int) [b, 0]).net), .t (.sl 1 (fl.map encPs)), .t (.agg (lnD m S (r : Int) [b, 0]).plan), .t (.sl 1 ([b, 0].map encI)), .t (.int t)] []
      (.tup [.own 1000, .t (.sl 1 [encPs [], encPs (stW (lnX m S fl (t * r) b) (preS (lnC S) m) (t * r))]), .t (.int 0)]) [(1000, blkG ((lnFs m S (lnX m S fl (t * r) b) 0).map some))] := by
  have hfe : ∀ x ∈ [b, (0 : Int)], 0 ≤ x ∧ x < 1000 := fun x hx => by simp at hx; omega
  have hbd : -1000 ≤ (r : Int) ∧ (r : Int) ≤ 1000 := by omega
  have hd := lnD_ok hS hbd (feeds := [b, 0]) rfl hfe
  have hX := lnX_ok hS h (n := t * r) (by have := Nat.mul_le_mul ht hr; omega) hb
  have ho := lnD_ord hS (ρ := (r : Int)) (by omega) hbd (fun i hi => by have := h1 i hi; omega) [b, 0]
  have hp : (0 : Int) < r := by omega
  simp only [if_pos hp] at ho
  have := chain_run (lnD m S (r : Int) [b, 0]) hd (lnD_net hS _ _) (lnFwd hS h0 hr [b, 0]) hX (by have := hS.m4; omega) t (by omega) (by rw [lnX_len h]; exact Nat.le_refl _)
    (fun j hj => by
      show win (lnX m S fl (t * r) b) (j * r) r = List.replicate r b
      have hjr : j * r + r ≤ t * r := by rw [← Nat.succ_mul]; exact Nat.mul_le_mul_right _ hj
      simp only [lnX, win]
      rw [List.drop_append, List.drop_replicate, List.take_append, List.take_replicate, List.length_replicate]
      have e1 : min r (t * r - j * r) = r := by omega
      have e2 : r - (t * r - j * r) = 0 := by omega
      rw [e1, e2]; simp)
    (fun j => lnFs m S (lnX m S fl (t * r) b) (j * r)) (fun j _ => lnFs_ok m S _ _)
    (by
      rw [lnFs_self h]
      refine ⟨by rw [h.len]; simp [lnD, lnNet], fun f hf => ?_, fun i f s hf hs => ?_⟩
      · obtain ⟨i, hi, rfl⟩ := List.getElem_of_mem hf
        exact (h.at_ i _ (List.getElem?_eq_getElem hi)).1
      · obtain ⟨_, rfl⟩ := lnGet hs
        exact (h.at_ i f hf).2.1)
    ho hfe (by simp [lnD, lnNet])
  rw [lnFs_self h] at this
  simp only [Nat.zero_mul] at this
  exact this
end Go.Proofs.YtdjmklobfjigoaaGreatDoor
namespace Go.Proofs.YtdjmklobfjigoaaGreatDoor
open Go.RowKit Sy
open Go.IntWalk renaming iteOmega → iO, toNatUp → tN
end Go.Proofs.YtdjmklobfjigoaaGreatDoor
namespace Go.Proofs.YtdjmklobfjigoaaGreatDoor
open Go.RowKit Sy Dl
theorem win_rev {X : List Int} {q c : Nat} (h : q + c ≤ X.length) : win X.reverse q c = (win X (X.length - q - c) c).reverse := by
  simp only [win]
  rw [List.drop_reverse, List.take_reverse, List.length_take, List.drop_take]
  have e1 : min (X.length - q) X.length - c = X.length - q - c := by omega
  have e2 : X.length - q - (X.length - q - c) = c := by omega
  rw [e1, e2]
theorem sgW_rev {X : List Int} {q c : Nat} (h : q + c ≤ X.length) (fw : Bool) : sgW X.reverse q c (!fw) = sgW X (X.length - q - c) c fw := by
  unfold sgW
  rw [win_rev h, rle_rev]
  cases fw <;> simp
theorem preS_rev (c : Nat → Nat) (m : Nat) : ∀ j, j ≤ m → preS (fun j => c (m - 1 - j)) j + preS c (m - j) = preS c m
  | 0, _ => by simp [preS]
  | j + 1, h => by
    have ih := preS_rev c m j (by omega)
    have e : m - j = (m - (j + 1)) + 1 := by omega
    have e2 : m - 1 - j = m - (j + 1) := by omega
    rw [e] at ih
    simp only [preS] at ih ⊢
    rw [e2]; omega
theorem tp_rev {X : List Int} (h : TpOk X) : TpOk X.reverse := ⟨fun b hb => h.bt b (List.mem_reverse.1 hb), by rw [List.length_reverse]; exact h.ln, by rw [rle_rev, List.length_reverse]; exact h.rn⟩
theorem fi_rev {m : Nat} {S : Nat → Sgm} {X : List Int} {p : Nat} (h : p + preS (lnC S) m ≤ X.length) : FiOk m (fun j => m - 1 - j) X.reverse (X.length - p - preS (lnC S) m) (fun j => lnC S (m - 1 - j)) (fun j => !lnW S (m - 1 - j)) ((lnFs m S X p).map some) :=
  ⟨by simp [lnFs], fun j hj => by
    have e1 := preS_rev (lnC S) m j (by omega)
    have e2 : m - j = (m - 1 - j) + 1 := by omega
    rw [e2] at e1
    simp only [preS] at e1
    rw [sgW_rev (by omega)]
    have e3 : X.length - (X.length - p - preS (lnC S) m + preS (fun j => lnC S (m - 1 - j)) j) - lnC S (m - 1 - j) = p + preS (lnC S) (m - 1 - j) := by omega
    rw [e3]
    simp [lnFs, show m - 1 - j < m by omega]⟩
theorem lnFs_fills {m : Nat} {S : Nat → Sgm} (hS : LnOk m S) {X : List Int} (hX : TpOk X) {p : Nat} (h : p + preS (lnC S) m ≤ X.length) (ρ : Int) (feeds : List Int) : FillsOk (lnD m S ρ feeds) (lnFs m S X p) := by
  have hat : ∀ i f, (lnFs m S X p)[i]? = some f → i < m ∧ f = sgW X (p + preS (lnC S) i) (lnC S i) (lnW S i) := fun i f h => by
    obtain ⟨hi, e⟩ := List.getElem?_eq_some_iff.1 h
    simp [lnFs] at hi e
    exact ⟨hi, e.symm⟩
  refine ⟨by simp [lnFs, lnD, lnNet], fun f hf => ?_, fun i f s hf hs => ?_⟩
  · obtain ⟨i, hi, e⟩ := List.getElem_of_mem hf
    obtain ⟨_, rfl⟩ := hat i f (by rw [← e]; exact List.getElem?_eq_getElem hi)
    exact sgW_vd hX _ _ _
  · obtain ⟨_, rfl⟩ := lnGet hs
    obtain ⟨hi, rfl⟩ := hat i f hf
    have := preS_mono (lnC S) (i := i + 1) (j := m) (by omega)
    simp only [preS] at this
    rw [sgW_vol (by omega)]
    have := (hS.pipe i hi).cap
    show (((S i).1.cp.toNat : Nat) : Int) = _
    omega
theorem line_back {m : Nat} {S : Nat → Sgm} (hS : LnOk m S) {X : List Int} (hX : TpOk X) {p r : Nat} (h0 : 0 < r) (h1 : ∀ i, i < m → (r : Int) ≤ (S i).1.cp) (hr : r ≤ 1000) (hL : p + r + preS (lnC S) m ≤ X.length) {b : Int} (hb : 0 ≤ b ∧ b < 1000)
    (hfd : win X (p + preS (lnC S) m) r = List.replicate r b) :
    ∃ O : Fi, FnOk Tryz.prog 9 [.t (.agg (lnD m S (-(r : Int)) [0, b]).net), .t (.sl 1 ((lnFs m S X p).map encPs)), .t (.agg (lnD m S (-(r : Int)) [0, b]).plan), .t (.sl 1 ([0, b].map encI))] []
      (.tup [.own 1000, .own 1001, .t (.int 0)]) [(1000, blkG ((lnFs m S X (p + r)).map some)), (1001, blkG O)] := by
  have hfe : ∀ x ∈ [(0 : Int), b], 0 ≤ x ∧ x < 1000 := fun x hx => by simp at hx; omega
  have hbd : -1000 ≤ -(r : Int) ∧ -(r : Int) ≤ 1000 := by omega
  have hd := lnD_ok hS hbd (feeds := [0, b]) rfl hfe
  have ho := lnD_ord hS (ρ := -(r : Int)) (by omega) hbd (fun i hi => by have := h1 i hi; omega) [0, b]
  have hp : ¬ (0 : Int) < -(r : Int) := by omega
  simp only [if_neg hp] at ho
  have hpr := preS_rev (lnC S) m m (Nat.le_refl _)
  simp only [Nat.sub_self, preS, Nat.add_zero] at hpr
  have fa := fi_rev (m := m) (S := S) (X := X) (p := p) (by omega)
  have fb := fi_rev (m := m) (S := S) (X := X) (p := p + r) (by omega)
  have e1 : X.length - p - preS (lnC S) m = (X.length - (p + r) - preS (lnC S) m) + r := by omega
  rw [e1] at fa
  obtain ⟨F, G, O, f0, g0, o0, hN, f1, g1, o1⟩ := chain_ex (lnD m S (-(r : Int)) [0, b]) hd (lnBwd hS h0 hr [0, b]) (tp_rev hX) (p := X.length - (p + r) - preS (lnC S) m) (by
      rw [List.length_reverse]
      show _ + preS (fun j => lnC S (m - 1 - j)) m ≤ _
      omega) (by
      rw [win_rev (by omega)]
      have e2 : X.length - (X.length - (p + r) - preS (lnC S) m) - r = p + preS (lnC S) m := by omega
      rw [e2, hfd, List.reverse_replicate]
      rfl) fa fb
  have := atick_fn (lnD m S (-(r : Int)) [0, b]) hd (lnD_net hS _ _) (lnFs m S X p) (lnFs_fills hS hX (by omega) _ _) ((List.range (m + 1)).map fun (j : Nat) => ((m - j : Nat) : Int)) (by have := hS.m4; simp; omega) ho hfe F G O f0 g0 o0 hN
  rw [f1] at this
  exact ⟨_, this⟩
theorem litres_win {l : List (Int × Int)} (h : ∀ p ∈ l, 0 < p.2) {i : Nat} {b v : Int} (hi : l[i]? = some (b, v)) {a r : Nat} (hr : (a : Int) + r ≤ v) : win (Pc.litres l) ((Pc.vol (l.take i)).toNat + a) r = List.replicate r b := by
  obtain ⟨hl, e⟩ := List.getElem?_eq_some_iff.1 hi
  have e1 : l = l.take i ++ (b, v) :: l.drop (i + 1) := by rw [← e, ← List.drop_eq_getElem_cons, List.take_append_drop]
  have hlen : (Pc.litres (l.take i)).length = (Pc.vol (l.take i)).toNat := by
    have := Pc.litres_length (l.take i) fun p hp => Int.le_of_lt (h p (List.mem_of_mem_take hp))
    omega
  rw [← hlen, congrArg Pc.litres e1, Pc.litres_append, win_skip, Pc.litres_cons]
  simp only [win]
  rw [List.drop_append, List.drop_replicate, List.take_append, List.take_replicate, List.length_replicate]
  have e2 : min r ((b, v).2.toNat - a) = r := by show min r (v.toNat - a) = r; omega
  have e3 : r - ((b, v).2.toNat - a) = 0 := by show r - (v.toNat - a) = 0; omega
  rw [e2, e3]; simp
theorem win_win (X : List Int) {C n p r : Nat} (h : p + r ≤ n) : win (win X C n) p r = win X (p + C) r := by
  simp only [win]
  rw [List.drop_take, List.drop_drop, List.take_take, Nat.add_comm C p]
  congr 1; omega
def posR (PL : List (Int × Int)) (j : Nat) : Nat := (Pc.vol (PL.take (PL.length - j))).toNat
theorem posR_step {PL : List (Int × Int)} (h : ∀ p ∈ PL, 0 < p.2) {j : Nat} {b v : Int} (hj : PL.reverse[j]? = some (b, v)) : posR PL j = posR PL (j + 1) + v.toNat ∧ PL[PL.length - (j + 1)]? = some (b, v) ∧ 0 < v := by
  obtain ⟨hl, e⟩ := List.getElem?_eq_some_iff.1 hj
  rw [List.length_reverse] at hl
  rw [List.getElem_reverse] at e
  have e2 : PL.length - 1 - j = PL.length - (j + 1) := by omega
  have g : PL[PL.length - (j + 1)]? = some (b, v) := by rw [← e]; simp only [e2]; exact List.getElem?_eq_getElem (by omega)
  have h0 := h (b, v) (List.mem_of_getElem? g)
  have hs := Pc.vol_snoc g
  have hv : ∀ k, 0 ≤ Pc.vol (PL.take k) := fun k => by
    have := Pc.litres_length (PL.take k) fun p hp => Int.le_of_lt (h p (List.mem_of_mem_take hp))
    omega
  have e3 : PL.length - j = PL.length - (j + 1) + 1 := by omega
  refine ⟨?_, g, h0⟩
  unfold posR
  rw [e3, hs]
  have := hv (PL.length - (j + 1))
  dsimp only at *
  omega
theorem posR_le {PL : List (Int × Int)} (h : ∀ p ∈ PL, 0 < p.2) (j : Nat) : posR PL j ≤ (Pc.litres PL).length := by
  have h1 := Pc.litres_length (PL.take (PL.length - j)) fun p hp => Int.le_of_lt (h p (List.mem_of_mem_take hp))
  have h2 : Pc.litres PL = Pc.litres (PL.take (PL.length - j)) ++ Pc.litres (PL.drop (PL.length - j)) := by rw [← Pc.litres_append, List.take_append_drop]
  have h3 := congrArg List.length h2
  rw [List.length_append] at h3
  unfold posR
  omega
end Go.Proofs.YtdjmklobfjigoaaGreatDoor
namespace Go.Proofs.YtdjmklobfjigoaaGreatDoor
open Go.RowKit Sy
open Go.IntWalk renaming iteOmega → iO, toNatUp → tN
structure FS where
  k : Nat
  v : Int
  out : List (Int × Int)
def fB (l : List Int) (b : Int) (s : FS) : Int := nV l s.k b
def fV (l : List Int) (s : FS) : Int := min (if s.out.length = 11 then s.v else rangeV l (nextK l s.k) 1 (max 1 (s.v * 2 / 3))) s.v
def fStep (l : List Int) (b : Int) (s : FS) : FS :=
  let k2 := nextK l (nextK l s.k)
  let x := fB l b s
  let y := fV l s
  match s.out.getLast? with
  | none => ⟨k2, s.v - y, s.out ++ [(x, y)]⟩
  | some q => if q.1 = x then (if q.1 = (x + 1) % b then ⟨k2, s.v - y, s.out.dropLast ++ [(q.1, q.2 + y)]⟩ else ⟨k2, s.v - y, s.out ++ [((x + 1) % b, y)]⟩)
    else ⟨k2, s.v - y, s.out ++ [(x, y)]⟩
def fGo (l : List Int) (b : Int) : Nat → FS → FS
  | 0, s => s
  | f + 1, s => if 0 < s.v ∧ s.out.length < 12 then fGo l b f (fStep l b s) else s
theorem fV_range {l : List Int} {s : FS} (h : 0 < s.v) : 1 ≤ fV l s ∧ fV l s ≤ s.v := by
  unfold fV
  have := rangeV_range (l := l) (k := nextK l s.k) (lo := 1) (hi := max 1 (s.v * 2 / 3)) (by omega)
  split <;> omega
theorem fStep_v {l : List Int} {b : Int} {s : FS} : (fStep l b s).v = s.v - fV l s ∧ (fStep l b s).k = nextK l (nextK l s.k) := by
  unfold fStep; simp only
  split
  · exact ⟨rfl, rfl⟩
  · split
    · split <;> exact ⟨rfl, rfl⟩
    · exact ⟨rfl, rfl⟩
theorem fGo_step {l : List Int} {b : Int} {f : Nat} {s : FS} (h : 0 < s.v) (h2 : s.out.length < 12) (hf : s.v.toNat ≤ f) : ∃ f', (fStep l b s).v.toNat ≤ f' ∧ fGo l b f s = fGo l b f' (fStep l b s) := by
  cases f with
  | zero => omega
  | succ f =>
    refine ⟨f, ?_, by simp only [fGo]; rw [if_pos ⟨h, h2⟩]⟩
    rw [fStep_v.1]
    have := fV_range (l := l) h
    omega
theorem fGo_end {l : List Int} {b : Int} {f : Nat} {s : FS} (h : ¬ (0 < s.v ∧ s.out.length < 12)) : fGo l b f s = s := by
  cases f with
  | zero => rfl
  | succ f => simp only [fGo]; rw [if_neg h]
def FI (l : List Int) (b : Int) (s : FS) : Prop := SrcOk l s.k ∧ 0 ≤ s.v ∧ s.v ≤ 1000000 ∧ s.out.length ≤ 12 ∧ ∀ p ∈ s.out, 0 ≤ p.1 ∧ p.1 < b ∧ 0 ≤ p.2 ∧ p.2 ≤ 1000000 - s.v
theorem fStep_ok {l : List Int} {b : Int} {s : FS} (h : FI l b s) (hb : 1 ≤ b) (h1 : 0 < s.v) (h2 : s.out.length < 12) : FI l b (fStep l b s) := by
  obtain ⟨hs, hv0, hv1, hlen, hall⟩ := h
  have hnb := nV_range (l := l) (k := s.k) (n := b) hb
  have hm1 := Int.emod_nonneg (nV l s.k b + 1) (show b ≠ 0 by omega)
  have hm2 := Int.emod_lt_of_pos (nV l s.k b + 1) (show 0 < b by omega)
  have hfv := fV_range (l := l) h1
  refine ⟨by rw [fStep_v.2]; exact hs.next.next, by rw [fStep_v.1]; omega, by rw [fStep_v.1]; omega, ?_, ?_⟩
  · unfold fStep fB; simp only
    split
    · simp only [List.length_append, List.length_singleton]; omega
    · split
      · split <;> simp <;> omega
      · simp only [List.length_append, List.length_singleton]; omega
  · rw [fStep_v.1]
    unfold fStep fB; simp only
    split
    · intro p hp
      simp only [List.mem_append, List.mem_singleton] at hp
      rcases hp with hp | rfl
      · have := hall p hp; omega
      · simp only; omega
    · rename_i q hq
      have hq' := hall q (List.mem_of_getLast? hq)
      split
      · split <;> intro p hp <;> simp only [List.mem_append, List.mem_singleton] at hp <;> rcases hp with hp | rfl
        · have := hall p ((List.dropLast_sublist _).subset hp); omega
        · simp only; omega
        · have := hall p hp; omega
        · simp only; omega
      · intro p hp
        simp only [List.mem_append, List.mem_singleton] at hp
        rcases hp with hp | rfl
        · have := hall p hp; omega
        · simp only; omega
def fillS (l : List Int) (k : Nat) (v b : Int) : FS := fGo l b v.toNat ⟨k, v, []⟩
theorem fill_fn (l : List Int) (k : Nat) (v b : Int) (h : SrcOk l k) (hb : 1 ≤ b) (hb2 : b ≤ 1000) (hv : 0 ≤ v) (hv2 : v ≤ 1000000) :
    FnOk Tryz.prog 35 [.pt 0 [] 0, .t (.int v), .t (.int b)] [(0, srcB l k)] (.own 1000) [(0, srcB l (fillS l k v b).k), (1000, blkP (fillS l k v b).out)] := by
  refine FnOk.intro fact_mixed Tryz.func35 rfl Tryz.ntmps35 (by rfl) (by simp) ?_
  repeat (first | (refine nf1_sound rfl ?_; simp [go_sem, ↓iO, iO, tN]) | refine anI ?_ | refine ⟨dcK, ?_⟩ | ((first | refine iP ?_ | refine iN ?_); try simp [go_sem, ↓iO, iO, tN]))
  refine nf1_sound' _ _ _ ?_; simp only [nf1]
  refine CW.loop (ι := FS) (fun s => ⟨[(0, .pt 0 [] 0), (1, .t (.int s.v)), (2, .t (.int b)), (7, .own 500)], [(0, srcB l s.k), (500, blkP s.out)]⟩)
    (fun s => FI l b s ∧ ∃ f, s.v.toNat ≤ f ∧ fGo l b f s = fillS l k v b) (fun s => s.v.toNat) ⟨k, v, []⟩ [(0, some 0), (500, none)] ⟨⟨h, hv, hv2, by simp, by simp⟩, _, Nat.le_refl _, rfl⟩ ?_ ?_
  · simp [go_sem, ↓iO, iO, tN]
  rintro s ⟨hFI, f, hf, hgo⟩
  obtain ⟨hs, hv0, hv1, hlen, hall⟩ := id hFI
  by_cases h1 : 0 < s.v
  · by_cases h2 : s.out.length < 12
    · obtain ⟨f', hf', hgo'⟩ := fGo_step (l := l) (b := b) h1 h2 hf
      have hnb := nV_range (l := l) (k := s.k) (n := b) hb
      have hrg := rangeV_range (l := l) (k := nextK l s.k) (lo := 1) (hi := max 1 (s.v * 2 / 3)) (by omega)
      have hfv := fV_range (l := l) h1
      have hdec : (fStep l b s).v.toNat < s.v.toNat := by rw [fStep_v.1]; omega
      have hnx := fStep_ok hFI hb h1 h2
      obtain ⟨k', v', out⟩ := s
      simp only at *
      rcases List.eq_nil_or_concat out with rfl | ⟨o, q, rfl⟩
      · repeat (first | (refine nf1_sound rfl ?_; simp [go_sem, ↓iO, iO, tN]) | refine anI ?_ | refine ⟨dcK, ?_⟩ | ((first | refine iP ?_ | refine iN ?_); try simp [go_sem, ↓iO, iO, tN]))
        refine CallK.fn (n_fn l k' b hs (by omega)) [(0, 0)] [] [] (by kernel_rfl) ?_ ?_ ?_ (Or.inl rfl) ?_ <;> simp [go_sem, ↓iO, iO, tN]
        repeat (refine anI ?_)
        try (refine ⟨dcK, ?_⟩)
        refine CallK.fn (range_fn l (nextK l k') 1 (max 1 (v' * 2 / 3)) hs.next (by omega) (by omega) (by omega)) [(0, 0)] [] [] (by kernel_rfl) ?_ ?_ ?_ (Or.inl rfl) ?_ <;> simp [go_sem, ↓iO, iO, tN]
        repeat (refine anI ?_)
        try (refine ⟨dcK, ?_⟩)
        repeat (first | (refine nf1_sound rfl ?_; simp [go_sem, ↓iO, iO, tN]) | refine anI ?_ | refine ⟨dcK, ?_⟩ | ((first | refine iP ?_ | refine iN ?_); try simp [go_sem, ↓iO, iO, tN]))
        rw [RoundQ_normal]; refine ⟨fStep l b ⟨k', v', []⟩, [(0, some 0), (500, some 190)], ?_, ?_, ?_⟩
        · exact ⟨hnx, f', by omega, hgo' ▸ hgo⟩
        · exact hdec
        simp [go_sem, ↓iO, iO, tN, fStep, fB, fV]
      · have hq := hall q (by simp)
        simp only [List.concat_eq_append] at *
        simp only [List.length_append, List.length_singleton] at hlen h2
        have key : fStep l b ⟨k', v', o ++ [q]⟩ = if q.1 = nV l k' b then (if q.1 = (nV l k' b + 1) % b then ⟨nextK l (nextK l k'), v' - fV l ⟨k', v', o ++ [q]⟩, o ++ [(q.1, q.2 + fV l ⟨k', v', o ++ [q]⟩)]⟩ else ⟨nextK l (nextK l k'), v' - fV l ⟨k', v', o ++ [q]⟩, o ++ [q] ++ [((nV l k' b + 1) % b, fV l ⟨k', v', o ++ [q]⟩)]⟩)
            else ⟨nextK l (nextK l k'), v' - fV l ⟨k', v', o ++ [q]⟩, o ++ [q] ++ [(nV l k' b, fV l ⟨k', v', o ++ [q]⟩)]⟩ := by
          simp [fStep, fB]
        by_cases h11 : o.length = 10
        all_goals
          repeat (first | (refine nf1_sound rfl ?_; simp [go_sem, ↓iO, iO, tN, h11]) | refine anI ?_ | refine ⟨dcK, ?_⟩ | ((first | refine iP ?_ | refine iN ?_); try simp [go_sem, ↓iO, iO, tN, h11]))
          refine CallK.fn (n_fn l k' b hs (by omega)) [(0, 0)] [] [] (by kernel_rfl) ?_ ?_ ?_ (Or.inl rfl) ?_ <;> simp [go_sem, ↓iO, iO, tN, h11]
          repeat (refine anI ?_)
          try (refine ⟨dcK, ?_⟩)
          refine CallK.fn (range_fn l (nextK l k') 1 (max 1 (v' * 2 / 3)) hs.next (by omega) (by omega) (by omega)) [(0, 0)] [] [] (by kernel_rfl) ?_ ?_ ?_ (Or.inl rfl) ?_ <;> simp [go_sem, ↓iO, iO, tN, h11]
          repeat (refine anI ?_)
          try (refine ⟨dcK, ?_⟩)
          repeat (first | (refine nf1_sound rfl ?_; simp [go_sem, ↓iO, iO, tN, h11]) | refine anI ?_ | refine ⟨dcK, ?_⟩ | ((first | refine iP ?_ | refine iN ?_); try simp [go_sem, ↓iO, iO, tN, h11]))
          by_cases he : q.1 = nV l k' b
          · rw [if_pos he]
            by_cases he2 : q.1 = (nV l k' b + 1) % b
            · repeat (first | (refine nf1_sound rfl ?_; simp [go_sem, ↓iO, iO, tN, h11, ← he2]) | refine anI ?_ | refine ⟨dcK, ?_⟩ | ((first | refine iP ?_ | refine iN ?_); try simp [go_sem, ↓iO, iO, tN, h11, ← he2]))
              have k2 := key; rw [if_pos he, if_pos he2] at k2
              rw [RoundQ_normal]; refine ⟨fStep l b ⟨k', v', o ++ [q]⟩, [(0, some 0), (500, some 500)], ?_, ?_, ?_⟩
              · exact ⟨hnx, f', by omega, hgo' ▸ hgo⟩
              · exact hdec
              simp [go_sem, ↓iO, iO, tN, k2, fV, h11]
            · repeat (first | (refine nf1_sound rfl ?_; simp [go_sem, ↓iO, iO, tN, h11, he2]) | refine anI ?_ | refine ⟨dcK, ?_⟩ | ((first | refine iP ?_ | refine iN ?_); try simp [go_sem, ↓iO, iO, tN, h11, he2]))
              have k2 := key; rw [if_pos he, if_neg he2] at k2
              rw [RoundQ_normal]; refine ⟨fStep l b ⟨k', v', o ++ [q]⟩, [(0, some 0), (500, some 190)], ?_, ?_, ?_⟩
              · exact ⟨hnx, f', by omega, hgo' ▸ hgo⟩
              · exact hdec
              simp [go_sem, ↓iO, iO, tN, k2, fV, h11]
          · rw [if_neg he]
            repeat (first | (refine nf1_sound rfl ?_; simp [go_sem, ↓iO, iO, tN, h11]) | refine anI ?_ | refine ⟨dcK, ?_⟩ | ((first | refine iP ?_ | refine iN ?_); try simp [go_sem, ↓iO, iO, tN, h11]))
            have k2 := key; rw [if_neg he] at k2
            rw [RoundQ_normal]; refine ⟨fStep l b ⟨k', v', o ++ [q]⟩, [(0, some 0), (500, some 190)], ?_, ?_, ?_⟩
            · exact ⟨hnx, f', by omega, hgo' ▸ hgo⟩
            · exact hdec
            simp [go_sem, ↓iO, iO, tN, k2, fV, h11]
    · rw [fGo_end (by omega)] at hgo
      repeat (first | (refine nf1_sound rfl ?_; simp [go_sem, ↓iO, iO, tN]) | refine anI ?_ | refine ⟨dcK, ?_⟩ | ((first | refine iP ?_ | refine iN ?_); try simp [go_sem, ↓iO, iO, tN]))
      first | rw [RetQ_ret] | rw [RetQ_normal]
      refine ⟨[(0, some 0), (1000, some 500)], ?_⟩
      simp [go_sem, ↓iO, iO, tN, ← hgo]
  · rw [fGo_end (by omega)] at hgo
    repeat (first | (refine nf1_sound rfl ?_; simp [go_sem, ↓iO, iO, tN]) | refine anI ?_ | refine ⟨dcK, ?_⟩ | ((first | refine iP ?_ | refine iN ?_); try simp [go_sem, ↓iO, iO, tN]))
    first | rw [RetQ_ret] | rw [RetQ_normal]
    refine ⟨[(0, some 0), (1000, some 500)], ?_⟩
    simp [go_sem, ↓iO, iO, tN, ← hgo]
end Go.Proofs.YtdjmklobfjigoaaGreatDoor
