/- What the laws draw: balances and an accuracy. No condition. -/
import Derived.Test.YtlkgoddhbdnfaaaBaFn
import Derived.Test.YtlkgoddhbdnfaaaKRange
import Derived.Test.YtlkgoddhbdnfaaaKPick
namespace Go.Proofs.Ytlkgoddhbdnfaaa
open Go.RowKit Sy
set_option linter.unusedVariables false
set_option linter.unusedSimpArgs false
set_option maxRecDepth 100000 in
theorem few_fn (l : List Int) (hl : l.length ≤ 9223372036854775807) : FnOk Try.prog 8 [.t (encIs l)] [] (.t (.bool (decide (l.length ≤ 400)))) [] := by
  refine FnOk.intro fact_mixed Try.func8 rfl Try.ntmps8 (by rfl) (by simp) ?_
  repeat (first | (refine nf1_sound rfl ?_; simp [go_sem, ↓IntWalk.iteOmega, IntWalk.iteOmega, IntWalk.toNatUp]; (repeat (refine And.intro (by omega) ?_)); try (refine ⟨DrawChk_of (by kernel_rfl), ?_⟩)) | (refine itePos (by omega) ?_; try simp [go_sem, ↓IntWalk.iteOmega, IntWalk.iteOmega, IntWalk.toNatUp]) | (refine iteNeg (by omega) ?_; try simp [go_sem, ↓IntWalk.iteOmega, IntWalk.iteOmega, IntWalk.toNatUp]))
  first | rw [RetQ_ret] | rw [RetQ_normal]
  refine ⟨[], ?_⟩
  simp [go_sem, ↓IntWalk.iteOmega, IntWalk.iteOmega, IntWalk.toNatUp]
  try omega
set_option maxRecDepth 100000 in
theorem smod_fn (x n : Int) (hn : n ≤ 9223372036854775807) : FnOk Try.prog 15 [.t (.int x), .t (.int n)] [] (.t (.int (modN x n))) [] := by
  refine FnOk.intro fact_mixed Try.func15 rfl Try.ntmps15 (by rfl) (by simp) ?_
  repeat (first | (refine nf1_sound rfl ?_; simp [go_sem, ↓IntWalk.iteOmega, IntWalk.iteOmega, IntWalk.toNatUp]; (repeat (refine And.intro (by omega) ?_)); try (refine ⟨DrawChk_of (by kernel_rfl), ?_⟩)) | (refine itePos (by omega) ?_; try simp [go_sem, ↓IntWalk.iteOmega, IntWalk.iteOmega, IntWalk.toNatUp]) | (refine iteNeg (by omega) ?_; try simp [go_sem, ↓IntWalk.iteOmega, IntWalk.iteOmega, IntWalk.toNatUp]))
  refine CallK.fn (mod_fn x n hn) [] [] [] (by kernel_rfl) (by simp [go_sem, ↓IntWalk.iteOmega, IntWalk.iteOmega, IntWalk.toNatUp]) (by simp [go_sem, ↓IntWalk.iteOmega, IntWalk.iteOmega, IntWalk.toNatUp]) (by simp [go_sem, ↓IntWalk.iteOmega, IntWalk.iteOmega, IntWalk.toNatUp]) (Or.inl rfl) ?_
  simp [go_sem, ↓IntWalk.iteOmega, IntWalk.iteOmega, IntWalk.toNatUp]
  repeat (refine And.intro (by omega) ?_)
  try (refine ⟨DrawChk_of (by kernel_rfl), ?_⟩)
  repeat (first | (refine nf1_sound rfl ?_; simp [go_sem, ↓IntWalk.iteOmega, IntWalk.iteOmega, IntWalk.toNatUp]; (repeat (refine And.intro (by omega) ?_)); try (refine ⟨DrawChk_of (by kernel_rfl), ?_⟩)) | (refine itePos (by omega) ?_; try simp [go_sem, ↓IntWalk.iteOmega, IntWalk.iteOmega, IntWalk.toNatUp]) | (refine iteNeg (by omega) ?_; try simp [go_sem, ↓IntWalk.iteOmega, IntWalk.iteOmega, IntWalk.toNatUp]))
  first | rw [RetQ_ret] | rw [RetQ_normal]
  refine ⟨[], ?_⟩
  simp [go_sem, ↓IntWalk.iteOmega, IntWalk.iteOmega, IntWalk.toNatUp]
set_option maxRecDepth 100000 in
set_option maxHeartbeats 4000000 in
theorem acc_ex {l : List Int} {k : Nat} (h : SrcOk l k) : ∃ a, (AccOk a ∧ a.p ≤ 10) ∧ FnOk Try.prog 12 [.pt 0 [] 0] [(0, srcB l k)] (.t (encA a)) [(0, srcB l (nextK l (nextK l k)))] := by
  obtain ⟨v, hv, c1⟩ := pick_ex h [0, 0, 1000, 20000, 100000] (by simp) (by simp)
  obtain ⟨t, ht, c2⟩ := pick_ex h.next [0, 0, 1, 10] (by simp) (by simp)
  refine ⟨⟨v, t⟩, ?_, ?_⟩
  · simp at hv ht
    unfold AccOk VolR
    dsimp only
    omega
  · refine FnOk.intro fact_mixed Try.func12 rfl Try.ntmps12 (by rfl) (by simp) ?_
    repeat (first | (refine nf1_sound rfl ?_; simp [go_sem, ↓IntWalk.iteOmega, IntWalk.iteOmega, IntWalk.toNatUp]; (repeat (refine And.intro (by omega) ?_)); try (refine ⟨DrawChk_of (by kernel_rfl), ?_⟩)) | (refine itePos (by omega) ?_; try simp [go_sem, ↓IntWalk.iteOmega, IntWalk.iteOmega, IntWalk.toNatUp]) | (refine iteNeg (by omega) ?_; try simp [go_sem, ↓IntWalk.iteOmega, IntWalk.iteOmega, IntWalk.toNatUp]))
    refine CallK.fn (c1) [(0, 0)] [] [104] (by kernel_rfl) (by simp [go_sem, ↓IntWalk.iteOmega, IntWalk.iteOmega, IntWalk.toNatUp]) (by simp [go_sem, ↓IntWalk.iteOmega, IntWalk.iteOmega, IntWalk.toNatUp]) (by simp [go_sem, ↓IntWalk.iteOmega, IntWalk.iteOmega, IntWalk.toNatUp]) (Or.inl rfl) ?_
    simp [go_sem, ↓IntWalk.iteOmega, IntWalk.iteOmega, IntWalk.toNatUp]
    repeat (refine And.intro (by omega) ?_)
    try (refine ⟨DrawChk_of (by kernel_rfl), ?_⟩)
    refine CallK.fn (c2) [(0, 0)] [] [107] (by kernel_rfl) (by simp [go_sem, ↓IntWalk.iteOmega, IntWalk.iteOmega, IntWalk.toNatUp]) (by simp [go_sem, ↓IntWalk.iteOmega, IntWalk.iteOmega, IntWalk.toNatUp]) (by simp [go_sem, ↓IntWalk.iteOmega, IntWalk.iteOmega, IntWalk.toNatUp]) (Or.inl rfl) ?_
    simp [go_sem, ↓IntWalk.iteOmega, IntWalk.iteOmega, IntWalk.toNatUp]
    repeat (refine And.intro (by omega) ?_)
    try (refine ⟨DrawChk_of (by kernel_rfl), ?_⟩)
    repeat (first | (refine nf1_sound rfl ?_; simp [go_sem, ↓IntWalk.iteOmega, IntWalk.iteOmega, IntWalk.toNatUp]; (repeat (refine And.intro (by omega) ?_)); try (refine ⟨DrawChk_of (by kernel_rfl), ?_⟩)) | (refine itePos (by omega) ?_; try simp [go_sem, ↓IntWalk.iteOmega, IntWalk.iteOmega, IntWalk.toNatUp]) | (refine iteNeg (by omega) ?_; try simp [go_sem, ↓IntWalk.iteOmega, IntWalk.iteOmega, IntWalk.toNatUp]))
    first | rw [RetQ_ret] | rw [RetQ_normal]
    refine ⟨[(0, some 0)], ?_⟩
    simp [go_sem, ↓IntWalk.iteOmega, IntWalk.iteOmega, IntWalk.toNatUp]
/-- Where balances are drawn. -/
structure BS where
  k : Nat
  p : Int
  r : List Bal
def balStep (l : List Int) (loss : Int) (s : BS) : BS :=
  ⟨nextK l (nextK l (nextK l s.k)), max 0 (s.p + nV l s.k 100 - nV l (nextK l s.k) (nV l s.k 100 + 10) - loss + nV l (nextK l (nextK l s.k)) 5 - 2),
    s.r ++ [⟨nV l s.k 100, nV l (nextK l s.k) (nV l s.k 100 + 10), max 0 (s.p + nV l s.k 100 - nV l (nextK l s.k) (nV l s.k 100 + 10) - loss + nV l (nextK l (nextK l s.k)) 5 - 2)⟩]⟩
abbrev SmallB (b : Bal) : Prop := (0 ≤ b.i ∧ b.i ≤ 99) ∧ (0 ≤ b.o ∧ b.o ≤ 108) ∧ (0 ≤ b.p ∧ b.p ≤ 20000)
theorem small_ok {b : Bal} (h : SmallB b) : BalOk b := by
  obtain ⟨⟨_, _⟩, ⟨_, _⟩, _, _⟩ := h
  exact ⟨⟨by omega, by omega⟩, ⟨by omega, by omega⟩, by omega, by omega⟩
structure BSOk (l : List Int) (j : Nat) (s : BS) : Prop where
  src : SrcOk l s.k
  runs : j ≤ 30 → ∀ b ∈ s.r, SmallB b
  len : s.r.length = j
  pack : 0 ≤ s.p ∧ s.p ≤ 5000 + 110 * (j : Int)
theorem bal_num {l : List Int} {k : Nat} : (0 ≤ nV l k 100 ∧ nV l k 100 < 100) ∧ (0 ≤ nV l (nextK l k) (nV l k 100 + 10) ∧ nV l (nextK l k) (nV l k 100 + 10) < nV l k 100 + 10) ∧ 0 ≤ nV l (nextK l (nextK l k)) 5 ∧ nV l (nextK l (nextK l k)) 5 < 5 := by
  have h1 := nV_range (l := l) (k := k) (n := 100) (by omega)
  have h2 := nV_range (l := l) (k := nextK l k) (n := nV l k 100 + 10) (by omega)
  have h3 := nV_range (l := l) (k := nextK l (nextK l k)) (n := 5) (by omega)
  exact ⟨h1, h2, h3⟩
theorem bal_step {l : List Int} {loss : Int} (he : 0 ≤ loss) (j : Nat) (s : BS) (h : BSOk l j s) : BSOk l (j + 1) (balStep l loss s) := by
  have hn := bal_num (l := l) (k := s.k)
  have hp := h.pack
  refine ⟨h.src.next.next.next, ?_, by simp [balStep, h.len], ?_⟩
  · intro hj x hx
    rcases List.mem_append.1 hx with hx | hx
    · exact h.runs (by omega) x hx
    · simp only [List.mem_singleton] at hx
      subst hx
      unfold SmallB
      dsimp only
      omega
  · unfold balStep
    dsimp only
    omega
set_option maxRecDepth 100000 in
set_option maxHeartbeats 8000000 in
theorem bals_ex {l : List Int} {k : Nat} (h : SrcOk l k) (most : Int) (hm1 : 0 ≤ most) (hm2 : most ≤ 30) :
    ∃ k' r, SrcOk l k' ∧ (∀ b ∈ r, SmallB b) ∧ (r.length : Int) ≤ most ∧ FnOk Try.prog 11 [.pt 0 [] 0, .t (.int most)] [(0, srcB l k)] (.own 1000) [(0, srcB l k'), (1000, blkBs r)] := by
  have r1 := rangeV_range (l := l) (k := k) (lo := 0) (hi := 5000) (by omega)
  have c1 := range_fn l k 0 5000 h (by omega) (by omega) (by omega)
  obtain ⟨p0, hp0⟩ : ∃ p, rangeV l k 0 5000 = p := ⟨_, rfl⟩
  rw [hp0] at r1 c1
  obtain ⟨loss, hls, c2⟩ := pick_ex h.next [0, 0, 1, 5, 20] (by simp) (by simp)
  have hloss : 0 ≤ loss ∧ loss ≤ 20 := by simp at hls; omega
  obtain ⟨n, hn, c3⟩ := n_ex h.next.next (most + 1) (by omega) (by omega)
  obtain ⟨K, hK⟩ : ∃ K, nextK l (nextK l (nextK l k)) = K := ⟨_, rfl⟩
  have h3 := h.next.next.next
  rw [hK] at h3 c3
  have ok : ∀ j, BSOk l j (iter (balStep l loss) j ⟨K, p0, []⟩) := iter_inv ⟨h3, fun _ x hx => by simp at hx, rfl, by dsimp only; omega⟩ (bal_step hloss.1)
  have hf := ok n.toNat
  refine ⟨_, _, hf.src, hf.runs (by omega), by have := hf.len; omega, ?_⟩
  refine FnOk.intro fact_mixed Try.func11 rfl Try.ntmps11 (by rfl) (by simp) ?_
  repeat (first | (refine nf1_sound rfl ?_; simp [go_sem, ↓IntWalk.iteOmega, IntWalk.iteOmega, IntWalk.toNatUp]; (repeat (refine And.intro (by omega) ?_)); try (refine ⟨DrawChk_of (by kernel_rfl), ?_⟩)) | (refine itePos (by omega) ?_; try simp [go_sem, ↓IntWalk.iteOmega, IntWalk.iteOmega, IntWalk.toNatUp]) | (refine iteNeg (by omega) ?_; try simp [go_sem, ↓IntWalk.iteOmega, IntWalk.iteOmega, IntWalk.toNatUp]))
  refine CallK.fn (c1) [(0, 0)] [] [] (by kernel_rfl) (by simp [go_sem, ↓IntWalk.iteOmega, IntWalk.iteOmega, IntWalk.toNatUp]) (by simp [go_sem, ↓IntWalk.iteOmega, IntWalk.iteOmega, IntWalk.toNatUp]) (by simp [go_sem, ↓IntWalk.iteOmega, IntWalk.iteOmega, IntWalk.toNatUp]) (Or.inl rfl) ?_
  simp [go_sem, ↓IntWalk.iteOmega, IntWalk.iteOmega, IntWalk.toNatUp]
  repeat (refine And.intro (by omega) ?_)
  try (refine ⟨DrawChk_of (by kernel_rfl), ?_⟩)
  repeat (first | (refine nf1_sound rfl ?_; simp [go_sem, ↓IntWalk.iteOmega, IntWalk.iteOmega, IntWalk.toNatUp]; (repeat (refine And.intro (by omega) ?_)); try (refine ⟨DrawChk_of (by kernel_rfl), ?_⟩)) | (refine itePos (by omega) ?_; try simp [go_sem, ↓IntWalk.iteOmega, IntWalk.iteOmega, IntWalk.toNatUp]) | (refine iteNeg (by omega) ?_; try simp [go_sem, ↓IntWalk.iteOmega, IntWalk.iteOmega, IntWalk.toNatUp]))
  refine CallK.fn (c2) [(0, 0)] [] [113] (by kernel_rfl) (by simp [go_sem, ↓IntWalk.iteOmega, IntWalk.iteOmega, IntWalk.toNatUp]) (by simp [go_sem, ↓IntWalk.iteOmega, IntWalk.iteOmega, IntWalk.toNatUp]) (by simp [go_sem, ↓IntWalk.iteOmega, IntWalk.iteOmega, IntWalk.toNatUp]) (Or.inl rfl) ?_
  simp [go_sem, ↓IntWalk.iteOmega, IntWalk.iteOmega, IntWalk.toNatUp]
  repeat (refine And.intro (by omega) ?_)
  try (refine ⟨DrawChk_of (by kernel_rfl), ?_⟩)
  repeat (first | (refine nf1_sound rfl ?_; simp [go_sem, ↓IntWalk.iteOmega, IntWalk.iteOmega, IntWalk.toNatUp]; (repeat (refine And.intro (by omega) ?_)); try (refine ⟨DrawChk_of (by kernel_rfl), ?_⟩)) | (refine itePos (by omega) ?_; try simp [go_sem, ↓IntWalk.iteOmega, IntWalk.iteOmega, IntWalk.toNatUp]) | (refine iteNeg (by omega) ?_; try simp [go_sem, ↓IntWalk.iteOmega, IntWalk.iteOmega, IntWalk.toNatUp]))
  refine CallK.fn (c3) [(0, 0)] [] [] (by kernel_rfl) (by simp [go_sem, ↓IntWalk.iteOmega, IntWalk.iteOmega, IntWalk.toNatUp]) (by simp [go_sem, ↓IntWalk.iteOmega, IntWalk.iteOmega, IntWalk.toNatUp]) (by simp [go_sem, ↓IntWalk.iteOmega, IntWalk.iteOmega, IntWalk.toNatUp]) (Or.inl rfl) ?_
  simp [go_sem, ↓IntWalk.iteOmega, IntWalk.iteOmega, IntWalk.toNatUp]
  repeat (refine And.intro (by omega) ?_)
  try (refine ⟨DrawChk_of (by kernel_rfl), ?_⟩)
  repeat (first | (refine nf1_sound rfl ?_; simp [go_sem, ↓IntWalk.iteOmega, IntWalk.iteOmega, IntWalk.toNatUp]; (repeat (refine And.intro (by omega) ?_)); try (refine ⟨DrawChk_of (by kernel_rfl), ?_⟩)) | (refine itePos (by omega) ?_; try simp [go_sem, ↓IntWalk.iteOmega, IntWalk.iteOmega, IntWalk.toNatUp]) | (refine iteNeg (by omega) ?_; try simp [go_sem, ↓IntWalk.iteOmega, IntWalk.iteOmega, IntWalk.toNatUp]))
  refine nf1_sound' _ _ _ ?_; simp only [nf1]
  refine CW.loop (ι := Nat) (fun j => ⟨[(0, .pt 0 [] 0), (7, .t (.int loss)), (6, .t (.int (iter (balStep l loss) j ⟨K, p0, []⟩).p)), (5, .own 500), (8, .t (.int (n - j)))], [(0, srcB l (iter (balStep l loss) j ⟨K, p0, []⟩).k), (500, blkBs (iter (balStep l loss) j ⟨K, p0, []⟩).r)]⟩) (fun j => (j : Int) ≤ n) (fun j => n.toNat - j) 0 [(0, some 0), (500, none)] (by omega) ?_ ?_
  · simp [go_sem, ↓IntWalk.iteOmega, IntWalk.iteOmega, IntWalk.toNatUp, iter]
  intro j hj
  have oj := ok j
  have hst := iter_succ (balStep l loss) j ⟨K, p0, []⟩
  obtain ⟨s, hs⟩ : ∃ s, iter (balStep l loss) j ⟨K, p0, []⟩ = s := ⟨_, rfl⟩
  rw [hs] at oj hst
  obtain ⟨k1, p1, r1⟩ := s
  have hsrc := oj.src
  have hlen := oj.len
  have hpk := oj.pack
  simp only at hsrc hlen hpk
  by_cases hb : (j : Int) < n
  · have hnum := bal_num (l := l) (k := k1)
    have ca := n_fn l k1 100 hsrc (by omega)
    have hst2 : balStep l loss ⟨k1, p1, r1⟩ = ⟨nextK l (nextK l (nextK l k1)), max 0 (p1 + nV l k1 100 - nV l (nextK l k1) (nV l k1 100 + 10) - loss + nV l (nextK l (nextK l k1)) 5 - 2), r1 ++ [⟨nV l k1 100, nV l (nextK l k1) (nV l k1 100 + 10), max 0 (p1 + nV l k1 100 - nV l (nextK l k1) (nV l k1 100 + 10) - loss + nV l (nextK l (nextK l k1)) 5 - 2)⟩]⟩ := rfl
    obtain ⟨a, haa⟩ : ∃ a, nV l k1 100 = a := ⟨_, rfl⟩
    rw [haa] at hnum hst2 ca
    have cb := n_fn l (nextK l k1) (a + 10) hsrc.next (by omega)
    obtain ⟨b, hbb⟩ : ∃ b, nV l (nextK l k1) (a + 10) = b := ⟨_, rfl⟩
    rw [hbb] at hnum hst2 cb
    have cc := n_fn l (nextK l (nextK l k1)) 5 hsrc.next.next (by omega)
    obtain ⟨c, hcc⟩ : ∃ b, nV l (nextK l (nextK l k1)) 5 = b := ⟨_, rfl⟩
    rw [hcc] at hnum hst2 cc
    rw [hst2] at hst
    repeat (first | (refine nf1_sound rfl ?_; simp [go_sem, ↓IntWalk.iteOmega, IntWalk.iteOmega, IntWalk.toNatUp, hs]; (repeat (refine And.intro (by omega) ?_)); try (refine ⟨DrawChk_of (by kernel_rfl), ?_⟩)) | (refine itePos (by omega) ?_; try simp [go_sem, ↓IntWalk.iteOmega, IntWalk.iteOmega, IntWalk.toNatUp, hs]) | (refine iteNeg (by omega) ?_; try simp [go_sem, ↓IntWalk.iteOmega, IntWalk.iteOmega, IntWalk.toNatUp, hs]))
    refine CallK.fn (ca) [(0, 0)] [] [] (by kernel_rfl) (by simp [go_sem, ↓IntWalk.iteOmega, IntWalk.iteOmega, IntWalk.toNatUp]) (by simp [go_sem, ↓IntWalk.iteOmega, IntWalk.iteOmega, IntWalk.toNatUp]) (by simp [go_sem, ↓IntWalk.iteOmega, IntWalk.iteOmega, IntWalk.toNatUp]) (Or.inl rfl) ?_
    simp [go_sem, ↓IntWalk.iteOmega, IntWalk.iteOmega, IntWalk.toNatUp]
    repeat (refine And.intro (by omega) ?_)
    try (refine ⟨DrawChk_of (by kernel_rfl), ?_⟩)
    repeat (first | (refine nf1_sound rfl ?_; simp [go_sem, ↓IntWalk.iteOmega, IntWalk.iteOmega, IntWalk.toNatUp]; (repeat (refine And.intro (by omega) ?_)); try (refine ⟨DrawChk_of (by kernel_rfl), ?_⟩)) | (refine itePos (by omega) ?_; try simp [go_sem, ↓IntWalk.iteOmega, IntWalk.iteOmega, IntWalk.toNatUp]) | (refine iteNeg (by omega) ?_; try simp [go_sem, ↓IntWalk.iteOmega, IntWalk.iteOmega, IntWalk.toNatUp]))
    refine CallK.fn (cb) [(0, 0)] [] [] (by kernel_rfl) (by simp [go_sem, ↓IntWalk.iteOmega, IntWalk.iteOmega, IntWalk.toNatUp]) (by simp [go_sem, ↓IntWalk.iteOmega, IntWalk.iteOmega, IntWalk.toNatUp]) (by simp [go_sem, ↓IntWalk.iteOmega, IntWalk.iteOmega, IntWalk.toNatUp]) (Or.inl rfl) ?_
    simp [go_sem, ↓IntWalk.iteOmega, IntWalk.iteOmega, IntWalk.toNatUp]
    repeat (refine And.intro (by omega) ?_)
    try (refine ⟨DrawChk_of (by kernel_rfl), ?_⟩)
    repeat (first | (refine nf1_sound rfl ?_; simp [go_sem, ↓IntWalk.iteOmega, IntWalk.iteOmega, IntWalk.toNatUp]; (repeat (refine And.intro (by omega) ?_)); try (refine ⟨DrawChk_of (by kernel_rfl), ?_⟩)) | (refine itePos (by omega) ?_; try simp [go_sem, ↓IntWalk.iteOmega, IntWalk.iteOmega, IntWalk.toNatUp]) | (refine iteNeg (by omega) ?_; try simp [go_sem, ↓IntWalk.iteOmega, IntWalk.iteOmega, IntWalk.toNatUp]))
    refine CallK.fn (cc) [(0, 0)] [] [] (by kernel_rfl) (by simp [go_sem, ↓IntWalk.iteOmega, IntWalk.iteOmega, IntWalk.toNatUp]) (by simp [go_sem, ↓IntWalk.iteOmega, IntWalk.iteOmega, IntWalk.toNatUp]) (by simp [go_sem, ↓IntWalk.iteOmega, IntWalk.iteOmega, IntWalk.toNatUp]) (Or.inl rfl) ?_
    simp [go_sem, ↓IntWalk.iteOmega, IntWalk.iteOmega, IntWalk.toNatUp]
    repeat (refine And.intro (by omega) ?_)
    try (refine ⟨DrawChk_of (by kernel_rfl), ?_⟩)
    repeat (first | (refine nf1_sound rfl ?_; simp [go_sem, ↓IntWalk.iteOmega, IntWalk.iteOmega, IntWalk.toNatUp]; (repeat (refine And.intro (by omega) ?_)); try (refine ⟨DrawChk_of (by kernel_rfl), ?_⟩)) | (refine itePos (by omega) ?_; try simp [go_sem, ↓IntWalk.iteOmega, IntWalk.iteOmega, IntWalk.toNatUp]) | (refine iteNeg (by omega) ?_; try simp [go_sem, ↓IntWalk.iteOmega, IntWalk.iteOmega, IntWalk.toNatUp]))
    rw [RoundQ_normal]; refine ⟨j + 1, [(0, some 0), (500, some 151)], ?_, ?_, ?_⟩
    · omega
    · omega
    simp [go_sem, ↓IntWalk.iteOmega, IntWalk.iteOmega, IntWalk.toNatUp, hst]
    omega
  · obtain rfl : j = n.toNat := by omega
    repeat (first | (refine nf1_sound rfl ?_; simp [go_sem, ↓IntWalk.iteOmega, IntWalk.iteOmega, IntWalk.toNatUp]; (repeat (refine And.intro (by omega) ?_)); try (refine ⟨DrawChk_of (by kernel_rfl), ?_⟩)) | (refine itePos (by omega) ?_; try simp [go_sem, ↓IntWalk.iteOmega, IntWalk.iteOmega, IntWalk.toNatUp]) | (refine iteNeg (by omega) ?_; try simp [go_sem, ↓IntWalk.iteOmega, IntWalk.iteOmega, IntWalk.toNatUp]))
    first | rw [RetQ_ret] | rw [RetQ_normal]
    refine ⟨[(0, some 0), (1000, some 500)], ?_⟩
    simp [go_sem, ↓IntWalk.iteOmega, IntWalk.iteOmega, IntWalk.toNatUp]
end Go.Proofs.Ytlkgoddhbdnfaaa
