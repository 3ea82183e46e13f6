/- Several texts of this proof, one behind the other. No condition. -/
import Derived.Test.YtcehllkmfkoncaaGreatTTolsB20
import Derived.Test.YtcehllkmfkoncaaGreatTTolsB24
import Derived.Test.YtcehllkmfkoncaaGreatTTolsB16
import Derived.Test.YtcehllkmfkoncaaGreatTTolsB23
import Derived.Test.YtcehllkmfkoncaaGreatTTolsB22
/- The reference's Merge as a contract. No condition. -/
namespace Go.Proofs.YtcehllkmfkoncaaGreat
open Go.RowKit Sy
open Go.IntWalk renaming iteOmega → iO, toNatUp → tN
set_option linter.unusedVariables false
set_option linter.unusedSimpArgs false
set_option maxRecDepth 100000 in
set_option maxHeartbeats 8000000 in
theorem rmerge_fn (l : List (Int × Int)) (hlen : l.length ≤ 1000000) (r : List (Int × Int)) (hr : Pc.merge l = r) : FnOk Tryz.prog 16 [.t (encPs l)] [] (.own 1000) [(1000, blkP r)] := by
  by_cases h4 : l.length ≤ 400
  · refine FnOk.intro fact_mixed Tryz.func16 rfl Tryz.ntmps16 (by rfl) (by simp) ?_
    repeat (first | (refine nf1_sound rfl ?_; simp [go_sem, ↓iO, iO, tN]; (repeat (refine anI ?_)); try (refine ⟨dcK, ?_⟩)) | ((first | refine itePos (by omega) ?_ | refine iteNeg (by omega) ?_); try simp [go_sem, ↓iO, iO, tN]) | (refine ⟨dcK, ?_⟩))
    refine nf1_sound' _ _ _ ?_; simp only [nf1]
    refine CW.loop (ι := Nat) (fun k => ⟨[(0, .t (encPs l)), (8, .t (encPs l)), (9, .t (.int l.length)), (10, .t (.int k))], []⟩) (fun k => k ≤ l.length ∧ ∀ p ∈ l.take k, Lit p) (fun k => l.length - k) 0 [] ⟨by omega, by simp⟩ ?_ ?_
    · simp [go_sem, ↓iO, iO, tN]
    rintro k ⟨hk, ho⟩
    by_cases hb : k < l.length
    · obtain ⟨p, hp⟩ := has_get hb
      have hm := mem_get hp
      obtain ⟨p1, p2⟩ := p
      by_cases hL : Lit (p1, p2)
      · have ho2 : ∀ q ∈ l.take (k + 1), Lit q := by
          rw [take_snoc hp]
          intro q hq
          rcases List.mem_append.1 hq with hq | hq
          · exact ho q hq
          · simp only [List.mem_singleton] at hq
            subst hq
            exact hL
        have l1 : 0 ≤ p1 ∧ p1 < 1000 := hL.1
        have l2 : 0 ≤ p2 := hL.2.1
        have l3 : p2 ≤ 1000000 := hL.2.2
        repeat (first | (refine nf1_sound rfl ?_; simp [go_sem, ↓iO, iO, tN, hp]; (repeat (refine anI ?_)); try (refine ⟨dcK, ?_⟩)) | ((first | refine itePos (by omega) ?_ | refine iteNeg (by omega) ?_); try simp [go_sem, ↓iO, iO, tN, hp]) | (refine ⟨dcK, ?_⟩))
        refine CallK.fn (proper_fn' p1 true (decide_eq_true l1)) [] [] [] (by kernel_rfl) ?_ ?_ ?_ (Or.inl rfl) ?_ <;> simp [go_sem, ↓iO, iO, tN]
        repeat (refine anI ?_)
        try (refine ⟨dcK, ?_⟩)
        repeat (first | (refine nf1_sound rfl ?_; simp [go_sem, ↓iO, iO, tN]; (repeat (refine anI ?_)); try (refine ⟨dcK, ?_⟩)) | ((first | refine itePos (by omega) ?_ | refine iteNeg (by omega) ?_); try simp [go_sem, ↓iO, iO, tN]) | (refine ⟨dcK, ?_⟩))
        rw [RoundQ_normal]; refine ⟨k + 1, [], ?_, ?_, ?_⟩
        · exact ⟨by omega, fun a b hab => ho2 (a, b) hab⟩
        · omega
        simp [go_sem, ↓iO, iO, tN]
      · rw [merge_bad (fun h => hL (h.2 _ hm))] at hr
        subst hr
        by_cases l1 : 0 ≤ p1 ∧ p1 < 1000
        · by_cases l2 : 0 ≤ p2
          · have l3 : ¬ p2 ≤ 1000000 := fun h => hL ⟨l1, l2, h⟩
            repeat (first | (refine nf1_sound rfl ?_; simp [go_sem, ↓iO, iO, tN, hp]; (repeat (refine anI ?_)); try (refine ⟨dcK, ?_⟩)) | ((first | refine itePos (by omega) ?_ | refine iteNeg (by omega) ?_); try simp [go_sem, ↓iO, iO, tN, hp]) | (refine ⟨dcK, ?_⟩))
            refine CallK.fn (proper_fn' p1 true (decide_eq_true l1)) [] [] [] (by kernel_rfl) ?_ ?_ ?_ (Or.inl rfl) ?_ <;> simp [go_sem, ↓iO, iO, tN]
            repeat (refine anI ?_)
            try (refine ⟨dcK, ?_⟩)
            repeat (first | (refine nf1_sound rfl ?_; simp [go_sem, ↓iO, iO, tN]; (repeat (refine anI ?_)); try (refine ⟨dcK, ?_⟩)) | ((first | refine itePos (by omega) ?_ | refine iteNeg (by omega) ?_); try simp [go_sem, ↓iO, iO, tN]) | (refine ⟨dcK, ?_⟩))
            first | rw [RetQ_ret] | rw [RetQ_normal]
            refine ⟨[(1000, none)], ?_⟩
            simp [go_sem, ↓iO, iO, tN]
          · repeat (first | (refine nf1_sound rfl ?_; simp [go_sem, ↓iO, iO, tN, hp]; (repeat (refine anI ?_)); try (refine ⟨dcK, ?_⟩)) | ((first | refine itePos (by omega) ?_ | refine iteNeg (by omega) ?_); try simp [go_sem, ↓iO, iO, tN, hp]) | (refine ⟨dcK, ?_⟩))
            refine CallK.fn (proper_fn' p1 true (decide_eq_true l1)) [] [] [] (by kernel_rfl) ?_ ?_ ?_ (Or.inl rfl) ?_ <;> simp [go_sem, ↓iO, iO, tN]
            repeat (refine anI ?_)
            try (refine ⟨dcK, ?_⟩)
            repeat (first | (refine nf1_sound rfl ?_; simp [go_sem, ↓iO, iO, tN]; (repeat (refine anI ?_)); try (refine ⟨dcK, ?_⟩)) | ((first | refine itePos (by omega) ?_ | refine iteNeg (by omega) ?_); try simp [go_sem, ↓iO, iO, tN]) | (refine ⟨dcK, ?_⟩))
            first | rw [RetQ_ret] | rw [RetQ_normal]
            refine ⟨[(1000, none)], ?_⟩
            simp [go_sem, ↓iO, iO, tN]
        · repeat (first | (refine nf1_sound rfl ?_; simp [go_sem, ↓iO, iO, tN, hp]; (repeat (refine anI ?_)); try (refine ⟨dcK, ?_⟩)) | ((first | refine itePos (by omega) ?_ | refine iteNeg (by omega) ?_); try simp [go_sem, ↓iO, iO, tN, hp]) | (refine ⟨dcK, ?_⟩))
          refine CallK.fn (proper_fn' p1 false (decide_eq_false l1)) [] [] [] (by kernel_rfl) ?_ ?_ ?_ (Or.inl rfl) ?_ <;> simp [go_sem, ↓iO, iO, tN]
          repeat (refine anI ?_)
          try (refine ⟨dcK, ?_⟩)
          repeat (first | (refine nf1_sound rfl ?_; simp [go_sem, ↓iO, iO, tN]; (repeat (refine anI ?_)); try (refine ⟨dcK, ?_⟩)) | ((first | refine itePos (by omega) ?_ | refine iteNeg (by omega) ?_); try simp [go_sem, ↓iO, iO, tN]) | (refine ⟨dcK, ?_⟩))
          first | rw [RetQ_ret] | rw [RetQ_normal]
          refine ⟨[(1000, none)], ?_⟩
          simp [go_sem, ↓iO, iO, tN]
    · obtain rfl : k = l.length := by omega
      rw [List.take_length] at ho
      have hP : Pc.Proper l := ⟨h4, ho⟩
      rw [merge_good hP] at hr
      have cj := joined_fn l (proper_sane hP)
      rw [hr] at cj
      repeat (first | (refine nf1_sound rfl ?_; simp [go_sem, ↓iO, iO, tN]; (repeat (refine anI ?_)); try (refine ⟨dcK, ?_⟩)) | ((first | refine itePos (by omega) ?_ | refine iteNeg (by omega) ?_); try simp [go_sem, ↓iO, iO, tN]) | (refine ⟨dcK, ?_⟩))
      refine CallK.fn (cj) [(1000, 600)] [] [] (by kernel_rfl) ?_ ?_ ?_ (Or.inl rfl) ?_ <;> simp [go_sem, ↓iO, iO, tN]
      repeat (refine anI ?_)
      try (refine ⟨dcK, ?_⟩)
      repeat (first | (refine nf1_sound rfl ?_; simp [go_sem, ↓iO, iO, tN]; (repeat (refine anI ?_)); try (refine ⟨dcK, ?_⟩)) | ((first | refine itePos (by omega) ?_ | refine iteNeg (by omega) ?_); try simp [go_sem, ↓iO, iO, tN]) | (refine ⟨dcK, ?_⟩))
      first | rw [RetQ_ret] | rw [RetQ_normal]
      refine ⟨[(1000, some 600)], ?_⟩
      simp [go_sem, ↓iO, iO, tN]
  · rw [merge_bad (fun h => h4 h.1)] at hr
    subst hr
    refine FnOk.intro fact_mixed Tryz.func16 rfl Tryz.ntmps16 (by rfl) (by simp) ?_
    repeat (first | (refine nf1_sound rfl ?_; simp [go_sem, ↓iO, iO, tN]; (repeat (refine anI ?_)); try (refine ⟨dcK, ?_⟩)) | ((first | refine itePos (by omega) ?_ | refine iteNeg (by omega) ?_); try simp [go_sem, ↓iO, iO, tN]) | (refine ⟨dcK, ?_⟩))
    first | rw [RetQ_ret] | rw [RetQ_normal]
    refine ⟨[(1000, none)], ?_⟩
    simp [go_sem, ↓iO, iO, tN]
end Go.Proofs.YtcehllkmfkoncaaGreat
/- keep.Range as a contract. No condition. -/
namespace Go.Proofs.YtcehllkmfkoncaaGreat
open Go.RowKit Sy
open Go.IntWalk renaming iteOmega → iO, toNatUp → tN
set_option linter.unusedVariables false
set_option linter.unusedSimpArgs false
def rangeV (l : List Int) (k : Nat) (lo hi : Int) : Int := lo + nV l k (hi - lo + 1)
theorem rangeV_range {l : List Int} {k : Nat} {lo hi : Int} (h : lo ≤ hi) : lo ≤ rangeV l k lo hi ∧ rangeV l k lo hi ≤ hi := by
  have := nV_range (l := l) (k := k) (n := hi - lo + 1) (by omega)
  unfold rangeV; omega
set_option maxRecDepth 100000 in
theorem range_fn (l : List Int) (k : Nat) (lo hi : Int) (h : SrcOk l k) (h1 : -1000000000000000000 ≤ lo) (h2 : lo ≤ hi) (h3 : hi ≤ 1000000000000000000) :
    FnOk Tryz.prog 8 [.pt 0 [] 0, .t (.int lo), .t (.int hi)] [(0, srcB l k)] (.t (.int (rangeV l k lo hi))) [(0, srcB l (nextK l k))] := by
  have h4 := nV_range (l := l) (k := k) (n := hi - lo + 1) (by omega)
  refine FnOk.intro fact_mixed Tryz.func8 rfl Tryz.ntmps8 (by rfl) (by simp) ?_
  repeat (first | (refine nf1_sound rfl ?_; simp [go_sem, ↓iO, iO, tN]; (repeat (refine anI ?_)); try (refine ⟨dcK, ?_⟩)) | ((first | refine itePos (by omega) ?_ | refine iteNeg (by omega) ?_); try simp [go_sem, ↓iO, iO, tN]) | (refine ⟨dcK, ?_⟩))
  refine CallK.fn (n_fn l k (hi - lo + 1) h (by omega)) [(0, 0)] [] [] (by kernel_rfl) ?_ ?_ ?_ (Or.inl rfl) ?_ <;> simp [go_sem, ↓iO, iO, tN]
  repeat (refine anI ?_)
  try (refine ⟨dcK, ?_⟩)
  repeat (first | (refine nf1_sound rfl ?_; simp [go_sem, ↓iO, iO, tN]; (repeat (refine anI ?_)); try (refine ⟨dcK, ?_⟩)) | ((first | refine itePos (by omega) ?_ | refine iteNeg (by omega) ?_); try simp [go_sem, ↓iO, iO, tN]) | (refine ⟨dcK, ?_⟩))
  first | rw [RetQ_ret] | rw [RetQ_normal]
  refine ⟨[(0, some 0)], ?_⟩
  simp [go_sem, ↓iO, iO, tN, rangeV]
end Go.Proofs.YtcehllkmfkoncaaGreat
/- keep.Fill: what it makes, in plain Lean; and its contract. No condition. -/
namespace Go.Proofs.YtcehllkmfkoncaaGreat
open Go.RowKit Sy
open Go.IntWalk renaming iteOmega → iO, toNatUp → tN
set_option linter.unusedVariables false
set_option linter.unusedSimpArgs false

/-- The reader's place, the volume that is left, the pieces so far. -/
structure FS where
  k : Nat
  v : Int
  out : List (Int × Int)
/-- The piece that is drawn. -/
def fB (l : List Int) (b : Int) (s : FS) : Int := nV l s.k b
def fV (l : List Int) (s : FS) : Int := min (if s.out.length = 11 then s.v else rangeV l (nextK l s.k) 1 (max 1 (s.v * 2 / 3))) s.v
def fStep (l : List Int) (b : Int) (s : FS) : FS :=
  let k2 := nextK l (nextK l s.k)
  let x := fB l b s
  let y := fV l s
  match s.out.getLast? with
  | none => ⟨k2, s.v - y, s.out ++ [(x, y)]⟩
  | some q => if q.1 = x then (if q.1 = (x + 1) % b then ⟨k2, s.v - y, s.out.dropLast ++ [(q.1, q.2 + y)]⟩ else ⟨k2, s.v - y, s.out ++ [((x + 1) % b, y)]⟩)
    else ⟨k2, s.v - y, s.out ++ [(x, y)]⟩
def fGo (l : List Int) (b : Int) : Nat → FS → FS
  | 0, s => s
  | f + 1, s => if 0 < s.v ∧ s.out.length < 12 then fGo l b f (fStep l b s) else s
theorem fV_range {l : List Int} {s : FS} (h : 0 < s.v) : 1 ≤ fV l s ∧ fV l s ≤ s.v := by
  unfold fV
  have := rangeV_range (l := l) (k := nextK l s.k) (lo := 1) (hi := max 1 (s.v * 2 / 3)) (by omega)
  split <;> omega
theorem fStep_v {l : List Int} {b : Int} {s : FS} : (fStep l b s).v = s.v - fV l s ∧ (fStep l b s).k = nextK l (nextK l s.k) := by
  unfold fStep; simp only
  split
  · exact ⟨rfl, rfl⟩
  · split
    · split <;> exact ⟨rfl, rfl⟩
    · exact ⟨rfl, rfl⟩
theorem fGo_step {l : List Int} {b : Int} {f : Nat} {s : FS} (h : 0 < s.v) (h2 : s.out.length < 12) (hf : s.v.toNat ≤ f) : ∃ f', (fStep l b s).v.toNat ≤ f' ∧ fGo l b f s = fGo l b f' (fStep l b s) := by
  cases f with
  | zero => omega
  | succ f =>
    refine ⟨f, ?_, by simp only [fGo]; rw [if_pos ⟨h, h2⟩]⟩
    rw [fStep_v.1]
    have := fV_range (l := l) h
    omega
theorem fGo_end {l : List Int} {b : Int} {f : Nat} {s : FS} (h : ¬ (0 < s.v ∧ s.out.length < 12)) : fGo l b f s = s := by
  cases f with
  | zero => rfl
  | succ f => simp only [fGo]; rw [if_neg h]
/-- What holds at each place. -/
def FI (l : List Int) (b : Int) (s : FS) : Prop := SrcOk l s.k ∧ 0 ≤ s.v ∧ s.v ≤ 1000000 ∧ s.out.length ≤ 12 ∧ ∀ p ∈ s.out, 0 ≤ p.1 ∧ p.1 < b ∧ 0 ≤ p.2 ∧ p.2 ≤ 1000000 - s.v
theorem fStep_ok {l : List Int} {b : Int} {s : FS} (h : FI l b s) (hb : 1 ≤ b) (h1 : 0 < s.v) (h2 : s.out.length < 12) : FI l b (fStep l b s) := by
  obtain ⟨hs, hv0, hv1, hlen, hall⟩ := h
  have hnb := nV_range (l := l) (k := s.k) (n := b) hb
  have hm1 := Int.emod_nonneg (nV l s.k b + 1) (show b ≠ 0 by omega)
  have hm2 := Int.emod_lt_of_pos (nV l s.k b + 1) (show 0 < b by omega)
  have hfv := fV_range (l := l) h1
  refine ⟨by rw [fStep_v.2]; exact hs.next.next, by rw [fStep_v.1]; omega, by rw [fStep_v.1]; omega, ?_, ?_⟩
  · unfold fStep fB; simp only
    split
    · simp only [List.length_append, List.length_singleton]; omega
    · split
      · split <;> simp <;> omega
      · simp only [List.length_append, List.length_singleton]; omega
  · rw [fStep_v.1]
    unfold fStep fB; simp only
    split
    · intro p hp
      simp only [List.mem_append, List.mem_singleton] at hp
      rcases hp with hp | rfl
      · have := hall p hp; omega
      · simp only; omega
    · rename_i q hq
      have hq' := hall q (List.mem_of_getLast? hq)
      split
      · split <;> intro p hp <;> simp only [List.mem_append, List.mem_singleton] at hp <;> rcases hp with hp | rfl
        · have := hall p ((List.dropLast_sublist _).subset hp); omega
        · simp only; omega
        · have := hall p hp; omega
        · simp only; omega
      · intro p hp
        simp only [List.mem_append, List.mem_singleton] at hp
        rcases hp with hp | rfl
        · have := hall p hp; omega
        · simp only; omega
def fillS (l : List Int) (k : Nat) (v b : Int) : FS := fGo l b v.toNat ⟨k, v, []⟩

set_option maxRecDepth 100000 in
set_option maxHeartbeats 4000000 in
theorem fill_fn (l : List Int) (k : Nat) (v b : Int) (h : SrcOk l k) (hb : 1 ≤ b) (hb2 : b ≤ 1000) (hv : 0 ≤ v) (hv2 : v ≤ 1000000) :
    FnOk Tryz.prog 10 [.pt 0 [] 0, .t (.int v), .t (.int b)] [(0, srcB l k)] (.own 1000) [(0, srcB l (fillS l k v b).k), (1000, blkP (fillS l k v b).out)] := by
  refine FnOk.intro fact_mixed Tryz.func10 rfl Tryz.ntmps10 (by rfl) (by simp) ?_
  repeat (first | (refine nf1_sound rfl ?_; simp [go_sem, ↓iO, iO, tN]; (repeat (refine anI ?_)); try (refine ⟨dcK, ?_⟩)) | ((first | refine itePos (by omega) ?_ | refine iteNeg (by omega) ?_); try simp [go_sem, ↓iO, iO, tN]) | (refine ⟨dcK, ?_⟩))
  refine nf1_sound' _ _ _ ?_; simp only [nf1]
  refine CW.loop (ι := FS) (fun s => ⟨[(0, .pt 0 [] 0), (1, .t (.int s.v)), (2, .t (.int b)), (7, .own 500)], [(0, srcB l s.k), (500, blkP s.out)]⟩)
    (fun s => FI l b s ∧ ∃ f, s.v.toNat ≤ f ∧ fGo l b f s = fillS l k v b) (fun s => s.v.toNat) ⟨k, v, []⟩ [(0, some 0), (500, none)] ⟨⟨h, hv, hv2, by simp, by simp⟩, _, Nat.le_refl _, rfl⟩ ?_ ?_
  · simp [go_sem, ↓iO, iO, tN]
  rintro s ⟨hFI, f, hf, hgo⟩
  obtain ⟨hs, hv0, hv1, hlen, hall⟩ := id hFI
  by_cases h1 : 0 < s.v
  · by_cases h2 : s.out.length < 12
    · obtain ⟨f', hf', hgo'⟩ := fGo_step (l := l) (b := b) h1 h2 hf
      have hnb := nV_range (l := l) (k := s.k) (n := b) hb
      have hrg := rangeV_range (l := l) (k := nextK l s.k) (lo := 1) (hi := max 1 (s.v * 2 / 3)) (by omega)
      have hfv := fV_range (l := l) h1
      have hdec : (fStep l b s).v.toNat < s.v.toNat := by rw [fStep_v.1]; omega
      have hnx := fStep_ok hFI hb h1 h2
      obtain ⟨k', v', out⟩ := s
      simp only at *
      rcases List.eq_nil_or_concat out with rfl | ⟨o, q, rfl⟩
      · repeat (first | (refine nf1_sound rfl ?_; simp [go_sem, ↓iO, iO, tN]; (repeat (refine anI ?_)); try (refine ⟨dcK, ?_⟩)) | ((first | refine itePos (by omega) ?_ | refine iteNeg (by omega) ?_); try simp [go_sem, ↓iO, iO, tN]) | (refine ⟨dcK, ?_⟩))
        refine CallK.fn (n_fn l k' b hs (by omega)) [(0, 0)] [] [] (by kernel_rfl) ?_ ?_ ?_ (Or.inl rfl) ?_ <;> simp [go_sem, ↓iO, iO, tN]
        repeat (refine anI ?_)
        try (refine ⟨dcK, ?_⟩)
        refine CallK.fn (range_fn l (nextK l k') 1 (max 1 (v' * 2 / 3)) hs.next (by omega) (by omega) (by omega)) [(0, 0)] [] [] (by kernel_rfl) ?_ ?_ ?_ (Or.inl rfl) ?_ <;> simp [go_sem, ↓iO, iO, tN]
        repeat (refine anI ?_)
        try (refine ⟨dcK, ?_⟩)
        repeat (first | (refine nf1_sound rfl ?_; simp [go_sem, ↓iO, iO, tN]; (repeat (refine anI ?_)); try (refine ⟨dcK, ?_⟩)) | ((first | refine itePos (by omega) ?_ | refine iteNeg (by omega) ?_); try simp [go_sem, ↓iO, iO, tN]) | (refine ⟨dcK, ?_⟩))
        rw [RoundQ_normal]; refine ⟨fStep l b ⟨k', v', []⟩, [(0, some 0), (500, some 190)], ?_, ?_, ?_⟩
        · exact ⟨hnx, f', by omega, hgo' ▸ hgo⟩
        · exact hdec
        simp [go_sem, ↓iO, iO, tN, fStep, fB, fV]
      · have hq := hall q (by simp)
        simp only [List.concat_eq_append] at *
        simp only [List.length_append, List.length_singleton] at hlen h2
        have key : fStep l b ⟨k', v', o ++ [q]⟩ = if q.1 = nV l k' b then (if q.1 = (nV l k' b + 1) % b then ⟨nextK l (nextK l k'), v' - fV l ⟨k', v', o ++ [q]⟩, o ++ [(q.1, q.2 + fV l ⟨k', v', o ++ [q]⟩)]⟩ else ⟨nextK l (nextK l k'), v' - fV l ⟨k', v', o ++ [q]⟩, o ++ [q] ++ [((nV l k' b + 1) % b, fV l ⟨k', v', o ++ [q]⟩)]⟩)
            else ⟨nextK l (nextK l k'), v' - fV l ⟨k', v', o ++ [q]⟩, o ++ [q] ++ [(nV l k' b, fV l ⟨k', v', o ++ [q]⟩)]⟩ := by
          simp [fStep, fB]
        by_cases h11 : o.length = 10
        all_goals
          repeat (first | (refine nf1_sound rfl ?_; simp [go_sem, ↓iO, iO, tN, h11]; (repeat (refine anI ?_)); try (refine ⟨dcK, ?_⟩)) | ((first | refine itePos (by omega) ?_ | refine iteNeg (by omega) ?_); try simp [go_sem, ↓iO, iO, tN, h11]) | (refine ⟨dcK, ?_⟩))
          refine CallK.fn (n_fn l k' b hs (by omega)) [(0, 0)] [] [] (by kernel_rfl) ?_ ?_ ?_ (Or.inl rfl) ?_ <;> simp [go_sem, ↓iO, iO, tN, h11]
          repeat (refine anI ?_)
          try (refine ⟨dcK, ?_⟩)
          refine CallK.fn (range_fn l (nextK l k') 1 (max 1 (v' * 2 / 3)) hs.next (by omega) (by omega) (by omega)) [(0, 0)] [] [] (by kernel_rfl) ?_ ?_ ?_ (Or.inl rfl) ?_ <;> simp [go_sem, ↓iO, iO, tN, h11]
          repeat (refine anI ?_)
          try (refine ⟨dcK, ?_⟩)
          repeat (first | (refine nf1_sound rfl ?_; simp [go_sem, ↓iO, iO, tN, h11]; (repeat (refine anI ?_)); try (refine ⟨dcK, ?_⟩)) | ((first | refine itePos (by omega) ?_ | refine iteNeg (by omega) ?_); try simp [go_sem, ↓iO, iO, tN, h11]) | (refine ⟨dcK, ?_⟩))
          by_cases he : q.1 = nV l k' b
          · rw [if_pos he]
            by_cases he2 : q.1 = (nV l k' b + 1) % b
            · repeat (first | (refine nf1_sound rfl ?_; simp [go_sem, ↓iO, iO, tN, h11, ← he2]; (repeat (refine anI ?_)); try (refine ⟨dcK, ?_⟩)) | ((first | refine itePos (by omega) ?_ | refine iteNeg (by omega) ?_); try simp [go_sem, ↓iO, iO, tN, h11, ← he2]) | (refine ⟨dcK, ?_⟩))
              have k2 := key; rw [if_pos he, if_pos he2] at k2
              rw [RoundQ_normal]; refine ⟨fStep l b ⟨k', v', o ++ [q]⟩, [(0, some 0), (500, some 500)], ?_, ?_, ?_⟩
              · exact ⟨hnx, f', by omega, hgo' ▸ hgo⟩
              · exact hdec
              simp [go_sem, ↓iO, iO, tN, k2, fV, h11]
            · repeat (first | (refine nf1_sound rfl ?_; simp [go_sem, ↓iO, iO, tN, h11, he2]; (repeat (refine anI ?_)); try (refine ⟨dcK, ?_⟩)) | ((first | refine itePos (by omega) ?_ | refine iteNeg (by omega) ?_); try simp [go_sem, ↓iO, iO, tN, h11, he2]) | (refine ⟨dcK, ?_⟩))
              have k2 := key; rw [if_pos he, if_neg he2] at k2
              rw [RoundQ_normal]; refine ⟨fStep l b ⟨k', v', o ++ [q]⟩, [(0, some 0), (500, some 190)], ?_, ?_, ?_⟩
              · exact ⟨hnx, f', by omega, hgo' ▸ hgo⟩
              · exact hdec
              simp [go_sem, ↓iO, iO, tN, k2, fV, h11]
          · rw [if_neg he]
            repeat (first | (refine nf1_sound rfl ?_; simp [go_sem, ↓iO, iO, tN, h11]; (repeat (refine anI ?_)); try (refine ⟨dcK, ?_⟩)) | ((first | refine itePos (by omega) ?_ | refine iteNeg (by omega) ?_); try simp [go_sem, ↓iO, iO, tN, h11]) | (refine ⟨dcK, ?_⟩))
            have k2 := key; rw [if_neg he] at k2
            rw [RoundQ_normal]; refine ⟨fStep l b ⟨k', v', o ++ [q]⟩, [(0, some 0), (500, some 190)], ?_, ?_, ?_⟩
            · exact ⟨hnx, f', by omega, hgo' ▸ hgo⟩
            · exact hdec
            simp [go_sem, ↓iO, iO, tN, k2, fV, h11]
    · rw [fGo_end (by omega)] at hgo
      repeat (first | (refine nf1_sound rfl ?_; simp [go_sem, ↓iO, iO, tN]; (repeat (refine anI ?_)); try (refine ⟨dcK, ?_⟩)) | ((first | refine itePos (by omega) ?_ | refine iteNeg (by omega) ?_); try simp [go_sem, ↓iO, iO, tN]) | (refine ⟨dcK, ?_⟩))
      first | rw [RetQ_ret] | rw [RetQ_normal]
      refine ⟨[(0, some 0), (1000, some 500)], ?_⟩
      simp [go_sem, ↓iO, iO, tN, ← hgo]
  · rw [fGo_end (by omega)] at hgo
    repeat (first | (refine nf1_sound rfl ?_; simp [go_sem, ↓iO, iO, tN]; (repeat (refine anI ?_)); try (refine ⟨dcK, ?_⟩)) | ((first | refine itePos (by omega) ?_ | refine iteNeg (by omega) ?_); try simp [go_sem, ↓iO, iO, tN]) | (refine ⟨dcK, ?_⟩))
    first | rw [RetQ_ret] | rw [RetQ_normal]
    refine ⟨[(0, some 0), (1000, some 500)], ?_⟩
    simp [go_sem, ↓iO, iO, tN, ← hgo]
end Go.Proofs.YtcehllkmfkoncaaGreat
/- What keep.Fill makes is a valid fill. Plain Lean. -/
namespace Go.Proofs.YtcehllkmfkoncaaGreat
open Go.RowKit
set_option linter.unusedVariables false
set_option linter.unusedSimpArgs false
theorem fGo_ind {l : List Int} {b : Int} {C : FS → Prop} (hs : ∀ s, C s → 0 < s.v → s.out.length < 12 → C (fStep l b s)) : ∀ (f : Nat) (s : FS), C s → C (fGo l b f s)
  | 0, s, h => h
  | f + 1, s, h => by
    simp only [fGo]
    split
    · rename_i hh
      exact fGo_ind hs f _ (hs s h hh.1 hh.2)
    · exact h
theorem emod_ne {x b : Int} (hx : 0 ≤ x) (hxb : x < b) (hb : 2 ≤ b) : x ≠ (x + 1) % b := by
  by_cases h : x + 1 < b
  · rw [Int.emod_eq_of_lt (by omega) h]; omega
  · have : x + 1 = b := by omega
    rw [this, Int.emod_self]; omega
def FC (v0 : Int) (s : FS) : Prop := Pc.Canon s.out ∧ Pc.vol s.out = v0 - s.v
theorem vol_one (p : Int × Int) : Pc.vol [p] = p.2 := by simp [Pc.vol]
theorem fStep_c {l : List Int} {b v0 : Int} {s : FS} (h : FC v0 s) (h1 : 0 < s.v) : FC v0 (fStep l b s) := by
  obtain ⟨hc, hv⟩ := h
  have hfv := fV_range (l := l) h1
  refine ⟨?_, ?_⟩
  · unfold fStep; simp only
    split
    · rename_i hn
      exact (Pc.canon_snoc _ _).2 ⟨hc, by simp only; omega, fun q hq => by rw [hn] at hq; cases hq⟩
    · rename_i q hq
      split
      · rename_i he
        split
        · have hsp := Pc.last_split hq
          rw [hsp] at hc
          have h2 := (Pc.canon_snoc _ _).1 hc
          exact (Pc.canon_snoc _ _).2 ⟨h2.1, by have := h2.2.1; simp only; omega, h2.2.2⟩
        · rename_i he2
          exact (Pc.canon_snoc _ _).2 ⟨hc, by simp only; omega, fun q' hq' => by rw [hq] at hq'; obtain rfl := Option.some.inj hq'; exact he2⟩
      · rename_i he
        exact (Pc.canon_snoc _ _).2 ⟨hc, by simp only; omega, fun q' hq' => by rw [hq] at hq'; obtain rfl := Option.some.inj hq'; exact he⟩
  · rw [fStep_v.1]
    unfold fStep; simp only
    split
    · simp only [Pc.vol_append, vol_one]; omega
    · rename_i q hq
      split
      · split
        · have hsp := Pc.last_split hq
          rw [hsp, Pc.vol_append, vol_one] at hv
          simp only [Pc.vol_append, vol_one]; omega
        · simp only [Pc.vol_append, vol_one]; omega
      · simp only [Pc.vol_append, vol_one]; omega
structure FillOk (l : List Int) (k : Nat) (v b : Int) : Prop where
  src : SrcOk l (fillS l k v b).k
  vd : Pc.Vd (fillS l k v b).out
  len : (fillS l k v b).out.length ≤ 12
  vol : Pc.vol (fillS l k v b).out ≤ v
  batch : ∀ p ∈ (fillS l k v b).out, 0 ≤ p.1 ∧ p.1 < b
theorem fill_ok {l : List Int} {k : Nat} {v b : Int} (h : SrcOk l k) (hb : 1 ≤ b) (hb2 : b ≤ 1000) (hv : 0 ≤ v) (hv2 : v ≤ 1000000) : FillOk l k v b := by
  have h1 : FI l b (fillS l k v b) ∧ FC v (fillS l k v b) :=
    fGo_ind (C := fun s => FI l b s ∧ FC v s) (fun s hs h1 h2 => ⟨fStep_ok hs.1 hb h1 h2, fStep_c hs.2 h1⟩) _ _ ⟨⟨h, hv, hv2, by simp, by simp⟩, by simp [Pc.Canon], by simp [Pc.vol]⟩
  obtain ⟨⟨a1, a2, a3, a4, a5⟩, a6, a7⟩ := h1
  have hvol : Pc.vol (fillS l k v b).out ≤ v := by omega
  exact ⟨a1, Pc.vd_of_canon a6 (fun p hp => by have := a5 p hp; omega) (by omega) (by omega), a4, hvol, fun p hp => by have := a5 p hp; omega⟩
theorem fGo_stop {l : List Int} {b : Int} : ∀ (f : Nat) (s : FS), s.v.toNat ≤ f → ¬ (0 < (fGo l b f s).v ∧ (fGo l b f s).out.length < 12)
  | 0, s, h => by simp only [fGo]; omega
  | f + 1, s, h => by
    simp only [fGo]
    split
    · rename_i hh
      refine fGo_stop f _ ?_
      rw [fStep_v.1]
      have := fV_range (l := l) hh.1
      omega
    · assumption
theorem fStep_full {l : List Int} {b : Int} {s : FS} (h2 : s.out.length < 12) (h1 : 0 < s.v) : (fStep l b s).out.length = 12 → (fStep l b s).v = 0 := by
  rw [fStep_v.1]
  intro h
  have h11 : s.out.length = 11 := by
    unfold fStep at h; simp only at h
    split at h
    · simp at h; omega
    · split at h
      · split at h <;> simp at h <;> omega
      · simp at h; omega
  unfold fV; rw [if_pos h11]; omega
theorem fill_vol {l : List Int} {k : Nat} {v b : Int} (h : SrcOk l k) (hb : 1 ≤ b) (hv : 0 ≤ v) (hv2 : v ≤ 1000000) : Pc.vol (fillS l k v b).out = v := by
  have h1 : FI l b (fillS l k v b) ∧ FC v (fillS l k v b) ∧ ((fillS l k v b).out.length = 12 → (fillS l k v b).v = 0) :=
    fGo_ind (C := fun s => FI l b s ∧ FC v s ∧ (s.out.length = 12 → s.v = 0)) (fun s hs h1 h2 => ⟨fStep_ok hs.1 hb h1 h2, fStep_c hs.2.1 h1, fStep_full h2 h1⟩) _ _ ⟨⟨h, hv, hv2, by simp, by simp⟩, ⟨by simp [Pc.Canon], by simp [Pc.vol]⟩, by simp⟩
  have h2 := fGo_stop (l := l) (b := b) v.toNat ⟨k, v, []⟩ (Nat.le_refl _)
  obtain ⟨⟨a1, a2, a3, a4, a5⟩, ⟨a6, a7⟩, a8⟩ := h1
  change ¬ (0 < (fillS l k v b).v ∧ (fillS l k v b).out.length < 12) at h2
  omega
end Go.Proofs.YtcehllkmfkoncaaGreat
/- The law TopTools, given the sanity check. No condition. -/
namespace Go.Proofs.YtcehllkmfkoncaaGreat
open Go.RowKit Sy
open Go.IntWalk renaming iteOmega → iO, toNatUp → tN
set_option linter.unusedVariables false
set_option linter.unusedSimpArgs false
theorem n_ex {l : List Int} {k : Nat} (h : SrcOk l k) (n : Int) (h1 : 1 ≤ n) (h2 : n ≤ 9223372036854775807) : ∃ v, (0 ≤ v ∧ v < n) ∧ FnOk Tryz.prog 11 [.pt 0 [] 0, .t (.int n)] [(0, srcB l k)] (.t (.int v)) [(0, srcB l (nextK l k))] :=
  ⟨_, nV_range h1, n_fn l k n h h2⟩
theorem single_fn (c : Int) : FnOk Tryz.prog 7 [.t (.int c)] [] (.t (netC c)) [] := evF_spec fact_mixed noKn_ok 30 _ _ _ _ _ (by kernel_rfl : evF Tryz.prog noKn [7] 200 30 7 [.t (.int c)] [] = some (.t (netC c), []))
set_option maxRecDepth 100000 in
theorem few_fn (l : List Int) (hl : l.length ≤ 9223372036854775807) : FnOk Tryz.prog 4 [.t (encIs l)] [] (.t (.bool (decide (l.length ≤ 400)))) [] := by
  by_cases h : l.length ≤ 400
  · refine FnOk.intro fact_mixed Tryz.func4 rfl Tryz.ntmps4 (by rfl) (by simp) ?_
    repeat (first | (refine nf1_sound rfl ?_; simp [go_sem, ↓iO, iO, tN, h]; (repeat (refine anI ?_)); try (refine ⟨dcK, ?_⟩)) | ((first | refine itePos (by omega) ?_ | refine iteNeg (by omega) ?_); try simp [go_sem, ↓iO, iO, tN, h]) | (refine ⟨dcK, ?_⟩))
    first | rw [RetQ_ret] | rw [RetQ_normal]
    refine ⟨[], ?_⟩
    simp [go_sem, ↓iO, iO, tN, h]
    omega
  · refine FnOk.intro fact_mixed Tryz.func4 rfl Tryz.ntmps4 (by rfl) (by simp) ?_
    repeat (first | (refine nf1_sound rfl ?_; simp [go_sem, ↓iO, iO, tN, h]; (repeat (refine anI ?_)); try (refine ⟨dcK, ?_⟩)) | ((first | refine itePos (by omega) ?_ | refine iteNeg (by omega) ?_); try simp [go_sem, ↓iO, iO, tN, h]) | (refine ⟨dcK, ?_⟩))
    first | rw [RetQ_ret] | rw [RetQ_normal]
    refine ⟨[], ?_⟩
    simp [go_sem, ↓iO, iO, tN, h]
    omega
theorem tl_start {c : Int} {f : List (Int × Int)} (h : Pc.Vd f) (hv : Pc.vol f = c) (hl : f.length ≤ 12) (hb : ∀ p ∈ f, 0 ≤ p.1 ∧ p.1 < 4) (hc : 0 ≤ c) : TlI c (Pc.litres f) 0 0 f := by
  have hvl := vol_litres h.canon
  refine ⟨h, hv, by omega, by omega, by omega, ?_, by omega, ?_⟩
  · rw [List.take_of_length_le (by omega)]; rfl
  · intro x hx
    obtain ⟨p, hp, e⟩ := litres_mem hx
    have := hb p hp
    omega
theorem tl_stay {c : Int} {L : List Int} {t : Nat} {K : Int} {f : List (Int × Int)} (h : TlI c L t K f) : TlI c L (t + 1) K f :=
  ⟨h.vd, h.vol, by have := h.len; omega, h.K0, h.K1, h.lit, h.ll, h.l7⟩
theorem tl_zero0 {c : Int} {L : List Int} {t : Nat} {f : List (Int × Int)} (h : TlI c L t 0 f) : ∀ p ∈ f, p.1 ≠ 7 := by
  intro p hp
  have h1 := mem_litres hp (h.vd.canon.pos p hp)
  rw [h.lit] at h1
  simp at h1
  exact h.l7 _ (List.mem_of_mem_take h1)
theorem dist_tl {c K : Int} {L : List Int} {t : Nat} {f : List (Int × Int)} (h : TlI c L t K f) (h0 : 20 ≤ c) (h1 : c ≤ 200) : ∃ d b, (0 ≤ d ∧ d ≤ 1000) ∧ (0 < K → d = c - K) ∧
    FnOk Tryz.prog 17 [.t (netC c), .t (.sl 1 [encPs f]), .t (.sl 2 wayC), .t (.int 7)] [] (.tup [.t (.int d), .t (.bool b), .t (.int 0)]) [] := by
  have hk0 := h.K0
  have hk1 := h.K1
  by_cases hK : 0 < K
  · obtain ⟨q, rfl, q7, qv⟩ := tl_head h hK
    have cf := front_hd 7 K q h.vd q7
    rw [qv] at cf
    exact ⟨c - K, true, by omega, fun _ => rfl, dist_hit c 7 (c - K) _ h0 h1 h.vd h.vol cf (by omega)⟩
  · obtain rfl : K = 0 := by omega
    exact ⟨0, false, by omega, fun hh => by omega, dist_miss c 7 f h0 h1 h.vd h.vol (front_no f h.vd 7 (tl_zero0 h))⟩
/-- The state behind the making of a plan. -/
def stP (s : List Int) (c : Int) (k : Nat) (K : Int) (f : List (Int × Int)) (i : Nat) (r : Int) : St :=
  ⟨[(3, .pt 503 [] 0), (4, .pt 504 [] 0), (5, .pt 505 [] 0), (7, .t (.sl 1 [encPs f])), (8, .t (.int i)), (9, .t (.int r)), (10, .pt 510 [] 0)], [(503, srcB s k), (504, .box 32 (.t (netC c))), (505, .box 37 (.ag [.own 506, .t (.int 0), .t (.int K)])), (506, wayB), (510, .box 52 (.t (plR r)))]⟩
set_option maxRecDepth 100000 in
set_option maxHeartbeats 16000000 in
theorem toptools_fn (hawake : FnOk Tryz.prog 5 [] [] (.t (.bool true)) []) (l : List Int) (hl : l.length ≤ 9223372036854775807) (wf : ∀ z ∈ l, -9223372036854775808 ≤ z ∧ z ≤ 9223372036854775807) :
    FnOk Tryz.prog 3 [.t (encIs l)] [] (.t (.bool true)) [] := by
  have cfew := few_fn l hl
  by_cases h4 : l.length ≤ 400
  · rw [show decide (l.length ≤ 400) = true by simpa using h4] at cfew
    have h0 := new_ok wf
    have hnew := new_fn l hl
    obtain ⟨s, hs⟩ : ∃ s, newL2 l = s := ⟨_, rfl⟩
    rw [hs] at h0 hnew
    have hc := rangeV_range (l := s) (k := 0) (lo := 20) (hi := 200) (by omega)
    have c1 := range_fn s 0 20 200 h0 (by omega) (by omega) (by omega)
    obtain ⟨c, hcv⟩ : ∃ c, rangeV s 0 20 200 = c := ⟨_, rfl⟩
    rw [hcv] at hc c1
    obtain ⟨hc0, hc1⟩ := hc
    have c2 := single_fn c
    have c3 := launch_fn c hc0 hc1
    have c4 := fill_fn s (nextK s 0) c 4 h0.next (by omega) (by omega) (by omega) (by omega)
    have f1 := fill_ok (v := c) (b := 4) h0.next (by omega) (by omega) (by omega) (by omega)
    have f2 := fill_vol (v := c) (b := 4) h0.next (by omega) (by omega) (by omega)
    have f3 := f1.src
    have f4 := tl_start f1.vd f2 f1.len f1.batch (by omega)
    obtain ⟨⟨k1, v1, F⟩, hF⟩ : ∃ F, fillS s (nextK s 0) c 4 = F := ⟨_, rfl⟩
    rw [hF] at c4 f3 f4
    dsimp only at c4 f3 f4
    clear f1 f2
    obtain ⟨L, hL⟩ : ∃ L, Pc.litres F = L := ⟨_, rfl⟩
    rw [hL] at f4
    refine FnOk.intro fact_mixed Tryz.func3 rfl Tryz.ntmps3 (by rfl) (by simp) ?_
    repeat (first | (refine nf1_sound rfl ?_; simp [go_sem, ↓iO, iO, tN]; (repeat (refine anI ?_)); try (refine ⟨dcK, ?_⟩)) | ((first | refine itePos (by omega) ?_ | refine iteNeg (by omega) ?_); try simp [go_sem, ↓iO, iO, tN]) | (refine ⟨dcK, ?_⟩))
    refine CallK.fn (cfew) [] [] [] (by kernel_rfl) ?_ ?_ ?_ (Or.inl rfl) ?_ <;> simp [go_sem, ↓iO, iO, tN]
    repeat (refine anI ?_)
    try (refine ⟨dcK, ?_⟩)
    repeat (first | (refine nf1_sound rfl ?_; simp [go_sem, ↓iO, iO, tN]; (repeat (refine anI ?_)); try (refine ⟨dcK, ?_⟩)) | ((first | refine itePos (by omega) ?_ | refine iteNeg (by omega) ?_); try simp [go_sem, ↓iO, iO, tN]) | (refine ⟨dcK, ?_⟩))
    refine CallK.fn (hnew) [(1000, 503)] [] [] (by kernel_rfl) ?_ ?_ ?_ (Or.inl rfl) ?_ <;> simp [go_sem, ↓iO, iO, tN]
    repeat (refine anI ?_)
    try (refine ⟨dcK, ?_⟩)
    repeat (first | (refine nf1_sound rfl ?_; simp [go_sem, ↓iO, iO, tN]; (repeat (refine anI ?_)); try (refine ⟨dcK, ?_⟩)) | ((first | refine itePos (by omega) ?_ | refine iteNeg (by omega) ?_); try simp [go_sem, ↓iO, iO, tN]) | (refine ⟨dcK, ?_⟩))
    refine CallK.fn (c1) [(0, 503)] [] [] (by kernel_rfl) ?_ ?_ ?_ (Or.inl rfl) ?_ <;> simp [go_sem, ↓iO, iO, tN]
    repeat (refine anI ?_)
    try (refine ⟨dcK, ?_⟩)
    repeat (first | (refine nf1_sound rfl ?_; simp [go_sem, ↓iO, iO, tN]; (repeat (refine anI ?_)); try (refine ⟨dcK, ?_⟩)) | ((first | refine itePos (by omega) ?_ | refine iteNeg (by omega) ?_); try simp [go_sem, ↓iO, iO, tN]) | (refine ⟨dcK, ?_⟩))
    refine CallK.fn (c2) [] [] [] (by kernel_rfl) ?_ ?_ ?_ (Or.inl rfl) ?_ <;> simp [go_sem, ↓iO, iO, tN]
    repeat (refine anI ?_)
    try (refine ⟨dcK, ?_⟩)
    repeat (first | (refine nf1_sound rfl ?_; simp [go_sem, ↓iO, iO, tN]; (repeat (refine anI ?_)); try (refine ⟨dcK, ?_⟩)) | ((first | refine itePos (by omega) ?_ | refine iteNeg (by omega) ?_); try simp [go_sem, ↓iO, iO, tN]) | (refine ⟨dcK, ?_⟩))
    refine CallK.fn (c3) [(1000, 600)] [] [131] (by kernel_rfl) ?_ ?_ ?_ (Or.inl rfl) ?_ <;> simp [go_sem, ↓iO, iO, tN]
    repeat (refine anI ?_)
    try (refine ⟨dcK, ?_⟩)
    repeat (first | (refine nf1_sound rfl ?_; simp [go_sem, ↓iO, iO, tN]; (repeat (refine anI ?_)); try (refine ⟨dcK, ?_⟩)) | ((first | refine itePos (by omega) ?_ | refine iteNeg (by omega) ?_); try simp [go_sem, ↓iO, iO, tN]) | (refine ⟨dcK, ?_⟩))
    refine CallK.fn (c4) [(0, 503), (1000, 601)] [] [] (by kernel_rfl) ?_ ?_ ?_ (Or.inl rfl) ?_ <;> simp [go_sem, ↓iO, iO, tN]
    repeat (refine anI ?_)
    try (refine ⟨dcK, ?_⟩)
    repeat (first | (refine nf1_sound rfl ?_; simp [go_sem, ↓iO, iO, tN]; (repeat (refine anI ?_)); try (refine ⟨dcK, ?_⟩)) | ((first | refine itePos (by omega) ?_ | refine iteNeg (by omega) ?_); try simp [go_sem, ↓iO, iO, tN]) | (refine ⟨dcK, ?_⟩))
    refine nf1_sound' _ _ _ ?_; simp only [nf1]
    refine CW.loop (ι := Nat × Nat × Int × List (Int × Int)) (fun p => ⟨[(3, .pt 503 [] 0), (4, .pt 504 [] 0), (5, .pt 505 [] 0), (7, .t (.sl 1 [encPs p.2.2.2])), (8, .t (.int p.1))], [(503, srcB s p.2.1), (504, .box 32 (.t (netC c))), (505, .box 37 (.ag [.own 506, .t (.int 0), .t (.int p.2.2.1)])), (506, wayB)]⟩)
      (fun p => p.1 ≤ 60 ∧ SrcOk s p.2.1 ∧ TlI c L p.1 p.2.2.1 p.2.2.2) (fun p => 60 - p.1) (0, k1, 0, F) [(503, some 503), (504, some 104), (505, some 105), (506, some 600)] ⟨by simp, f3, f4⟩ ?_ ?_
    · simp [go_sem, ↓iO, iO, tN]
    rintro ⟨i, k, K, f⟩ ⟨hi, hk, hT⟩
    dsimp only at hi hk hT ⊢
    by_cases hb : i < 60
    · obtain ⟨r, ⟨hr0, hr1⟩, cr⟩ := n_ex hk 12 (by omega) (by omega)
      have hK0 := hT.K0
      have hK1 := hT.K1
      by_cases hz : r = 0
      · subst hz
        have cm := move_fn c 0 K hc0 hc1 (by omega) (by omega) hK0 hK1
        rw [show mvH c 0 K = 0 from if_neg (by omega), show mvA c 0 K = K by unfold mvA; rw [if_neg (by omega)]; omega] at cm
        have ct := atickZ_fn (b := 7) (b' := 0) hc0 hc1 (by omega) (by omega) hT.vd hT.vol
        have crec := received_fn 0 K false rfl
        obtain ⟨d, bb, hd, hd2, cd⟩ := dist_tl hT hc0 hc1
        repeat (first | (refine nf1_sound rfl ?_; simp [go_sem, ↓iO, iO, tN, hb]; (repeat (refine anI ?_)); try (refine ⟨dcK, ?_⟩)) | ((first | refine itePos (by omega) ?_ | refine iteNeg (by omega) ?_); try simp [go_sem, ↓iO, iO, tN, hb]) | (refine ⟨dcK, ?_⟩))
        refine CallK.fn (cr) [(0, 503)] [] [] (by kernel_rfl) ?_ ?_ ?_ (Or.inl rfl) ?_ <;> simp [go_sem, ↓iO, iO, tN, hb]
        repeat (refine anI ?_)
        try (refine ⟨dcK, ?_⟩)
        refine nf_sound [14] _ _ _ ?_
        simp (maxSteps := 2000000) [go_sem, ↓iO, iO, tN, hb, stops, firstReg]
        refine CW.weak (ρ := [(503, some 503), (504, some 504), (505, some 505), (506, some 506), (510, some 110)]) (σ' := stP s c (nextK s k) K f i 0) ?_ ?_
        · simp [go_sem, ↓iO, iO, tN, stP]
        repeat (first | (refine nf1_sound rfl ?_; simp [go_sem, ↓iO, iO, tN, hb, stP]; (repeat (refine anI ?_)); try (refine ⟨dcK, ?_⟩)) | ((first | refine itePos (by omega) ?_ | refine iteNeg (by omega) ?_); try simp [go_sem, ↓iO, iO, tN, hb, stP]) | (refine ⟨dcK, ?_⟩))
        refine CallK.fn (cm) [(1000, 610)] [] [506] (by kernel_rfl) ?_ ?_ ?_ (Or.inl rfl) ?_ <;> simp [go_sem, ↓iO, iO, tN, hb]
        repeat (refine anI ?_)
        try (refine ⟨dcK, ?_⟩)
        repeat (first | (refine nf1_sound rfl ?_; simp [go_sem, ↓iO, iO, tN, hb]; (repeat (refine anI ?_)); try (refine ⟨dcK, ?_⟩)) | ((first | refine itePos (by omega) ?_ | refine iteNeg (by omega) ?_); try simp [go_sem, ↓iO, iO, tN, hb]) | (refine ⟨dcK, ?_⟩))
        refine CallK.fn (ct) [(1000, 611), (1001, 612)] [] [169] (by kernel_rfl) ?_ ?_ ?_ (Or.inl rfl) ?_ <;> simp [go_sem, ↓iO, iO, tN, hb]
        repeat (refine anI ?_)
        try (refine ⟨dcK, ?_⟩)
        repeat (first | (refine nf1_sound rfl ?_; simp [go_sem, ↓iO, iO, tN, hb]; (repeat (refine anI ?_)); try (refine ⟨dcK, ?_⟩)) | ((first | refine itePos (by omega) ?_ | refine iteNeg (by omega) ?_); try simp [go_sem, ↓iO, iO, tN, hb]) | (refine ⟨dcK, ?_⟩))
        refine CallK.fn (crec) [] [610] [] (by kernel_rfl) ?_ ?_ ?_ (Or.inr ⟨?_, ?_⟩) ?_ <;> simp [go_sem, ↓iO, iO, tN, hb]
        repeat (refine anI ?_)
        try (refine ⟨dcK, ?_⟩)
        repeat (first | (refine nf1_sound rfl ?_; simp [go_sem, ↓iO, iO, tN, hb]; (repeat (refine anI ?_)); try (refine ⟨dcK, ?_⟩)) | ((first | refine itePos (by omega) ?_ | refine iteNeg (by omega) ?_); try simp [go_sem, ↓iO, iO, tN, hb]) | (refine ⟨dcK, ?_⟩))
        refine CallK.fn (cd) [] [611, 204] [] (by kernel_rfl) ?_ ?_ ?_ (Or.inr ⟨?_, ?_⟩) ?_ <;> simp [go_sem, ↓iO, iO, tN, hb]
        repeat (refine anI ?_)
        try (refine ⟨dcK, ?_⟩)
        by_cases hK : 0 < K
        · rw [hd2 hK]
          repeat (first | (refine nf1_sound rfl ?_; simp [go_sem, ↓iO, iO, tN, hb, hK]; (repeat (refine anI ?_)); try (refine ⟨dcK, ?_⟩)) | ((first | refine itePos (by omega) ?_ | refine iteNeg (by omega) ?_); try simp [go_sem, ↓iO, iO, tN, hb, hK]) | (refine ⟨dcK, ?_⟩))
          rw [RoundQ_normal]; refine ⟨(i + 1, nextK s k, K, f), [(503, some 503), (504, some 504), (505, some 505), (506, some 610)], ?_, ?_, ?_⟩
          · exact ⟨by dsimp only; omega, hk.next, tl_stay hT⟩
          · dsimp only; omega
          simp [go_sem, ↓iO, iO, tN]
        · repeat (first | (refine nf1_sound rfl ?_; simp [go_sem, ↓iO, iO, tN, hb, hK]; (repeat (refine anI ?_)); try (refine ⟨dcK, ?_⟩)) | ((first | refine itePos (by omega) ?_ | refine iteNeg (by omega) ?_); try simp [go_sem, ↓iO, iO, tN, hb, hK]) | (refine ⟨dcK, ?_⟩))
          rw [RoundQ_normal]; refine ⟨(i + 1, nextK s k, K, f), [(503, some 503), (504, some 504), (505, some 505), (506, some 610)], ?_, ?_, ?_⟩
          · exact ⟨by dsimp only; omega, hk.next, tl_stay hT⟩
          · dsimp only; omega
          simp [go_sem, ↓iO, iO, tN]
      · have hr : 0 < r := by omega
        obtain ⟨n, o, hp, hnl, hnv, hln, hlo⟩ := tl_push hT (by omega) (by omega) hr (by omega)
        have cm := move_fn c r K hc0 hc1 (by omega) (by omega) hK0 hK1
        have ct := atickP_fn (b := 7) (b' := 0) hc0 hc1 hr (by omega) (by omega) (by omega) hT.vd hT.vol hp
        have hro := vd_rev hp.vo
        have hrol := hro.len
        have cmg := rmerge_fn o.reverse (by omega) o.reverse (merge_vd hro)
        obtain ⟨O, hO⟩ : ∃ O, o.reverse = O := ⟨_, rfl⟩
        rw [hO] at hro hrol cmg ct
        have hbat : batV O 7 = Pc.of_ O 7 := if_pos (Pc.valid_t hro)
        by_cases hc7 : c < K + r
        · have hof := tl_out1 hT hr (by omega) hc7 hp.vo hlo
          rw [hO] at hof
          obtain ⟨V, hV⟩ : ∃ V, Pc.of_ O 7 = V := ⟨_, rfl⟩
          rw [hV] at hof hbat
          have cb := rbatch_fn O 7 (by omega) V hbat
          rw [show mvH c r K = 1 from if_pos hc7, show mvA c r K = 0 from if_pos hc7] at cm
          have crec := received_fn 1 0 true rfl
          repeat (first | (refine nf1_sound rfl ?_; simp [go_sem, ↓iO, iO, tN, hb]; (repeat (refine anI ?_)); try (refine ⟨dcK, ?_⟩)) | ((first | refine itePos (by omega) ?_ | refine iteNeg (by omega) ?_); try simp [go_sem, ↓iO, iO, tN, hb]) | (refine ⟨dcK, ?_⟩))
          refine CallK.fn (cr) [(0, 503)] [] [] (by kernel_rfl) ?_ ?_ ?_ (Or.inl rfl) ?_ <;> simp [go_sem, ↓iO, iO, tN, hb]
          repeat (refine anI ?_)
          try (refine ⟨dcK, ?_⟩)
          refine nf_sound [14] _ _ _ ?_
          simp (maxSteps := 2000000) [go_sem, ↓iO, iO, tN, hb, stops, firstReg]
          refine CW.weak (ρ := [(503, some 503), (504, some 504), (505, some 505), (506, some 506), (510, some 110)]) (σ' := stP s c (nextK s k) K f i r) ?_ ?_
          · simp [go_sem, ↓iO, iO, tN, stP]
          repeat (first | (refine nf1_sound rfl ?_; simp [go_sem, ↓iO, iO, tN, hb, stP]; (repeat (refine anI ?_)); try (refine ⟨dcK, ?_⟩)) | ((first | refine itePos (by omega) ?_ | refine iteNeg (by omega) ?_); try simp [go_sem, ↓iO, iO, tN, hb, stP]) | (refine ⟨dcK, ?_⟩))
          refine CallK.fn (cm) [(1000, 610)] [] [506] (by kernel_rfl) ?_ ?_ ?_ (Or.inl rfl) ?_ <;> simp [go_sem, ↓iO, iO, tN, hb]
          repeat (refine anI ?_)
          try (refine ⟨dcK, ?_⟩)
          repeat (first | (refine nf1_sound rfl ?_; simp [go_sem, ↓iO, iO, tN, hb]; (repeat (refine anI ?_)); try (refine ⟨dcK, ?_⟩)) | ((first | refine itePos (by omega) ?_ | refine iteNeg (by omega) ?_); try simp [go_sem, ↓iO, iO, tN, hb]) | (refine ⟨dcK, ?_⟩))
          refine CallK.fn (ct) [(1000, 611), (1001, 612)] [] [169] (by kernel_rfl) ?_ ?_ ?_ (Or.inl rfl) ?_ <;> simp [go_sem, ↓iO, iO, tN, hb]
          repeat (refine anI ?_)
          try (refine ⟨dcK, ?_⟩)
          repeat (first | (refine nf1_sound rfl ?_; simp [go_sem, ↓iO, iO, tN, hb, hr]; (repeat (refine anI ?_)); try (refine ⟨dcK, ?_⟩)) | ((first | refine itePos (by omega) ?_ | refine iteNeg (by omega) ?_); try simp [go_sem, ↓iO, iO, tN, hb, hr]) | (refine ⟨dcK, ?_⟩))
          refine CallK.fn (crec) [] [610] [] (by kernel_rfl) ?_ ?_ ?_ (Or.inr ⟨?_, ?_⟩) ?_ <;> simp [go_sem, ↓iO, iO, tN, hb, hr]
          repeat (refine anI ?_)
          try (refine ⟨dcK, ?_⟩)
          refine CallK.fn (cmg) [(1000, 613)] [] [] (by kernel_rfl) ?_ ?_ ?_ (Or.inl rfl) ?_ <;> simp [go_sem, ↓iO, iO, tN, hb, hr]
          repeat (refine anI ?_)
          try (refine ⟨dcK, ?_⟩)
          refine CallK.fn (cb) [] [613] [] (by kernel_rfl) ?_ ?_ ?_ (Or.inr ⟨?_, ?_⟩) ?_ <;> simp [go_sem, ↓iO, iO, tN, hb, hr]
          repeat (refine anI ?_)
          try (refine ⟨dcK, ?_⟩)
          repeat (first | (refine nf1_sound rfl ?_; simp [go_sem, ↓iO, iO, tN, hb, hr, hof]; (repeat (refine anI ?_)); try (refine ⟨dcK, ?_⟩)) | ((first | refine itePos (by omega) ?_ | refine iteNeg (by omega) ?_); try simp [go_sem, ↓iO, iO, tN, hb, hr, hof]) | (refine ⟨dcK, ?_⟩))
          refine CallK.fn (crec) [] [610] [] (by kernel_rfl) ?_ ?_ ?_ (Or.inr ⟨?_, ?_⟩) ?_ <;> simp [go_sem, ↓iO, iO, tN, hb, hr]
          repeat (refine anI ?_)
          try (refine ⟨dcK, ?_⟩)
          repeat (first | (refine nf1_sound rfl ?_; simp [go_sem, ↓iO, iO, tN, hb, hr]; (repeat (refine anI ?_)); try (refine ⟨dcK, ?_⟩)) | ((first | refine itePos (by omega) ?_ | refine iteNeg (by omega) ?_); try simp [go_sem, ↓iO, iO, tN, hb, hr]) | (refine ⟨dcK, ?_⟩))
          refine CallK.fn (hawake) [] [] [] (by kernel_rfl) ?_ ?_ ?_ (Or.inl rfl) ?_ <;> simp [go_sem, ↓iO, iO, tN]
          repeat (refine anI ?_)
          try (refine ⟨dcK, ?_⟩)
          repeat (first | (refine nf1_sound rfl ?_; simp [go_sem, ↓iO, iO, tN]; (repeat (refine anI ?_)); try (refine ⟨dcK, ?_⟩)) | ((first | refine itePos (by omega) ?_ | refine iteNeg (by omega) ?_); try simp [go_sem, ↓iO, iO, tN]) | (refine ⟨dcK, ?_⟩))
          first | rw [RetQ_ret] | rw [RetQ_normal]
          refine ⟨[], ?_⟩
          simp [go_sem, ↓iO, iO, tN]
        · have hof := tl_out0 hT hr (by omega) hp.vo hlo
          rw [hO] at hof
          rw [hof] at hbat
          have hT2 := tl_next hT hr (by omega) hp hnl hnv hln
          have cb := rbatch_fn O 7 (by omega) 0 hbat
          rw [show mvH c r K = 0 from if_neg hc7, show mvA c r K = K + r from if_neg hc7] at cm
          have crec := received_fn 0 (K + r) false rfl
          obtain ⟨d, bb, hd, hd2, cd⟩ := dist_tl hT2 hc0 hc1
          obtain rfl := hd2 (by omega)
          have hK2 : 0 < K + r := by omega
          repeat (first | (refine nf1_sound rfl ?_; simp [go_sem, ↓iO, iO, tN, hb]; (repeat (refine anI ?_)); try (refine ⟨dcK, ?_⟩)) | ((first | refine itePos (by omega) ?_ | refine iteNeg (by omega) ?_); try simp [go_sem, ↓iO, iO, tN, hb]) | (refine ⟨dcK, ?_⟩))
          refine CallK.fn (cr) [(0, 503)] [] [] (by kernel_rfl) ?_ ?_ ?_ (Or.inl rfl) ?_ <;> simp [go_sem, ↓iO, iO, tN, hb]
          repeat (refine anI ?_)
          try (refine ⟨dcK, ?_⟩)
          refine nf_sound [14] _ _ _ ?_
          simp (maxSteps := 2000000) [go_sem, ↓iO, iO, tN, hb, stops, firstReg]
          refine CW.weak (ρ := [(503, some 503), (504, some 504), (505, some 505), (506, some 506), (510, some 110)]) (σ' := stP s c (nextK s k) K f i r) ?_ ?_
          · simp [go_sem, ↓iO, iO, tN, stP]
          repeat (first | (refine nf1_sound rfl ?_; simp [go_sem, ↓iO, iO, tN, hb, stP]; (repeat (refine anI ?_)); try (refine ⟨dcK, ?_⟩)) | ((first | refine itePos (by omega) ?_ | refine iteNeg (by omega) ?_); try simp [go_sem, ↓iO, iO, tN, hb, stP]) | (refine ⟨dcK, ?_⟩))
          refine CallK.fn (cm) [(1000, 610)] [] [506] (by kernel_rfl) ?_ ?_ ?_ (Or.inl rfl) ?_ <;> simp [go_sem, ↓iO, iO, tN, hb]
          repeat (refine anI ?_)
          try (refine ⟨dcK, ?_⟩)
          repeat (first | (refine nf1_sound rfl ?_; simp [go_sem, ↓iO, iO, tN, hb]; (repeat (refine anI ?_)); try (refine ⟨dcK, ?_⟩)) | ((first | refine itePos (by omega) ?_ | refine iteNeg (by omega) ?_); try simp [go_sem, ↓iO, iO, tN, hb]) | (refine ⟨dcK, ?_⟩))
          refine CallK.fn (ct) [(1000, 611), (1001, 612)] [] [169] (by kernel_rfl) ?_ ?_ ?_ (Or.inl rfl) ?_ <;> simp [go_sem, ↓iO, iO, tN, hb]
          repeat (refine anI ?_)
          try (refine ⟨dcK, ?_⟩)
          repeat (first | (refine nf1_sound rfl ?_; simp [go_sem, ↓iO, iO, tN, hb, hr]; (repeat (refine anI ?_)); try (refine ⟨dcK, ?_⟩)) | ((first | refine itePos (by omega) ?_ | refine iteNeg (by omega) ?_); try simp [go_sem, ↓iO, iO, tN, hb, hr]) | (refine ⟨dcK, ?_⟩))
          refine CallK.fn (crec) [] [610] [] (by kernel_rfl) ?_ ?_ ?_ (Or.inr ⟨?_, ?_⟩) ?_ <;> simp [go_sem, ↓iO, iO, tN, hb, hr]
          repeat (refine anI ?_)
          try (refine ⟨dcK, ?_⟩)
          refine CallK.fn (cmg) [(1000, 613)] [] [] (by kernel_rfl) ?_ ?_ ?_ (Or.inl rfl) ?_ <;> simp [go_sem, ↓iO, iO, tN, hb, hr]
          repeat (refine anI ?_)
          try (refine ⟨dcK, ?_⟩)
          refine CallK.fn (cb) [] [613] [] (by kernel_rfl) ?_ ?_ ?_ (Or.inr ⟨?_, ?_⟩) ?_ <;> simp [go_sem, ↓iO, iO, tN, hb, hr]
          repeat (refine anI ?_)
          try (refine ⟨dcK, ?_⟩)
          repeat (first | (refine nf1_sound rfl ?_; simp [go_sem, ↓iO, iO, tN, hb, hr]; (repeat (refine anI ?_)); try (refine ⟨dcK, ?_⟩)) | ((first | refine itePos (by omega) ?_ | refine iteNeg (by omega) ?_); try simp [go_sem, ↓iO, iO, tN, hb, hr]) | (refine ⟨dcK, ?_⟩))
          refine CallK.fn (crec) [] [610] [] (by kernel_rfl) ?_ ?_ ?_ (Or.inr ⟨?_, ?_⟩) ?_ <;> simp [go_sem, ↓iO, iO, tN, hb, hr]
          repeat (refine anI ?_)
          try (refine ⟨dcK, ?_⟩)
          repeat (first | (refine nf1_sound rfl ?_; simp [go_sem, ↓iO, iO, tN, hb, hr]; (repeat (refine anI ?_)); try (refine ⟨dcK, ?_⟩)) | ((first | refine itePos (by omega) ?_ | refine iteNeg (by omega) ?_); try simp [go_sem, ↓iO, iO, tN, hb, hr]) | (refine ⟨dcK, ?_⟩))
          refine CallK.fn (cd) [] [611, 204] [] (by kernel_rfl) ?_ ?_ ?_ (Or.inr ⟨?_, ?_⟩) ?_ <;> simp [go_sem, ↓iO, iO, tN, hb, hr]
          repeat (refine anI ?_)
          try (refine ⟨dcK, ?_⟩)
          repeat (first | (refine nf1_sound rfl ?_; simp [go_sem, ↓iO, iO, tN, hb, hr, hK2]; (repeat (refine anI ?_)); try (refine ⟨dcK, ?_⟩)) | ((first | refine itePos (by omega) ?_ | refine iteNeg (by omega) ?_); try simp [go_sem, ↓iO, iO, tN, hb, hr, hK2]) | (refine ⟨dcK, ?_⟩))
          rw [RoundQ_normal]; refine ⟨(i + 1, nextK s k, K + r, n), [(503, some 503), (504, some 504), (505, some 505), (506, some 610)], ?_, ?_, ?_⟩
          · exact ⟨by dsimp only; omega, hk.next, hT2⟩
          · dsimp only; omega
          simp [go_sem, ↓iO, iO, tN]
    · obtain rfl : i = 60 := by omega
      repeat (first | (refine nf1_sound rfl ?_; simp [go_sem, ↓iO, iO, tN]; (repeat (refine anI ?_)); try (refine ⟨dcK, ?_⟩)) | ((first | refine itePos (by omega) ?_ | refine iteNeg (by omega) ?_); try simp [go_sem, ↓iO, iO, tN]) | (refine ⟨dcK, ?_⟩))
      refine CallK.fn (hawake) [] [] [] (by kernel_rfl) ?_ ?_ ?_ (Or.inl rfl) ?_ <;> simp [go_sem, ↓iO, iO, tN]
      repeat (refine anI ?_)
      try (refine ⟨dcK, ?_⟩)
      repeat (first | (refine nf1_sound rfl ?_; simp [go_sem, ↓iO, iO, tN]; (repeat (refine anI ?_)); try (refine ⟨dcK, ?_⟩)) | ((first | refine itePos (by omega) ?_ | refine iteNeg (by omega) ?_); try simp [go_sem, ↓iO, iO, tN]) | (refine ⟨dcK, ?_⟩))
      first | rw [RetQ_ret] | rw [RetQ_normal]
      refine ⟨[], ?_⟩
      simp [go_sem, ↓iO, iO, tN]
  · rw [show decide (l.length ≤ 400) = false by simpa using h4] at cfew
    refine FnOk.intro fact_mixed Tryz.func3 rfl Tryz.ntmps3 (by rfl) (by simp) ?_
    repeat (first | (refine nf1_sound rfl ?_; simp [go_sem, ↓iO, iO, tN]; (repeat (refine anI ?_)); try (refine ⟨dcK, ?_⟩)) | ((first | refine itePos (by omega) ?_ | refine iteNeg (by omega) ?_); try simp [go_sem, ↓iO, iO, tN]) | (refine ⟨dcK, ?_⟩))
    refine CallK.fn (cfew) [] [] [] (by kernel_rfl) ?_ ?_ ?_ (Or.inl rfl) ?_ <;> simp [go_sem, ↓iO, iO, tN]
    repeat (refine anI ?_)
    try (refine ⟨dcK, ?_⟩)
    repeat (first | (refine nf1_sound rfl ?_; simp [go_sem, ↓iO, iO, tN]; (repeat (refine anI ?_)); try (refine ⟨dcK, ?_⟩)) | ((first | refine itePos (by omega) ?_ | refine iteNeg (by omega) ?_); try simp [go_sem, ↓iO, iO, tN]) | (refine ⟨dcK, ?_⟩))
    refine CallK.fn (hawake) [] [] [] (by kernel_rfl) ?_ ?_ ?_ (Or.inl rfl) ?_ <;> simp [go_sem, ↓iO, iO, tN]
    repeat (refine anI ?_)
    try (refine ⟨dcK, ?_⟩)
    repeat (first | (refine nf1_sound rfl ?_; simp [go_sem, ↓iO, iO, tN]; (repeat (refine anI ?_)); try (refine ⟨dcK, ?_⟩)) | ((first | refine itePos (by omega) ?_ | refine iteNeg (by omega) ?_); try simp [go_sem, ↓iO, iO, tN]) | (refine ⟨dcK, ?_⟩))
    first | rw [RetQ_ret] | rw [RetQ_normal]
    refine ⟨[], ?_⟩
    simp [go_sem, ↓iO, iO, tN]
end Go.Proofs.YtcehllkmfkoncaaGreat
/- The sanity check: true. Printed by a program (evgen.py). No condition. -/
namespace Go.Proofs.YtcehllkmfkoncaaGreat
open Go.RowKit Sy
set_option linter.unusedVariables false
set_option maxRecDepth 100000
set_option maxHeartbeats 4000000
abbrev aw_arunE : Ent := ⟨21, [net1 , .sl 1 [.sl 2 [.agg [.int 1, .int 20]]] , pl5e , .sl 1 [.int 2, .int 0] , .int 2], (.tup [(.own 1000), (.t (.sl 1 [.sl 2 [], .sl 2 [.agg [.int 1, .int 10]]])), (.t (.int 0))]), [(1000, (.list 43 1 [.sl 2 [.agg [.int 2, .int 10], .agg [.int 1, .int 10]]]))]⟩
def aw_secondL : List Ent := [aw_netE, aw_singleE, aw_fc0E, aw_fc5E, aw_repE, aw_idleE, aw_need0E, aw_need5E, aw_scheck0E, aw_div0E, aw_div5E, aw_clbE, aw_compE, aw_fc5eE, aw_copyE, aw_ap1E, aw_runE, aw_ordE, aw_arunE]
theorem aw_second : FnOk Tryz.prog 5 (([] : List T).map S.t) [] (.t (.lit (.bool .true))) [] := evF_spec fact_mixed (knL_ok (l := aw_secondL) ⟨aw_net, aw_single, aw_fc0, aw_fc5, aw_rep, aw_idle, aw_need0, aw_need5, aw_scheck0, aw_div0, aw_div5, aw_clb, aw_comp, aw_fc5e, aw_copy, aw_ap1, aw_run, aw_ord, aw_arun, trivial⟩) 30 _ _ _ _ _ (by kernel_rfl : evF Tryz.prog (knL aw_secondL) [60, 7, 85, 54, 113, 18, 56, 20, 43, 83, 134, 86, 19, 51, 52] 200 30 5 (([] : List T).map S.t) [] = some ((.t (.lit (.bool .true))), []))
abbrev aw_secondE : Ent := ⟨5, [], (.t (.lit (.bool .true))), []⟩
theorem toptools_walk (x : Option Addr) (n cap : Nat) (l : List Int) (w : World) (hr : IRow .i64 w x n cap l) (wf : ∀ z ∈ l, -9223372036854775808 ≤ z ∧ z ≤ 9223372036854775807) :
    Calls Tryz.prog 3 #[.slice x n cap] w fun e w' => e = .returned (.bool true) ∧ Below w.heap.size w w' := by
  have hl : l.length ≤ 9223372036854775807 := by
    rw [hr.length]; have h1 := hr.le; have h2 := hr.capLe; unfold maxLen at h2; omega
  exact law_run (us := [.slice x n cap]) (toptools_fn aw_second l hl wf) (reps_cons (rep_irow hr) reps_nil)
end Go.Proofs.YtcehllkmfkoncaaGreat
