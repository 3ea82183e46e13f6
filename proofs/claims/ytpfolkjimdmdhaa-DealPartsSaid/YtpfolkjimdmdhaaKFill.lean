/- keep.Fill: what it makes, in plain Lean; and its contract. No condition. -/
import Derived.Test.YtpfolkjimdmdhaaKRange
import Derived.Test.YtpfolkjimdmdhaaPiB
namespace Go.Proofs.Ytpfolkjimdmdhaa
open Go.RowKit Sy
set_option linter.unusedVariables false
set_option linter.unusedSimpArgs false

/-- The reader's place, the volume that is left, the pieces so far. -/
structure FSt where
  k : Nat
  v : Int
  out : List (Int × Int)
/-- The piece that is drawn. -/
def fB (l : List Int) (b : Int) (s : FSt) : Int := nV l s.k b
def fV (l : List Int) (s : FSt) : Int := min (if s.out.length = 11 then s.v else rangeV l (nextK l s.k) 1 (max 1 (s.v * 2 / 3))) s.v
def fStep (l : List Int) (b : Int) (s : FSt) : FSt :=
  let k2 := nextK l (nextK l s.k)
  let x := fB l b s
  let y := fV l s
  match s.out.getLast? with
  | none => ⟨k2, s.v - y, s.out ++ [(x, y)]⟩
  | some q => if q.1 = x then (if q.1 = (x + 1) % b then ⟨k2, s.v - y, s.out.dropLast ++ [(q.1, q.2 + y)]⟩ else ⟨k2, s.v - y, s.out ++ [((x + 1) % b, y)]⟩)
    else ⟨k2, s.v - y, s.out ++ [(x, y)]⟩
def fGo (l : List Int) (b : Int) : Nat → FSt → FSt
  | 0, s => s
  | f + 1, s => if 0 < s.v ∧ s.out.length < 12 then fGo l b f (fStep l b s) else s
theorem fV_range {l : List Int} {s : FSt} (h : 0 < s.v) : 1 ≤ fV l s ∧ fV l s ≤ s.v := by
  unfold fV
  have := rangeV_range (l := l) (k := nextK l s.k) (lo := 1) (hi := max 1 (s.v * 2 / 3)) (by omega)
  split <;> omega
theorem fStep_v {l : List Int} {b : Int} {s : FSt} : (fStep l b s).v = s.v - fV l s ∧ (fStep l b s).k = nextK l (nextK l s.k) := by
  unfold fStep; simp only
  split
  · exact ⟨rfl, rfl⟩
  · split
    · split <;> exact ⟨rfl, rfl⟩
    · exact ⟨rfl, rfl⟩
theorem fGo_step {l : List Int} {b : Int} {f : Nat} {s : FSt} (h : 0 < s.v) (h2 : s.out.length < 12) (hf : s.v.toNat ≤ f) : ∃ f', (fStep l b s).v.toNat ≤ f' ∧ fGo l b f s = fGo l b f' (fStep l b s) := by
  cases f with
  | zero => omega
  | succ f =>
    refine ⟨f, ?_, by simp only [fGo]; rw [if_pos ⟨h, h2⟩]⟩
    rw [fStep_v.1]
    have := fV_range (l := l) h
    omega
theorem fGo_end {l : List Int} {b : Int} {f : Nat} {s : FSt} (h : ¬ (0 < s.v ∧ s.out.length < 12)) : fGo l b f s = s := by
  cases f with
  | zero => rfl
  | succ f => simp only [fGo]; rw [if_neg h]
/-- What holds at each place. -/
def FI (l : List Int) (b : Int) (s : FSt) : Prop := SrcOk l s.k ∧ 0 ≤ s.v ∧ s.v ≤ 1000000 ∧ s.out.length ≤ 12 ∧ ∀ p ∈ s.out, 0 ≤ p.1 ∧ p.1 < b ∧ 0 ≤ p.2 ∧ p.2 ≤ 1000000 - s.v
theorem fStep_ok {l : List Int} {b : Int} {s : FSt} (h : FI l b s) (hb : 1 ≤ b) (h1 : 0 < s.v) (h2 : s.out.length < 12) : FI l b (fStep l b s) := by
  obtain ⟨hs, hv0, hv1, hlen, hall⟩ := h
  have hnb := nV_range (l := l) (k := s.k) (n := b) hb
  have hm1 := Int.emod_nonneg (nV l s.k b + 1) (show b ≠ 0 by omega)
  have hm2 := Int.emod_lt_of_pos (nV l s.k b + 1) (show 0 < b by omega)
  have hfv := fV_range (l := l) h1
  refine ⟨by rw [fStep_v.2]; exact hs.next.next, by rw [fStep_v.1]; omega, by rw [fStep_v.1]; omega, ?_, ?_⟩
  · unfold fStep fB; simp only
    split
    · simp only [List.length_append, List.length_singleton]; omega
    · split
      · split <;> simp <;> omega
      · simp only [List.length_append, List.length_singleton]; omega
  · rw [fStep_v.1]
    unfold fStep fB; simp only
    split
    · intro p hp
      simp only [List.mem_append, List.mem_singleton] at hp
      rcases hp with hp | rfl
      · have := hall p hp; omega
      · simp only; omega
    · rename_i q hq
      have hq' := hall q (List.mem_of_getLast? hq)
      split
      · split <;> intro p hp <;> simp only [List.mem_append, List.mem_singleton] at hp <;> rcases hp with hp | rfl
        · have := hall p ((List.dropLast_sublist _).subset hp); omega
        · simp only; omega
        · have := hall p hp; omega
        · simp only; omega
      · intro p hp
        simp only [List.mem_append, List.mem_singleton] at hp
        rcases hp with hp | rfl
        · have := hall p hp; omega
        · simp only; omega
def fillS (l : List Int) (k : Nat) (v b : Int) : FSt := fGo l b v.toNat ⟨k, v, []⟩

set_option maxRecDepth 100000 in
set_option maxHeartbeats 4000000 in
theorem fill_fn (l : List Int) (k : Nat) (v b : Int) (h : SrcOk l k) (hb : 1 ≤ b) (hb2 : b ≤ 1000) (hv : 0 ≤ v) (hv2 : v ≤ 1000000) :
    FnOk Try.prog 17 [.pt 0 [] 0, .t (.int v), .t (.int b)] [(0, srcB l k)] (.own 1000) [(0, srcB l (fillS l k v b).k), (1000, blkP (fillS l k v b).out)] := by
  refine FnOk.intro fact_mixed Try.func17 rfl Try.ntmps17 (by rfl) (by simp) ?_
  repeat (first | (refine nf1_sound rfl ?_; simp [go_sem, ↓IntWalk.iteOmega, IntWalk.iteOmega, IntWalk.toNatUp]; (repeat (refine And.intro (by omega) ?_)); try (refine ⟨DrawChk_of (by kernel_rfl), ?_⟩)) | (refine itePos (by omega) ?_; try simp [go_sem, ↓IntWalk.iteOmega, IntWalk.iteOmega, IntWalk.toNatUp]) | (refine iteNeg (by omega) ?_; try simp [go_sem, ↓IntWalk.iteOmega, IntWalk.iteOmega, IntWalk.toNatUp]) | (refine ⟨DrawChk_of (by kernel_rfl), ?_⟩))
  refine nf1_sound' _ _ _ ?_; simp only [nf1]
  refine CW.loop (ι := FSt) (fun s => ⟨[(0, .pt 0 [] 0), (1, .t (.int s.v)), (2, .t (.int b)), (7, .own 500)], [(0, srcB l s.k), (500, blkP s.out)]⟩)
    (fun s => FI l b s ∧ ∃ f, s.v.toNat ≤ f ∧ fGo l b f s = fillS l k v b) (fun s => s.v.toNat) ⟨k, v, []⟩ [(0, some 0), (500, none)] ⟨⟨h, hv, hv2, by simp, by simp⟩, _, Nat.le_refl _, rfl⟩ ?_ ?_
  · simp [go_sem, ↓IntWalk.iteOmega, IntWalk.iteOmega, IntWalk.toNatUp]
  rintro s ⟨hFI, f, hf, hgo⟩
  obtain ⟨hs, hv0, hv1, hlen, hall⟩ := id hFI
  by_cases h1 : 0 < s.v
  · by_cases h2 : s.out.length < 12
    · obtain ⟨f', hf', hgo'⟩ := fGo_step (l := l) (b := b) h1 h2 hf
      have hnb := nV_range (l := l) (k := s.k) (n := b) hb
      have hrg := rangeV_range (l := l) (k := nextK l s.k) (lo := 1) (hi := max 1 (s.v * 2 / 3)) (by omega)
      have hfv := fV_range (l := l) h1
      have hdec : (fStep l b s).v.toNat < s.v.toNat := by rw [fStep_v.1]; omega
      have hnx := fStep_ok hFI hb h1 h2
      obtain ⟨k', v', out⟩ := s
      simp only at *
      rcases List.eq_nil_or_concat out with rfl | ⟨o, q, rfl⟩
      · repeat (first | (refine nf1_sound rfl ?_; simp [go_sem, ↓IntWalk.iteOmega, IntWalk.iteOmega, IntWalk.toNatUp]; (repeat (refine And.intro (by omega) ?_)); try (refine ⟨DrawChk_of (by kernel_rfl), ?_⟩)) | (refine itePos (by omega) ?_; try simp [go_sem, ↓IntWalk.iteOmega, IntWalk.iteOmega, IntWalk.toNatUp]) | (refine iteNeg (by omega) ?_; try simp [go_sem, ↓IntWalk.iteOmega, IntWalk.iteOmega, IntWalk.toNatUp]) | (refine ⟨DrawChk_of (by kernel_rfl), ?_⟩))
        refine CallK.fn (n_fn l k' b hs (by omega)) [(0, 0)] [] [] (by kernel_rfl) (by simp [go_sem, ↓IntWalk.iteOmega, IntWalk.iteOmega, IntWalk.toNatUp]) (by simp [go_sem, ↓IntWalk.iteOmega, IntWalk.iteOmega, IntWalk.toNatUp]) (by simp [go_sem, ↓IntWalk.iteOmega, IntWalk.iteOmega, IntWalk.toNatUp]) (Or.inl rfl) ?_
        simp [go_sem, ↓IntWalk.iteOmega, IntWalk.iteOmega, IntWalk.toNatUp]
        repeat (refine And.intro (by omega) ?_)
        try (refine ⟨DrawChk_of (by kernel_rfl), ?_⟩)
        refine CallK.fn (range_fn l (nextK l k') 1 (max 1 (v' * 2 / 3)) hs.next (by omega) (by omega) (by omega)) [(0, 0)] [] [] (by kernel_rfl) (by simp [go_sem, ↓IntWalk.iteOmega, IntWalk.iteOmega, IntWalk.toNatUp]) (by simp [go_sem, ↓IntWalk.iteOmega, IntWalk.iteOmega, IntWalk.toNatUp]) (by simp [go_sem, ↓IntWalk.iteOmega, IntWalk.iteOmega, IntWalk.toNatUp]) (Or.inl rfl) ?_
        simp [go_sem, ↓IntWalk.iteOmega, IntWalk.iteOmega, IntWalk.toNatUp]
        repeat (refine And.intro (by omega) ?_)
        try (refine ⟨DrawChk_of (by kernel_rfl), ?_⟩)
        repeat (first | (refine nf1_sound rfl ?_; simp [go_sem, ↓IntWalk.iteOmega, IntWalk.iteOmega, IntWalk.toNatUp]; (repeat (refine And.intro (by omega) ?_)); try (refine ⟨DrawChk_of (by kernel_rfl), ?_⟩)) | (refine itePos (by omega) ?_; try simp [go_sem, ↓IntWalk.iteOmega, IntWalk.iteOmega, IntWalk.toNatUp]) | (refine iteNeg (by omega) ?_; try simp [go_sem, ↓IntWalk.iteOmega, IntWalk.iteOmega, IntWalk.toNatUp]) | (refine ⟨DrawChk_of (by kernel_rfl), ?_⟩))
        rw [RoundQ_normal]; refine ⟨fStep l b ⟨k', v', []⟩, [(0, some 0), (500, some 190)], ?_, ?_, ?_⟩
        · exact ⟨hnx, f', by omega, hgo' ▸ hgo⟩
        · exact hdec
        simp [go_sem, ↓IntWalk.iteOmega, IntWalk.iteOmega, IntWalk.toNatUp, fStep, fB, fV]
      · have hq := hall q (by simp)
        simp only [List.concat_eq_append] at *
        simp only [List.length_append, List.length_singleton] at hlen h2
        have key : fStep l b ⟨k', v', o ++ [q]⟩ = if q.1 = nV l k' b then (if q.1 = (nV l k' b + 1) % b then ⟨nextK l (nextK l k'), v' - fV l ⟨k', v', o ++ [q]⟩, o ++ [(q.1, q.2 + fV l ⟨k', v', o ++ [q]⟩)]⟩ else ⟨nextK l (nextK l k'), v' - fV l ⟨k', v', o ++ [q]⟩, o ++ [q] ++ [((nV l k' b + 1) % b, fV l ⟨k', v', o ++ [q]⟩)]⟩)
            else ⟨nextK l (nextK l k'), v' - fV l ⟨k', v', o ++ [q]⟩, o ++ [q] ++ [(nV l k' b, fV l ⟨k', v', o ++ [q]⟩)]⟩ := by
          simp [fStep, fB]
        by_cases h11 : o.length = 10
        all_goals
          repeat (first | (refine nf1_sound rfl ?_; simp [go_sem, ↓IntWalk.iteOmega, IntWalk.iteOmega, IntWalk.toNatUp, h11]; (repeat (refine And.intro (by omega) ?_)); try (refine ⟨DrawChk_of (by kernel_rfl), ?_⟩)) | (refine itePos (by omega) ?_; try simp [go_sem, ↓IntWalk.iteOmega, IntWalk.iteOmega, IntWalk.toNatUp, h11]) | (refine iteNeg (by omega) ?_; try simp [go_sem, ↓IntWalk.iteOmega, IntWalk.iteOmega, IntWalk.toNatUp, h11]) | (refine ⟨DrawChk_of (by kernel_rfl), ?_⟩))
          refine CallK.fn (n_fn l k' b hs (by omega)) [(0, 0)] [] [] (by kernel_rfl) (by simp [go_sem, ↓IntWalk.iteOmega, IntWalk.iteOmega, IntWalk.toNatUp, h11]) (by simp [go_sem, ↓IntWalk.iteOmega, IntWalk.iteOmega, IntWalk.toNatUp, h11]) (by simp [go_sem, ↓IntWalk.iteOmega, IntWalk.iteOmega, IntWalk.toNatUp, h11]) (Or.inl rfl) ?_
          simp [go_sem, ↓IntWalk.iteOmega, IntWalk.iteOmega, IntWalk.toNatUp, h11]
          repeat (refine And.intro (by omega) ?_)
          try (refine ⟨DrawChk_of (by kernel_rfl), ?_⟩)
          refine CallK.fn (range_fn l (nextK l k') 1 (max 1 (v' * 2 / 3)) hs.next (by omega) (by omega) (by omega)) [(0, 0)] [] [] (by kernel_rfl) (by simp [go_sem, ↓IntWalk.iteOmega, IntWalk.iteOmega, IntWalk.toNatUp, h11]) (by simp [go_sem, ↓IntWalk.iteOmega, IntWalk.iteOmega, IntWalk.toNatUp, h11]) (by simp [go_sem, ↓IntWalk.iteOmega, IntWalk.iteOmega, IntWalk.toNatUp, h11]) (Or.inl rfl) ?_
          simp [go_sem, ↓IntWalk.iteOmega, IntWalk.iteOmega, IntWalk.toNatUp, h11]
          repeat (refine And.intro (by omega) ?_)
          try (refine ⟨DrawChk_of (by kernel_rfl), ?_⟩)
          repeat (first | (refine nf1_sound rfl ?_; simp [go_sem, ↓IntWalk.iteOmega, IntWalk.iteOmega, IntWalk.toNatUp, h11]; (repeat (refine And.intro (by omega) ?_)); try (refine ⟨DrawChk_of (by kernel_rfl), ?_⟩)) | (refine itePos (by omega) ?_; try simp [go_sem, ↓IntWalk.iteOmega, IntWalk.iteOmega, IntWalk.toNatUp, h11]) | (refine iteNeg (by omega) ?_; try simp [go_sem, ↓IntWalk.iteOmega, IntWalk.iteOmega, IntWalk.toNatUp, h11]) | (refine ⟨DrawChk_of (by kernel_rfl), ?_⟩))
          by_cases he : q.1 = nV l k' b
          · rw [if_pos he]
            by_cases he2 : q.1 = (nV l k' b + 1) % b
            · repeat (first | (refine nf1_sound rfl ?_; simp [go_sem, ↓IntWalk.iteOmega, IntWalk.iteOmega, IntWalk.toNatUp, h11, ← he2]; (repeat (refine And.intro (by omega) ?_)); try (refine ⟨DrawChk_of (by kernel_rfl), ?_⟩)) | (refine itePos (by omega) ?_; try simp [go_sem, ↓IntWalk.iteOmega, IntWalk.iteOmega, IntWalk.toNatUp, h11, ← he2]) | (refine iteNeg (by omega) ?_; try simp [go_sem, ↓IntWalk.iteOmega, IntWalk.iteOmega, IntWalk.toNatUp, h11, ← he2]) | (refine ⟨DrawChk_of (by kernel_rfl), ?_⟩))
              have k2 := key; rw [if_pos he, if_pos he2] at k2
              rw [RoundQ_normal]; refine ⟨fStep l b ⟨k', v', o ++ [q]⟩, [(0, some 0), (500, some 500)], ?_, ?_, ?_⟩
              · exact ⟨hnx, f', by omega, hgo' ▸ hgo⟩
              · exact hdec
              simp [go_sem, ↓IntWalk.iteOmega, IntWalk.iteOmega, IntWalk.toNatUp, k2, fV, h11]
            · repeat (first | (refine nf1_sound rfl ?_; simp [go_sem, ↓IntWalk.iteOmega, IntWalk.iteOmega, IntWalk.toNatUp, h11, he2]; (repeat (refine And.intro (by omega) ?_)); try (refine ⟨DrawChk_of (by kernel_rfl), ?_⟩)) | (refine itePos (by omega) ?_; try simp [go_sem, ↓IntWalk.iteOmega, IntWalk.iteOmega, IntWalk.toNatUp, h11, he2]) | (refine iteNeg (by omega) ?_; try simp [go_sem, ↓IntWalk.iteOmega, IntWalk.iteOmega, IntWalk.toNatUp, h11, he2]) | (refine ⟨DrawChk_of (by kernel_rfl), ?_⟩))
              have k2 := key; rw [if_pos he, if_neg he2] at k2
              rw [RoundQ_normal]; refine ⟨fStep l b ⟨k', v', o ++ [q]⟩, [(0, some 0), (500, some 190)], ?_, ?_, ?_⟩
              · exact ⟨hnx, f', by omega, hgo' ▸ hgo⟩
              · exact hdec
              simp [go_sem, ↓IntWalk.iteOmega, IntWalk.iteOmega, IntWalk.toNatUp, k2, fV, h11]
          · rw [if_neg he]
            repeat (first | (refine nf1_sound rfl ?_; simp [go_sem, ↓IntWalk.iteOmega, IntWalk.iteOmega, IntWalk.toNatUp, h11]; (repeat (refine And.intro (by omega) ?_)); try (refine ⟨DrawChk_of (by kernel_rfl), ?_⟩)) | (refine itePos (by omega) ?_; try simp [go_sem, ↓IntWalk.iteOmega, IntWalk.iteOmega, IntWalk.toNatUp, h11]) | (refine iteNeg (by omega) ?_; try simp [go_sem, ↓IntWalk.iteOmega, IntWalk.iteOmega, IntWalk.toNatUp, h11]) | (refine ⟨DrawChk_of (by kernel_rfl), ?_⟩))
            have k2 := key; rw [if_neg he] at k2
            rw [RoundQ_normal]; refine ⟨fStep l b ⟨k', v', o ++ [q]⟩, [(0, some 0), (500, some 190)], ?_, ?_, ?_⟩
            · exact ⟨hnx, f', by omega, hgo' ▸ hgo⟩
            · exact hdec
            simp [go_sem, ↓IntWalk.iteOmega, IntWalk.iteOmega, IntWalk.toNatUp, k2, fV, h11]
    · rw [fGo_end (by omega)] at hgo
      repeat (first | (refine nf1_sound rfl ?_; simp [go_sem, ↓IntWalk.iteOmega, IntWalk.iteOmega, IntWalk.toNatUp]; (repeat (refine And.intro (by omega) ?_)); try (refine ⟨DrawChk_of (by kernel_rfl), ?_⟩)) | (refine itePos (by omega) ?_; try simp [go_sem, ↓IntWalk.iteOmega, IntWalk.iteOmega, IntWalk.toNatUp]) | (refine iteNeg (by omega) ?_; try simp [go_sem, ↓IntWalk.iteOmega, IntWalk.iteOmega, IntWalk.toNatUp]) | (refine ⟨DrawChk_of (by kernel_rfl), ?_⟩))
      first | rw [RetQ_ret] | rw [RetQ_normal]
      refine ⟨[(0, some 0), (1000, some 500)], ?_⟩
      simp [go_sem, ↓IntWalk.iteOmega, IntWalk.iteOmega, IntWalk.toNatUp, ← hgo]
  · rw [fGo_end (by omega)] at hgo
    repeat (first | (refine nf1_sound rfl ?_; simp [go_sem, ↓IntWalk.iteOmega, IntWalk.iteOmega, IntWalk.toNatUp]; (repeat (refine And.intro (by omega) ?_)); try (refine ⟨DrawChk_of (by kernel_rfl), ?_⟩)) | (refine itePos (by omega) ?_; try simp [go_sem, ↓IntWalk.iteOmega, IntWalk.iteOmega, IntWalk.toNatUp]) | (refine iteNeg (by omega) ?_; try simp [go_sem, ↓IntWalk.iteOmega, IntWalk.iteOmega, IntWalk.toNatUp]) | (refine ⟨DrawChk_of (by kernel_rfl), ?_⟩))
    first | rw [RetQ_ret] | rw [RetQ_normal]
    refine ⟨[(0, some 0), (1000, some 500)], ?_⟩
    simp [go_sem, ↓IntWalk.iteOmega, IntWalk.iteOmega, IntWalk.toNatUp, ← hgo]
end Go.Proofs.Ytpfolkjimdmdhaa
