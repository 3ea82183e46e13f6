/- What is received. No condition. -/
import Derived.Test.YtgjfkklemelejaaCuPort2
import Derived.Test.YtgjfkklemelejaaKFillP
namespace Go.Proofs.Ytgjfkklemelejaa
open Go.RowKit Sy
set_option linter.unusedVariables false
set_option linter.unusedSimpArgs false
def waysL : List Int := [0, 1, 25, 400, 10000]
def kk (l : List Int) (k : Nat) : Nat → Nat
  | 0 => k
  | j + 1 => nextK l (kk l k j)
theorem kk_ok {l : List Int} {k : Nat} (h : SrcOk l k) : ∀ j, SrcOk l (kk l k j)
  | 0 => h
  | j + 1 => (kk_ok h j).next
def pk (l : List Int) (k : Nat) (j : Nat) : List Int := (List.range j).map fun i => pickV l (kk l k i) waysL
theorem pk_succ (l : List Int) (k j : Nat) : pk l k (j + 1) = pk l k j ++ [pickV l (kk l k j) waysL] := by
  unfold pk; rw [List.range_succ, List.map_append]; rfl
theorem pk_len (l : List Int) (k j : Nat) : (pk l k j).length = j := by simp [pk]
theorem pk_mem {l : List Int} {k j : Nat} : ∀ y ∈ pk l k j, y ∈ waysL := by
  intro y hy
  obtain ⟨i, _, rfl⟩ := List.mem_map.1 hy
  exact pickV_mem (by simp [waysL])
set_option maxRecDepth 100000 in
set_option maxHeartbeats 4000000 in
theorem recv_ex {l : List Int} {k : Nat} (h : SrcOk l k) : ∃ x t k', SrcOk l k' ∧ Pc.Vd x ∧ x.length ≤ 12 ∧ Pc.vol x ≤ 300 ∧ (∀ p ∈ x, 0 ≤ p.1 ∧ p.1 < 5) ∧ t.length = x.length - 1 ∧ (∀ y ∈ t, y ∈ waysL) ∧
    FnOk Try.prog 11 [.pt 0 [] 0] [(0, srcB l k)] (.tup [.own 1000, .own 1001]) [(0, srcB l k'), (1000, blkP x), (1001, blkI t)] := by
  have c1 := range_fn l k 0 300 h (by omega) (by omega) (by omega)
  have r1 := rangeV_range (l := l) (k := k) (lo := 0) (hi := 300) (by omega)
  obtain ⟨v, hv⟩ : ∃ v, rangeV l k 0 300 = v := ⟨_, rfl⟩
  rw [hv] at c1 r1
  have f1 := fill_ok (v := v) (b := 5) h.next (by omega) (by omega) (by omega) (by omega)
  have c2 := fill_fn l (nextK l k) v 5 h.next (by omega) (by omega) (by omega) (by omega)
  obtain ⟨b1, b2, b3, b4, b5⟩ := f1
  obtain ⟨⟨k1, fv, x⟩, hF⟩ : ∃ F, fillS l (nextK l k) v 5 = F := ⟨_, rfl⟩
  rw [hF] at b1 b2 b3 b4 b5 c2
  dsimp only at b1 b2 b3 b4 b5 c2
  refine ⟨x, pk l k1 (x.length - 1), kk l k1 (x.length - 1), kk_ok b1 _, b2, b3, by omega, b5, pk_len _ _ _, pk_mem, ?_⟩
  have hok := kk_ok b1
  have hw : waysL.length = 5 := rfl
  have hps := fun j => pk_succ l k1 j
  have hpl := fun j => pk_len l k1 j
  have hp0 : pk l k1 0 = [] := rfl
  have hks : ∀ j, kk l k1 (j + 1) = nextK l (kk l k1 j) := fun _ => rfl
  have hk0 : kk l k1 0 = k1 := rfl
  have hpf := fun j => pick_fn (hok j) waysL (by omega) (by omega)
  obtain ⟨Q, hQ⟩ : ∃ Q : Nat → Int, ∀ j, pickV l (kk l k1 j) waysL = Q j := ⟨_, fun _ => rfl⟩
  simp only [hQ] at hps hpf
  simp only [← hks] at hpf
  obtain ⟨K, hK⟩ : ∃ K : Nat → Nat, ∀ j, kk l k1 j = K j := ⟨_, fun _ => rfl⟩
  obtain ⟨P, hP⟩ : ∃ P : Nat → List Int, ∀ j, pk l k1 j = P j := ⟨_, fun _ => rfl⟩
  simp only [hK] at hpf hk0
  simp only [hP] at hps hpl hp0
  rw [hK, hP]
  clear hks hok hQ
  refine FnOk.intro fact_mixed Try.func11 rfl Try.ntmps11 (by rfl) (by simp) ?_
  repeat (first | (refine nf1_sound rfl ?_; simp [go_sem, ↓IntWalk.iteOmega, IntWalk.iteOmega, IntWalk.toNatUp]; (repeat (refine And.intro (by omega) ?_)); try (refine ⟨DrawChk_of (by kernel_rfl), ?_⟩)) | (refine itePos (by omega) ?_; try simp [go_sem, ↓IntWalk.iteOmega, IntWalk.iteOmega, IntWalk.toNatUp]) | (refine iteNeg (by omega) ?_; try simp [go_sem, ↓IntWalk.iteOmega, IntWalk.iteOmega, IntWalk.toNatUp]) | (refine ⟨DrawChk_of (by kernel_rfl), ?_⟩))
  refine CallK.fn (c1) [(0, 0)] [] [] (by kernel_rfl) (by simp [go_sem, ↓IntWalk.iteOmega, IntWalk.iteOmega, IntWalk.toNatUp]) (by simp [go_sem, ↓IntWalk.iteOmega, IntWalk.iteOmega, IntWalk.toNatUp]) (by simp [go_sem, ↓IntWalk.iteOmega, IntWalk.iteOmega, IntWalk.toNatUp]) (Or.inl rfl) ?_
  simp [go_sem, ↓IntWalk.iteOmega, IntWalk.iteOmega, IntWalk.toNatUp]
  repeat (refine And.intro (by omega) ?_)
  try (refine ⟨DrawChk_of (by kernel_rfl), ?_⟩)
  repeat (first | (refine nf1_sound rfl ?_; simp [go_sem, ↓IntWalk.iteOmega, IntWalk.iteOmega, IntWalk.toNatUp]; (repeat (refine And.intro (by omega) ?_)); try (refine ⟨DrawChk_of (by kernel_rfl), ?_⟩)) | (refine itePos (by omega) ?_; try simp [go_sem, ↓IntWalk.iteOmega, IntWalk.iteOmega, IntWalk.toNatUp]) | (refine iteNeg (by omega) ?_; try simp [go_sem, ↓IntWalk.iteOmega, IntWalk.iteOmega, IntWalk.toNatUp]) | (refine ⟨DrawChk_of (by kernel_rfl), ?_⟩))
  refine CallK.fn (c2) [(0, 0), (1000, 110)] [] [] (by kernel_rfl) (by simp [go_sem, ↓IntWalk.iteOmega, IntWalk.iteOmega, IntWalk.toNatUp]) (by simp [go_sem, ↓IntWalk.iteOmega, IntWalk.iteOmega, IntWalk.toNatUp]) (by simp [go_sem, ↓IntWalk.iteOmega, IntWalk.iteOmega, IntWalk.toNatUp]) (Or.inl rfl) ?_
  simp [go_sem, ↓IntWalk.iteOmega, IntWalk.iteOmega, IntWalk.toNatUp]
  repeat (refine And.intro (by omega) ?_)
  try (refine ⟨DrawChk_of (by kernel_rfl), ?_⟩)
  repeat (first | (refine nf1_sound rfl ?_; simp [go_sem, ↓IntWalk.iteOmega, IntWalk.iteOmega, IntWalk.toNatUp]; (repeat (refine And.intro (by omega) ?_)); try (refine ⟨DrawChk_of (by kernel_rfl), ?_⟩)) | (refine itePos (by omega) ?_; try simp [go_sem, ↓IntWalk.iteOmega, IntWalk.iteOmega, IntWalk.toNatUp]) | (refine iteNeg (by omega) ?_; try simp [go_sem, ↓IntWalk.iteOmega, IntWalk.iteOmega, IntWalk.toNatUp]) | (refine ⟨DrawChk_of (by kernel_rfl), ?_⟩))
  refine nf1_sound' _ _ _ ?_; simp only [nf1]
  refine CW.loop (ι := Nat) (fun j => ⟨[(0, .pt 0 [] 0), (4, .own 504), (5, .own 505), (6, .t (.int (j + 1)))], [(0, srcB l (K j)), (504, blkP x), (505, blkI (P j))]⟩) (fun j => j ≤ x.length - 1) (fun j => x.length - j) 0 [(0, some 0), (504, some 110), (505, none)] (by omega) ?_ ?_
  · simp [go_sem, ↓IntWalk.iteOmega, IntWalk.iteOmega, IntWalk.toNatUp, hk0, hp0]
  intro j hj
  have hl := hpl j
  by_cases hb : j + 1 < x.length
  · have c3 := hpf j
    have e := hps j
    repeat (first | (refine nf1_sound rfl ?_; simp [go_sem, ↓IntWalk.iteOmega, IntWalk.iteOmega, IntWalk.toNatUp]; (repeat (refine And.intro (by omega) ?_)); try (refine ⟨DrawChk_of (by kernel_rfl), ?_⟩)) | (refine itePos (by omega) ?_; try simp [go_sem, ↓IntWalk.iteOmega, IntWalk.iteOmega, IntWalk.toNatUp]) | (refine iteNeg (by omega) ?_; try simp [go_sem, ↓IntWalk.iteOmega, IntWalk.iteOmega, IntWalk.toNatUp]) | (refine ⟨DrawChk_of (by kernel_rfl), ?_⟩))
    refine CallK.fn (c3) [(0, 0)] [] [119] (by kernel_rfl) (by simp [go_sem, ↓IntWalk.iteOmega, IntWalk.iteOmega, IntWalk.toNatUp, waysL]) (by simp [go_sem, ↓IntWalk.iteOmega, IntWalk.iteOmega, IntWalk.toNatUp, waysL]) (by simp [go_sem, ↓IntWalk.iteOmega, IntWalk.iteOmega, IntWalk.toNatUp, waysL]) (Or.inl rfl) ?_
    simp [go_sem, ↓IntWalk.iteOmega, IntWalk.iteOmega, IntWalk.toNatUp, waysL]
    repeat (refine And.intro (by omega) ?_)
    try (refine ⟨DrawChk_of (by kernel_rfl), ?_⟩)
    repeat (first | (refine nf1_sound rfl ?_; simp [go_sem, ↓IntWalk.iteOmega, IntWalk.iteOmega, IntWalk.toNatUp]; (repeat (refine And.intro (by omega) ?_)); try (refine ⟨DrawChk_of (by kernel_rfl), ?_⟩)) | (refine itePos (by omega) ?_; try simp [go_sem, ↓IntWalk.iteOmega, IntWalk.iteOmega, IntWalk.toNatUp]) | (refine iteNeg (by omega) ?_; try simp [go_sem, ↓IntWalk.iteOmega, IntWalk.iteOmega, IntWalk.toNatUp]) | (refine ⟨DrawChk_of (by kernel_rfl), ?_⟩))
    rw [RoundQ_normal]; refine ⟨j + 1, [(0, some 0), (504, some 504), (505, some 122)], ?_, ?_, ?_⟩
    · omega
    · omega
    simp [go_sem, ↓IntWalk.iteOmega, IntWalk.iteOmega, IntWalk.toNatUp, e]
  · obtain rfl : j = x.length - 1 := by omega
    repeat (first | (refine nf1_sound rfl ?_; simp [go_sem, ↓IntWalk.iteOmega, IntWalk.iteOmega, IntWalk.toNatUp]; (repeat (refine And.intro (by omega) ?_)); try (refine ⟨DrawChk_of (by kernel_rfl), ?_⟩)) | (refine itePos (by omega) ?_; try simp [go_sem, ↓IntWalk.iteOmega, IntWalk.iteOmega, IntWalk.toNatUp]) | (refine iteNeg (by omega) ?_; try simp [go_sem, ↓IntWalk.iteOmega, IntWalk.iteOmega, IntWalk.toNatUp]) | (refine ⟨DrawChk_of (by kernel_rfl), ?_⟩))
    first | rw [RetQ_ret] | rw [RetQ_normal]
    refine ⟨[(0, some 0), (1000, some 504), (1001, some 505)], ?_⟩
    simp [go_sem, ↓IntWalk.iteOmega, IntWalk.iteOmega, IntWalk.toNatUp]
end Go.Proofs.Ytgjfkklemelejaa
