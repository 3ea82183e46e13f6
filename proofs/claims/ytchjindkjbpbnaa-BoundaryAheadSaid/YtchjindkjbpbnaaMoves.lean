/- The law BoundaryMoves. No condition. -/
import Derived.Test.YtchjindkjbpbnaaMovesP
import Derived.Test.YtchjindkjbpbnaaPiRPush
namespace Go.Proofs.Ytchjindkjbpbnaa
open Go.RowKit Sy
set_option linter.unusedVariables false
set_option linter.unusedSimpArgs false
theorem vd_one {k : Int} (h1 : 1 ≤ k) (h2 : k ≤ 1000000) : Pc.Vd [(9, k)] := by
  refine Pc.vd_of_canon (show Pc.Canon [(9, k)] from ⟨by dsimp only; omega, by simp, trivial⟩) (by intro p hp; obtain rfl := List.mem_singleton.1 hp; dsimp only; omega) (by simp) (by simp only [Pc.vol]; omega)
set_option maxRecDepth 100000 in
set_option maxHeartbeats 8000000 in
theorem moves_fn (l : List Int) (by_ : Int) (hl : l.length ≤ 9223372036854775807) (wf : ∀ z ∈ l, -9223372036854775808 ≤ z ∧ z ≤ 9223372036854775807) (hby : 0 ≤ by_ ∧ by_ ≤ 255) :
    FnOk Try.prog 6 [.t (encIs l), .t (.lit (.int .u8 by_))] [] (.t (.bool true)) [] := by
  have h0 := new_ok wf
  obtain ⟨s, hm⟩ : ∃ m, newL2 l = m := ⟨_, rfl⟩
  have hnew := new_fn l hl
  rw [hm] at h0 hnew
  have hv1 := nV_range (l := s) (k := 0) (n := 200) (by omega)
  have c1 := n_fn s 0 200 h0 (by omega)
  obtain ⟨v1, hvv⟩ : ∃ v, nV s 0 200 = v := ⟨_, rfl⟩
  rw [hvv] at hv1 c1
  have f1 := fill_ok (v := 1 + v1) (b := 4) h0.next (by omega) (by omega) (by omega) (by omega)
  have V1 := fill_vol (v := 1 + v1) (b := 4) h0.next (by omega) (by omega) (by omega)
  have c2 := fill_fn s (nextK s 0) (1 + v1) 4 h0.next (by omega) (by omega) (by omega) (by omega)
  have n1 := f1.len
  have vd := f1.vd
  have bt := f1.batch
  obtain ⟨⟨k1, fv1, F⟩, hF⟩ : ∃ F, fillS s (nextK s 0) (1 + v1) 4 = F := ⟨_, rfl⟩
  rw [hF] at c2 n1 vd V1 bt
  dsimp only at c2 n1 vd V1 bt
  have h9 : ∀ p ∈ F, p.1 ≠ 9 := fun p hp => by have := bt p hp; omega
  obtain ⟨p, r, hp⟩ : ∃ p r, F = p :: r := by
    cases F with
    | nil => simp [Pc.vol] at V1; omega
    | cons p r => exact ⟨p, r, rfl⟩
  obtain ⟨k, hk⟩ : ∃ k, 1 + by_ = k := ⟨_, rfl⟩
  have hk1 : 1 ≤ k ∧ k ≤ 256 := by omega
  obtain ⟨n, o, hpo⟩ := push_small vd (vd_one (k := k) (by omega) (by omega)) (by simp only [List.length_singleton]; omega) false
  have hml := moves_list vd hp h9 hk1.1 hpo
  have hnn := hpo.nn
  simp only [List.length_singleton] at hnn
  have c3 := rpush_fn F [(9, k)] false (by omega) (by simp) _ _ _ hpo.eq
  have hlr : listR F = (listV F, 0) := by unfold listR; rw [if_pos (Pc.valid_t vd)]
  have hln : listR n = (listV n, 0) := by unfold listR; rw [if_pos (Pc.valid_t hpo.vn)]
  have c4 := list_fn F (by omega) _ _ hlr
  have c5 := list_fn n (by omega) _ _ hln
  have hvol : volV F = 1 + v1 := by unfold volV; rw [if_pos (Pc.valid_t vd), V1]
  have c6 := rvolume_fn F (by omega) _ hvol
  have hll := listV_len F
  have hlg := fun k (hk : k < F.length - 1) => listV_get hk
  have hlb : ∀ (i : Nat) (x y z : Int), (listV F)[i]? = some (x, y, z) → 1 ≤ x ∧ x ≤ 1000000000000 := by
    intro i x y z hg
    have hi : i < F.length - 1 := by rw [← hll]; exact (List.getElem?_eq_some_iff.1 hg).1
    obtain ⟨a, b, c, hab, _, _, _, h1, h2⟩ := bd_at vd (show i + 1 < F.length by omega)
    rw [hlg i hi, hab] at hg
    simp only [Option.some.injEq, Prod.mk.injEq] at hg
    omega
  obtain ⟨L, hL⟩ : ∃ L, listV F = L := ⟨_, rfl⟩
  rw [hL] at c4 hll hlb hml
  have hnl := listV_len n
  obtain ⟨M, hM⟩ : ∃ L, listV n = L := ⟨_, rfl⟩
  rw [hM] at c5 hnl hml
  have c7 := sameB_fn M (by omega)
  rw [V1] at hml
  obtain ⟨m, hmm⟩ : ∃ m, 1 + v1 = m := ⟨_, rfl⟩
  rw [hmm] at c6 hml c2
  have hmr : 1 ≤ m ∧ m ≤ 200 := by omega
  obtain ⟨pb, pv⟩ := p
  have hbr := bt (pb, pv) (by rw [hp]; simp)
  dsimp only at hbr hml
  have hF0 : F[0]? = some (pb, pv) := by rw [hp]; rfl
  have hFl : 1 ≤ F.length := by rw [hp]; simp
  clear hp
  obtain ⟨w0, hw0⟩ : ∃ w0, (if k < m then [(k, 9, pb)] else ([] : List (Int × Int × Int))) = w0 := ⟨_, rfl⟩
  rw [hw0] at hml
  obtain ⟨Y, hY0, hYy, hYn, hYe, hYl⟩ := moves_ex k m w0 L
  rw [← hml] at hYe
  have hw0l : w0.length ≤ 1 := by rw [← hw0]; split <;> simp
  by_cases hkm : k < m
  · rw [if_pos hkm] at hw0
    subst hw0
    refine FnOk.intro fact_mixed Try.func6 rfl Try.ntmps6 (by rfl) (by simp) ?_
    repeat (first | (refine nf1_sound rfl ?_; simp [go_sem, ↓IntWalk.iteOmega, IntWalk.iteOmega, IntWalk.toNatUp]; (repeat (refine And.intro (by omega) ?_)); try (refine ⟨DrawChk_of (by kernel_rfl), ?_⟩)) | (refine itePos (by omega) ?_; try simp [go_sem, ↓IntWalk.iteOmega, IntWalk.iteOmega, IntWalk.toNatUp]) | (refine iteNeg (by omega) ?_; try simp [go_sem, ↓IntWalk.iteOmega, IntWalk.iteOmega, IntWalk.toNatUp]) | (refine ⟨DrawChk_of (by kernel_rfl), ?_⟩))
    refine CallK.fn (hnew) [(1000, 120)] [] [] (by kernel_rfl) (by simp [go_sem, ↓IntWalk.iteOmega, IntWalk.iteOmega, IntWalk.toNatUp]) (by simp [go_sem, ↓IntWalk.iteOmega, IntWalk.iteOmega, IntWalk.toNatUp]) (by simp [go_sem, ↓IntWalk.iteOmega, IntWalk.iteOmega, IntWalk.toNatUp]) (Or.inl rfl) ?_
    simp [go_sem, ↓IntWalk.iteOmega, IntWalk.iteOmega, IntWalk.toNatUp]
    repeat (refine And.intro (by omega) ?_)
    try (refine ⟨DrawChk_of (by kernel_rfl), ?_⟩)
    repeat (first | (refine nf1_sound rfl ?_; simp [go_sem, ↓IntWalk.iteOmega, IntWalk.iteOmega, IntWalk.toNatUp]; (repeat (refine And.intro (by omega) ?_)); try (refine ⟨DrawChk_of (by kernel_rfl), ?_⟩)) | (refine itePos (by omega) ?_; try simp [go_sem, ↓IntWalk.iteOmega, IntWalk.iteOmega, IntWalk.toNatUp]) | (refine iteNeg (by omega) ?_; try simp [go_sem, ↓IntWalk.iteOmega, IntWalk.iteOmega, IntWalk.toNatUp]) | (refine ⟨DrawChk_of (by kernel_rfl), ?_⟩))
    refine CallK.fn (c1) [(0, 120)] [] [] (by kernel_rfl) (by simp [go_sem, ↓IntWalk.iteOmega, IntWalk.iteOmega, IntWalk.toNatUp]) (by simp [go_sem, ↓IntWalk.iteOmega, IntWalk.iteOmega, IntWalk.toNatUp]) (by simp [go_sem, ↓IntWalk.iteOmega, IntWalk.iteOmega, IntWalk.toNatUp]) (Or.inl rfl) ?_
    simp [go_sem, ↓IntWalk.iteOmega, IntWalk.iteOmega, IntWalk.toNatUp]
    repeat (refine And.intro (by omega) ?_)
    try (refine ⟨DrawChk_of (by kernel_rfl), ?_⟩)
    repeat (first | (refine nf1_sound rfl ?_; simp [go_sem, ↓IntWalk.iteOmega, IntWalk.iteOmega, IntWalk.toNatUp, hmm]; (repeat (refine And.intro (by omega) ?_)); try (refine ⟨DrawChk_of (by kernel_rfl), ?_⟩)) | (refine itePos (by omega) ?_; try simp [go_sem, ↓IntWalk.iteOmega, IntWalk.iteOmega, IntWalk.toNatUp, hmm]) | (refine iteNeg (by omega) ?_; try simp [go_sem, ↓IntWalk.iteOmega, IntWalk.iteOmega, IntWalk.toNatUp, hmm]) | (refine ⟨DrawChk_of (by kernel_rfl), ?_⟩))
    refine CallK.fn (c2) [(0, 120), (1000, 125)] [] [] (by kernel_rfl) (by simp [go_sem, ↓IntWalk.iteOmega, IntWalk.iteOmega, IntWalk.toNatUp, hmm]) (by simp [go_sem, ↓IntWalk.iteOmega, IntWalk.iteOmega, IntWalk.toNatUp, hmm]) (by simp [go_sem, ↓IntWalk.iteOmega, IntWalk.iteOmega, IntWalk.toNatUp, hmm]) (Or.inl rfl) ?_
    simp [go_sem, ↓IntWalk.iteOmega, IntWalk.iteOmega, IntWalk.toNatUp, hmm]
    repeat (refine And.intro (by omega) ?_)
    try (refine ⟨DrawChk_of (by kernel_rfl), ?_⟩)
    repeat (first | (refine nf1_sound rfl ?_; simp [go_sem, ↓IntWalk.iteOmega, IntWalk.iteOmega, IntWalk.toNatUp, hk]; (repeat (refine And.intro (by omega) ?_)); try (refine ⟨DrawChk_of (by kernel_rfl), ?_⟩)) | (refine itePos (by omega) ?_; try simp [go_sem, ↓IntWalk.iteOmega, IntWalk.iteOmega, IntWalk.toNatUp, hk]) | (refine iteNeg (by omega) ?_; try simp [go_sem, ↓IntWalk.iteOmega, IntWalk.iteOmega, IntWalk.toNatUp, hk]) | (refine ⟨DrawChk_of (by kernel_rfl), ?_⟩))
    refine CallK.fn (c3) [(1000, 134), (1001, 734)] [125, 133] [] (by kernel_rfl) (by simp [go_sem, ↓IntWalk.iteOmega, IntWalk.iteOmega, IntWalk.toNatUp]) (by simp [go_sem, ↓IntWalk.iteOmega, IntWalk.iteOmega, IntWalk.toNatUp]) (by simp [go_sem, ↓IntWalk.iteOmega, IntWalk.iteOmega, IntWalk.toNatUp]) (Or.inr ⟨by simp [go_sem, ↓IntWalk.iteOmega, IntWalk.iteOmega, IntWalk.toNatUp], by simp [go_sem, ↓IntWalk.iteOmega, IntWalk.iteOmega, IntWalk.toNatUp]⟩) ?_
    simp [go_sem, ↓IntWalk.iteOmega, IntWalk.iteOmega, IntWalk.toNatUp]
    repeat (refine And.intro (by omega) ?_)
    try (refine ⟨DrawChk_of (by kernel_rfl), ?_⟩)
    repeat (first | (refine nf1_sound rfl ?_; simp [go_sem, ↓IntWalk.iteOmega, IntWalk.iteOmega, IntWalk.toNatUp]; (repeat (refine And.intro (by omega) ?_)); try (refine ⟨DrawChk_of (by kernel_rfl), ?_⟩)) | (refine itePos (by omega) ?_; try simp [go_sem, ↓IntWalk.iteOmega, IntWalk.iteOmega, IntWalk.toNatUp]) | (refine iteNeg (by omega) ?_; try simp [go_sem, ↓IntWalk.iteOmega, IntWalk.iteOmega, IntWalk.toNatUp]) | (refine ⟨DrawChk_of (by kernel_rfl), ?_⟩))
    refine CallK.fn (c4) [(1000, 140)] [125] [] (by kernel_rfl) (by simp [go_sem, ↓IntWalk.iteOmega, IntWalk.iteOmega, IntWalk.toNatUp]) (by simp [go_sem, ↓IntWalk.iteOmega, IntWalk.iteOmega, IntWalk.toNatUp]) (by simp [go_sem, ↓IntWalk.iteOmega, IntWalk.iteOmega, IntWalk.toNatUp]) (Or.inr ⟨by simp [go_sem, ↓IntWalk.iteOmega, IntWalk.iteOmega, IntWalk.toNatUp], by simp [go_sem, ↓IntWalk.iteOmega, IntWalk.iteOmega, IntWalk.toNatUp]⟩) ?_
    simp [go_sem, ↓IntWalk.iteOmega, IntWalk.iteOmega, IntWalk.toNatUp]
    repeat (refine And.intro (by omega) ?_)
    try (refine ⟨DrawChk_of (by kernel_rfl), ?_⟩)
    repeat (first | (refine nf1_sound rfl ?_; simp [go_sem, ↓IntWalk.iteOmega, IntWalk.iteOmega, IntWalk.toNatUp]; (repeat (refine And.intro (by omega) ?_)); try (refine ⟨DrawChk_of (by kernel_rfl), ?_⟩)) | (refine itePos (by omega) ?_; try simp [go_sem, ↓IntWalk.iteOmega, IntWalk.iteOmega, IntWalk.toNatUp]) | (refine iteNeg (by omega) ?_; try simp [go_sem, ↓IntWalk.iteOmega, IntWalk.iteOmega, IntWalk.toNatUp]) | (refine ⟨DrawChk_of (by kernel_rfl), ?_⟩))
    refine CallK.fn (c5) [(1000, 145)] [134] [] (by kernel_rfl) (by simp [go_sem, ↓IntWalk.iteOmega, IntWalk.iteOmega, IntWalk.toNatUp]) (by simp [go_sem, ↓IntWalk.iteOmega, IntWalk.iteOmega, IntWalk.toNatUp]) (by simp [go_sem, ↓IntWalk.iteOmega, IntWalk.iteOmega, IntWalk.toNatUp]) (Or.inr ⟨by simp [go_sem, ↓IntWalk.iteOmega, IntWalk.iteOmega, IntWalk.toNatUp], by simp [go_sem, ↓IntWalk.iteOmega, IntWalk.iteOmega, IntWalk.toNatUp]⟩) ?_
    simp [go_sem, ↓IntWalk.iteOmega, IntWalk.iteOmega, IntWalk.toNatUp]
    repeat (refine And.intro (by omega) ?_)
    try (refine ⟨DrawChk_of (by kernel_rfl), ?_⟩)
    repeat (first | (refine nf1_sound rfl ?_; simp [go_sem, ↓IntWalk.iteOmega, IntWalk.iteOmega, IntWalk.toNatUp]; (repeat (refine And.intro (by omega) ?_)); try (refine ⟨DrawChk_of (by kernel_rfl), ?_⟩)) | (refine itePos (by omega) ?_; try simp [go_sem, ↓IntWalk.iteOmega, IntWalk.iteOmega, IntWalk.toNatUp]) | (refine iteNeg (by omega) ?_; try simp [go_sem, ↓IntWalk.iteOmega, IntWalk.iteOmega, IntWalk.toNatUp]) | (refine ⟨DrawChk_of (by kernel_rfl), ?_⟩))
    refine CallK.fn (c6) [] [125] [] (by kernel_rfl) (by simp [go_sem, ↓IntWalk.iteOmega, IntWalk.iteOmega, IntWalk.toNatUp]) (by simp [go_sem, ↓IntWalk.iteOmega, IntWalk.iteOmega, IntWalk.toNatUp]) (by simp [go_sem, ↓IntWalk.iteOmega, IntWalk.iteOmega, IntWalk.toNatUp]) (Or.inr ⟨by simp [go_sem, ↓IntWalk.iteOmega, IntWalk.iteOmega, IntWalk.toNatUp], by simp [go_sem, ↓IntWalk.iteOmega, IntWalk.iteOmega, IntWalk.toNatUp]⟩) ?_
    simp [go_sem, ↓IntWalk.iteOmega, IntWalk.iteOmega, IntWalk.toNatUp]
    repeat (refine And.intro (by omega) ?_)
    try (refine ⟨DrawChk_of (by kernel_rfl), ?_⟩)
    repeat (first | (refine nf1_sound rfl ?_; simp [go_sem, ↓IntWalk.iteOmega, IntWalk.iteOmega, IntWalk.toNatUp, hkm, hF0, hFl]; (repeat (refine And.intro (by omega) ?_)); try (refine ⟨DrawChk_of (by kernel_rfl), ?_⟩)) | (refine itePos (by omega) ?_; try simp [go_sem, ↓IntWalk.iteOmega, IntWalk.iteOmega, IntWalk.toNatUp, hkm, hF0, hFl]) | (refine iteNeg (by omega) ?_; try simp [go_sem, ↓IntWalk.iteOmega, IntWalk.iteOmega, IntWalk.toNatUp, hkm, hF0, hFl]) | (refine ⟨DrawChk_of (by kernel_rfl), ?_⟩))
    refine nf1_sound' _ _ _ ?_; simp only [nf1]
    refine CW.loop (ι := Nat) (fun j => ⟨[(7, .t (.int k)), (11, .t (encBds L)), (13, .t (encBds M)), (15, .t (.int m)), (16, .own 516), (77, .t (encBds L)), (78, .t (.int L.length)), (79, .t (.int j))], [(516, blkBd (Y j))]⟩) (fun j => j ≤ L.length) (fun j => L.length - j) 0 [(516, some 176)] (by omega) ?_ ?_
    · simp [go_sem, ↓IntWalk.iteOmega, IntWalk.iteOmega, IntWalk.toNatUp, hY0]
    intro j hj
    by_cases hb : j < L.length
    · obtain ⟨⟨x, y, z⟩, hg⟩ := has_get hb
      have hx := hlb j x y z hg
      have hyl := hYl j
      by_cases hx2 : x + k < m
      · have hs := hYy j x y z hg hx2
        repeat (first | (refine nf1_sound rfl ?_; simp [go_sem, ↓IntWalk.iteOmega, IntWalk.iteOmega, IntWalk.toNatUp, hg, hx2]; (repeat (refine And.intro (by omega) ?_)); try (refine ⟨DrawChk_of (by kernel_rfl), ?_⟩)) | (refine itePos (by omega) ?_; try simp [go_sem, ↓IntWalk.iteOmega, IntWalk.iteOmega, IntWalk.toNatUp, hg, hx2]) | (refine iteNeg (by omega) ?_; try simp [go_sem, ↓IntWalk.iteOmega, IntWalk.iteOmega, IntWalk.toNatUp, hg, hx2]) | (refine ⟨DrawChk_of (by kernel_rfl), ?_⟩))
        rw [RoundQ_normal]; refine ⟨j + 1, [(516, some 200)], ?_, ?_, ?_⟩
        · omega
        · omega
        simp [go_sem, ↓IntWalk.iteOmega, IntWalk.iteOmega, IntWalk.toNatUp, hs]
      · have hs := hYn j x y z hg hx2
        repeat (first | (refine nf1_sound rfl ?_; simp [go_sem, ↓IntWalk.iteOmega, IntWalk.iteOmega, IntWalk.toNatUp, hg, hx2]; (repeat (refine And.intro (by omega) ?_)); try (refine ⟨DrawChk_of (by kernel_rfl), ?_⟩)) | (refine itePos (by omega) ?_; try simp [go_sem, ↓IntWalk.iteOmega, IntWalk.iteOmega, IntWalk.toNatUp, hg, hx2]) | (refine iteNeg (by omega) ?_; try simp [go_sem, ↓IntWalk.iteOmega, IntWalk.iteOmega, IntWalk.toNatUp, hg, hx2]) | (refine ⟨DrawChk_of (by kernel_rfl), ?_⟩))
        rw [RoundQ_normal]; refine ⟨j + 1, [(516, some 516)], ?_, ?_, ?_⟩
        · omega
        · omega
        simp [go_sem, ↓IntWalk.iteOmega, IntWalk.iteOmega, IntWalk.toNatUp, hs]
    · obtain rfl : j = L.length := by omega
      repeat (first | (refine nf1_sound rfl ?_; simp [go_sem, ↓IntWalk.iteOmega, IntWalk.iteOmega, IntWalk.toNatUp]; (repeat (refine And.intro (by omega) ?_)); try (refine ⟨DrawChk_of (by kernel_rfl), ?_⟩)) | (refine itePos (by omega) ?_; try simp [go_sem, ↓IntWalk.iteOmega, IntWalk.iteOmega, IntWalk.toNatUp]) | (refine iteNeg (by omega) ?_; try simp [go_sem, ↓IntWalk.iteOmega, IntWalk.iteOmega, IntWalk.toNatUp]) | (refine ⟨DrawChk_of (by kernel_rfl), ?_⟩))
      refine CallK.fn (c7) [] [516] [] (by kernel_rfl) (by simp [go_sem, ↓IntWalk.iteOmega, IntWalk.iteOmega, IntWalk.toNatUp, hYe]) (by simp [go_sem, ↓IntWalk.iteOmega, IntWalk.iteOmega, IntWalk.toNatUp, hYe]) (by simp [go_sem, ↓IntWalk.iteOmega, IntWalk.iteOmega, IntWalk.toNatUp, hYe]) (Or.inr ⟨by simp [go_sem, ↓IntWalk.iteOmega, IntWalk.iteOmega, IntWalk.toNatUp, hYe], by simp [go_sem, ↓IntWalk.iteOmega, IntWalk.iteOmega, IntWalk.toNatUp, hYe]⟩) ?_
      simp [go_sem, ↓IntWalk.iteOmega, IntWalk.iteOmega, IntWalk.toNatUp, hYe]
      repeat (refine And.intro (by omega) ?_)
      try (refine ⟨DrawChk_of (by kernel_rfl), ?_⟩)
      refine CallK.fn (awake_fn) [] [] [] (by kernel_rfl) (by simp [go_sem, ↓IntWalk.iteOmega, IntWalk.iteOmega, IntWalk.toNatUp]) (by simp [go_sem, ↓IntWalk.iteOmega, IntWalk.iteOmega, IntWalk.toNatUp]) (by simp [go_sem, ↓IntWalk.iteOmega, IntWalk.iteOmega, IntWalk.toNatUp]) (Or.inl rfl) ?_
      simp [go_sem, ↓IntWalk.iteOmega, IntWalk.iteOmega, IntWalk.toNatUp]
      repeat (refine And.intro (by omega) ?_)
      try (refine ⟨DrawChk_of (by kernel_rfl), ?_⟩)
      repeat (first | (refine nf1_sound rfl ?_; simp [go_sem, ↓IntWalk.iteOmega, IntWalk.iteOmega, IntWalk.toNatUp]; (repeat (refine And.intro (by omega) ?_)); try (refine ⟨DrawChk_of (by kernel_rfl), ?_⟩)) | (refine itePos (by omega) ?_; try simp [go_sem, ↓IntWalk.iteOmega, IntWalk.iteOmega, IntWalk.toNatUp]) | (refine iteNeg (by omega) ?_; try simp [go_sem, ↓IntWalk.iteOmega, IntWalk.iteOmega, IntWalk.toNatUp]) | (refine ⟨DrawChk_of (by kernel_rfl), ?_⟩))
      first | rw [RetQ_ret] | rw [RetQ_normal]
      refine ⟨[], ?_⟩
      simp [go_sem, ↓IntWalk.iteOmega, IntWalk.iteOmega, IntWalk.toNatUp]
  · rw [if_neg hkm] at hw0
    subst hw0
    refine FnOk.intro fact_mixed Try.func6 rfl Try.ntmps6 (by rfl) (by simp) ?_
    repeat (first | (refine nf1_sound rfl ?_; simp [go_sem, ↓IntWalk.iteOmega, IntWalk.iteOmega, IntWalk.toNatUp]; (repeat (refine And.intro (by omega) ?_)); try (refine ⟨DrawChk_of (by kernel_rfl), ?_⟩)) | (refine itePos (by omega) ?_; try simp [go_sem, ↓IntWalk.iteOmega, IntWalk.iteOmega, IntWalk.toNatUp]) | (refine iteNeg (by omega) ?_; try simp [go_sem, ↓IntWalk.iteOmega, IntWalk.iteOmega, IntWalk.toNatUp]) | (refine ⟨DrawChk_of (by kernel_rfl), ?_⟩))
    refine CallK.fn (hnew) [(1000, 120)] [] [] (by kernel_rfl) (by simp [go_sem, ↓IntWalk.iteOmega, IntWalk.iteOmega, IntWalk.toNatUp]) (by simp [go_sem, ↓IntWalk.iteOmega, IntWalk.iteOmega, IntWalk.toNatUp]) (by simp [go_sem, ↓IntWalk.iteOmega, IntWalk.iteOmega, IntWalk.toNatUp]) (Or.inl rfl) ?_
    simp [go_sem, ↓IntWalk.iteOmega, IntWalk.iteOmega, IntWalk.toNatUp]
    repeat (refine And.intro (by omega) ?_)
    try (refine ⟨DrawChk_of (by kernel_rfl), ?_⟩)
    repeat (first | (refine nf1_sound rfl ?_; simp [go_sem, ↓IntWalk.iteOmega, IntWalk.iteOmega, IntWalk.toNatUp]; (repeat (refine And.intro (by omega) ?_)); try (refine ⟨DrawChk_of (by kernel_rfl), ?_⟩)) | (refine itePos (by omega) ?_; try simp [go_sem, ↓IntWalk.iteOmega, IntWalk.iteOmega, IntWalk.toNatUp]) | (refine iteNeg (by omega) ?_; try simp [go_sem, ↓IntWalk.iteOmega, IntWalk.iteOmega, IntWalk.toNatUp]) | (refine ⟨DrawChk_of (by kernel_rfl), ?_⟩))
    refine CallK.fn (c1) [(0, 120)] [] [] (by kernel_rfl) (by simp [go_sem, ↓IntWalk.iteOmega, IntWalk.iteOmega, IntWalk.toNatUp]) (by simp [go_sem, ↓IntWalk.iteOmega, IntWalk.iteOmega, IntWalk.toNatUp]) (by simp [go_sem, ↓IntWalk.iteOmega, IntWalk.iteOmega, IntWalk.toNatUp]) (Or.inl rfl) ?_
    simp [go_sem, ↓IntWalk.iteOmega, IntWalk.iteOmega, IntWalk.toNatUp]
    repeat (refine And.intro (by omega) ?_)
    try (refine ⟨DrawChk_of (by kernel_rfl), ?_⟩)
    repeat (first | (refine nf1_sound rfl ?_; simp [go_sem, ↓IntWalk.iteOmega, IntWalk.iteOmega, IntWalk.toNatUp, hmm]; (repeat (refine And.intro (by omega) ?_)); try (refine ⟨DrawChk_of (by kernel_rfl), ?_⟩)) | (refine itePos (by omega) ?_; try simp [go_sem, ↓IntWalk.iteOmega, IntWalk.iteOmega, IntWalk.toNatUp, hmm]) | (refine iteNeg (by omega) ?_; try simp [go_sem, ↓IntWalk.iteOmega, IntWalk.iteOmega, IntWalk.toNatUp, hmm]) | (refine ⟨DrawChk_of (by kernel_rfl), ?_⟩))
    refine CallK.fn (c2) [(0, 120), (1000, 125)] [] [] (by kernel_rfl) (by simp [go_sem, ↓IntWalk.iteOmega, IntWalk.iteOmega, IntWalk.toNatUp, hmm]) (by simp [go_sem, ↓IntWalk.iteOmega, IntWalk.iteOmega, IntWalk.toNatUp, hmm]) (by simp [go_sem, ↓IntWalk.iteOmega, IntWalk.iteOmega, IntWalk.toNatUp, hmm]) (Or.inl rfl) ?_
    simp [go_sem, ↓IntWalk.iteOmega, IntWalk.iteOmega, IntWalk.toNatUp, hmm]
    repeat (refine And.intro (by omega) ?_)
    try (refine ⟨DrawChk_of (by kernel_rfl), ?_⟩)
    repeat (first | (refine nf1_sound rfl ?_; simp [go_sem, ↓IntWalk.iteOmega, IntWalk.iteOmega, IntWalk.toNatUp, hk]; (repeat (refine And.intro (by omega) ?_)); try (refine ⟨DrawChk_of (by kernel_rfl), ?_⟩)) | (refine itePos (by omega) ?_; try simp [go_sem, ↓IntWalk.iteOmega, IntWalk.iteOmega, IntWalk.toNatUp, hk]) | (refine iteNeg (by omega) ?_; try simp [go_sem, ↓IntWalk.iteOmega, IntWalk.iteOmega, IntWalk.toNatUp, hk]) | (refine ⟨DrawChk_of (by kernel_rfl), ?_⟩))
    refine CallK.fn (c3) [(1000, 134), (1001, 734)] [125, 133] [] (by kernel_rfl) (by simp [go_sem, ↓IntWalk.iteOmega, IntWalk.iteOmega, IntWalk.toNatUp]) (by simp [go_sem, ↓IntWalk.iteOmega, IntWalk.iteOmega, IntWalk.toNatUp]) (by simp [go_sem, ↓IntWalk.iteOmega, IntWalk.iteOmega, IntWalk.toNatUp]) (Or.inr ⟨by simp [go_sem, ↓IntWalk.iteOmega, IntWalk.iteOmega, IntWalk.toNatUp], by simp [go_sem, ↓IntWalk.iteOmega, IntWalk.iteOmega, IntWalk.toNatUp]⟩) ?_
    simp [go_sem, ↓IntWalk.iteOmega, IntWalk.iteOmega, IntWalk.toNatUp]
    repeat (refine And.intro (by omega) ?_)
    try (refine ⟨DrawChk_of (by kernel_rfl), ?_⟩)
    repeat (first | (refine nf1_sound rfl ?_; simp [go_sem, ↓IntWalk.iteOmega, IntWalk.iteOmega, IntWalk.toNatUp]; (repeat (refine And.intro (by omega) ?_)); try (refine ⟨DrawChk_of (by kernel_rfl), ?_⟩)) | (refine itePos (by omega) ?_; try simp [go_sem, ↓IntWalk.iteOmega, IntWalk.iteOmega, IntWalk.toNatUp]) | (refine iteNeg (by omega) ?_; try simp [go_sem, ↓IntWalk.iteOmega, IntWalk.iteOmega, IntWalk.toNatUp]) | (refine ⟨DrawChk_of (by kernel_rfl), ?_⟩))
    refine CallK.fn (c4) [(1000, 140)] [125] [] (by kernel_rfl) (by simp [go_sem, ↓IntWalk.iteOmega, IntWalk.iteOmega, IntWalk.toNatUp]) (by simp [go_sem, ↓IntWalk.iteOmega, IntWalk.iteOmega, IntWalk.toNatUp]) (by simp [go_sem, ↓IntWalk.iteOmega, IntWalk.iteOmega, IntWalk.toNatUp]) (Or.inr ⟨by simp [go_sem, ↓IntWalk.iteOmega, IntWalk.iteOmega, IntWalk.toNatUp], by simp [go_sem, ↓IntWalk.iteOmega, IntWalk.iteOmega, IntWalk.toNatUp]⟩) ?_
    simp [go_sem, ↓IntWalk.iteOmega, IntWalk.iteOmega, IntWalk.toNatUp]
    repeat (refine And.intro (by omega) ?_)
    try (refine ⟨DrawChk_of (by kernel_rfl), ?_⟩)
    repeat (first | (refine nf1_sound rfl ?_; simp [go_sem, ↓IntWalk.iteOmega, IntWalk.iteOmega, IntWalk.toNatUp]; (repeat (refine And.intro (by omega) ?_)); try (refine ⟨DrawChk_of (by kernel_rfl), ?_⟩)) | (refine itePos (by omega) ?_; try simp [go_sem, ↓IntWalk.iteOmega, IntWalk.iteOmega, IntWalk.toNatUp]) | (refine iteNeg (by omega) ?_; try simp [go_sem, ↓IntWalk.iteOmega, IntWalk.iteOmega, IntWalk.toNatUp]) | (refine ⟨DrawChk_of (by kernel_rfl), ?_⟩))
    refine CallK.fn (c5) [(1000, 145)] [134] [] (by kernel_rfl) (by simp [go_sem, ↓IntWalk.iteOmega, IntWalk.iteOmega, IntWalk.toNatUp]) (by simp [go_sem, ↓IntWalk.iteOmega, IntWalk.iteOmega, IntWalk.toNatUp]) (by simp [go_sem, ↓IntWalk.iteOmega, IntWalk.iteOmega, IntWalk.toNatUp]) (Or.inr ⟨by simp [go_sem, ↓IntWalk.iteOmega, IntWalk.iteOmega, IntWalk.toNatUp], by simp [go_sem, ↓IntWalk.iteOmega, IntWalk.iteOmega, IntWalk.toNatUp]⟩) ?_
    simp [go_sem, ↓IntWalk.iteOmega, IntWalk.iteOmega, IntWalk.toNatUp]
    repeat (refine And.intro (by omega) ?_)
    try (refine ⟨DrawChk_of (by kernel_rfl), ?_⟩)
    repeat (first | (refine nf1_sound rfl ?_; simp [go_sem, ↓IntWalk.iteOmega, IntWalk.iteOmega, IntWalk.toNatUp]; (repeat (refine And.intro (by omega) ?_)); try (refine ⟨DrawChk_of (by kernel_rfl), ?_⟩)) | (refine itePos (by omega) ?_; try simp [go_sem, ↓IntWalk.iteOmega, IntWalk.iteOmega, IntWalk.toNatUp]) | (refine iteNeg (by omega) ?_; try simp [go_sem, ↓IntWalk.iteOmega, IntWalk.iteOmega, IntWalk.toNatUp]) | (refine ⟨DrawChk_of (by kernel_rfl), ?_⟩))
    refine CallK.fn (c6) [] [125] [] (by kernel_rfl) (by simp [go_sem, ↓IntWalk.iteOmega, IntWalk.iteOmega, IntWalk.toNatUp]) (by simp [go_sem, ↓IntWalk.iteOmega, IntWalk.iteOmega, IntWalk.toNatUp]) (by simp [go_sem, ↓IntWalk.iteOmega, IntWalk.iteOmega, IntWalk.toNatUp]) (Or.inr ⟨by simp [go_sem, ↓IntWalk.iteOmega, IntWalk.iteOmega, IntWalk.toNatUp], by simp [go_sem, ↓IntWalk.iteOmega, IntWalk.iteOmega, IntWalk.toNatUp]⟩) ?_
    simp [go_sem, ↓IntWalk.iteOmega, IntWalk.iteOmega, IntWalk.toNatUp]
    repeat (refine And.intro (by omega) ?_)
    try (refine ⟨DrawChk_of (by kernel_rfl), ?_⟩)
    repeat (first | (refine nf1_sound rfl ?_; simp [go_sem, ↓IntWalk.iteOmega, IntWalk.iteOmega, IntWalk.toNatUp, hkm]; (repeat (refine And.intro (by omega) ?_)); try (refine ⟨DrawChk_of (by kernel_rfl), ?_⟩)) | (refine itePos (by omega) ?_; try simp [go_sem, ↓IntWalk.iteOmega, IntWalk.iteOmega, IntWalk.toNatUp, hkm]) | (refine iteNeg (by omega) ?_; try simp [go_sem, ↓IntWalk.iteOmega, IntWalk.iteOmega, IntWalk.toNatUp, hkm]) | (refine ⟨DrawChk_of (by kernel_rfl), ?_⟩))
    refine nf1_sound' _ _ _ ?_; simp only [nf1]
    refine CW.loop (ι := Nat) (fun j => ⟨[(7, .t (.int k)), (11, .t (encBds L)), (13, .t (encBds M)), (15, .t (.int m)), (16, .own 516), (77, .t (encBds L)), (78, .t (.int L.length)), (79, .t (.int j))], [(516, blkBd (Y j))]⟩) (fun j => j ≤ L.length) (fun j => L.length - j) 0 [(516, none)] (by omega) ?_ ?_
    · simp [go_sem, ↓IntWalk.iteOmega, IntWalk.iteOmega, IntWalk.toNatUp, hY0]
    intro j hj
    by_cases hb : j < L.length
    · obtain ⟨⟨x, y, z⟩, hg⟩ := has_get hb
      have hx := hlb j x y z hg
      have hyl := hYl j
      by_cases hx2 : x + k < m
      · have hs := hYy j x y z hg hx2
        repeat (first | (refine nf1_sound rfl ?_; simp [go_sem, ↓IntWalk.iteOmega, IntWalk.iteOmega, IntWalk.toNatUp, hg, hx2]; (repeat (refine And.intro (by omega) ?_)); try (refine ⟨DrawChk_of (by kernel_rfl), ?_⟩)) | (refine itePos (by omega) ?_; try simp [go_sem, ↓IntWalk.iteOmega, IntWalk.iteOmega, IntWalk.toNatUp, hg, hx2]) | (refine iteNeg (by omega) ?_; try simp [go_sem, ↓IntWalk.iteOmega, IntWalk.iteOmega, IntWalk.toNatUp, hg, hx2]) | (refine ⟨DrawChk_of (by kernel_rfl), ?_⟩))
        rw [RoundQ_normal]; refine ⟨j + 1, [(516, some 200)], ?_, ?_, ?_⟩
        · omega
        · omega
        simp [go_sem, ↓IntWalk.iteOmega, IntWalk.iteOmega, IntWalk.toNatUp, hs]
      · have hs := hYn j x y z hg hx2
        repeat (first | (refine nf1_sound rfl ?_; simp [go_sem, ↓IntWalk.iteOmega, IntWalk.iteOmega, IntWalk.toNatUp, hg, hx2]; (repeat (refine And.intro (by omega) ?_)); try (refine ⟨DrawChk_of (by kernel_rfl), ?_⟩)) | (refine itePos (by omega) ?_; try simp [go_sem, ↓IntWalk.iteOmega, IntWalk.iteOmega, IntWalk.toNatUp, hg, hx2]) | (refine iteNeg (by omega) ?_; try simp [go_sem, ↓IntWalk.iteOmega, IntWalk.iteOmega, IntWalk.toNatUp, hg, hx2]) | (refine ⟨DrawChk_of (by kernel_rfl), ?_⟩))
        rw [RoundQ_normal]; refine ⟨j + 1, [(516, some 516)], ?_, ?_, ?_⟩
        · omega
        · omega
        simp [go_sem, ↓IntWalk.iteOmega, IntWalk.iteOmega, IntWalk.toNatUp, hs]
    · obtain rfl : j = L.length := by omega
      repeat (first | (refine nf1_sound rfl ?_; simp [go_sem, ↓IntWalk.iteOmega, IntWalk.iteOmega, IntWalk.toNatUp]; (repeat (refine And.intro (by omega) ?_)); try (refine ⟨DrawChk_of (by kernel_rfl), ?_⟩)) | (refine itePos (by omega) ?_; try simp [go_sem, ↓IntWalk.iteOmega, IntWalk.iteOmega, IntWalk.toNatUp]) | (refine iteNeg (by omega) ?_; try simp [go_sem, ↓IntWalk.iteOmega, IntWalk.iteOmega, IntWalk.toNatUp]) | (refine ⟨DrawChk_of (by kernel_rfl), ?_⟩))
      refine CallK.fn (c7) [] [516] [] (by kernel_rfl) (by simp [go_sem, ↓IntWalk.iteOmega, IntWalk.iteOmega, IntWalk.toNatUp, hYe]) (by simp [go_sem, ↓IntWalk.iteOmega, IntWalk.iteOmega, IntWalk.toNatUp, hYe]) (by simp [go_sem, ↓IntWalk.iteOmega, IntWalk.iteOmega, IntWalk.toNatUp, hYe]) (Or.inr ⟨by simp [go_sem, ↓IntWalk.iteOmega, IntWalk.iteOmega, IntWalk.toNatUp, hYe], by simp [go_sem, ↓IntWalk.iteOmega, IntWalk.iteOmega, IntWalk.toNatUp, hYe]⟩) ?_
      simp [go_sem, ↓IntWalk.iteOmega, IntWalk.iteOmega, IntWalk.toNatUp, hYe]
      repeat (refine And.intro (by omega) ?_)
      try (refine ⟨DrawChk_of (by kernel_rfl), ?_⟩)
      refine CallK.fn (awake_fn) [] [] [] (by kernel_rfl) (by simp [go_sem, ↓IntWalk.iteOmega, IntWalk.iteOmega, IntWalk.toNatUp]) (by simp [go_sem, ↓IntWalk.iteOmega, IntWalk.iteOmega, IntWalk.toNatUp]) (by simp [go_sem, ↓IntWalk.iteOmega, IntWalk.iteOmega, IntWalk.toNatUp]) (Or.inl rfl) ?_
      simp [go_sem, ↓IntWalk.iteOmega, IntWalk.iteOmega, IntWalk.toNatUp]
      repeat (refine And.intro (by omega) ?_)
      try (refine ⟨DrawChk_of (by kernel_rfl), ?_⟩)
      repeat (first | (refine nf1_sound rfl ?_; simp [go_sem, ↓IntWalk.iteOmega, IntWalk.iteOmega, IntWalk.toNatUp]; (repeat (refine And.intro (by omega) ?_)); try (refine ⟨DrawChk_of (by kernel_rfl), ?_⟩)) | (refine itePos (by omega) ?_; try simp [go_sem, ↓IntWalk.iteOmega, IntWalk.iteOmega, IntWalk.toNatUp]) | (refine iteNeg (by omega) ?_; try simp [go_sem, ↓IntWalk.iteOmega, IntWalk.iteOmega, IntWalk.toNatUp]) | (refine ⟨DrawChk_of (by kernel_rfl), ?_⟩))
      first | rw [RetQ_ret] | rw [RetQ_normal]
      refine ⟨[], ?_⟩
      simp [go_sem, ↓IntWalk.iteOmega, IntWalk.iteOmega, IntWalk.toNatUp]
theorem moves_all (x0 x1 : T) (h0 : InSh (.sl (.int .i64)) x0) (h1 : InSh (.int .u8) x1) : FnOk Try.prog 6 [.t x0, .t x1] [] (.t (.bool true)) [] := by
  obtain ⟨l, rfl, hl, wf⟩ := ints_in h0
  obtain ⟨b, rfl, w⟩ := insh_int h1
  have := wf_u8 w
  exact moves_fn l b hl wf (by omega)
end Go.Proofs.Ytchjindkjbpbnaa
