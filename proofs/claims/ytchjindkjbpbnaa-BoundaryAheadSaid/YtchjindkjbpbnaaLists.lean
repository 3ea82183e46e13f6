/- The law BoundaryLists. No condition. -/
import Derived.Test.YtchjindkjbpbnaaBoAwake
import Derived.Test.YtchjindkjbpbnaaPiRVol
import Derived.Test.YtchjindkjbpbnaaKFillP
import Derived.Test.YtchjindkjbpbnaaKArg
namespace Go.Proofs.Ytchjindkjbpbnaa
open Go.RowKit Sy
set_option linter.unusedVariables false
set_option linter.unusedSimpArgs false
theorem at_mid : ∀ (a : List (Int × Int)) {p : Int × Int} {r : List (Int × Int)} {j : Int}, (∀ q ∈ a, 0 ≤ q.2) → 0 ≤ j → j < p.2 → Pc.atIn (a ++ p :: r) (Pc.vol a + j) = p.1
  | [], p, r, j, ha, h0, h1 => by
    simp only [List.nil_append, Pc.vol]
    rw [at_cons, if_pos (by omega)]
  | q :: a, p, r, j, ha, h0, h1 => by
    have hq := ha q (List.mem_cons_self)
    have ih := at_mid a (p := p) (r := r) (j := j) (fun z hz => ha z (List.mem_cons_of_mem _ hz)) h0 h1
    have hv : 0 ≤ Pc.vol a := by
      clear ih
      induction a with
      | nil => simp [Pc.vol]
      | cons z s ih2 =>
        have hz := ha z (by simp)
        have := ih2 (fun y hy => ha y (by
          rcases List.mem_cons.1 hy with rfl | hy
          · simp
          · simp [hy]))
        simp only [Pc.vol]
        omega
    rw [List.cons_append, show Pc.vol (q :: a) + j = q.2 + Pc.vol a + j from rfl, at_cons, if_neg (by omega), show q.2 + Pc.vol a + j - q.2 = Pc.vol a + j by omega, ih]
theorem at_piece {f : List (Int × Int)} {k : Nat} {p : Int × Int} {j : Int} (h : Pc.Vd f) (hp : f[k]? = some p) (h0 : 0 ≤ j) (h1 : j < p.2) : atV f (Pc.vol (f.take k) + j) = p.1 := by
  have hv := (h.sane.take k).vol
  unfold atV
  rw [if_pos ⟨Pc.valid_t h, by omega⟩]
  conv => lhs; rw [← List.take_append_drop k f, drop_get hp]
  have e : (f.take k ++ p :: f.drop (k + 1)).take k = f.take k := by
    rw [List.take_append_of_le_length (by rw [List.length_take]; have := (List.getElem?_eq_some_iff.1 hp).1; omega), List.take_take, Nat.min_self]
  rw [e]
  exact at_mid (f.take k) (fun q hq => (h.sane.each q (List.mem_of_mem_take hq)).1) h0 h1
theorem bd_at {f : List (Int × Int)} (h : Pc.Vd f) {k : Nat} (hk : k + 1 < f.length) : ∃ a b c, bdAt f k = (a, b, c) ∧ atV f (a - 1) = b ∧ atV f a = c ∧ b ≠ c ∧ 1 ≤ a ∧ a ≤ 1000000000000 := by
  obtain ⟨p, hp⟩ := has_get (show k < f.length by omega)
  obtain ⟨q, hq⟩ := has_get hk
  have hpv := h.each p (mem_get hp)
  have hqv := h.each q (mem_get hq)
  have hv := (h.sane.take k).vol
  have hsn := Pc.vol_snoc hp
  have a1 := at_piece h hp (j := p.2 - 1) (by omega) (by omega)
  have a2 := at_piece h hq (j := 0) (by omega) (by omega)
  refine ⟨Pc.vol (f.take (k + 1)), p.1, q.1, by unfold bdAt; rw [hp, hq]; rfl, ?_, ?_, ?_, by omega, by omega⟩
  · rw [← a1]; congr 1; omega
  · rw [← a2]; congr 1; omega
  · exact (h.ok (k + 1) hk q hq).2 p (by omega) (by simpa using hp)
theorem listV_get {f : List (Int × Int)} {k : Nat} (hk : k < f.length - 1) : (listV f)[k]? = some (bdAt f k) := by
  unfold listV
  rw [List.getElem?_map, List.getElem?_range hk]
  rfl
theorem listV_len (f : List (Int × Int)) : (listV f).length = f.length - 1 := by simp [listV]
set_option maxRecDepth 100000 in
set_option maxHeartbeats 8000000 in
theorem lists_fn (l : List Int) (hl : l.length ≤ 9223372036854775807) (wf : ∀ z ∈ l, -9223372036854775808 ≤ z ∧ z ≤ 9223372036854775807) :
    FnOk Try.prog 4 [.t (encIs l)] [] (.t (.bool true)) [] := by
  have h0 := new_ok wf
  obtain ⟨s, hm⟩ : ∃ m, newL2 l = m := ⟨_, rfl⟩
  have hnew := new_fn l hl
  rw [hm] at h0 hnew
  have hv1 := nV_range (l := s) (k := 0) (n := 200) (by omega)
  have c1 := n_fn s 0 200 h0 (by omega)
  obtain ⟨v1, hvv⟩ : ∃ v, nV s 0 200 = v := ⟨_, rfl⟩
  rw [hvv] at hv1 c1
  have f1 := fill_ok (v := v1) (b := 4) h0.next (by omega) (by omega) hv1.1 (by omega)
  have c2 := fill_fn s (nextK s 0) v1 4 h0.next (by omega) (by omega) hv1.1 (by omega)
  have n1 := f1.len
  have vd := f1.vd
  obtain ⟨⟨k1, fv1, F⟩, hF⟩ : ∃ F, fillS s (nextK s 0) v1 4 = F := ⟨_, rfl⟩
  rw [hF] at c2 n1 vd
  dsimp only at c2 n1 vd
  have hlr : listR F = (listV F, 0) := by unfold listR; rw [if_pos (Pc.valid_t vd)]
  have c3 := list_fn F (by omega) _ _ hlr
  have hll := listV_len F
  have hlg := fun k (hk : k < F.length - 1) => listV_get hk
  obtain ⟨L, hL⟩ : ∃ L, listV F = L := ⟨_, rfl⟩
  rw [hL] at c3 hll
  simp only [hL] at hlg
  refine FnOk.intro fact_mixed Try.func4 rfl Try.ntmps4 (by rfl) (by simp) ?_
  repeat (first | (refine nf1_sound rfl ?_; simp [go_sem, ↓IntWalk.iteOmega, IntWalk.iteOmega, IntWalk.toNatUp]; (repeat (refine And.intro (by omega) ?_)); try (refine ⟨DrawChk_of (by kernel_rfl), ?_⟩)) | (refine itePos (by omega) ?_; try simp [go_sem, ↓IntWalk.iteOmega, IntWalk.iteOmega, IntWalk.toNatUp]) | (refine iteNeg (by omega) ?_; try simp [go_sem, ↓IntWalk.iteOmega, IntWalk.iteOmega, IntWalk.toNatUp]) | (refine ⟨DrawChk_of (by kernel_rfl), ?_⟩))
  refine CallK.fn (hnew) [(1000, 110)] [] [] (by kernel_rfl) (by simp [go_sem, ↓IntWalk.iteOmega, IntWalk.iteOmega, IntWalk.toNatUp]) (by simp [go_sem, ↓IntWalk.iteOmega, IntWalk.iteOmega, IntWalk.toNatUp]) (by simp [go_sem, ↓IntWalk.iteOmega, IntWalk.iteOmega, IntWalk.toNatUp]) (Or.inl rfl) ?_
  simp [go_sem, ↓IntWalk.iteOmega, IntWalk.iteOmega, IntWalk.toNatUp]
  repeat (refine And.intro (by omega) ?_)
  try (refine ⟨DrawChk_of (by kernel_rfl), ?_⟩)
  repeat (first | (refine nf1_sound rfl ?_; simp [go_sem, ↓IntWalk.iteOmega, IntWalk.iteOmega, IntWalk.toNatUp]; (repeat (refine And.intro (by omega) ?_)); try (refine ⟨DrawChk_of (by kernel_rfl), ?_⟩)) | (refine itePos (by omega) ?_; try simp [go_sem, ↓IntWalk.iteOmega, IntWalk.iteOmega, IntWalk.toNatUp]) | (refine iteNeg (by omega) ?_; try simp [go_sem, ↓IntWalk.iteOmega, IntWalk.iteOmega, IntWalk.toNatUp]) | (refine ⟨DrawChk_of (by kernel_rfl), ?_⟩))
  refine CallK.fn (c1) [(0, 110)] [] [] (by kernel_rfl) (by simp [go_sem, ↓IntWalk.iteOmega, IntWalk.iteOmega, IntWalk.toNatUp]) (by simp [go_sem, ↓IntWalk.iteOmega, IntWalk.iteOmega, IntWalk.toNatUp]) (by simp [go_sem, ↓IntWalk.iteOmega, IntWalk.iteOmega, IntWalk.toNatUp]) (Or.inl rfl) ?_
  simp [go_sem, ↓IntWalk.iteOmega, IntWalk.iteOmega, IntWalk.toNatUp]
  repeat (refine And.intro (by omega) ?_)
  try (refine ⟨DrawChk_of (by kernel_rfl), ?_⟩)
  refine CallK.fn (c2) [(0, 110), (1000, 114)] [] [] (by kernel_rfl) (by simp [go_sem, ↓IntWalk.iteOmega, IntWalk.iteOmega, IntWalk.toNatUp]) (by simp [go_sem, ↓IntWalk.iteOmega, IntWalk.iteOmega, IntWalk.toNatUp]) (by simp [go_sem, ↓IntWalk.iteOmega, IntWalk.iteOmega, IntWalk.toNatUp]) (Or.inl rfl) ?_
  simp [go_sem, ↓IntWalk.iteOmega, IntWalk.iteOmega, IntWalk.toNatUp]
  repeat (refine And.intro (by omega) ?_)
  try (refine ⟨DrawChk_of (by kernel_rfl), ?_⟩)
  repeat (first | (refine nf1_sound rfl ?_; simp [go_sem, ↓IntWalk.iteOmega, IntWalk.iteOmega, IntWalk.toNatUp]; (repeat (refine And.intro (by omega) ?_)); try (refine ⟨DrawChk_of (by kernel_rfl), ?_⟩)) | (refine itePos (by omega) ?_; try simp [go_sem, ↓IntWalk.iteOmega, IntWalk.iteOmega, IntWalk.toNatUp]) | (refine iteNeg (by omega) ?_; try simp [go_sem, ↓IntWalk.iteOmega, IntWalk.iteOmega, IntWalk.toNatUp]) | (refine ⟨DrawChk_of (by kernel_rfl), ?_⟩))
  refine CallK.fn (c3) [(1000, 117)] [114] [] (by kernel_rfl) (by simp [go_sem, ↓IntWalk.iteOmega, IntWalk.iteOmega, IntWalk.toNatUp]) (by simp [go_sem, ↓IntWalk.iteOmega, IntWalk.iteOmega, IntWalk.toNatUp]) (by simp [go_sem, ↓IntWalk.iteOmega, IntWalk.iteOmega, IntWalk.toNatUp]) (Or.inr ⟨by simp [go_sem, ↓IntWalk.iteOmega, IntWalk.iteOmega, IntWalk.toNatUp], by simp [go_sem, ↓IntWalk.iteOmega, IntWalk.iteOmega, IntWalk.toNatUp]⟩) ?_
  simp [go_sem, ↓IntWalk.iteOmega, IntWalk.iteOmega, IntWalk.toNatUp]
  repeat (refine And.intro (by omega) ?_)
  try (refine ⟨DrawChk_of (by kernel_rfl), ?_⟩)
  repeat (first | (refine nf1_sound rfl ?_; simp [go_sem, ↓IntWalk.iteOmega, IntWalk.iteOmega, IntWalk.toNatUp]; (repeat (refine And.intro (by omega) ?_)); try (refine ⟨DrawChk_of (by kernel_rfl), ?_⟩)) | (refine itePos (by omega) ?_; try simp [go_sem, ↓IntWalk.iteOmega, IntWalk.iteOmega, IntWalk.toNatUp]) | (refine iteNeg (by omega) ?_; try simp [go_sem, ↓IntWalk.iteOmega, IntWalk.iteOmega, IntWalk.toNatUp]) | (refine ⟨DrawChk_of (by kernel_rfl), ?_⟩))
  refine nf1_sound' _ _ _ ?_; simp only [nf1]
  refine CW.loop (ι := Nat) (fun k => ⟨[(4, .t (encPs F)), (31, .t (encBds L)), (32, .t (.int L.length)), (33, .t (.int k))], []⟩) (fun k => k ≤ L.length) (fun k => L.length - k) 0 [] (by omega) ?_ ?_
  · simp [go_sem, ↓IntWalk.iteOmega, IntWalk.iteOmega, IntWalk.toNatUp]
  intro k hk
  by_cases hb : k < L.length
  · have hg := hlg k (by omega)
    obtain ⟨a, b, c, hbd, ha1, ha2, hne, ha3, ha4⟩ := bd_at vd (show k + 1 < F.length by omega)
    rw [hbd] at hg
    have d1 := rat_fn F (a - 1) (by omega) (by omega) _ ha1
    have d2 := rat_fn F a (by omega) (by omega) _ ha2
    repeat (first | (refine nf1_sound rfl ?_; simp [go_sem, ↓IntWalk.iteOmega, IntWalk.iteOmega, IntWalk.toNatUp, hg]; (repeat (refine And.intro (by omega) ?_)); try (refine ⟨DrawChk_of (by kernel_rfl), ?_⟩)) | (refine itePos (by omega) ?_; try simp [go_sem, ↓IntWalk.iteOmega, IntWalk.iteOmega, IntWalk.toNatUp, hg]) | (refine iteNeg (by omega) ?_; try simp [go_sem, ↓IntWalk.iteOmega, IntWalk.iteOmega, IntWalk.toNatUp, hg]) | (refine ⟨DrawChk_of (by kernel_rfl), ?_⟩))
    refine CallK.fn (d1) [] [] [] (by kernel_rfl) (by simp [go_sem, ↓IntWalk.iteOmega, IntWalk.iteOmega, IntWalk.toNatUp]) (by simp [go_sem, ↓IntWalk.iteOmega, IntWalk.iteOmega, IntWalk.toNatUp]) (by simp [go_sem, ↓IntWalk.iteOmega, IntWalk.iteOmega, IntWalk.toNatUp]) (Or.inl rfl) ?_
    simp [go_sem, ↓IntWalk.iteOmega, IntWalk.iteOmega, IntWalk.toNatUp]
    repeat (refine And.intro (by omega) ?_)
    try (refine ⟨DrawChk_of (by kernel_rfl), ?_⟩)
    refine CallK.fn (d2) [] [] [] (by kernel_rfl) (by simp [go_sem, ↓IntWalk.iteOmega, IntWalk.iteOmega, IntWalk.toNatUp]) (by simp [go_sem, ↓IntWalk.iteOmega, IntWalk.iteOmega, IntWalk.toNatUp]) (by simp [go_sem, ↓IntWalk.iteOmega, IntWalk.iteOmega, IntWalk.toNatUp]) (Or.inl rfl) ?_
    simp [go_sem, ↓IntWalk.iteOmega, IntWalk.iteOmega, IntWalk.toNatUp]
    repeat (refine And.intro (by omega) ?_)
    try (refine ⟨DrawChk_of (by kernel_rfl), ?_⟩)
    repeat (first | (refine nf1_sound rfl ?_; simp [go_sem, ↓IntWalk.iteOmega, IntWalk.iteOmega, IntWalk.toNatUp, hne]; (repeat (refine And.intro (by omega) ?_)); try (refine ⟨DrawChk_of (by kernel_rfl), ?_⟩)) | (refine itePos (by omega) ?_; try simp [go_sem, ↓IntWalk.iteOmega, IntWalk.iteOmega, IntWalk.toNatUp, hne]) | (refine iteNeg (by omega) ?_; try simp [go_sem, ↓IntWalk.iteOmega, IntWalk.iteOmega, IntWalk.toNatUp, hne]) | (refine ⟨DrawChk_of (by kernel_rfl), ?_⟩))
    rw [RoundQ_normal]; refine ⟨k + 1, [], ?_, ?_, ?_⟩
    · omega
    · omega
    simp [go_sem, ↓IntWalk.iteOmega, IntWalk.iteOmega, IntWalk.toNatUp]
  · obtain rfl : k = L.length := by omega
    repeat (first | (refine nf1_sound rfl ?_; simp [go_sem, ↓IntWalk.iteOmega, IntWalk.iteOmega, IntWalk.toNatUp]; (repeat (refine And.intro (by omega) ?_)); try (refine ⟨DrawChk_of (by kernel_rfl), ?_⟩)) | (refine itePos (by omega) ?_; try simp [go_sem, ↓IntWalk.iteOmega, IntWalk.iteOmega, IntWalk.toNatUp]) | (refine iteNeg (by omega) ?_; try simp [go_sem, ↓IntWalk.iteOmega, IntWalk.iteOmega, IntWalk.toNatUp]) | (refine ⟨DrawChk_of (by kernel_rfl), ?_⟩))
    refine CallK.fn (awake_fn) [] [] [] (by kernel_rfl) (by simp [go_sem, ↓IntWalk.iteOmega, IntWalk.iteOmega, IntWalk.toNatUp]) (by simp [go_sem, ↓IntWalk.iteOmega, IntWalk.iteOmega, IntWalk.toNatUp]) (by simp [go_sem, ↓IntWalk.iteOmega, IntWalk.iteOmega, IntWalk.toNatUp]) (Or.inl rfl) ?_
    simp [go_sem, ↓IntWalk.iteOmega, IntWalk.iteOmega, IntWalk.toNatUp]
    repeat (refine And.intro (by omega) ?_)
    try (refine ⟨DrawChk_of (by kernel_rfl), ?_⟩)
    repeat (first | (refine nf1_sound rfl ?_; simp [go_sem, ↓IntWalk.iteOmega, IntWalk.iteOmega, IntWalk.toNatUp]; (repeat (refine And.intro (by omega) ?_)); try (refine ⟨DrawChk_of (by kernel_rfl), ?_⟩)) | (refine itePos (by omega) ?_; try simp [go_sem, ↓IntWalk.iteOmega, IntWalk.iteOmega, IntWalk.toNatUp]) | (refine iteNeg (by omega) ?_; try simp [go_sem, ↓IntWalk.iteOmega, IntWalk.iteOmega, IntWalk.toNatUp]) | (refine ⟨DrawChk_of (by kernel_rfl), ?_⟩))
    first | rw [RetQ_ret] | rw [RetQ_normal]
    refine ⟨[], ?_⟩
    simp [go_sem, ↓IntWalk.iteOmega, IntWalk.iteOmega, IntWalk.toNatUp]
theorem lists_all (x0 : T) (h0 : InSh (.sl (.int .i64)) x0) : FnOk Try.prog 4 [.t x0] [] (.t (.bool true)) [] := by
  obtain ⟨l, rfl, hl, wf⟩ := ints_in h0
  exact lists_fn l hl wf
end Go.Proofs.Ytchjindkjbpbnaa
