/- The chapter's examples; what the laws draw. No condition. -/
import Derived.Test.YtpfolkjimdmdhaaDlR
import Derived.Test.YtpfolkjimdmdhaaDlQ
import Derived.Test.YtpfolkjimdmdhaaKRange
import Derived.Test.YtpfolkjimdmdhaaKPick
import Derived.Test.YtpfolkjimdmdhaaKInts
namespace Go.Proofs.Ytpfolkjimdmdhaa
open Go.RowKit Sy Dl
set_option linter.unusedVariables false
set_option linter.unusedSimpArgs false
theorem ex_merge : Pc.merge [(5, 2), (6, 2)] = [(5, 2), (6, 2)] := by
  rw [merge_good ⟨by simp, by intro p hp; simp at hp; rcases hp with rfl | rfl <;> simp⟩]; decide
theorem ex_deal : dealV [(5, 2), (6, 2)] [3, 1] = ([[(5, 2), (6, 1)], [(6, 1)]], 0) := by
  unfold dealV
  rw [ex_merge]
  have h1 : chk [3, 1] (Pc.vol [(5, 2), (6, 2)]) = 0 := by
    unfold chk
    rw [if_neg (by simp), if_neg (by simp), if_neg (by simp [tot]), if_neg (by simp [tot, Pc.vol])]
  have h2 : dealt [3, 1] [(5, 2), (6, 2)] = [[(5, 2), (6, 1)], [(6, 1)]] := by decide
  simp only [h1, h2]
  simp
theorem ex_counts : countsV [3, 1] 3 = ([3, 0], 0) := by
  unfold countsV
  have h1 : chk [3, 1] 3 = 0 := by
    unfold chk
    rw [if_neg (by simp), if_neg (by simp), if_neg (by simp [tot]), if_neg (by simp [tot])]
  have h2 : cs [3, 1] (3 : Int).toNat = [3, 0] := by decide
  rw [if_pos h1, h2]
set_option maxRecDepth 100000 in
set_option maxHeartbeats 8000000 in
theorem awake_fn : FnOk Try.prog 9 [] [] (.t (.bool true)) [] := by
  have c1 := counts_fn [3, 1] 3 (by simp) _ _ ex_counts
  have c2 := deal_fn [(5, 2), (6, 2)] [3, 1] (by simp) (by simp) _ _ ex_deal
  have c3 := ints_fn [3, 0] [3, 0] (by simp) true (decide_eq_true rfl)
  have c4 := rsame_fn [[(5, 2), (6, 1)], [(6, 1)]] [[(5, 2), (6, 1)], [(6, 1)]] (by simp) (by intro l hl; simp at hl; rcases hl with rfl | rfl <;> simp) true (decide_eq_true rfl)
  refine FnOk.intro fact_mixed Try.func9 rfl Try.ntmps9 (by rfl) (by simp) ?_
  repeat (first | (refine nf1_sound rfl ?_; simp [go_sem, ↓IntWalk.iteOmega, IntWalk.iteOmega, IntWalk.toNatUp]; (repeat (refine And.intro (by omega) ?_)); try (refine ⟨DrawChk_of (by kernel_rfl), ?_⟩)) | (refine itePos (by omega) ?_; try simp [go_sem, ↓IntWalk.iteOmega, IntWalk.iteOmega, IntWalk.toNatUp]) | (refine iteNeg (by omega) ?_; try simp [go_sem, ↓IntWalk.iteOmega, IntWalk.iteOmega, IntWalk.toNatUp]) | (refine ⟨DrawChk_of (by kernel_rfl), ?_⟩))
  refine CallK.fn (c1) [(1000, 601)] [] [106] (by kernel_rfl) (by simp [go_sem, ↓IntWalk.iteOmega, IntWalk.iteOmega, IntWalk.toNatUp]) (by simp [go_sem, ↓IntWalk.iteOmega, IntWalk.iteOmega, IntWalk.toNatUp]) (by simp [go_sem, ↓IntWalk.iteOmega, IntWalk.iteOmega, IntWalk.toNatUp]) (Or.inl rfl) ?_
  simp [go_sem, ↓IntWalk.iteOmega, IntWalk.iteOmega, IntWalk.toNatUp]
  repeat (refine And.intro (by omega) ?_)
  try (refine ⟨DrawChk_of (by kernel_rfl), ?_⟩)
  repeat (first | (refine nf1_sound rfl ?_; simp [go_sem, ↓IntWalk.iteOmega, IntWalk.iteOmega, IntWalk.toNatUp]; (repeat (refine And.intro (by omega) ?_)); try (refine ⟨DrawChk_of (by kernel_rfl), ?_⟩)) | (refine itePos (by omega) ?_; try simp [go_sem, ↓IntWalk.iteOmega, IntWalk.iteOmega, IntWalk.toNatUp]) | (refine iteNeg (by omega) ?_; try simp [go_sem, ↓IntWalk.iteOmega, IntWalk.iteOmega, IntWalk.toNatUp]) | (refine ⟨DrawChk_of (by kernel_rfl), ?_⟩))
  refine CallK.fn (c2) [] [] [113, 114] (by kernel_rfl) (by simp [go_sem, ↓IntWalk.iteOmega, IntWalk.iteOmega, IntWalk.toNatUp]) (by simp [go_sem, ↓IntWalk.iteOmega, IntWalk.iteOmega, IntWalk.toNatUp]) (by simp [go_sem, ↓IntWalk.iteOmega, IntWalk.iteOmega, IntWalk.toNatUp]) (Or.inl rfl) ?_
  simp [go_sem, ↓IntWalk.iteOmega, IntWalk.iteOmega, IntWalk.toNatUp]
  repeat (refine And.intro (by omega) ?_)
  try (refine ⟨DrawChk_of (by kernel_rfl), ?_⟩)
  repeat (first | (refine nf1_sound rfl ?_; simp [go_sem, ↓IntWalk.iteOmega, IntWalk.iteOmega, IntWalk.toNatUp]; (repeat (refine And.intro (by omega) ?_)); try (refine ⟨DrawChk_of (by kernel_rfl), ?_⟩)) | (refine itePos (by omega) ?_; try simp [go_sem, ↓IntWalk.iteOmega, IntWalk.iteOmega, IntWalk.toNatUp]) | (refine iteNeg (by omega) ?_; try simp [go_sem, ↓IntWalk.iteOmega, IntWalk.iteOmega, IntWalk.toNatUp]) | (refine ⟨DrawChk_of (by kernel_rfl), ?_⟩))
  refine CallK.fn (c3) [] [] [601, 122] (by kernel_rfl) (by simp [go_sem, ↓IntWalk.iteOmega, IntWalk.iteOmega, IntWalk.toNatUp]) (by simp [go_sem, ↓IntWalk.iteOmega, IntWalk.iteOmega, IntWalk.toNatUp]) (by simp [go_sem, ↓IntWalk.iteOmega, IntWalk.iteOmega, IntWalk.toNatUp]) (Or.inl rfl) ?_
  simp [go_sem, ↓IntWalk.iteOmega, IntWalk.iteOmega, IntWalk.toNatUp]
  repeat (refine And.intro (by omega) ?_)
  try (refine ⟨DrawChk_of (by kernel_rfl), ?_⟩)
  refine CallK.fn (c4) [] [] [136] (by kernel_rfl) (by simp [go_sem, ↓IntWalk.iteOmega, IntWalk.iteOmega, IntWalk.toNatUp]) (by simp [go_sem, ↓IntWalk.iteOmega, IntWalk.iteOmega, IntWalk.toNatUp]) (by simp [go_sem, ↓IntWalk.iteOmega, IntWalk.iteOmega, IntWalk.toNatUp]) (Or.inl rfl) ?_
  simp [go_sem, ↓IntWalk.iteOmega, IntWalk.iteOmega, IntWalk.toNatUp]
  repeat (refine And.intro (by omega) ?_)
  try (refine ⟨DrawChk_of (by kernel_rfl), ?_⟩)
  repeat (first | (refine nf1_sound rfl ?_; simp [go_sem, ↓IntWalk.iteOmega, IntWalk.iteOmega, IntWalk.toNatUp]; (repeat (refine And.intro (by omega) ?_)); try (refine ⟨DrawChk_of (by kernel_rfl), ?_⟩)) | (refine itePos (by omega) ?_; try simp [go_sem, ↓IntWalk.iteOmega, IntWalk.iteOmega, IntWalk.toNatUp]) | (refine iteNeg (by omega) ?_; try simp [go_sem, ↓IntWalk.iteOmega, IntWalk.iteOmega, IntWalk.toNatUp]) | (refine ⟨DrawChk_of (by kernel_rfl), ?_⟩))
  first | rw [RetQ_ret] | rw [RetQ_normal]
  refine ⟨[], ?_⟩
  simp [go_sem, ↓IntWalk.iteOmega, IntWalk.iteOmega, IntWalk.toNatUp]
def rStep (l : List Int) (s : Nat × List Int) : Nat × List Int := (nextK l (nextK l s.1), s.2 ++ [pickV l (nextK l s.1) [0, 1, 2, 7, nV l s.1 40]])
structure RtOk (l : List Int) (j : Nat) (s : Nat × List Int) : Prop where
  src : SrcOk l s.1
  len : s.2.length = j
  each : ∀ x ∈ s.2, 0 ≤ x ∧ x ≤ 39
theorem rt_num {l : List Int} {k : Nat} : (0 ≤ nV l k 40 ∧ nV l k 40 < 40) ∧ 0 ≤ pickV l (nextK l k) [0, 1, 2, 7, nV l k 40] ∧ pickV l (nextK l k) [0, 1, 2, 7, nV l k 40] ≤ 39 := by
  have h1 := nV_range (l := l) (k := k) (n := 40) (by omega)
  have h2 : pickV l (nextK l k) [0, 1, 2, 7, nV l k 40] ∈ [0, 1, 2, 7, nV l k 40] := pickV_mem (by simp)
  simp only [List.mem_cons, List.not_mem_nil, or_false] at h2
  exact ⟨h1, by omega, by omega⟩
theorem rt_step {l : List Int} (j : Nat) (s : Nat × List Int) (h : RtOk l j s) : RtOk l (j + 1) (rStep l s) := by
  refine ⟨h.src.next.next, by simp [rStep, h.len], ?_⟩
  intro x hx
  rcases List.mem_append.1 hx with hx | hx
  · exact h.each x hx
  · simp only [List.mem_singleton] at hx
    have := rt_num (l := l) (k := s.1)
    omega
/-- Some rates, not all of them 0. -/
structure Drawn (r : List Int) : Prop where
  rates : Rates r
  len : 1 ≤ r.length ∧ r.length ≤ 5
  each : ∀ x ∈ r, 0 ≤ x ∧ x ≤ 39
  tt : Dl.tot r ≤ 195
theorem Drawn.mk' {r : List Int} (h1 : 1 ≤ r.length ∧ r.length ≤ 5) (h2 : ∀ x ∈ r, 0 ≤ x ∧ x ≤ 39) (h3 : Dl.tot r ≠ 0) : Drawn r := by
  have h4 := tot_nn (l := r) (fun x hx => (h2 x hx).1)
  have h5 := tot_le (M := 39) (l := r) (fun x hx => (h2 x hx).2)
  exact ⟨⟨by omega, fun x hx => by have := h2 x hx; omega, by omega⟩, h1, h2, by omega⟩
set_option maxRecDepth 100000 in
set_option maxHeartbeats 8000000 in
theorem rates_ex {l : List Int} {k : Nat} (h : SrcOk l k) : ∃ k' r, SrcOk l k' ∧ Drawn r ∧ FnOk Try.prog 11 [.pt 0 [] 0] [(0, srcB l k)] (.tup [.own 1000, .t (.int (tot r))]) [(0, srcB l k'), (1000, blkI r)] := by
  have hr := rangeV_range (l := l) (k := k) (lo := 1) (hi := 5) (by omega)
  have cr := range_fn l k 1 5 h (by omega) (by omega) (by omega)
  obtain ⟨n, hn⟩ : ∃ n : Nat, rangeV l k 1 5 = (n : Int) := ⟨(rangeV l k 1 5).toNat, by omega⟩
  rw [hn] at hr cr
  have ok : ∀ j, RtOk l j (iter (rStep l) j (nextK l k, [])) := iter_inv ⟨h.next, rfl, by simp⟩ rt_step
  have hf := ok n
  have hst0 := iter_succ (rStep l)
  obtain ⟨G, hG⟩ : ∃ G : Nat → Nat × List Int, (fun j => iter (rStep l) j (nextK l k, [])) = G := ⟨_, rfl⟩
  have hst : ∀ j, G (j + 1) = rStep l (G j) := fun j => by rw [← hG]; exact iter_succ _ _ _
  have hG0 : G 0 = (nextK l k, []) := by rw [← hG]; rfl
  have ok' : ∀ j, RtOk l j (G j) := fun j => by rw [← hG]; exact ok j
  clear ok hf hst0 hG
  have hf := ok' n
  have key : FnOk Try.prog 11 [.pt 0 [] 0] [(0, srcB l k)] (.tup [.own 1000, .t (.int (tot (if tot (G n).2 = 0 then (G n).2.set 0 1 else (G n).2)))]) [(0, srcB l (G n).1), (1000, blkI (if tot (G n).2 = 0 then (G n).2.set 0 1 else (G n).2))] := by
    refine FnOk.intro fact_mixed Try.func11 rfl Try.ntmps11 (by rfl) (by simp) ?_
    repeat (first | (refine nf1_sound rfl ?_; simp [go_sem, ↓IntWalk.iteOmega, IntWalk.iteOmega, IntWalk.toNatUp]; (repeat (refine And.intro (by omega) ?_)); try (refine ⟨DrawChk_of (by kernel_rfl), ?_⟩)) | (refine itePos (by omega) ?_; try simp [go_sem, ↓IntWalk.iteOmega, IntWalk.iteOmega, IntWalk.toNatUp]) | (refine iteNeg (by omega) ?_; try simp [go_sem, ↓IntWalk.iteOmega, IntWalk.iteOmega, IntWalk.toNatUp]) | (refine ⟨DrawChk_of (by kernel_rfl), ?_⟩))
    refine CallK.fn (cr) [(0, 0)] [] [] (by kernel_rfl) (by simp [go_sem, ↓IntWalk.iteOmega, IntWalk.iteOmega, IntWalk.toNatUp]) (by simp [go_sem, ↓IntWalk.iteOmega, IntWalk.iteOmega, IntWalk.toNatUp]) (by simp [go_sem, ↓IntWalk.iteOmega, IntWalk.iteOmega, IntWalk.toNatUp]) (Or.inl rfl) ?_
    simp [go_sem, ↓IntWalk.iteOmega, IntWalk.iteOmega, IntWalk.toNatUp]
    repeat (refine And.intro (by omega) ?_)
    try (refine ⟨DrawChk_of (by kernel_rfl), ?_⟩)
    repeat (first | (refine nf1_sound rfl ?_; simp [go_sem, ↓IntWalk.iteOmega, IntWalk.iteOmega, IntWalk.toNatUp]; (repeat (refine And.intro (by omega) ?_)); try (refine ⟨DrawChk_of (by kernel_rfl), ?_⟩)) | (refine itePos (by omega) ?_; try simp [go_sem, ↓IntWalk.iteOmega, IntWalk.iteOmega, IntWalk.toNatUp]) | (refine iteNeg (by omega) ?_; try simp [go_sem, ↓IntWalk.iteOmega, IntWalk.iteOmega, IntWalk.toNatUp]) | (refine ⟨DrawChk_of (by kernel_rfl), ?_⟩))
    refine nf1_sound' _ _ _ ?_; simp only [nf1]
    refine CW.loop (ι := Nat) (fun j => ⟨[(0, .pt 0 [] 0), (4, .own 504), (5, .t (.int (tot (G j).2))), (6, .t (.int ((n : Int) - j)))], [(0, srcB l (G j).1), (504, blkI (G j).2)]⟩) (fun j => j ≤ n) (fun j => n - j) 0 [(0, some 0), (504, none)] (by omega) ?_ ?_
    · simp [go_sem, ↓IntWalk.iteOmega, IntWalk.iteOmega, IntWalk.toNatUp, hG0, tot]
    intro j hj
    have oj := ok' j
    have hs := hst j
    have hsrc := oj.src
    have hlen := oj.len
    have hea := oj.each
    have hsum := tot_le (M := 39) (l := (G j).2) (fun x hx => (hea x hx).2)
    have hnn := tot_nn (l := (G j).2) (fun x hx => (hea x hx).1)
    by_cases hb : j < n
    · have hnum := rt_num (l := l) (k := (G j).1)
      have ca := n_fn l (G j).1 40 hsrc (by omega)
      have cb := pick_fn hsrc.next [0, 1, 2, 7, nV l (G j).1 40] (by simp) (by simp)
      have hs2 : (G (j + 1)).1 = nextK l (nextK l (G j).1) ∧ (G (j + 1)).2 = (G j).2 ++ [pickV l (nextK l (G j).1) [0, 1, 2, 7, nV l (G j).1 40]] := by rw [hs]; exact ⟨rfl, rfl⟩
      obtain ⟨a, ha⟩ : ∃ a, nV l (G j).1 40 = a := ⟨_, rfl⟩
      rw [ha] at hnum ca cb hs2
      obtain ⟨b, hbb⟩ : ∃ b, pickV l (nextK l (G j).1) [0, 1, 2, 7, a] = b := ⟨_, rfl⟩
      rw [hbb] at hnum cb hs2
      have ht2 : tot (G (j + 1)).2 = tot (G j).2 + b := by rw [hs2.2, tot_app]; simp [tot]
      obtain ⟨k1, hk1⟩ : ∃ k1, (G j).1 = k1 := ⟨_, rfl⟩
      obtain ⟨r1, hr1⟩ : ∃ r1, (G j).2 = r1 := ⟨_, rfl⟩
      rw [hk1] at hsrc ca cb hs2
      rw [hr1] at hlen hsum hnn hs2 ht2
      rw [hk1, hr1]
      obtain ⟨v, hv⟩ : ∃ v, tot r1 = v := ⟨_, rfl⟩
      rw [hv] at hsum hnn ht2 ⊢
      repeat (first | (refine nf1_sound rfl ?_; simp [go_sem, ↓IntWalk.iteOmega, IntWalk.iteOmega, IntWalk.toNatUp]; (repeat (refine And.intro (by omega) ?_)); try (refine ⟨DrawChk_of (by kernel_rfl), ?_⟩)) | (refine itePos (by omega) ?_; try simp [go_sem, ↓IntWalk.iteOmega, IntWalk.iteOmega, IntWalk.toNatUp]) | (refine iteNeg (by omega) ?_; try simp [go_sem, ↓IntWalk.iteOmega, IntWalk.iteOmega, IntWalk.toNatUp]) | (refine ⟨DrawChk_of (by kernel_rfl), ?_⟩))
      refine CallK.fn (ca) [(0, 0)] [] [] (by kernel_rfl) (by simp [go_sem, ↓IntWalk.iteOmega, IntWalk.iteOmega, IntWalk.toNatUp]) (by simp [go_sem, ↓IntWalk.iteOmega, IntWalk.iteOmega, IntWalk.toNatUp]) (by simp [go_sem, ↓IntWalk.iteOmega, IntWalk.iteOmega, IntWalk.toNatUp]) (Or.inl rfl) ?_
      simp [go_sem, ↓IntWalk.iteOmega, IntWalk.iteOmega, IntWalk.toNatUp]
      repeat (refine And.intro (by omega) ?_)
      try (refine ⟨DrawChk_of (by kernel_rfl), ?_⟩)
      refine CallK.fn (cb) [(0, 0)] [] [117] (by kernel_rfl) (by simp [go_sem, ↓IntWalk.iteOmega, IntWalk.iteOmega, IntWalk.toNatUp]) (by simp [go_sem, ↓IntWalk.iteOmega, IntWalk.iteOmega, IntWalk.toNatUp]) (by simp [go_sem, ↓IntWalk.iteOmega, IntWalk.iteOmega, IntWalk.toNatUp]) (Or.inl rfl) ?_
      simp [go_sem, ↓IntWalk.iteOmega, IntWalk.iteOmega, IntWalk.toNatUp]
      repeat (refine And.intro (by omega) ?_)
      try (refine ⟨DrawChk_of (by kernel_rfl), ?_⟩)
      repeat (first | (refine nf1_sound rfl ?_; simp [go_sem, ↓IntWalk.iteOmega, IntWalk.iteOmega, IntWalk.toNatUp]; (repeat (refine And.intro (by omega) ?_)); try (refine ⟨DrawChk_of (by kernel_rfl), ?_⟩)) | (refine itePos (by omega) ?_; try simp [go_sem, ↓IntWalk.iteOmega, IntWalk.iteOmega, IntWalk.toNatUp]) | (refine iteNeg (by omega) ?_; try simp [go_sem, ↓IntWalk.iteOmega, IntWalk.iteOmega, IntWalk.toNatUp]) | (refine ⟨DrawChk_of (by kernel_rfl), ?_⟩))
      rw [RoundQ_normal]; refine ⟨j + 1, [(0, some 0), (504, some 120)], ?_, ?_, ?_⟩
      · omega
      · omega
      rw [hs2.2] at ht2
      simp [go_sem, ↓IntWalk.iteOmega, IntWalk.iteOmega, IntWalk.toNatUp, hs2.1, hs2.2, ht2]
      omega
    · obtain rfl : j = n := by omega
      obtain ⟨x, xs, hx⟩ : ∃ x xs, (G j).2 = x :: xs := by
        cases hq : (G j).2 with
        | nil => rw [hq] at hlen; simp at hlen; omega
        | cons x xs => exact ⟨x, xs, rfl⟩
      by_cases h0 : tot (G j).2 = 0
      · rw [if_pos h0]
        have ht1 : tot ((G j).2.set 0 1) = 1 := by
          rw [tot_set (x := x) (by rw [hx]; rfl), h0]
          have := hea x (by rw [hx]; simp)
          have := tot_mem (l := (G j).2) (x := x) (fun y hy => (hea y hy).1) (by rw [hx]; simp)
          omega
        rw [ht1]
        rw [hx] at h0 hlen hsum ⊢
        have e1 : tot (x :: xs) = 0 := h0
        rw [e1]
        repeat (first | (refine nf1_sound rfl ?_; simp [go_sem, ↓IntWalk.iteOmega, IntWalk.iteOmega, IntWalk.toNatUp]; (repeat (refine And.intro (by omega) ?_)); try (refine ⟨DrawChk_of (by kernel_rfl), ?_⟩)) | (refine itePos (by omega) ?_; try simp [go_sem, ↓IntWalk.iteOmega, IntWalk.iteOmega, IntWalk.toNatUp]) | (refine iteNeg (by omega) ?_; try simp [go_sem, ↓IntWalk.iteOmega, IntWalk.iteOmega, IntWalk.toNatUp]) | (refine ⟨DrawChk_of (by kernel_rfl), ?_⟩))
        first | rw [RetQ_ret] | rw [RetQ_normal]
        refine ⟨[(0, some 0), (1000, some 504)], ?_⟩
        simp [go_sem, ↓IntWalk.iteOmega, IntWalk.iteOmega, IntWalk.toNatUp]
      · rw [if_neg h0]
        obtain ⟨r1, hr1⟩ : ∃ r1, (G j).2 = r1 := ⟨_, rfl⟩
        rw [hr1] at h0 ⊢
        obtain ⟨v, hv⟩ : ∃ v, tot r1 = v := ⟨_, rfl⟩
        rw [hv] at h0 ⊢
        repeat (first | (refine nf1_sound rfl ?_; simp [go_sem, ↓IntWalk.iteOmega, IntWalk.iteOmega, IntWalk.toNatUp, h0]; (repeat (refine And.intro (by omega) ?_)); try (refine ⟨DrawChk_of (by kernel_rfl), ?_⟩)) | (refine itePos (by omega) ?_; try simp [go_sem, ↓IntWalk.iteOmega, IntWalk.iteOmega, IntWalk.toNatUp, h0]) | (refine iteNeg (by omega) ?_; try simp [go_sem, ↓IntWalk.iteOmega, IntWalk.iteOmega, IntWalk.toNatUp, h0]) | (refine ⟨DrawChk_of (by kernel_rfl), ?_⟩))
        first | rw [RetQ_ret] | rw [RetQ_normal]
        refine ⟨[(0, some 0), (1000, some 504)], ?_⟩
        simp [go_sem, ↓IntWalk.iteOmega, IntWalk.iteOmega, IntWalk.toNatUp, hv]
  refine ⟨_, _, hf.src, ?_, key⟩
  have hlen := hf.len
  split
  · rename_i h0
    refine Drawn.mk' (by rw [List.length_set]; omega) ?_ ?_
    · intro y hy
      rcases List.mem_or_eq_of_mem_set hy with hy | rfl
      · exact hf.each y hy
      · omega
    · obtain ⟨x, hx⟩ := has_get (show 0 < (G n).2.length by omega)
      rw [tot_set hx, h0]
      have := hf.each x (mem_get hx)
      have := tot_mem (fun y hy => (hf.each y hy).1) (mem_get hx)
      omega
  · rename_i h0
    exact Drawn.mk' (by omega) hf.each h0
end Go.Proofs.Ytpfolkjimdmdhaa
