/- Counts of the program and of the reference, and what they call, as contracts. No condition. -/
import Derived.Test.YtpfolkjimdmdhaaDlN
import Derived.Test.YtpfolkjimdmdhaaSyW
namespace Go.Proofs.Ytpfolkjimdmdhaa
open Go.RowKit Sy
set_option linter.unusedVariables false
set_option linter.unusedSimpArgs false
namespace Dl
def tot : List Int → Int
  | [] => 0
  | x :: r => x + tot r
theorem tot_app : ∀ a b : List Int, tot (a ++ b) = tot a + tot b
  | [], b => by simp [tot]
  | x :: r, b => by simp [tot, tot_app r b]; omega
theorem tot_snoc {l : List Int} {k : Nat} {x : Int} (h : l[k]? = some x) : tot (l.take (k + 1)) = tot (l.take k) + x := by
  rw [take_snoc h, tot_app]; simp [tot]
theorem tot_nn : ∀ {l : List Int}, (∀ x ∈ l, 0 ≤ x) → 0 ≤ tot l
  | [], _ => by simp [tot]
  | x :: r, h => by
    have := tot_nn (l := r) (fun y hy => h y (by simp [hy]))
    have := h x (by simp)
    simp only [tot]; omega
theorem tot_le {M : Int} : ∀ {l : List Int}, (∀ x ∈ l, x ≤ M) → tot l ≤ M * l.length
  | [], _ => by simp [tot]
  | x :: r, h => by
    have h1 := tot_le (l := r) (fun y hy => h y (by simp [hy]))
    have h2 := h x (by simp)
    simp only [tot, List.length_cons]
    rw [show ((r.length + 1 : Nat) : Int) = r.length + 1 by omega, Int.mul_add, Int.mul_one]
    omega
theorem tot_set : ∀ {l : List Int} {i : Nat} {x : Int}, l[i]? = some x → ∀ y, tot (l.set i y) = tot l - x + y
  | [], i, x, h, y => by simp at h
  | a :: r, 0, x, h, y => by simp at h; subst h; simp [tot]; omega
  | a :: r, i + 1, x, h, y => by
    have := tot_set (l := r) (i := i) (x := x) (by simpa using h) y
    simp [tot, this]; omega
theorem tot_mem {l : List Int} {x : Int} (hn : ∀ y ∈ l, 0 ≤ y) (h : x ∈ l) : x ≤ tot l := by
  induction l with
  | nil => cases h
  | cons a r ih =>
    have h1 := tot_nn (l := r) (fun y hy => hn y (by simp [hy]))
    have h2 := hn a (by simp)
    simp only [tot]
    rcases List.mem_cons.1 h with rfl | h
    · omega
    · have := ih (fun y hy => hn y (by simp [hy])) h; omega
/-- The first error of rates and a number of litres. -/
def chk (r : List Int) (k : Int) : Int :=
  if 64 < r.length then 4 else if ¬ ∀ x ∈ r, 0 ≤ x ∧ x ≤ 1000 then 1 else if tot r = 0 then 9 else if k < 0 ∨ tot r < k then 1 else 0
/-- The counts behind k litres. -/
def bump (C : List Int) (i : Int) : List Int := C.set i.toNat (rt C i.toNat + 1)
def cs (r : List Int) : Nat → List Int
  | 0 => List.replicate r.length 0
  | k + 1 => bump (cs r k) (nx r (cs r k) r.length)
theorem cs_len (r : List Int) : ∀ k, (cs r k).length = r.length
  | 0 => by simp [cs]
  | k + 1 => by simp [cs, bump, cs_len r k]
theorem cs_bd (r : List Int) : ∀ k, ∀ x ∈ cs r k, 0 ≤ x ∧ x ≤ k
  | 0, x, h => by simp [cs] at h; omega
  | k + 1, x, h => by
    have ih := cs_bd r k
    unfold cs bump at h
    rcases List.mem_or_eq_of_mem_set h with h | h
    · have := ih x h; omega
    · subst h
      unfold rt
      rw [List.getD_eq_getElem?_getD]
      cases hz : (cs r k)[(nx r (cs r k) r.length).toNat]? with
      | none => simp; omega
      | some z => have := ih z (List.mem_of_getElem? hz); simp; omega
/-- Rates that can be dealt. -/
structure Rates (r : List Int) : Prop where
  len : r.length ≤ 64
  each : ∀ x ∈ r, 0 ≤ x ∧ x ≤ 1000
  pos : 0 < tot r
theorem Rates.nn {r : List Int} (h : Rates r) : ∀ x ∈ r, 0 ≤ x := fun x hx => (h.each x hx).1
theorem Rates.tot_le {r : List Int} (h : Rates r) : tot r ≤ 64000 := by
  have h1 := Dl.tot_le (M := 1000) (l := r) (fun x hx => (h.each x hx).2)
  have := h.len
  omega
theorem pos_mem : ∀ {l : List Int}, (∀ x ∈ l, 0 ≤ x) → 0 < tot l → ∃ (i : Nat) (x : Int), l[i]? = some x ∧ 0 < x
  | [], _, h => by simp [tot] at h
  | a :: r, hn, h => by
    by_cases ha : 0 < a
    · exact ⟨0, a, rfl, ha⟩
    · have h2 := hn a (by simp)
      obtain ⟨i, x, h3, h4⟩ := pos_mem (l := r) (fun y hy => hn y (by simp [hy])) (by simp only [tot] at h; omega)
      exact ⟨i + 1, x, by simpa using h3, h4⟩
theorem nx_pos {R C : List Int} {i : Nat} (hi : 0 < rt R i) : ∀ {k : Nat}, i < k → 0 ≤ nx R C k
  | 0, h => by omega
  | k + 1, h => by
    unfold nx
    split
    · omega
    · rename_i hn
      by_cases e : i = k
      · subst e
        have := nx_range R C i
        by_cases h0 : nx R C i < 0
        · exact (hn ⟨hi, .inl h0⟩).elim
        · omega
      · exact nx_pos hi (by omega)
theorem Rates.nx {r : List Int} (h : Rates r) (C : List Int) : ∃ j : Nat, Dl.nx r C r.length = (j : Int) ∧ j < r.length := by
  obtain ⟨i, x, h1, h2⟩ := pos_mem h.nn h.pos
  have h3 := nx_range r C r.length
  have h4 := nx_pos (R := r) (C := C) (i := i) (by rw [rt_get h1]; exact h2) (k := r.length) (List.getElem?_eq_some_iff.1 h1).1
  exact ⟨(Dl.nx r C r.length).toNat, by omega, by omega⟩
theorem chk_ok {r : List Int} {k : Int} (h : chk r k = 0) : Rates r ∧ 0 ≤ k ∧ k ≤ tot r := by
  unfold chk at h
  by_cases h1 : 64 < r.length
  · rw [if_pos h1] at h; omega
  rw [if_neg h1] at h
  by_cases h2 : ∀ x ∈ r, 0 ≤ x ∧ x ≤ 1000
  · rw [if_neg (fun hn => hn h2)] at h
    by_cases h3 : tot r = 0
    · rw [if_pos h3] at h; omega
    rw [if_neg h3] at h
    by_cases h4 : k < 0 ∨ tot r < k
    · rw [if_pos h4] at h; omega
    have := tot_nn (l := r) (fun x hx => (h2 x hx).1)
    exact ⟨⟨by omega, h2, by omega⟩, by omega, by omega⟩
  · rw [if_pos h2] at h; omega
theorem chk_of {r : List Int} {k : Int} (h : Rates r) (h1 : 0 ≤ k) (h2 : k ≤ tot r) : chk r k = 0 := by
  have := h.pos
  have := h.len
  unfold chk
  rw [if_neg (by omega), if_neg (fun hn => hn h.each), if_neg (by omega), if_neg (by omega)]
end Dl
open Dl
set_option maxRecDepth 100000 in
set_option maxHeartbeats 8000000 in
theorem check_fn (r : List Int) (k : Int) (hl : r.length ≤ 9223372036854775807) (e : Int) (he : chk r k = e) : FnOk Try.prog 29 [.t (encIs r), .t (.int k)] [] (.t (.int e)) [] := by
  unfold chk at he
  by_cases h1 : 64 < r.length
  · rw [if_pos h1] at he
    subst he
    refine FnOk.intro fact_mixed Try.func29 rfl Try.ntmps29 (by rfl) (by simp) ?_
    repeat (first | (refine nf1_sound rfl ?_; simp [go_sem, ↓IntWalk.iteOmega, IntWalk.iteOmega, IntWalk.toNatUp]; (repeat (refine And.intro (by omega) ?_)); try (refine ⟨DrawChk_of (by kernel_rfl), ?_⟩)) | (refine itePos (by omega) ?_; try simp [go_sem, ↓IntWalk.iteOmega, IntWalk.iteOmega, IntWalk.toNatUp]) | (refine iteNeg (by omega) ?_; try simp [go_sem, ↓IntWalk.iteOmega, IntWalk.iteOmega, IntWalk.toNatUp]) | (refine ⟨DrawChk_of (by kernel_rfl), ?_⟩))
    first | rw [RetQ_ret] | rw [RetQ_normal]
    refine ⟨[], ?_⟩
    simp [go_sem, ↓IntWalk.iteOmega, IntWalk.iteOmega, IntWalk.toNatUp]
  rw [if_neg h1] at he
  refine FnOk.intro fact_mixed Try.func29 rfl Try.ntmps29 (by rfl) (by simp) ?_
  repeat (first | (refine nf1_sound rfl ?_; simp [go_sem, ↓IntWalk.iteOmega, IntWalk.iteOmega, IntWalk.toNatUp]; (repeat (refine And.intro (by omega) ?_)); try (refine ⟨DrawChk_of (by kernel_rfl), ?_⟩)) | (refine itePos (by omega) ?_; try simp [go_sem, ↓IntWalk.iteOmega, IntWalk.iteOmega, IntWalk.toNatUp]) | (refine iteNeg (by omega) ?_; try simp [go_sem, ↓IntWalk.iteOmega, IntWalk.iteOmega, IntWalk.toNatUp]) | (refine ⟨DrawChk_of (by kernel_rfl), ?_⟩))
  refine nf1_sound' _ _ _ ?_; simp only [nf1]
  refine CW.loop (ι := Nat) (fun i => ⟨[(1, .t (.int k)), (5, .t (.int (tot (r.take i)))), (11, .t (encIs r)), (12, .t (.int r.length)), (13, .t (.int i))], []⟩) (fun i => i ≤ r.length ∧ ∀ x ∈ r.take i, 0 ≤ x ∧ x ≤ 1000) (fun i => r.length - i) 0 [] ⟨by omega, by simp⟩ ?_ ?_
  · simp [go_sem, ↓IntWalk.iteOmega, IntWalk.iteOmega, IntWalk.toNatUp, tot]
  rintro i ⟨hi, hall⟩
  by_cases hb : i < r.length
  · obtain ⟨x, hx⟩ := has_get hb
    have hm := mem_get hx
    by_cases h2 : 0 ≤ x
    · by_cases h3 : x ≤ 1000
      · have ha2 : ∀ y ∈ r.take (i + 1), 0 ≤ y ∧ y ≤ 1000 := by
          rw [take_snoc hx]
          intro y hy
          rcases List.mem_append.1 hy with hy | hy
          · exact hall y hy
          · simp only [List.mem_singleton] at hy; subst hy; exact ⟨h2, h3⟩
        have hs := tot_snoc hx
        have b1 := tot_nn (l := r.take i) (fun y hy => (hall y hy).1)
        have b2 := tot_le (M := 1000) (l := r.take i) (fun y hy => (hall y hy).2)
        rw [List.length_take] at b2
        obtain ⟨T, hT⟩ : ∃ T, tot (r.take i) = T := ⟨_, rfl⟩
        rw [hT] at hs b1 b2 ⊢
        repeat (first | (refine nf1_sound rfl ?_; simp [go_sem, ↓IntWalk.iteOmega, IntWalk.iteOmega, IntWalk.toNatUp, hx]; (repeat (refine And.intro (by omega) ?_)); try (refine ⟨DrawChk_of (by kernel_rfl), ?_⟩)) | (refine itePos (by omega) ?_; try simp [go_sem, ↓IntWalk.iteOmega, IntWalk.iteOmega, IntWalk.toNatUp, hx]) | (refine iteNeg (by omega) ?_; try simp [go_sem, ↓IntWalk.iteOmega, IntWalk.iteOmega, IntWalk.toNatUp, hx]) | (refine ⟨DrawChk_of (by kernel_rfl), ?_⟩))
        rw [RoundQ_normal]; refine ⟨i + 1, [], ?_, ?_, ?_⟩
        · exact ⟨by omega, ha2⟩
        · omega
        simp [go_sem, ↓IntWalk.iteOmega, IntWalk.iteOmega, IntWalk.toNatUp, hs]
      · rw [if_pos (fun h => h3 (h x hm).2)] at he
        subst he
        repeat (first | (refine nf1_sound rfl ?_; simp [go_sem, ↓IntWalk.iteOmega, IntWalk.iteOmega, IntWalk.toNatUp, hx]; (repeat (refine And.intro (by omega) ?_)); try (refine ⟨DrawChk_of (by kernel_rfl), ?_⟩)) | (refine itePos (by omega) ?_; try simp [go_sem, ↓IntWalk.iteOmega, IntWalk.iteOmega, IntWalk.toNatUp, hx]) | (refine iteNeg (by omega) ?_; try simp [go_sem, ↓IntWalk.iteOmega, IntWalk.iteOmega, IntWalk.toNatUp, hx]) | (refine ⟨DrawChk_of (by kernel_rfl), ?_⟩))
        first | rw [RetQ_ret] | rw [RetQ_normal]
        refine ⟨[], ?_⟩
        simp [go_sem, ↓IntWalk.iteOmega, IntWalk.iteOmega, IntWalk.toNatUp]
    · rw [if_pos (fun h => h2 (h x hm).1)] at he
      subst he
      repeat (first | (refine nf1_sound rfl ?_; simp [go_sem, ↓IntWalk.iteOmega, IntWalk.iteOmega, IntWalk.toNatUp, hx]; (repeat (refine And.intro (by omega) ?_)); try (refine ⟨DrawChk_of (by kernel_rfl), ?_⟩)) | (refine itePos (by omega) ?_; try simp [go_sem, ↓IntWalk.iteOmega, IntWalk.iteOmega, IntWalk.toNatUp, hx]) | (refine iteNeg (by omega) ?_; try simp [go_sem, ↓IntWalk.iteOmega, IntWalk.iteOmega, IntWalk.toNatUp, hx]) | (refine ⟨DrawChk_of (by kernel_rfl), ?_⟩))
      first | rw [RetQ_ret] | rw [RetQ_normal]
      refine ⟨[], ?_⟩
      simp [go_sem, ↓IntWalk.iteOmega, IntWalk.iteOmega, IntWalk.toNatUp]
  · obtain rfl : i = r.length := by omega
    rw [List.take_length] at hall ⊢
    rw [if_neg (fun hn => hn hall)] at he
    have b1 := tot_nn (l := r) (fun y hy => (hall y hy).1)
    obtain ⟨T, hT⟩ : ∃ T, tot r = T := ⟨_, rfl⟩
    rw [hT] at he b1 ⊢
    by_cases h4 : T = 0
    · rw [if_pos h4] at he
      subst he
      repeat (first | (refine nf1_sound rfl ?_; simp [go_sem, ↓IntWalk.iteOmega, IntWalk.iteOmega, IntWalk.toNatUp, h4]; (repeat (refine And.intro (by omega) ?_)); try (refine ⟨DrawChk_of (by kernel_rfl), ?_⟩)) | (refine itePos (by omega) ?_; try simp [go_sem, ↓IntWalk.iteOmega, IntWalk.iteOmega, IntWalk.toNatUp, h4]) | (refine iteNeg (by omega) ?_; try simp [go_sem, ↓IntWalk.iteOmega, IntWalk.iteOmega, IntWalk.toNatUp, h4]) | (refine ⟨DrawChk_of (by kernel_rfl), ?_⟩))
      first | rw [RetQ_ret] | rw [RetQ_normal]
      refine ⟨[], ?_⟩
      simp [go_sem, ↓IntWalk.iteOmega, IntWalk.iteOmega, IntWalk.toNatUp]
    · rw [if_neg h4] at he
      by_cases h5 : k < 0
      · rw [if_pos (.inl h5)] at he
        subst he
        repeat (first | (refine nf1_sound rfl ?_; simp [go_sem, ↓IntWalk.iteOmega, IntWalk.iteOmega, IntWalk.toNatUp, h4]; (repeat (refine And.intro (by omega) ?_)); try (refine ⟨DrawChk_of (by kernel_rfl), ?_⟩)) | (refine itePos (by omega) ?_; try simp [go_sem, ↓IntWalk.iteOmega, IntWalk.iteOmega, IntWalk.toNatUp, h4]) | (refine iteNeg (by omega) ?_; try simp [go_sem, ↓IntWalk.iteOmega, IntWalk.iteOmega, IntWalk.toNatUp, h4]) | (refine ⟨DrawChk_of (by kernel_rfl), ?_⟩))
        first | rw [RetQ_ret] | rw [RetQ_normal]
        refine ⟨[], ?_⟩
        simp [go_sem, ↓IntWalk.iteOmega, IntWalk.iteOmega, IntWalk.toNatUp]
      · by_cases h6 : T < k
        · rw [if_pos (.inr h6)] at he
          subst he
          repeat (first | (refine nf1_sound rfl ?_; simp [go_sem, ↓IntWalk.iteOmega, IntWalk.iteOmega, IntWalk.toNatUp, h4]; (repeat (refine And.intro (by omega) ?_)); try (refine ⟨DrawChk_of (by kernel_rfl), ?_⟩)) | (refine itePos (by omega) ?_; try simp [go_sem, ↓IntWalk.iteOmega, IntWalk.iteOmega, IntWalk.toNatUp, h4]) | (refine iteNeg (by omega) ?_; try simp [go_sem, ↓IntWalk.iteOmega, IntWalk.iteOmega, IntWalk.toNatUp, h4]) | (refine ⟨DrawChk_of (by kernel_rfl), ?_⟩))
          first | rw [RetQ_ret] | rw [RetQ_normal]
          refine ⟨[], ?_⟩
          simp [go_sem, ↓IntWalk.iteOmega, IntWalk.iteOmega, IntWalk.toNatUp]
        · rw [if_neg (by omega)] at he
          subst he
          repeat (first | (refine nf1_sound rfl ?_; simp [go_sem, ↓IntWalk.iteOmega, IntWalk.iteOmega, IntWalk.toNatUp, h4]; (repeat (refine And.intro (by omega) ?_)); try (refine ⟨DrawChk_of (by kernel_rfl), ?_⟩)) | (refine itePos (by omega) ?_; try simp [go_sem, ↓IntWalk.iteOmega, IntWalk.iteOmega, IntWalk.toNatUp, h4]) | (refine iteNeg (by omega) ?_; try simp [go_sem, ↓IntWalk.iteOmega, IntWalk.iteOmega, IntWalk.toNatUp, h4]) | (refine ⟨DrawChk_of (by kernel_rfl), ?_⟩))
          first | rw [RetQ_ret] | rw [RetQ_normal]
          refine ⟨[], ?_⟩
          simp [go_sem, ↓IntWalk.iteOmega, IntWalk.iteOmega, IntWalk.toNatUp]
set_option maxRecDepth 100000 in
set_option maxHeartbeats 8000000 in
theorem rcheck_fn (r : List Int) (k : Int) (hl : r.length ≤ 9223372036854775807) (e : Int) (he : chk r k = e) : FnOk Try.prog 33 [.t (encIs r), .t (.int k)] [] (.t (.int e)) [] := by
  unfold chk at he
  by_cases h1 : 64 < r.length
  · rw [if_pos h1] at he
    subst he
    refine FnOk.intro fact_mixed Try.func33 rfl Try.ntmps33 (by rfl) (by simp) ?_
    repeat (first | (refine nf1_sound rfl ?_; simp [go_sem, ↓IntWalk.iteOmega, IntWalk.iteOmega, IntWalk.toNatUp]; (repeat (refine And.intro (by omega) ?_)); try (refine ⟨DrawChk_of (by kernel_rfl), ?_⟩)) | (refine itePos (by omega) ?_; try simp [go_sem, ↓IntWalk.iteOmega, IntWalk.iteOmega, IntWalk.toNatUp]) | (refine iteNeg (by omega) ?_; try simp [go_sem, ↓IntWalk.iteOmega, IntWalk.iteOmega, IntWalk.toNatUp]) | (refine ⟨DrawChk_of (by kernel_rfl), ?_⟩))
    first | rw [RetQ_ret] | rw [RetQ_normal]
    refine ⟨[], ?_⟩
    simp [go_sem, ↓IntWalk.iteOmega, IntWalk.iteOmega, IntWalk.toNatUp]
  rw [if_neg h1] at he
  refine FnOk.intro fact_mixed Try.func33 rfl Try.ntmps33 (by rfl) (by simp) ?_
  repeat (first | (refine nf1_sound rfl ?_; simp [go_sem, ↓IntWalk.iteOmega, IntWalk.iteOmega, IntWalk.toNatUp]; (repeat (refine And.intro (by omega) ?_)); try (refine ⟨DrawChk_of (by kernel_rfl), ?_⟩)) | (refine itePos (by omega) ?_; try simp [go_sem, ↓IntWalk.iteOmega, IntWalk.iteOmega, IntWalk.toNatUp]) | (refine iteNeg (by omega) ?_; try simp [go_sem, ↓IntWalk.iteOmega, IntWalk.iteOmega, IntWalk.toNatUp]) | (refine ⟨DrawChk_of (by kernel_rfl), ?_⟩))
  refine nf1_sound' _ _ _ ?_; simp only [nf1]
  refine CW.loop (ι := Nat) (fun i => ⟨[(0, .t (encIs r)), (1, .t (.int k)), (5, .t (.int (tot (r.take i)))), (11, .t (.int r.length)), (12, .t (.int i))], []⟩) (fun i => i ≤ r.length ∧ ∀ x ∈ r.take i, 0 ≤ x ∧ x ≤ 1000) (fun i => r.length - i) 0 [] ⟨by omega, by simp⟩ ?_ ?_
  · simp [go_sem, ↓IntWalk.iteOmega, IntWalk.iteOmega, IntWalk.toNatUp, tot]
  rintro i ⟨hi, hall⟩
  by_cases hb : i < r.length
  · obtain ⟨x, hx⟩ := has_get hb
    have hm := mem_get hx
    by_cases h2 : 0 ≤ x
    · by_cases h3 : x ≤ 1000
      · have ha2 : ∀ y ∈ r.take (i + 1), 0 ≤ y ∧ y ≤ 1000 := by
          rw [take_snoc hx]
          intro y hy
          rcases List.mem_append.1 hy with hy | hy
          · exact hall y hy
          · simp only [List.mem_singleton] at hy; subst hy; exact ⟨h2, h3⟩
        have hs := tot_snoc hx
        have b1 := tot_nn (l := r.take i) (fun y hy => (hall y hy).1)
        have b2 := tot_le (M := 1000) (l := r.take i) (fun y hy => (hall y hy).2)
        rw [List.length_take] at b2
        obtain ⟨T, hT⟩ : ∃ T, tot (r.take i) = T := ⟨_, rfl⟩
        rw [hT] at hs b1 b2 ⊢
        repeat (first | (refine nf1_sound rfl ?_; simp [go_sem, ↓IntWalk.iteOmega, IntWalk.iteOmega, IntWalk.toNatUp, hx]; (repeat (refine And.intro (by omega) ?_)); try (refine ⟨DrawChk_of (by kernel_rfl), ?_⟩)) | (refine itePos (by omega) ?_; try simp [go_sem, ↓IntWalk.iteOmega, IntWalk.iteOmega, IntWalk.toNatUp, hx]) | (refine iteNeg (by omega) ?_; try simp [go_sem, ↓IntWalk.iteOmega, IntWalk.iteOmega, IntWalk.toNatUp, hx]) | (refine ⟨DrawChk_of (by kernel_rfl), ?_⟩))
        rw [RoundQ_normal]; refine ⟨i + 1, [], ?_, ?_, ?_⟩
        · exact ⟨by omega, ha2⟩
        · omega
        simp [go_sem, ↓IntWalk.iteOmega, IntWalk.iteOmega, IntWalk.toNatUp, hs]
      · rw [if_pos (fun h => h3 (h x hm).2)] at he
        subst he
        repeat (first | (refine nf1_sound rfl ?_; simp [go_sem, ↓IntWalk.iteOmega, IntWalk.iteOmega, IntWalk.toNatUp, hx]; (repeat (refine And.intro (by omega) ?_)); try (refine ⟨DrawChk_of (by kernel_rfl), ?_⟩)) | (refine itePos (by omega) ?_; try simp [go_sem, ↓IntWalk.iteOmega, IntWalk.iteOmega, IntWalk.toNatUp, hx]) | (refine iteNeg (by omega) ?_; try simp [go_sem, ↓IntWalk.iteOmega, IntWalk.iteOmega, IntWalk.toNatUp, hx]) | (refine ⟨DrawChk_of (by kernel_rfl), ?_⟩))
        first | rw [RetQ_ret] | rw [RetQ_normal]
        refine ⟨[], ?_⟩
        simp [go_sem, ↓IntWalk.iteOmega, IntWalk.iteOmega, IntWalk.toNatUp]
    · rw [if_pos (fun h => h2 (h x hm).1)] at he
      subst he
      repeat (first | (refine nf1_sound rfl ?_; simp [go_sem, ↓IntWalk.iteOmega, IntWalk.iteOmega, IntWalk.toNatUp, hx]; (repeat (refine And.intro (by omega) ?_)); try (refine ⟨DrawChk_of (by kernel_rfl), ?_⟩)) | (refine itePos (by omega) ?_; try simp [go_sem, ↓IntWalk.iteOmega, IntWalk.iteOmega, IntWalk.toNatUp, hx]) | (refine iteNeg (by omega) ?_; try simp [go_sem, ↓IntWalk.iteOmega, IntWalk.iteOmega, IntWalk.toNatUp, hx]) | (refine ⟨DrawChk_of (by kernel_rfl), ?_⟩))
      first | rw [RetQ_ret] | rw [RetQ_normal]
      refine ⟨[], ?_⟩
      simp [go_sem, ↓IntWalk.iteOmega, IntWalk.iteOmega, IntWalk.toNatUp]
  · obtain rfl : i = r.length := by omega
    rw [List.take_length] at hall ⊢
    rw [if_neg (fun hn => hn hall)] at he
    have b1 := tot_nn (l := r) (fun y hy => (hall y hy).1)
    obtain ⟨T, hT⟩ : ∃ T, tot r = T := ⟨_, rfl⟩
    rw [hT] at he b1 ⊢
    by_cases h4 : T = 0
    · rw [if_pos h4] at he
      subst he
      repeat (first | (refine nf1_sound rfl ?_; simp [go_sem, ↓IntWalk.iteOmega, IntWalk.iteOmega, IntWalk.toNatUp, h4]; (repeat (refine And.intro (by omega) ?_)); try (refine ⟨DrawChk_of (by kernel_rfl), ?_⟩)) | (refine itePos (by omega) ?_; try simp [go_sem, ↓IntWalk.iteOmega, IntWalk.iteOmega, IntWalk.toNatUp, h4]) | (refine iteNeg (by omega) ?_; try simp [go_sem, ↓IntWalk.iteOmega, IntWalk.iteOmega, IntWalk.toNatUp, h4]) | (refine ⟨DrawChk_of (by kernel_rfl), ?_⟩))
      first | rw [RetQ_ret] | rw [RetQ_normal]
      refine ⟨[], ?_⟩
      simp [go_sem, ↓IntWalk.iteOmega, IntWalk.iteOmega, IntWalk.toNatUp]
    · rw [if_neg h4] at he
      by_cases h5 : k < 0
      · rw [if_pos (.inl h5)] at he
        subst he
        repeat (first | (refine nf1_sound rfl ?_; simp [go_sem, ↓IntWalk.iteOmega, IntWalk.iteOmega, IntWalk.toNatUp, h4]; (repeat (refine And.intro (by omega) ?_)); try (refine ⟨DrawChk_of (by kernel_rfl), ?_⟩)) | (refine itePos (by omega) ?_; try simp [go_sem, ↓IntWalk.iteOmega, IntWalk.iteOmega, IntWalk.toNatUp, h4]) | (refine iteNeg (by omega) ?_; try simp [go_sem, ↓IntWalk.iteOmega, IntWalk.iteOmega, IntWalk.toNatUp, h4]) | (refine ⟨DrawChk_of (by kernel_rfl), ?_⟩))
        first | rw [RetQ_ret] | rw [RetQ_normal]
        refine ⟨[], ?_⟩
        simp [go_sem, ↓IntWalk.iteOmega, IntWalk.iteOmega, IntWalk.toNatUp]
      · by_cases h6 : T < k
        · rw [if_pos (.inr h6)] at he
          subst he
          repeat (first | (refine nf1_sound rfl ?_; simp [go_sem, ↓IntWalk.iteOmega, IntWalk.iteOmega, IntWalk.toNatUp, h4]; (repeat (refine And.intro (by omega) ?_)); try (refine ⟨DrawChk_of (by kernel_rfl), ?_⟩)) | (refine itePos (by omega) ?_; try simp [go_sem, ↓IntWalk.iteOmega, IntWalk.iteOmega, IntWalk.toNatUp, h4]) | (refine iteNeg (by omega) ?_; try simp [go_sem, ↓IntWalk.iteOmega, IntWalk.iteOmega, IntWalk.toNatUp, h4]) | (refine ⟨DrawChk_of (by kernel_rfl), ?_⟩))
          first | rw [RetQ_ret] | rw [RetQ_normal]
          refine ⟨[], ?_⟩
          simp [go_sem, ↓IntWalk.iteOmega, IntWalk.iteOmega, IntWalk.toNatUp]
        · rw [if_neg (by omega)] at he
          subst he
          repeat (first | (refine nf1_sound rfl ?_; simp [go_sem, ↓IntWalk.iteOmega, IntWalk.iteOmega, IntWalk.toNatUp, h4]; (repeat (refine And.intro (by omega) ?_)); try (refine ⟨DrawChk_of (by kernel_rfl), ?_⟩)) | (refine itePos (by omega) ?_; try simp [go_sem, ↓IntWalk.iteOmega, IntWalk.iteOmega, IntWalk.toNatUp, h4]) | (refine iteNeg (by omega) ?_; try simp [go_sem, ↓IntWalk.iteOmega, IntWalk.iteOmega, IntWalk.toNatUp, h4]) | (refine ⟨DrawChk_of (by kernel_rfl), ?_⟩))
          first | rw [RetQ_ret] | rw [RetQ_normal]
          refine ⟨[], ?_⟩
          simp [go_sem, ↓IntWalk.iteOmega, IntWalk.iteOmega, IntWalk.toNatUp]
def pad (r : List Int) : List Int := r ++ List.replicate (64 - r.length) 0
theorem pad_len {r : List Int} (h : r.length ≤ 64) : (pad r).length = 64 := by simp [pad]; omega
set_option maxRecDepth 100000 in
set_option maxHeartbeats 8000000 in
theorem start_fn (r : List Int) (hl : r.length ≤ 64) (R Z : List Int) (hR : pad r = R) (hZ : List.replicate 64 0 = Z) : FnOk Try.prog 30 [.t (encIs r)] [] (.t (tblT r.length R Z)) [] := by
  have hmin : min r.length 64 = r.length := by omega
  have hz : List.replicate 64 (T.lit (.int .i64 0)) = Z.map encI := by rw [← hZ, List.map_replicate]; rfl
  have hzl : Z.length = 64 := by rw [← hZ, List.length_replicate]
  have hp : List.take r.length (r.map encI) ++ List.drop r.length (Z.map encI) = R.map encI := by
    rw [← hR, pad, List.map_append, ← hZ, ← List.map_drop, List.drop_replicate, List.take_of_length_le (by simp)]
  have hRl : R.length = 64 := by rw [← hR]; exact pad_len hl
  refine FnOk.intro fact_mixed Try.func30 rfl Try.ntmps30 (by rfl) (by simp) ?_
  repeat (first | (refine nf1_sound rfl ?_; simp [go_sem, ↓IntWalk.iteOmega, IntWalk.iteOmega, IntWalk.toNatUp, ↓hz, hmin, hp, hzl, hRl]; (repeat (refine And.intro (by omega) ?_)); try (refine ⟨DrawChk_of (by kernel_rfl), ?_⟩)) | (refine itePos (by omega) ?_; try simp [go_sem, ↓IntWalk.iteOmega, IntWalk.iteOmega, IntWalk.toNatUp, ↓hz, hmin, hp, hzl, hRl]) | (refine iteNeg (by omega) ?_; try simp [go_sem, ↓IntWalk.iteOmega, IntWalk.iteOmega, IntWalk.toNatUp, ↓hz, hmin, hp, hzl, hRl]) | (refine ⟨DrawChk_of (by kernel_rfl), ?_⟩))
  first | rw [RetQ_ret] | rw [RetQ_normal]
  refine ⟨[], ?_⟩
  simp [go_sem, ↓IntWalk.iteOmega, IntWalk.iteOmega, IntWalk.toNatUp, hz, hp]
  omega
set_option maxRecDepth 100000 in
theorem cloneI_fn (l : List Int) (hl : l.length ≤ 1000000000) : FnOk Try.prog 32 [.t (encIs l)] [] (.own 1000) [(1000, blkI l)] := by
  refine FnOk.intro fact_mixed Try.func32 rfl Try.ntmps32 (by rfl) (by simp) ?_
  iterate 1 (refine nf1_sound rfl ?_; simp [go_sem, ↓IntWalk.iteOmega, IntWalk.iteOmega, IntWalk.toNatUp]; (repeat (refine And.intro (by omega) ?_)); try (refine ⟨DrawChk_of (by kernel_rfl), ?_⟩))
  refine CW.seq (CW.seq (CW.nilTest (k := 1) (xs := l.map encI) (e := 3) (by simp [go_sem]) (by simp [go_sem]) ?_ ?_))
  · intro hx
    have hx : l = [] := by simpa using hx
    simp [go_sem, ↓IntWalk.iteOmega, IntWalk.iteOmega, IntWalk.toNatUp]
    repeat (first | (refine nf1_sound rfl ?_; simp [go_sem, ↓IntWalk.iteOmega, IntWalk.iteOmega, IntWalk.toNatUp]; (repeat (refine And.intro (by omega) ?_)); try (refine ⟨DrawChk_of (by kernel_rfl), ?_⟩)) | (refine itePos (by omega) ?_; try simp [go_sem, ↓IntWalk.iteOmega, IntWalk.iteOmega, IntWalk.toNatUp]) | (refine iteNeg (by omega) ?_; try simp [go_sem, ↓IntWalk.iteOmega, IntWalk.iteOmega, IntWalk.toNatUp]) | (refine ⟨DrawChk_of (by kernel_rfl), ?_⟩))
    first | rw [RetQ_ret] | rw [RetQ_normal]
    refine ⟨[(1000, none)], ?_⟩
    simp [go_sem, ↓IntWalk.iteOmega, IntWalk.iteOmega, IntWalk.toNatUp, hx]
  · simp [go_sem, ↓IntWalk.iteOmega, IntWalk.iteOmega, IntWalk.toNatUp]
    repeat (first | (refine nf1_sound rfl ?_; simp [go_sem, ↓IntWalk.iteOmega, IntWalk.iteOmega, IntWalk.toNatUp]; (repeat (refine And.intro (by omega) ?_)); try (refine ⟨DrawChk_of (by kernel_rfl), ?_⟩)) | (refine itePos (by omega) ?_; try simp [go_sem, ↓IntWalk.iteOmega, IntWalk.iteOmega, IntWalk.toNatUp]) | (refine iteNeg (by omega) ?_; try simp [go_sem, ↓IntWalk.iteOmega, IntWalk.iteOmega, IntWalk.toNatUp]) | (refine ⟨DrawChk_of (by kernel_rfl), ?_⟩))
    first | rw [RetQ_ret] | rw [RetQ_normal]
    refine ⟨[(1000, some 107)], ?_⟩
    simp [go_sem, ↓IntWalk.iteOmega, IntWalk.iteOmega, IntWalk.toNatUp]
/-- What the program's table holds behind k litres. -/
def csP (r : List Int) (k : Nat) : List Int := pad (cs r k)
theorem pad_set {c : List Int} {j : Nat} (h : j < c.length) (x : Int) : (pad c).set j x = pad (c.set j x) := by
  unfold pad
  rw [List.set_append_left _ _ h, List.length_set]
theorem rt_pad {c : List Int} {i : Nat} (h : i < c.length) : rt (pad c) i = rt c i := rt_app h
theorem nx_pad {r c : List Int} (h : c.length = r.length) : nx (pad r) (pad c) r.length = nx r c r.length := nx_app (by omega) (by omega)
theorem pad_mem {c : List Int} {x : Int} (h : x ∈ pad c) : x ∈ c ∨ x = 0 := by
  unfold pad at h
  rcases List.mem_append.1 h with h | h
  · exact .inl h
  · exact .inr (List.eq_of_mem_replicate h)
/-- The table behind each litre, and the one that gets it. -/
theorem tbl_ex {r : List Int} (h : Rates r) (M : Nat) (hM : M ≤ 1000000) : ∃ (R : List Int) (Y : Nat → List Int) (j : Nat → Nat), pad r = R ∧ (∀ k, Y k = pad (cs r k)) ∧ Y 0 = List.replicate 64 0 ∧ (∀ k, k ≤ M → TblOk r.length R (Y k)) ∧
    (∀ k, nx R (Y k) r.length = (j k : Int)) ∧ (∀ k, j k < r.length) ∧ ∀ k, (Y k).set (j k) (rt (Y k) (j k) + 1) = Y (k + 1) := by
  have hj : ∀ k, ∃ j : Nat, nx r (cs r k) r.length = (j : Int) ∧ j < r.length := fun k => h.nx _
  refine ⟨pad r, fun k => pad (cs r k), fun k => (nx r (cs r k) r.length).toNat, rfl, fun _ => rfl, ?_, ?_, ?_, ?_, ?_⟩
  · have := h.len
    simp only [cs, pad, List.length_replicate]
    rw [List.replicate_append_replicate]; congr 1; omega
  · intro k hk
    refine ⟨pad_len h.len, pad_len (by rw [cs_len]; exact h.len), h.len, fun x hx => ?_, fun x hx => ?_⟩
    · rcases pad_mem hx with hx | rfl
      · exact h.each x hx
      · omega
    · rcases pad_mem hx with hx | rfl
      · have := cs_bd r k x hx; omega
      · omega
  · intro k
    obtain ⟨j, h1, h2⟩ := hj k
    show nx (pad r) (pad (cs r k)) r.length = _
    rw [nx_pad (cs_len r k)]
    show _ = (((nx r (cs r k) r.length).toNat : Nat) : Int)
    rw [h1, Int.toNat_natCast]
  · intro k
    obtain ⟨j, h1, h2⟩ := hj k
    show (nx r (cs r k) r.length).toNat < r.length
    rw [h1]; exact h2
  · intro k
    obtain ⟨j, h1, h2⟩ := hj k
    show (pad (cs r k)).set (nx r (cs r k) r.length).toNat (rt (pad (cs r k)) (nx r (cs r k) r.length).toNat + 1) = pad (cs r (k + 1))
    have h3 : (nx r (cs r k) r.length).toNat < (cs r k).length := by rw [cs_len, h1]; exact h2
    rw [pad_set h3, rt_pad h3]; rfl
def countsV (r : List Int) (k : Int) : List Int × Int := if chk r k = 0 then (cs r k.toNat, 0) else ([], chk r k)
set_option maxRecDepth 100000 in
set_option maxHeartbeats 8000000 in
theorem counts_fn (r : List Int) (k : Int) (hl : r.length ≤ 9223372036854775807) (x : List Int) (e : Int) (hx : countsV r k = (x, e)) : FnOk Try.prog 14 [.t (encIs r), .t (.int k)] [] (.tup [.own 1000, .t (.int e)]) [(1000, blkI x)] := by
  unfold countsV at hx
  by_cases h0 : chk r k = 0
  · rw [if_pos h0] at hx
    obtain ⟨h, hk0, hk1⟩ := chk_ok h0
    have hkt := h.tot_le
    obtain ⟨m, rfl⟩ : ∃ m : Nat, k = (m : Int) := ⟨k.toNat, by omega⟩
    rw [Int.toNat_natCast] at hx
    obtain ⟨rfl, rfl⟩ : x = cs r m ∧ e = 0 := by simp only [Prod.mk.injEq] at hx; exact ⟨hx.1.symm, hx.2.symm⟩
    obtain ⟨R, Y, j, hR, yc, y0, yk, yn, yj, ys⟩ := tbl_ex h m (by omega)
    have hlen := h.len
    have cst := start_fn r h.len R (Y 0) hR y0.symm
    have hcl := cs_len r m
    have hfin : List.take r.length ((Y m).map encI) = (cs r m).map encI := by
      rw [yc, pad, List.map_append, List.take_left' (by rw [List.length_map, hcl])]
    obtain ⟨X, hX⟩ : ∃ X, cs r m = X := ⟨_, rfl⟩
    rw [hX] at hcl hfin ⊢
    have cc := cloneI_fn X (by omega)
    clear yc
    have hRl0 := (yk 0 (by omega)).r
    have hYl0 := (yk 0 (by omega)).c
    refine FnOk.intro fact_mixed Try.func14 rfl Try.ntmps14 (by rfl) (by simp) ?_
    repeat (first | (refine nf1_sound rfl ?_; simp [go_sem, ↓IntWalk.iteOmega, IntWalk.iteOmega, IntWalk.toNatUp]; (repeat (refine And.intro (by omega) ?_)); try (refine ⟨DrawChk_of (by kernel_rfl), ?_⟩)) | (refine itePos (by omega) ?_; try simp [go_sem, ↓IntWalk.iteOmega, IntWalk.iteOmega, IntWalk.toNatUp]) | (refine iteNeg (by omega) ?_; try simp [go_sem, ↓IntWalk.iteOmega, IntWalk.iteOmega, IntWalk.toNatUp]) | (refine ⟨DrawChk_of (by kernel_rfl), ?_⟩))
    refine CallK.fn (check_fn r m hl 0 h0) [] [] [] (by kernel_rfl) (by simp [go_sem, ↓IntWalk.iteOmega, IntWalk.iteOmega, IntWalk.toNatUp]) (by simp [go_sem, ↓IntWalk.iteOmega, IntWalk.iteOmega, IntWalk.toNatUp]) (by simp [go_sem, ↓IntWalk.iteOmega, IntWalk.iteOmega, IntWalk.toNatUp]) (Or.inl rfl) ?_
    simp [go_sem, ↓IntWalk.iteOmega, IntWalk.iteOmega, IntWalk.toNatUp]
    repeat (refine And.intro (by omega) ?_)
    try (refine ⟨DrawChk_of (by kernel_rfl), ?_⟩)
    repeat (first | (refine nf1_sound rfl ?_; simp [go_sem, ↓IntWalk.iteOmega, IntWalk.iteOmega, IntWalk.toNatUp]; (repeat (refine And.intro (by omega) ?_)); try (refine ⟨DrawChk_of (by kernel_rfl), ?_⟩)) | (refine itePos (by omega) ?_; try simp [go_sem, ↓IntWalk.iteOmega, IntWalk.iteOmega, IntWalk.toNatUp]) | (refine iteNeg (by omega) ?_; try simp [go_sem, ↓IntWalk.iteOmega, IntWalk.iteOmega, IntWalk.toNatUp]) | (refine ⟨DrawChk_of (by kernel_rfl), ?_⟩))
    refine CallK.fn (cst) [] [] [] (by kernel_rfl) (by simp [go_sem, ↓IntWalk.iteOmega, IntWalk.iteOmega, IntWalk.toNatUp, hRl0, hYl0]) (by simp [go_sem, ↓IntWalk.iteOmega, IntWalk.iteOmega, IntWalk.toNatUp, hRl0, hYl0]) (by simp [go_sem, ↓IntWalk.iteOmega, IntWalk.iteOmega, IntWalk.toNatUp, hRl0, hYl0]) (Or.inl rfl) ?_
    simp [go_sem, ↓IntWalk.iteOmega, IntWalk.iteOmega, IntWalk.toNatUp, hRl0, hYl0]
    repeat (refine And.intro (by omega) ?_)
    try (refine ⟨DrawChk_of (by kernel_rfl), ?_⟩)
    repeat (first | (refine nf1_sound rfl ?_; simp [go_sem, ↓IntWalk.iteOmega, IntWalk.iteOmega, IntWalk.toNatUp, hRl0, hYl0]; (repeat (refine And.intro (by omega) ?_)); try (refine ⟨DrawChk_of (by kernel_rfl), ?_⟩)) | (refine itePos (by omega) ?_; try simp [go_sem, ↓IntWalk.iteOmega, IntWalk.iteOmega, IntWalk.toNatUp, hRl0, hYl0]) | (refine iteNeg (by omega) ?_; try simp [go_sem, ↓IntWalk.iteOmega, IntWalk.iteOmega, IntWalk.toNatUp, hRl0, hYl0]) | (refine ⟨DrawChk_of (by kernel_rfl), ?_⟩))
    refine nf1_sound' _ _ _ ?_; simp only [nf1]
    refine CW.loop (ι := Nat) (fun i => ⟨[(7, .pt 507 [] 0), (16, .t (.int m)), (17, .t (.int i))], [(507, tblB r.length R (Y i))]⟩) (fun i => i ≤ m) (fun i => m - i) 0 [(507, some 107)] (by omega) ?_ ?_
    · simp [go_sem, ↓IntWalk.iteOmega, IntWalk.iteOmega, IntWalk.toNatUp]
    intro i hi
    have hy := yk i hi
    have hyl := hy.c
    have hRl := hy.r
    by_cases hb : i < m
    · have cn := next_fn r.length R (Y i) hy
      have hg := get_rt (r := Y i) (i := j i) (by have := yj i; omega)
      have hs := ys i
      have hjl := yj i
      rw [yn i] at cn
      have hcb := hy.cr _ (mem_get hg)
      obtain ⟨v, hv⟩ : ∃ v, rt (Y i) (j i) = v := ⟨_, rfl⟩
      rw [hv] at hg hs hcb
      obtain ⟨q, hq⟩ : ∃ q, j i = q := ⟨_, rfl⟩
      rw [hq] at hg hs hjl cn
      obtain ⟨C, hC⟩ : ∃ C, Y i = C := ⟨_, rfl⟩
      rw [hC] at hg hs hyl cn ⊢
      have hs2 : (C.map encI).set q (T.lit (.int .i64 (v + 1))) = (Y (i + 1)).map encI := by rw [← hs, List.map_set]; rfl
      have hmin : min q C.length = q := by omega
      repeat (first | (refine nf1_sound rfl ?_; simp [go_sem, ↓IntWalk.iteOmega, IntWalk.iteOmega, IntWalk.toNatUp]; (repeat (refine And.intro (by omega) ?_)); try (refine ⟨DrawChk_of (by kernel_rfl), ?_⟩)) | (refine itePos (by omega) ?_; try simp [go_sem, ↓IntWalk.iteOmega, IntWalk.iteOmega, IntWalk.toNatUp]) | (refine iteNeg (by omega) ?_; try simp [go_sem, ↓IntWalk.iteOmega, IntWalk.iteOmega, IntWalk.toNatUp]) | (refine ⟨DrawChk_of (by kernel_rfl), ?_⟩))
      refine CallK.fn (cn) [(0, 507)] [] [] (by kernel_rfl) (by simp [go_sem, ↓IntWalk.iteOmega, IntWalk.iteOmega, IntWalk.toNatUp, hg, hmin, hRl, hyl]) (by simp [go_sem, ↓IntWalk.iteOmega, IntWalk.iteOmega, IntWalk.toNatUp, hg, hmin, hRl, hyl]) (by simp [go_sem, ↓IntWalk.iteOmega, IntWalk.iteOmega, IntWalk.toNatUp, hg, hmin, hRl, hyl]) (Or.inl rfl) ?_
      simp [go_sem, ↓IntWalk.iteOmega, IntWalk.iteOmega, IntWalk.toNatUp, hg, hmin, hRl, hyl]
      repeat (refine And.intro (by omega) ?_)
      try (refine ⟨DrawChk_of (by kernel_rfl), ?_⟩)
      repeat (first | (refine nf1_sound rfl ?_; simp [go_sem, ↓IntWalk.iteOmega, IntWalk.iteOmega, IntWalk.toNatUp, hg, hmin, hs2, hRl, hyl]; (repeat (refine And.intro (by omega) ?_)); try (refine ⟨DrawChk_of (by kernel_rfl), ?_⟩)) | (refine itePos (by omega) ?_; try simp [go_sem, ↓IntWalk.iteOmega, IntWalk.iteOmega, IntWalk.toNatUp, hg, hmin, hs2, hRl, hyl]) | (refine iteNeg (by omega) ?_; try simp [go_sem, ↓IntWalk.iteOmega, IntWalk.iteOmega, IntWalk.toNatUp, hg, hmin, hs2, hRl, hyl]) | (refine ⟨DrawChk_of (by kernel_rfl), ?_⟩))
      rw [RoundQ_normal]; refine ⟨i + 1, [(507, some 507)], ?_, ?_, ?_⟩
      · omega
      · omega
      simp [go_sem, ↓IntWalk.iteOmega, IntWalk.iteOmega, IntWalk.toNatUp, hs2]
    · obtain rfl : i = m := by omega
      obtain ⟨C, hC⟩ : ∃ C, Y i = C := ⟨_, rfl⟩
      rw [hC] at hyl hfin ⊢
      repeat (first | (refine nf1_sound rfl ?_; simp [go_sem, ↓IntWalk.iteOmega, IntWalk.iteOmega, IntWalk.toNatUp, hRl, hyl]; (repeat (refine And.intro (by omega) ?_)); try (refine ⟨DrawChk_of (by kernel_rfl), ?_⟩)) | (refine itePos (by omega) ?_; try simp [go_sem, ↓IntWalk.iteOmega, IntWalk.iteOmega, IntWalk.toNatUp, hRl, hyl]) | (refine iteNeg (by omega) ?_; try simp [go_sem, ↓IntWalk.iteOmega, IntWalk.iteOmega, IntWalk.toNatUp, hRl, hyl]) | (refine ⟨DrawChk_of (by kernel_rfl), ?_⟩))
      refine CallK.fn (cc) [(1000, 601)] [] [507] (by kernel_rfl) (by simp [go_sem, ↓IntWalk.iteOmega, IntWalk.iteOmega, IntWalk.toNatUp, hfin, hRl, hyl, hlen]) (by simp [go_sem, ↓IntWalk.iteOmega, IntWalk.iteOmega, IntWalk.toNatUp, hfin, hRl, hyl, hlen]) (by simp [go_sem, ↓IntWalk.iteOmega, IntWalk.iteOmega, IntWalk.toNatUp, hfin, hRl, hyl, hlen]) (Or.inl rfl) ?_
      simp [go_sem, ↓IntWalk.iteOmega, IntWalk.iteOmega, IntWalk.toNatUp, hfin, hRl, hyl, hlen]
      repeat (refine And.intro (by omega) ?_)
      try (refine ⟨DrawChk_of (by kernel_rfl), ?_⟩)
      repeat (first | (refine nf1_sound rfl ?_; simp [go_sem, ↓IntWalk.iteOmega, IntWalk.iteOmega, IntWalk.toNatUp]; (repeat (refine And.intro (by omega) ?_)); try (refine ⟨DrawChk_of (by kernel_rfl), ?_⟩)) | (refine itePos (by omega) ?_; try simp [go_sem, ↓IntWalk.iteOmega, IntWalk.iteOmega, IntWalk.toNatUp]) | (refine iteNeg (by omega) ?_; try simp [go_sem, ↓IntWalk.iteOmega, IntWalk.iteOmega, IntWalk.toNatUp]) | (refine ⟨DrawChk_of (by kernel_rfl), ?_⟩))
      first | rw [RetQ_ret] | rw [RetQ_normal]
      refine ⟨[(1000, some 601)], ?_⟩
      simp [go_sem, ↓IntWalk.iteOmega, IntWalk.iteOmega, IntWalk.toNatUp]
  · rw [if_neg h0] at hx
    obtain ⟨rfl, rfl⟩ : x = [] ∧ e = chk r k := by simp only [Prod.mk.injEq] at hx; exact ⟨hx.1.symm, hx.2.symm⟩
    obtain ⟨e, he⟩ : ∃ e, chk r k = e := ⟨_, rfl⟩
    rw [he] at h0 ⊢
    refine FnOk.intro fact_mixed Try.func14 rfl Try.ntmps14 (by rfl) (by simp) ?_
    repeat (first | (refine nf1_sound rfl ?_; simp [go_sem, ↓IntWalk.iteOmega, IntWalk.iteOmega, IntWalk.toNatUp]; (repeat (refine And.intro (by omega) ?_)); try (refine ⟨DrawChk_of (by kernel_rfl), ?_⟩)) | (refine itePos (by omega) ?_; try simp [go_sem, ↓IntWalk.iteOmega, IntWalk.iteOmega, IntWalk.toNatUp]) | (refine iteNeg (by omega) ?_; try simp [go_sem, ↓IntWalk.iteOmega, IntWalk.iteOmega, IntWalk.toNatUp]) | (refine ⟨DrawChk_of (by kernel_rfl), ?_⟩))
    refine CallK.fn (check_fn r k hl e he) [] [] [] (by kernel_rfl) (by simp [go_sem, ↓IntWalk.iteOmega, IntWalk.iteOmega, IntWalk.toNatUp, h0]) (by simp [go_sem, ↓IntWalk.iteOmega, IntWalk.iteOmega, IntWalk.toNatUp, h0]) (by simp [go_sem, ↓IntWalk.iteOmega, IntWalk.iteOmega, IntWalk.toNatUp, h0]) (Or.inl rfl) ?_
    simp [go_sem, ↓IntWalk.iteOmega, IntWalk.iteOmega, IntWalk.toNatUp, h0]
    repeat (refine And.intro (by omega) ?_)
    try (refine ⟨DrawChk_of (by kernel_rfl), ?_⟩)
    repeat (first | (refine nf1_sound rfl ?_; simp [go_sem, ↓IntWalk.iteOmega, IntWalk.iteOmega, IntWalk.toNatUp, h0]; (repeat (refine And.intro (by omega) ?_)); try (refine ⟨DrawChk_of (by kernel_rfl), ?_⟩)) | (refine itePos (by omega) ?_; try simp [go_sem, ↓IntWalk.iteOmega, IntWalk.iteOmega, IntWalk.toNatUp, h0]) | (refine iteNeg (by omega) ?_; try simp [go_sem, ↓IntWalk.iteOmega, IntWalk.iteOmega, IntWalk.toNatUp, h0]) | (refine ⟨DrawChk_of (by kernel_rfl), ?_⟩))
    first | rw [RetQ_ret] | rw [RetQ_normal]
    refine ⟨[(1000, none)], ?_⟩
    simp [go_sem, ↓IntWalk.iteOmega, IntWalk.iteOmega, IntWalk.toNatUp]
set_option maxRecDepth 100000 in
set_option maxHeartbeats 8000000 in
theorem rcounts_fn (r : List Int) (k : Int) (hl : r.length ≤ 9223372036854775807) (x : List Int) (e : Int) (hx : countsV r k = (x, e)) : FnOk Try.prog 15 [.t (encIs r), .t (.int k)] [] (.tup [.own 1000, .t (.int e)]) [(1000, blkI x)] := by
  unfold countsV at hx
  by_cases h0 : chk r k = 0
  · rw [if_pos h0] at hx
    obtain ⟨h, hk0, hk1⟩ := chk_ok h0
    have hkt := h.tot_le
    obtain ⟨m, rfl⟩ : ∃ m : Nat, k = (m : Int) := ⟨k.toNat, by omega⟩
    rw [Int.toNat_natCast] at hx
    obtain ⟨rfl, rfl⟩ : x = cs r m ∧ e = 0 := by simp only [Prod.mk.injEq] at hx; exact ⟨hx.1.symm, hx.2.symm⟩
    have hlen := h.len
    have hz : List.replicate r.length (T.lit (.int .i64 0)) = (cs r 0).map encI := by rw [cs, List.map_replicate]; rfl
    have hbump : ∀ i, ∃ q : Nat, nx r (cs r i) r.length = (q : Int) ∧ q < r.length ∧ (cs r i).set q (rt (cs r i) q + 1) = cs r (i + 1) := by
      intro i
      obtain ⟨q, h1, h2⟩ := h.nx (cs r i)
      exact ⟨q, h1, h2, by rw [cs, bump, h1]; rfl⟩
    have hcl := cs_len r
    have hcb := cs_bd r
    obtain ⟨Y, hY⟩ : ∃ Y, cs r = Y := ⟨_, rfl⟩
    rw [hY] at hz hbump hcl hcb ⊢
    refine FnOk.intro fact_mixed Try.func15 rfl Try.ntmps15 (by rfl) (by simp) ?_
    repeat (first | (refine nf1_sound rfl ?_; simp [go_sem, ↓IntWalk.iteOmega, IntWalk.iteOmega, IntWalk.toNatUp]; (repeat (refine And.intro (by omega) ?_)); try (refine ⟨DrawChk_of (by kernel_rfl), ?_⟩)) | (refine itePos (by omega) ?_; try simp [go_sem, ↓IntWalk.iteOmega, IntWalk.iteOmega, IntWalk.toNatUp]) | (refine iteNeg (by omega) ?_; try simp [go_sem, ↓IntWalk.iteOmega, IntWalk.iteOmega, IntWalk.toNatUp]) | (refine ⟨DrawChk_of (by kernel_rfl), ?_⟩))
    refine CallK.fn (rcheck_fn r m hl 0 h0) [] [] [] (by kernel_rfl) (by simp [go_sem, ↓IntWalk.iteOmega, IntWalk.iteOmega, IntWalk.toNatUp]) (by simp [go_sem, ↓IntWalk.iteOmega, IntWalk.iteOmega, IntWalk.toNatUp]) (by simp [go_sem, ↓IntWalk.iteOmega, IntWalk.iteOmega, IntWalk.toNatUp]) (Or.inl rfl) ?_
    simp [go_sem, ↓IntWalk.iteOmega, IntWalk.iteOmega, IntWalk.toNatUp]
    repeat (refine And.intro (by omega) ?_)
    try (refine ⟨DrawChk_of (by kernel_rfl), ?_⟩)
    repeat (first | (refine nf1_sound rfl ?_; simp [go_sem, ↓IntWalk.iteOmega, IntWalk.iteOmega, IntWalk.toNatUp, ↓hz]; (repeat (refine And.intro (by omega) ?_)); try (refine ⟨DrawChk_of (by kernel_rfl), ?_⟩)) | (refine itePos (by omega) ?_; try simp [go_sem, ↓IntWalk.iteOmega, IntWalk.iteOmega, IntWalk.toNatUp, ↓hz]) | (refine iteNeg (by omega) ?_; try simp [go_sem, ↓IntWalk.iteOmega, IntWalk.iteOmega, IntWalk.toNatUp, ↓hz]) | (refine ⟨DrawChk_of (by kernel_rfl), ?_⟩))
    refine nf1_sound' _ _ _ ?_; simp only [nf1]
    refine CW.loop (ι := Nat) (fun i => ⟨[(0, .t (encIs r)), (1, .t (.int ((m : Int) - i))), (7, .own 507)], [(507, blkI (Y i))]⟩) (fun i => i ≤ m) (fun i => m - i) 0 [(507, some 116)] (by omega) ?_ ?_
    · simp [go_sem, ↓IntWalk.iteOmega, IntWalk.iteOmega, IntWalk.toNatUp, hz]
    intro i hi
    have hyl := hcl i
    by_cases hb : i < m
    · obtain ⟨q, h1, h2, h3⟩ := hbump i
      have cn := rnext_fn r (Y i) hyl (by omega) h.each (fun x hx => by have := hcb i x hx; omega)
      rw [h1] at cn
      have hg := get_rt (r := Y i) (i := q) (by omega)
      have hb2 := hcb i _ (mem_get hg)
      obtain ⟨v, hv⟩ : ∃ v, rt (Y i) q = v := ⟨_, rfl⟩
      rw [hv] at hg h3 hb2
      obtain ⟨C, hC⟩ : ∃ C, Y i = C := ⟨_, rfl⟩
      rw [hC] at hg h3 hyl cn ⊢
      have hs2 : (C.map encI).set q (T.lit (.int .i64 (v + 1))) = (Y (i + 1)).map encI := by rw [← h3, List.map_set]; rfl
      repeat (first | (refine nf1_sound rfl ?_; simp [go_sem, ↓IntWalk.iteOmega, IntWalk.iteOmega, IntWalk.toNatUp]; (repeat (refine And.intro (by omega) ?_)); try (refine ⟨DrawChk_of (by kernel_rfl), ?_⟩)) | (refine itePos (by omega) ?_; try simp [go_sem, ↓IntWalk.iteOmega, IntWalk.iteOmega, IntWalk.toNatUp]) | (refine iteNeg (by omega) ?_; try simp [go_sem, ↓IntWalk.iteOmega, IntWalk.iteOmega, IntWalk.toNatUp]) | (refine ⟨DrawChk_of (by kernel_rfl), ?_⟩))
      refine CallK.fn (cn) [] [507] [] (by kernel_rfl) (by simp [go_sem, ↓IntWalk.iteOmega, IntWalk.iteOmega, IntWalk.toNatUp, hg]) (by simp [go_sem, ↓IntWalk.iteOmega, IntWalk.iteOmega, IntWalk.toNatUp, hg]) (by simp [go_sem, ↓IntWalk.iteOmega, IntWalk.iteOmega, IntWalk.toNatUp, hg]) (Or.inr ⟨by simp [go_sem, ↓IntWalk.iteOmega, IntWalk.iteOmega, IntWalk.toNatUp, hg], by simp [go_sem, ↓IntWalk.iteOmega, IntWalk.iteOmega, IntWalk.toNatUp, hg]⟩) ?_
      simp [go_sem, ↓IntWalk.iteOmega, IntWalk.iteOmega, IntWalk.toNatUp, hg]
      repeat (refine And.intro (by omega) ?_)
      try (refine ⟨DrawChk_of (by kernel_rfl), ?_⟩)
      repeat (first | (refine nf1_sound rfl ?_; simp [go_sem, ↓IntWalk.iteOmega, IntWalk.iteOmega, IntWalk.toNatUp, hg, hs2]; (repeat (refine And.intro (by omega) ?_)); try (refine ⟨DrawChk_of (by kernel_rfl), ?_⟩)) | (refine itePos (by omega) ?_; try simp [go_sem, ↓IntWalk.iteOmega, IntWalk.iteOmega, IntWalk.toNatUp, hg, hs2]) | (refine iteNeg (by omega) ?_; try simp [go_sem, ↓IntWalk.iteOmega, IntWalk.iteOmega, IntWalk.toNatUp, hg, hs2]) | (refine ⟨DrawChk_of (by kernel_rfl), ?_⟩))
      rw [RoundQ_normal]; refine ⟨i + 1, [(507, some 507)], ?_, ?_, ?_⟩
      · omega
      · omega
      simp [go_sem, ↓IntWalk.iteOmega, IntWalk.iteOmega, IntWalk.toNatUp, hs2]
      try omega
    · obtain rfl : i = m := by omega
      repeat (first | (refine nf1_sound rfl ?_; simp [go_sem, ↓IntWalk.iteOmega, IntWalk.iteOmega, IntWalk.toNatUp]; (repeat (refine And.intro (by omega) ?_)); try (refine ⟨DrawChk_of (by kernel_rfl), ?_⟩)) | (refine itePos (by omega) ?_; try simp [go_sem, ↓IntWalk.iteOmega, IntWalk.iteOmega, IntWalk.toNatUp]) | (refine iteNeg (by omega) ?_; try simp [go_sem, ↓IntWalk.iteOmega, IntWalk.iteOmega, IntWalk.toNatUp]) | (refine ⟨DrawChk_of (by kernel_rfl), ?_⟩))
      first | rw [RetQ_ret] | rw [RetQ_normal]
      refine ⟨[(1000, some 507)], ?_⟩
      simp [go_sem, ↓IntWalk.iteOmega, IntWalk.iteOmega, IntWalk.toNatUp]
  · rw [if_neg h0] at hx
    obtain ⟨rfl, rfl⟩ : x = [] ∧ e = chk r k := by simp only [Prod.mk.injEq] at hx; exact ⟨hx.1.symm, hx.2.symm⟩
    obtain ⟨e, he⟩ : ∃ e, chk r k = e := ⟨_, rfl⟩
    rw [he] at h0 ⊢
    refine FnOk.intro fact_mixed Try.func15 rfl Try.ntmps15 (by rfl) (by simp) ?_
    repeat (first | (refine nf1_sound rfl ?_; simp [go_sem, ↓IntWalk.iteOmega, IntWalk.iteOmega, IntWalk.toNatUp]; (repeat (refine And.intro (by omega) ?_)); try (refine ⟨DrawChk_of (by kernel_rfl), ?_⟩)) | (refine itePos (by omega) ?_; try simp [go_sem, ↓IntWalk.iteOmega, IntWalk.iteOmega, IntWalk.toNatUp]) | (refine iteNeg (by omega) ?_; try simp [go_sem, ↓IntWalk.iteOmega, IntWalk.iteOmega, IntWalk.toNatUp]) | (refine ⟨DrawChk_of (by kernel_rfl), ?_⟩))
    refine CallK.fn (rcheck_fn r k hl e he) [] [] [] (by kernel_rfl) (by simp [go_sem, ↓IntWalk.iteOmega, IntWalk.iteOmega, IntWalk.toNatUp, h0]) (by simp [go_sem, ↓IntWalk.iteOmega, IntWalk.iteOmega, IntWalk.toNatUp, h0]) (by simp [go_sem, ↓IntWalk.iteOmega, IntWalk.iteOmega, IntWalk.toNatUp, h0]) (Or.inl rfl) ?_
    simp [go_sem, ↓IntWalk.iteOmega, IntWalk.iteOmega, IntWalk.toNatUp, h0]
    repeat (refine And.intro (by omega) ?_)
    try (refine ⟨DrawChk_of (by kernel_rfl), ?_⟩)
    repeat (first | (refine nf1_sound rfl ?_; simp [go_sem, ↓IntWalk.iteOmega, IntWalk.iteOmega, IntWalk.toNatUp, h0]; (repeat (refine And.intro (by omega) ?_)); try (refine ⟨DrawChk_of (by kernel_rfl), ?_⟩)) | (refine itePos (by omega) ?_; try simp [go_sem, ↓IntWalk.iteOmega, IntWalk.iteOmega, IntWalk.toNatUp, h0]) | (refine iteNeg (by omega) ?_; try simp [go_sem, ↓IntWalk.iteOmega, IntWalk.iteOmega, IntWalk.toNatUp, h0]) | (refine ⟨DrawChk_of (by kernel_rfl), ?_⟩))
    first | rw [RetQ_ret] | rw [RetQ_normal]
    refine ⟨[(1000, none)], ?_⟩
    simp [go_sem, ↓IntWalk.iteOmega, IntWalk.iteOmega, IntWalk.toNatUp]
end Go.Proofs.Ytpfolkjimdmdhaa
