/- Several texts of this proof, one behind the other. No condition. -/
import Derived.Test.YtcehllkmfkoncaaGreatTTolsB17
import Derived.Test.YtcehllkmfkoncaaGreatTTolsB19
import Derived.Test.YtcehllkmfkoncaaGreatTTolsB15
/- piece.Merge and what it calls as contracts. No condition. -/
namespace Go.Proofs.YtcehllkmfkoncaaGreat
open Go.RowKit Sy
open Go.IntWalk renaming iteOmega → iO, toNatUp → tN
set_option linter.unusedVariables false
set_option linter.unusedSimpArgs false
set_option maxRecDepth 100000 in
theorem unlit_fn (p : Int × Int) : FnOk Tryz.prog 163 [.t (encP p)] [] (.t (.bool (!decide (Lit p)))) [] := by
  refine FnOk.intro fact_mixed Tryz.func163 rfl Tryz.ntmps163 (by rfl) (by simp) ?_
  repeat (first | (refine nf1_sound rfl ?_; simp [go_sem, ↓iO, iO, tN]; (repeat (refine anI ?_)); try (refine ⟨dcK, ?_⟩)) | ((first | refine itePos (by omega) ?_ | refine iteNeg (by omega) ?_); try simp [go_sem, ↓iO, iO, tN]) | (refine ⟨dcK, ?_⟩))
  refine CallK.fn (litre_fn p) [] [] [] (by kernel_rfl) ?_ ?_ ?_ (Or.inl rfl) ?_ <;> simp [go_sem, ↓iO, iO, tN]
  repeat (refine anI ?_)
  try (refine ⟨dcK, ?_⟩)
  repeat (first | (refine nf1_sound rfl ?_; simp [go_sem, ↓iO, iO, tN]; (repeat (refine anI ?_)); try (refine ⟨dcK, ?_⟩)) | ((first | refine itePos (by omega) ?_ | refine iteNeg (by omega) ?_); try simp [go_sem, ↓iO, iO, tN]) | (refine ⟨dcK, ?_⟩))
  first | rw [RetQ_ret] | rw [RetQ_normal]
  refine ⟨[], ?_⟩
  simp [go_sem, ↓iO, iO, tN]
theorem first_bad : ∀ {l : List (Int × Int)}, ¬ (∀ p ∈ l, Lit p) → ∃ (j : Nat) (p : Int × Int), l[j]? = some p ∧ ¬ Lit p ∧ ∀ (i : Nat) (q : Int × Int), i < j → l[i]? = some q → Lit q
  | [], h => absurd (by simp) h
  | p :: r, h => by
    by_cases hp : Lit p
    · obtain ⟨j, q, h1, h2, h3⟩ := first_bad (l := r) (fun hr => h (by
        intro q hq
        rcases List.mem_cons.1 hq with rfl | hq
        · exact hp
        · exact hr q hq))
      refine ⟨j + 1, q, by simpa using h1, h2, ?_⟩
      intro i x hi hx
      cases i with
      | zero => simp at hx; subst hx; exact hp
      | succ i => exact h3 i x (by omega) (by simpa using hx)
    · exact ⟨0, p, rfl, hp, fun i q hi => by omega⟩
set_option maxRecDepth 100000 in
set_option maxHeartbeats 4000000 in
theorem index_all (l : List (Int × Int)) (hlen : l.length ≤ 1000000) (hall : ∀ p ∈ l, Lit p) : FnOk Tryz.prog 172 [.t (encPs l), .fn 163 []] [] (.t (.int (-1))) [] := by
  refine FnOk.intro fact_mixed Tryz.func172 rfl Tryz.ntmps172 (by rfl) (by simp) ?_
  repeat (first | (refine nf1_sound rfl ?_; simp [go_sem, ↓iO, iO, tN]; (repeat (refine anI ?_)); try (refine ⟨dcK, ?_⟩)) | ((first | refine itePos (by omega) ?_ | refine iteNeg (by omega) ?_); try simp [go_sem, ↓iO, iO, tN]) | (refine ⟨dcK, ?_⟩))
  refine nf1_sound' _ _ _ ?_; simp only [nf1]
  refine CW.loop (ι := Nat) (fun k => ⟨[(0, .t (encPs l)), (1, .fn 163 []), (7, .t (.int l.length)), (8, .t (.int k))], []⟩) (fun k => k ≤ l.length) (fun k => l.length - k) 0 [] (by omega) ?_ ?_
  · simp [go_sem, ↓iO, iO, tN]
  intro k hk
  by_cases hb : k < l.length
  · obtain ⟨p, hp⟩ := has_get hb
    have hl := hall p (mem_get hp)
    have hu := unlit_fn p
    rw [decide_eq_true hl] at hu
    repeat (first | (refine nf1_sound rfl ?_; simp [go_sem, ↓iO, iO, tN, hp]; (repeat (refine anI ?_)); try (refine ⟨dcK, ?_⟩)) | ((first | refine itePos (by omega) ?_ | refine iteNeg (by omega) ?_); try simp [go_sem, ↓iO, iO, tN, hp]) | (refine ⟨dcK, ?_⟩))
    refine CallK.fn (hu) [] [] [] (by kernel_rfl) ?_ ?_ ?_ (Or.inl rfl) ?_ <;> simp [go_sem, ↓iO, iO, tN]
    repeat (refine anI ?_)
    try (refine ⟨dcK, ?_⟩)
    repeat (first | (refine nf1_sound rfl ?_; simp [go_sem, ↓iO, iO, tN]; (repeat (refine anI ?_)); try (refine ⟨dcK, ?_⟩)) | ((first | refine itePos (by omega) ?_ | refine iteNeg (by omega) ?_); try simp [go_sem, ↓iO, iO, tN]) | (refine ⟨dcK, ?_⟩))
    rw [RoundQ_normal]; refine ⟨k + 1, [], ?_, ?_, ?_⟩
    · omega
    · omega
    simp [go_sem, ↓iO, iO, tN]
  · obtain rfl : k = l.length := by omega
    repeat (first | (refine nf1_sound rfl ?_; simp [go_sem, ↓iO, iO, tN]; (repeat (refine anI ?_)); try (refine ⟨dcK, ?_⟩)) | ((first | refine itePos (by omega) ?_ | refine iteNeg (by omega) ?_); try simp [go_sem, ↓iO, iO, tN]) | (refine ⟨dcK, ?_⟩))
    first | rw [RetQ_ret] | rw [RetQ_normal]
    refine ⟨[], ?_⟩
    simp [go_sem, ↓iO, iO, tN]
set_option maxRecDepth 100000 in
set_option maxHeartbeats 4000000 in
theorem index_bad (l : List (Int × Int)) (hlen : l.length ≤ 1000000) {j : Nat} {p : Int × Int} (hj : l[j]? = some p) (hn : ¬ Lit p) (hf : ∀ (i : Nat) (q : Int × Int), i < j → l[i]? = some q → Lit q) : FnOk Tryz.prog 172 [.t (encPs l), .fn 163 []] [] (.t (.int j)) [] := by
  have hjl : j < l.length := (List.getElem?_eq_some_iff.1 hj).1
  refine FnOk.intro fact_mixed Tryz.func172 rfl Tryz.ntmps172 (by rfl) (by simp) ?_
  repeat (first | (refine nf1_sound rfl ?_; simp [go_sem, ↓iO, iO, tN]; (repeat (refine anI ?_)); try (refine ⟨dcK, ?_⟩)) | ((first | refine itePos (by omega) ?_ | refine iteNeg (by omega) ?_); try simp [go_sem, ↓iO, iO, tN]) | (refine ⟨dcK, ?_⟩))
  refine nf1_sound' _ _ _ ?_; simp only [nf1]
  refine CW.loop (ι := Nat) (fun k => ⟨[(0, .t (encPs l)), (1, .fn 163 []), (7, .t (.int l.length)), (8, .t (.int k))], []⟩) (fun k => k ≤ j) (fun k => l.length - k) 0 [] (by omega) ?_ ?_
  · simp [go_sem, ↓iO, iO, tN]
  intro k hk
  by_cases hb : k < j
  · obtain ⟨q, hq⟩ := has_get (show k < l.length by omega)
    have hl := hf k q hb hq
    have hu := unlit_fn q
    rw [decide_eq_true hl] at hu
    repeat (first | (refine nf1_sound rfl ?_; simp [go_sem, ↓iO, iO, tN, hq]; (repeat (refine anI ?_)); try (refine ⟨dcK, ?_⟩)) | ((first | refine itePos (by omega) ?_ | refine iteNeg (by omega) ?_); try simp [go_sem, ↓iO, iO, tN, hq]) | (refine ⟨dcK, ?_⟩))
    refine CallK.fn (hu) [] [] [] (by kernel_rfl) ?_ ?_ ?_ (Or.inl rfl) ?_ <;> simp [go_sem, ↓iO, iO, tN]
    repeat (refine anI ?_)
    try (refine ⟨dcK, ?_⟩)
    repeat (first | (refine nf1_sound rfl ?_; simp [go_sem, ↓iO, iO, tN]; (repeat (refine anI ?_)); try (refine ⟨dcK, ?_⟩)) | ((first | refine itePos (by omega) ?_ | refine iteNeg (by omega) ?_); try simp [go_sem, ↓iO, iO, tN]) | (refine ⟨dcK, ?_⟩))
    rw [RoundQ_normal]; refine ⟨k + 1, [], ?_, ?_, ?_⟩
    · omega
    · omega
    simp [go_sem, ↓iO, iO, tN]
  · obtain rfl : k = j := by omega
    have hu := unlit_fn p
    rw [decide_eq_false hn] at hu
    repeat (first | (refine nf1_sound rfl ?_; simp [go_sem, ↓iO, iO, tN, hj]; (repeat (refine anI ?_)); try (refine ⟨dcK, ?_⟩)) | ((first | refine itePos (by omega) ?_ | refine iteNeg (by omega) ?_); try simp [go_sem, ↓iO, iO, tN, hj]) | (refine ⟨dcK, ?_⟩))
    refine CallK.fn (hu) [] [] [] (by kernel_rfl) ?_ ?_ ?_ (Or.inl rfl) ?_ <;> simp [go_sem, ↓iO, iO, tN]
    repeat (refine anI ?_)
    try (refine ⟨dcK, ?_⟩)
    repeat (first | (refine nf1_sound rfl ?_; simp [go_sem, ↓iO, iO, tN]; (repeat (refine anI ?_)); try (refine ⟨dcK, ?_⟩)) | ((first | refine itePos (by omega) ?_ | refine iteNeg (by omega) ?_); try simp [go_sem, ↓iO, iO, tN]) | (refine ⟨dcK, ?_⟩))
    first | rw [RetQ_ret] | rw [RetQ_normal]
    refine ⟨[], ?_⟩
    simp [go_sem, ↓iO, iO, tN]
set_option maxRecDepth 100000 in
theorem contains_fn (l : List (Int × Int)) (hlen : l.length ≤ 1000000) (b : Bool) (h : b = true ↔ ¬ ∀ p ∈ l, Lit p) : FnOk Tryz.prog 162 [.t (encPs l), .fn 163 []] [] (.t (.bool b)) [] := by
  by_cases hall : ∀ p ∈ l, Lit p
  · obtain rfl : b = false := by
      cases b with
      | false => rfl
      | true => exact absurd hall (h.1 rfl)
    refine FnOk.intro fact_mixed Tryz.func162 rfl Tryz.ntmps162 (by rfl) (by simp) ?_
    repeat (first | (refine nf1_sound rfl ?_; simp [go_sem, ↓iO, iO, tN]; (repeat (refine anI ?_)); try (refine ⟨dcK, ?_⟩)) | ((first | refine itePos (by omega) ?_ | refine iteNeg (by omega) ?_); try simp [go_sem, ↓iO, iO, tN]) | (refine ⟨dcK, ?_⟩))
    refine CallK.fn (index_all l hlen hall) [] [] [] (by kernel_rfl) ?_ ?_ ?_ (Or.inl rfl) ?_ <;> simp [go_sem, ↓iO, iO, tN]
    repeat (refine anI ?_)
    try (refine ⟨dcK, ?_⟩)
    repeat (first | (refine nf1_sound rfl ?_; simp [go_sem, ↓iO, iO, tN]; (repeat (refine anI ?_)); try (refine ⟨dcK, ?_⟩)) | ((first | refine itePos (by omega) ?_ | refine iteNeg (by omega) ?_); try simp [go_sem, ↓iO, iO, tN]) | (refine ⟨dcK, ?_⟩))
    first | rw [RetQ_ret] | rw [RetQ_normal]
    refine ⟨[], ?_⟩
    simp [go_sem, ↓iO, iO, tN]
  · obtain rfl := h.2 hall
    obtain ⟨j, p, h1, h2, h3⟩ := first_bad hall
    have hjl : j < l.length := (List.getElem?_eq_some_iff.1 h1).1
    refine FnOk.intro fact_mixed Tryz.func162 rfl Tryz.ntmps162 (by rfl) (by simp) ?_
    repeat (first | (refine nf1_sound rfl ?_; simp [go_sem, ↓iO, iO, tN]; (repeat (refine anI ?_)); try (refine ⟨dcK, ?_⟩)) | ((first | refine itePos (by omega) ?_ | refine iteNeg (by omega) ?_); try simp [go_sem, ↓iO, iO, tN]) | (refine ⟨dcK, ?_⟩))
    refine CallK.fn (index_bad l hlen h1 h2 h3) [] [] [] (by kernel_rfl) ?_ ?_ ?_ (Or.inl rfl) ?_ <;> simp [go_sem, ↓iO, iO, tN]
    repeat (refine anI ?_)
    try (refine ⟨dcK, ?_⟩)
    repeat (first | (refine nf1_sound rfl ?_; simp [go_sem, ↓iO, iO, tN]; (repeat (refine anI ?_)); try (refine ⟨dcK, ?_⟩)) | ((first | refine itePos (by omega) ?_ | refine iteNeg (by omega) ?_); try simp [go_sem, ↓iO, iO, tN]) | (refine ⟨dcK, ?_⟩))
    first | rw [RetQ_ret] | rw [RetQ_normal]
    refine ⟨[], ?_⟩
    simp [go_sem, ↓iO, iO, tN]
theorem proper_sane {l : List (Int × Int)} (h : Pc.Proper l) : Pc.Sane l := ⟨by have := h.1; omega, fun p hp => (h.2 p hp).2⟩
theorem merge_good {l : List (Int × Int)} (h : Pc.Proper l) : Pc.merge l = Pc.join l := by unfold Pc.merge; rw [if_pos h]
theorem merge_bad {l : List (Int × Int)} (h : ¬ Pc.Proper l) : Pc.merge l = [] := by unfold Pc.merge; rw [if_neg h]
set_option maxRecDepth 100000 in
theorem merge_fn (l : List (Int × Int)) (hlen : l.length ≤ 1000000) : FnOk Tryz.prog 151 [.t (encPs l)] [] (.own 1000) [(1000, blkP (Pc.merge l))] := by
  by_cases hL : l.length ≤ 400
  · by_cases hall : ∀ p ∈ l, Lit p
    · have hp : Pc.Proper l := ⟨hL, hall⟩
      rw [merge_good hp]
      refine FnOk.intro fact_mixed Tryz.func151 rfl Tryz.ntmps151 (by rfl) (by simp) ?_
      repeat (first | (refine nf1_sound rfl ?_; simp [go_sem, ↓iO, iO, tN]; (repeat (refine anI ?_)); try (refine ⟨dcK, ?_⟩)) | ((first | refine itePos (by omega) ?_ | refine iteNeg (by omega) ?_); try simp [go_sem, ↓iO, iO, tN]) | (refine ⟨dcK, ?_⟩))
      refine CallK.fn (contains_fn l hlen false ⟨fun h => (by cases h), fun h => absurd hall h⟩) [] [] [] (by kernel_rfl) ?_ ?_ ?_ (Or.inl rfl) ?_ <;> simp [go_sem, ↓iO, iO, tN]
      repeat (refine anI ?_)
      try (refine ⟨dcK, ?_⟩)
      repeat (first | (refine nf1_sound rfl ?_; simp [go_sem, ↓iO, iO, tN]; (repeat (refine anI ?_)); try (refine ⟨dcK, ?_⟩)) | ((first | refine itePos (by omega) ?_ | refine iteNeg (by omega) ?_); try simp [go_sem, ↓iO, iO, tN]) | (refine ⟨dcK, ?_⟩))
      refine CallK.fn (merged_fn l (proper_sane hp)) [(1000, 601)] [] [] (by kernel_rfl) ?_ ?_ ?_ (Or.inl rfl) ?_ <;> simp [go_sem, ↓iO, iO, tN]
      repeat (refine anI ?_)
      try (refine ⟨dcK, ?_⟩)
      repeat (first | (refine nf1_sound rfl ?_; simp [go_sem, ↓iO, iO, tN]; (repeat (refine anI ?_)); try (refine ⟨dcK, ?_⟩)) | ((first | refine itePos (by omega) ?_ | refine iteNeg (by omega) ?_); try simp [go_sem, ↓iO, iO, tN]) | (refine ⟨dcK, ?_⟩))
      first | rw [RetQ_ret] | rw [RetQ_normal]
      refine ⟨[(1000, some 601)], ?_⟩
      simp [go_sem, ↓iO, iO, tN]
    · rw [merge_bad (fun h => hall h.2)]
      refine FnOk.intro fact_mixed Tryz.func151 rfl Tryz.ntmps151 (by rfl) (by simp) ?_
      repeat (first | (refine nf1_sound rfl ?_; simp [go_sem, ↓iO, iO, tN]; (repeat (refine anI ?_)); try (refine ⟨dcK, ?_⟩)) | ((first | refine itePos (by omega) ?_ | refine iteNeg (by omega) ?_); try simp [go_sem, ↓iO, iO, tN]) | (refine ⟨dcK, ?_⟩))
      refine CallK.fn (contains_fn l hlen true ⟨fun _ => hall, fun _ => rfl⟩) [] [] [] (by kernel_rfl) ?_ ?_ ?_ (Or.inl rfl) ?_ <;> simp [go_sem, ↓iO, iO, tN]
      repeat (refine anI ?_)
      try (refine ⟨dcK, ?_⟩)
      repeat (first | (refine nf1_sound rfl ?_; simp [go_sem, ↓iO, iO, tN]; (repeat (refine anI ?_)); try (refine ⟨dcK, ?_⟩)) | ((first | refine itePos (by omega) ?_ | refine iteNeg (by omega) ?_); try simp [go_sem, ↓iO, iO, tN]) | (refine ⟨dcK, ?_⟩))
      first | rw [RetQ_ret] | rw [RetQ_normal]
      refine ⟨[(1000, none)], ?_⟩
      simp [go_sem, ↓iO, iO, tN]
  · rw [merge_bad (fun h => hL h.1)]
    refine FnOk.intro fact_mixed Tryz.func151 rfl Tryz.ntmps151 (by rfl) (by simp) ?_
    repeat (first | (refine nf1_sound rfl ?_; simp [go_sem, ↓iO, iO, tN]; (repeat (refine anI ?_)); try (refine ⟨dcK, ?_⟩)) | ((first | refine itePos (by omega) ?_ | refine iteNeg (by omega) ?_); try simp [go_sem, ↓iO, iO, tN]) | (refine ⟨dcK, ?_⟩))
    try rw [if_pos (by omega)]
    repeat (first | (refine nf1_sound rfl ?_; simp [go_sem, ↓iO, iO, tN]; (repeat (refine anI ?_)); try (refine ⟨dcK, ?_⟩)) | ((first | refine itePos (by omega) ?_ | refine iteNeg (by omega) ?_); try simp [go_sem, ↓iO, iO, tN]) | (refine ⟨dcK, ?_⟩))
    first | rw [RetQ_ret] | rw [RetQ_normal]
    refine ⟨[(1000, none)], ?_⟩
    simp [go_sem, ↓iO, iO, tN]
end Go.Proofs.YtcehllkmfkoncaaGreat
/- The program's Deal as a contract. No condition. -/
namespace Go.Proofs.YtcehllkmfkoncaaGreat
open Go.RowKit Sy Dl
open Go.IntWalk renaming iteOmega → iO, toNatUp → tN
set_option linter.unusedVariables false
set_option linter.unusedSimpArgs false
theorem merge_small (l : List (Int × Int)) : (Pc.merge l).length ≤ 400 ∧ (∀ p ∈ Pc.merge l, 0 ≤ p.1 ∧ p.1 < 1000) ∧ ∀ p ∈ Pc.merge l, 0 ≤ p.2 := by
  by_cases h : Pc.Proper l
  · rw [merge_good h]
    have h1 := Pc.join_length l
    have h2 := Pc.join_canon (ps := l) (fun p hp => (h.2 p hp).2.1)
    refine ⟨by have := h.1; omega, ?_, fun p hp => by have := h2.pos p hp; omega⟩
    have key : ∀ (ps out : List (Int × Int)), (∀ p ∈ ps, 0 ≤ p.1 ∧ p.1 < 1000) → (∀ p ∈ out, 0 ≤ p.1 ∧ p.1 < 1000) → ∀ p ∈ ps.foldl Pc.jstep out, 0 ≤ p.1 ∧ p.1 < 1000 := by
      intro ps
      induction ps with
      | nil => intro out _ ho; exact ho
      | cons q r ih =>
        intro out hp ho
        refine ih (Pc.jstep out q) (fun x hx => hp x (by simp [hx])) ?_
        intro x hx
        unfold Pc.jstep at hx
        split at hx
        · exact ho x hx
        · split at hx
          · split at hx
            · rcases List.mem_append.1 hx with hx | hx
              · exact ho x ((List.dropLast_sublist _).subset hx)
              · simp only [List.mem_singleton] at hx; subst hx
                rename_i y hy e
                exact ho y (List.mem_of_getLast? hy)
            · rcases List.mem_append.1 hx with hx | hx
              · exact ho x hx
              · simp only [List.mem_singleton] at hx; subst hx; exact hp _ (by simp)
          · rcases List.mem_append.1 hx with hx | hx
            · exact ho x hx
            · simp only [List.mem_singleton] at hx; subst hx; exact hp _ (by simp)
    exact key l [] (fun p hp => (h.2 p hp).1) (by simp)
  · rw [merge_bad h]; simp
theorem vol_pre {m : List (Int × Int)} (h : ∀ p ∈ m, 0 ≤ p.2) (k : Nat) : 0 ≤ Pc.vol (m.take k) ∧ Pc.vol (m.take k) ≤ Pc.vol m := by
  have h1 : Pc.vol (m.take k) + Pc.vol (m.drop k) = Pc.vol m := by rw [← Pc.vol_append, List.take_append_drop]
  have h2 := Pc.litres_length (m.drop k) (fun p hp => h p (List.mem_of_mem_drop hp))
  have h3 := Pc.litres_length (m.take k) (fun p hp => h p (List.mem_of_mem_take hp))
  omega
theorem vol_elem {m : List (Int × Int)} (h : ∀ p ∈ m, 0 ≤ p.2) {k : Nat} {p : Int × Int} (hp : m[k]? = some p) : p.2 ≤ Pc.vol m := by
  have h1 := vol_pre h (k + 1)
  have h2 := vol_pre h k
  rw [Pc.vol_snoc hp] at h1
  omega
theorem merge_vol (l : List (Int × Int)) : Pc.vol (Pc.merge l) ≤ 400000000 := by
  by_cases h : Pc.Proper l
  · rw [merge_good h, Pc.join_vol (fun p hp => (h.2 p hp).2.1)]
    have := (Pc.vol_bound l (fun p hp => (h.2 p hp).2)).2
    have := h.1
    omega
  · rw [merge_bad h]; simp [Pc.vol]
theorem pad_rt {r : List Int} {R : List Int} {k i : Nat} (h : i < r.length) (hR : R = pad (cs r k)) : rt R i = rt (cs r k) i := by
  rw [hR, rt_pad (by rw [cs_len]; exact h)]
set_option maxRecDepth 100000 in
set_option maxHeartbeats 32000000 in
theorem deal_fn (l : List (Int × Int)) (r : List Int) (hll : l.length ≤ 1000000) (hl : r.length ≤ 9223372036854775807) (x : List (List (Int × Int))) (e : Int) (hx : dealV l r = (x, e)) :
    FnOk Tryz.prog 119 [.t (encPs l), .t (encIs r)] [] (.tup [.t (.sl 1 (x.map encPs)), .t (.int e)]) [] := by
  have cm := merge_fn l hll
  obtain ⟨h400, hm1, hm2⟩ := merge_small l
  have hV := merge_vol l
  unfold dealV at hx
  obtain ⟨m, hm⟩ : ∃ m, Pc.merge l = m := ⟨_, rfl⟩
  rw [hm] at cm h400 hm1 hm2 hV hx
  simp only at hx
  by_cases hbad : (m = [] ∧ l ≠ []) ∨ 200 < m.length
  · rw [if_pos hbad] at hx
    obtain ⟨rfl, rfl⟩ : x = [] ∧ e = 9 := by simp only [Prod.mk.injEq] at hx; exact ⟨hx.1.symm, hx.2.symm⟩
    by_cases h1 : m.length = 0
    · have h2 : 0 < l.length := by
        rcases hbad with ⟨_, hn⟩ | hn
        · exact List.length_pos_iff.2 hn
        · omega
      refine FnOk.intro fact_mixed Tryz.func119 rfl Tryz.ntmps119 (by rfl) (by simp) ?_
      repeat (first | (refine nf1_sound rfl ?_; simp [go_sem, ↓iO, iO, tN]; (repeat (refine anI ?_)); try (refine ⟨dcK, ?_⟩)) | ((first | refine itePos (by omega) ?_ | refine iteNeg (by omega) ?_); try simp [go_sem, ↓iO, iO, tN]) | (refine ⟨dcK, ?_⟩))
      refine CallK.fn (cm) [(1000, 601)] [] [] (by kernel_rfl) ?_ ?_ ?_ (Or.inl rfl) ?_ <;> simp [go_sem, ↓iO, iO, tN]
      repeat (refine anI ?_)
      try (refine ⟨dcK, ?_⟩)
      repeat (first | (refine nf1_sound rfl ?_; simp [go_sem, ↓iO, iO, tN, h1, h2]; (repeat (refine anI ?_)); try (refine ⟨dcK, ?_⟩)) | ((first | refine itePos (by omega) ?_ | refine iteNeg (by omega) ?_); try simp [go_sem, ↓iO, iO, tN, h1, h2]) | (refine ⟨dcK, ?_⟩))
      first | rw [RetQ_ret] | rw [RetQ_normal]
      refine ⟨[], ?_⟩
      simp [go_sem, ↓iO, iO, tN]
    · have h2 : 200 < m.length := by
        rcases hbad with ⟨hn, _⟩ | hn
        · rw [hn] at h1; simp at h1
        · exact hn
      refine FnOk.intro fact_mixed Tryz.func119 rfl Tryz.ntmps119 (by rfl) (by simp) ?_
      repeat (first | (refine nf1_sound rfl ?_; simp [go_sem, ↓iO, iO, tN]; (repeat (refine anI ?_)); try (refine ⟨dcK, ?_⟩)) | ((first | refine itePos (by omega) ?_ | refine iteNeg (by omega) ?_); try simp [go_sem, ↓iO, iO, tN]) | (refine ⟨dcK, ?_⟩))
      refine CallK.fn (cm) [(1000, 601)] [] [] (by kernel_rfl) ?_ ?_ ?_ (Or.inl rfl) ?_ <;> simp [go_sem, ↓iO, iO, tN]
      repeat (refine anI ?_)
      try (refine ⟨dcK, ?_⟩)
      repeat (first | (refine nf1_sound rfl ?_; simp [go_sem, ↓iO, iO, tN, h1, h2]; (repeat (refine anI ?_)); try (refine ⟨dcK, ?_⟩)) | ((first | refine itePos (by omega) ?_ | refine iteNeg (by omega) ?_); try simp [go_sem, ↓iO, iO, tN, h1, h2]) | (refine ⟨dcK, ?_⟩))
      first | rw [RetQ_ret] | rw [RetQ_normal]
      refine ⟨[], ?_⟩
      simp [go_sem, ↓iO, iO, tN]
  rw [if_neg hbad] at hx
  have h200 : ¬ 200 < m.length := fun h => hbad (.inr h)
  have hmty : m.length = 0 → l.length = 0 := fun h => by
    rcases Nat.eq_zero_or_pos l.length with h2 | h2
    · exact h2
    · exact (hbad (.inl ⟨List.length_eq_zero_iff.1 h, List.length_pos_iff.1 h2⟩)).elim
  have hvp := vol_pre hm2
  have c1 := fun (e : Int) (he : chk r (Pc.vol m) = e) => check_fn r (Pc.vol m) hl e he
  by_cases h0 : chk r (Pc.vol m) = 0
  · rw [if_neg (fun h => h h0)] at hx
    obtain ⟨rfl, rfl⟩ : x = dealt r m ∧ e = 0 := by simp only [Prod.mk.injEq] at hx; exact ⟨hx.1.symm, hx.2.symm⟩
    obtain ⟨h, hk0, hk1⟩ := chk_ok h0
    have hkt := h.tot_le
    have hlen := h.len
    have hmall : ∀ p ∈ m, (0 ≤ p.1 ∧ p.1 < 1000) ∧ 0 ≤ p.2 ∧ p.2 ≤ 1000000 := fun p hp => by
      obtain ⟨i, hi⟩ := List.getElem?_of_mem hp
      have := vol_elem hm2 hi
      exact ⟨hm1 p hp, hm2 p hp, by omega⟩
    obtain ⟨R, Y, j, hR, yc, y0, yk, yn, yj, ys⟩ := tbl_ex h 64000 (by omega)
    obtain ⟨A, Z, a0, ak, z0, zc, zs⟩ := strm_ex r m hmall (by omega)
    obtain ⟨W, wl, wg, ws, wn, w0, wt, wf⟩ := rows_ex 73 r.length Z
    have cst := start_fn r h.len R (Y 0) hR y0.symm
    have hRl0 := (yk 0 (by omega)).r
    have hYl0 := (yk 0 (by omega)).c
    have c0 := c1 0 h0
    obtain ⟨V, hVV⟩ : ∃ V, Pc.vol m = V := ⟨_, rfl⟩
    refine FnOk.intro fact_mixed Tryz.func119 rfl Tryz.ntmps119 (by rfl) (by simp) ?_
    repeat (first | (refine nf1_sound rfl ?_; simp [go_sem, ↓iO, iO, tN]; (repeat (refine anI ?_)); try (refine ⟨dcK, ?_⟩)) | ((first | refine itePos (by omega) ?_ | refine iteNeg (by omega) ?_); try simp [go_sem, ↓iO, iO, tN]) | (refine ⟨dcK, ?_⟩))
    refine CallK.fn (cm) [(1000, 601)] [] [] (by kernel_rfl) ?_ ?_ ?_ (Or.inl rfl) ?_ <;> simp [go_sem, ↓iO, iO, tN]
    repeat (refine anI ?_)
    try (refine ⟨dcK, ?_⟩)
    refine CW.cut (ι := Unit) (fun _ => ⟨[(0, .t (encPs l)), (1, .t (encIs r)), (6, .t (encPs m))], []⟩) (fun _ => True) ?_ ?_
    · by_cases h1 : m.length = 0
      · have h3 := hmty h1
        repeat (first | (refine nf1_sound rfl ?_; simp [go_sem, ↓iO, iO, tN, h1, h3]; (repeat (refine anI ?_)); try (refine ⟨dcK, ?_⟩)) | ((first | refine itePos (by omega) ?_ | refine iteNeg (by omega) ?_); try simp [go_sem, ↓iO, iO, tN, h1, h3]) | (refine ⟨dcK, ?_⟩))
        rw [CutQ_normal]; refine ⟨(), [], ?_, ?_⟩
        · trivial
        simp [go_sem, ↓iO, iO, tN]
      · repeat (first | (refine nf1_sound rfl ?_; simp [go_sem, ↓iO, iO, tN, h1, h200]; (repeat (refine anI ?_)); try (refine ⟨dcK, ?_⟩)) | ((first | refine itePos (by omega) ?_ | refine iteNeg (by omega) ?_); try simp [go_sem, ↓iO, iO, tN, h1, h200]) | (refine ⟨dcK, ?_⟩))
        rw [CutQ_normal]; refine ⟨(), [], ?_, ?_⟩
        · trivial
        simp [go_sem, ↓iO, iO, tN]
    rintro _ _
    repeat (first | (refine nf1_sound rfl ?_; simp [go_sem, ↓iO, iO, tN]; (repeat (refine anI ?_)); try (refine ⟨dcK, ?_⟩)) | ((first | refine itePos (by omega) ?_ | refine iteNeg (by omega) ?_); try simp [go_sem, ↓iO, iO, tN]) | (refine ⟨dcK, ?_⟩))
    refine nf1_sound' _ _ _ ?_; simp only [nf1]
    refine CW.loop (ι := Nat) (fun k => ⟨[(0, .t (encPs l)), (1, .t (encIs r)), (6, .t (encPs m)), (7, .t (.int (Pc.vol (m.take k)))), (33, .t (encPs m)), (34, .t (.int m.length)), (35, .t (.int k))], []⟩) (fun k => k ≤ m.length) (fun k => m.length - k) 0 [] (by omega) ?_ ?_
    · simp [go_sem, ↓iO, iO, tN, Pc.vol]
    intro k hk
    have hvk := hvp k
    by_cases hb : k < m.length
    · obtain ⟨p, hp⟩ := has_get hb
      have hvs := Pc.vol_snoc hp
      have hvk2 := hvp (k + 1)
      obtain ⟨v, hv⟩ : ∃ v, Pc.vol (m.take k) = v := ⟨_, rfl⟩
      rw [hv] at hvs hvk ⊢
      rw [hvs] at hvk2
      repeat (first | (refine nf1_sound rfl ?_; simp [go_sem, ↓iO, iO, tN, hp]; (repeat (refine anI ?_)); try (refine ⟨dcK, ?_⟩)) | ((first | refine itePos (by omega) ?_ | refine iteNeg (by omega) ?_); try simp [go_sem, ↓iO, iO, tN, hp]) | (refine ⟨dcK, ?_⟩))
      rw [RoundQ_normal]; refine ⟨k + 1, [], ?_, ?_, ?_⟩
      · omega
      · omega
      simp [go_sem, ↓iO, iO, tN, hvs]
    obtain rfl : k = m.length := by omega
    rw [List.take_length]
    rw [hVV] at c0 ⊢
    repeat (first | (refine nf1_sound rfl ?_; simp [go_sem, ↓iO, iO, tN]; (repeat (refine anI ?_)); try (refine ⟨dcK, ?_⟩)) | ((first | refine itePos (by omega) ?_ | refine iteNeg (by omega) ?_); try simp [go_sem, ↓iO, iO, tN]) | (refine ⟨dcK, ?_⟩))
    refine CallK.fn (c0) [] [] [] (by kernel_rfl) ?_ ?_ ?_ (Or.inl rfl) ?_ <;> simp [go_sem, ↓iO, iO, tN]
    repeat (refine anI ?_)
    try (refine ⟨dcK, ?_⟩)
    repeat (first | (refine nf1_sound rfl ?_; simp [go_sem, ↓iO, iO, tN]; (repeat (refine anI ?_)); try (refine ⟨dcK, ?_⟩)) | ((first | refine itePos (by omega) ?_ | refine iteNeg (by omega) ?_); try simp [go_sem, ↓iO, iO, tN]) | (refine ⟨dcK, ?_⟩))
    refine CallK.fn (cst) [] [] [] (by kernel_rfl) ?_ ?_ ?_ (Or.inl rfl) ?_ <;> simp [go_sem, ↓iO, iO, tN, hRl0, hYl0]
    repeat (refine anI ?_)
    try (refine ⟨dcK, ?_⟩)
    repeat (first | (refine nf1_sound rfl ?_; simp [go_sem, ↓iO, iO, tN, hRl0, hYl0]; (repeat (refine anI ?_)); try (refine ⟨dcK, ?_⟩)) | ((first | refine itePos (by omega) ?_ | refine iteNeg (by omega) ?_); try simp [go_sem, ↓iO, iO, tN, hRl0, hYl0]) | (refine ⟨dcK, ?_⟩))
    have hW0 := w0 z0
    refine CW.toRows 152 (W 0 0) (e := 43) (s := 1) (xs := List.replicate r.length (.lit (.slice none 0 0))) (by rfl) (by rw [wl]; simp) (fun i x u h1 h2 => ?_) ?_
    · rw [hW0, List.getElem?_replicate] at h2
      rw [List.getElem?_replicate] at h1
      split at h1
      · rename_i hi
        rw [if_pos hi] at h2
        cases h1; cases h2
        unfold relTU; trivial
      · cases h1
    simp [go_sem, ↓iO, iO, tN]
    refine nf1_sound' _ _ _ ?_; simp only [nf1]
    refine CW.loop (ι := Nat) (fun k => ⟨[(11, .own 511), (12, .pt 507 [] 0), (55, .t (encPs m)), (56, .t (.int m.length)), (57, .t (.int k))], [(511, .rows 43 1 (W k 0) []), (507, tblB r.length R (Y (A k)))]⟩) (fun k => k ≤ m.length) (fun k => m.length - k) 0 [(511, some 152), (507, some 112)] (by omega) ?_ ?_
    · simp [go_sem, ↓iO, iO, tN, a0]
    intro k hk
    have hwl := wl k 0
    by_cases hb : k < m.length
    · obtain ⟨p, hp⟩ := has_get hb
      obtain ⟨zA, zZ⟩ := zs k p hp
      have hpb := hmall p (mem_get hp)
      obtain ⟨c, hc⟩ : ∃ c : Nat, p.2 = (c : Int) := ⟨p.2.toNat, by omega⟩
      have hA1 := ak (k + 1) hb
      have hyA := yk (A k) (by have := ak k hk; omega)
      have hyl := hyA.c
      rw [show p.2.toNat = c by omega] at zA
      obtain ⟨p1, p2⟩ := p
      simp only at hc
      subst hc
      repeat (first | (refine nf1_sound rfl ?_; simp [go_sem, ↓iO, iO, tN, hp, hRl0, hyl]; (repeat (refine anI ?_)); try (refine ⟨dcK, ?_⟩)) | ((first | refine itePos (by omega) ?_ | refine iteNeg (by omega) ?_); try simp [go_sem, ↓iO, iO, tN, hp, hRl0, hyl]) | (refine ⟨dcK, ?_⟩))
      have hRl := hRl0
      refine nf1_sound' _ _ _ ?_; simp only [nf1]
      refine CW.loop (ι := Nat) (fun q => ⟨[(11, .own 511), (12, .pt 507 [] 0), (14, .pt 514 [] 0), (15, .pt 515 [] 0), (55, .t (encPs m)), (56, .t (.int m.length)), (57, .t (.int k)), (64, .t (.int c)), (65, .t (.int q))], [(511, .rows 43 1 (W k 0) []), (507, tblB r.length R (Y (A k + q))), (514, .box 73 (.t (encP (p1, (c : Int))))), (515, .box 219 (.t (.agg ((Y (A k)).map encI))))]⟩)
        (fun q => q ≤ c) (fun q => c - q) 0 [(511, some 511), (507, some 507), (514, some 114), (515, some 115)] (by omega) ?_ ?_
      · simp [go_sem, ↓iO, iO, tN]
      intro q hq
      have hy := yk (A k + q) (by omega)
      have hyl := hy.c
      by_cases hb2 : q < c
      · have cn := next_fn r.length R (Y (A k + q)) hy
        have hg := get_rt (r := Y (A k + q)) (i := j (A k + q)) (by have := yj (A k + q); omega)
        have hs := ys (A k + q)
        have hjl := yj (A k + q)
        rw [yn (A k + q)] at cn
        have hcb := hy.cr _ (mem_get hg)
        obtain ⟨v, hv⟩ : ∃ v, rt (Y (A k + q)) (j (A k + q)) = v := ⟨_, rfl⟩
        rw [hv] at hg hs hcb
        obtain ⟨u, hu⟩ : ∃ u, j (A k + q) = u := ⟨_, rfl⟩
        rw [hu] at hg hs hjl cn
        rw [show A k + q + 1 = A k + (q + 1) by omega] at hs
        obtain ⟨C, hC⟩ : ∃ C, Y (A k + q) = C := ⟨_, rfl⟩
        rw [hC] at hg hs hyl cn ⊢
        have hs2 : (C.map encI).set u (T.lit (.int .i64 (v + 1))) = (Y (A k + (q + 1))).map encI := by rw [← hs, List.map_set]; rfl
        have hmin : min u C.length = u := by omega
        repeat (first | (refine nf1_sound rfl ?_; simp [go_sem, ↓iO, iO, tN, hg, hmin, hyl, hRl]; (repeat (refine anI ?_)); try (refine ⟨dcK, ?_⟩)) | ((first | refine itePos (by omega) ?_ | refine iteNeg (by omega) ?_); try simp [go_sem, ↓iO, iO, tN, hg, hmin, hyl, hRl]) | (refine ⟨dcK, ?_⟩))
        refine CallK.fn (cn) [(0, 507)] [] [] (by kernel_rfl) ?_ ?_ ?_ (Or.inl rfl) ?_ <;> simp [go_sem, ↓iO, iO, tN, hg, hmin, hRl, hyl]
        repeat (refine anI ?_)
        try (refine ⟨dcK, ?_⟩)
        repeat (first | (refine nf1_sound rfl ?_; simp [go_sem, ↓iO, iO, tN, hg, hmin, hs2, hRl, hyl]; (repeat (refine anI ?_)); try (refine ⟨dcK, ?_⟩)) | ((first | refine itePos (by omega) ?_ | refine iteNeg (by omega) ?_); try simp [go_sem, ↓iO, iO, tN, hg, hmin, hs2, hRl, hyl]) | (refine ⟨dcK, ?_⟩))
        rw [RoundQ_normal]; refine ⟨q + 1, [(511, some 511), (507, some 507), (514, some 514), (515, some 515)], ?_, ?_, ?_⟩
        · omega
        · omega
        simp [go_sem, ↓iO, iO, tN, hs2]
      obtain rfl : q = c := by omega
      rw [← zA] at hy hyl ⊢
      repeat (first | (refine nf1_sound rfl ?_; simp [go_sem, ↓iO, iO, tN]; (repeat (refine anI ?_)); try (refine ⟨dcK, ?_⟩)) | ((first | refine itePos (by omega) ?_ | refine iteNeg (by omega) ?_); try simp [go_sem, ↓iO, iO, tN]) | (refine ⟨dcK, ?_⟩))
      refine nf1_sound' _ _ _ ?_; simp only [nf1]
      refine CW.loop (ι := Nat) (fun i => ⟨[(11, .own 511), (12, .pt 507 [] 0), (14, .pt 514 [] 0), (15, .pt 515 [] 0), (55, .t (encPs m)), (56, .t (.int m.length)), (57, .t (.int k)), (76, .t (.int r.length)), (77, .t (.int i))], [(511, .rows 43 1 (W k i) []), (507, tblB r.length R (Y (A (k + 1)))), (514, .box 73 (.t (encP (p1, (q : Int))))), (515, .box 219 (.t (.agg ((Y (A k)).map encI))))]⟩)
        (fun i => i ≤ r.length) (fun i => r.length - i) 0 [(511, some 511), (507, some 507), (514, some 514), (515, some 515)] (by omega) ?_ ?_
      · simp [go_sem, ↓iO, iO, tN, hwl]
      intro i hi
      have hwl := wl k i
      by_cases hb3 : i < r.length
      · have hwg := wg k i hb3
        have hws := ws k i hb3
        rw [zZ i] at hws
        have hg1 := get_rt (r := Y (A (k + 1))) (i := i) (by omega)
        have hg2 := get_rt (r := Y (A k)) (i := i) (by rw [hyA.c]; omega)
        have hb4 := hy.cr _ (mem_get hg1)
        have hb5 := hyA.cr _ (mem_get hg2)
        rw [← pad_rt (R := Y (A (k + 1))) hb3 (yc _), ← pad_rt (R := Y (A k)) hb3 (yc _)] at hws
        obtain ⟨v1, hv1⟩ : ∃ v, rt (Y (A (k + 1))) i = v := ⟨_, rfl⟩
        obtain ⟨v2, hv2⟩ : ∃ v, rt (Y (A k)) i = v := ⟨_, rfl⟩
        rw [hv1] at hg1 hb4 hws
        rw [hv2] at hg2 hb5 hws
        have hylA := hyA.c
        have hzl : (Z k i).length ≤ 400 := by rw [zc, strm_len, List.length_take]; omega
        obtain ⟨O, hO⟩ : ∃ O, Z k i = O := ⟨_, rfl⟩
        rw [hO] at hwg hws hzl
        obtain ⟨C1, hC1⟩ : ∃ C, Y (A (k + 1)) = C := ⟨_, rfl⟩
        obtain ⟨C2, hC2⟩ : ∃ C, Y (A k) = C := ⟨_, rfl⟩
        rw [hC1] at hg1 hyl ⊢
        rw [hC2] at hg2 hylA ⊢
        obtain ⟨X1, hX1⟩ : ∃ X, W k i = X := ⟨_, rfl⟩
        rw [hX1] at hwl hwg hws ⊢
        have hm1 : min i C1.length = i := by omega
        have hm2 : min i C2.length = i := by omega
        iterate 4 (refine nf1_sound rfl ?_; simp [go_sem, ↓iO, iO, tN]; (repeat (refine anI ?_)); try (refine ⟨dcK, ?_⟩))
        refine CW.openRow 511 i 555 (us := X1) (ex := []) (u := .ow 73 2 (O.map encP)) (b := .list 73 2 (O.map encP)) (by rfl) hwg (by rfl) (by rfl) (by kernel_rfl) (by omega) ?_
        simp [go_sem, ↓iO, iO, tN]
        iterate 1 (refine nf1_sound rfl ?_; simp [go_sem, ↓iO, iO, tN, hg1, hg2, hm1, hm2, hylA, hyl, hwl, hwg]; (repeat (refine anI ?_)); try (refine ⟨dcK, ?_⟩))
        refine CW.closeRow 511 i 198 (.ow 73 2 (O.map encP ++ [T.agg [T.int p1, T.lit (.int .i64 (v1 - v2))]])) (us := X1) (ex := [(i, .own 198)]) (by rfl) (by rfl) (by simp [go_sem]) (by rfl) ?_
        have hws2 : X1.set i (.ow 73 2 (O.map encP ++ [T.agg [T.int p1, T.lit (.int .i64 (v1 - v2))]])) = W k (i + 1) := by
          rw [← hws, List.map_append]; rfl
        simp [go_sem, ↓iO, iO, tN, hws2]
        repeat (first | (refine nf1_sound rfl ?_; simp [go_sem, ↓iO, iO, tN]; (repeat (refine anI ?_)); try (refine ⟨dcK, ?_⟩)) | ((first | refine itePos (by omega) ?_ | refine iteNeg (by omega) ?_); try simp [go_sem, ↓iO, iO, tN]) | (refine ⟨dcK, ?_⟩))
        rw [RoundQ_normal]; refine ⟨i + 1, [(511, some 511), (507, some 507), (514, some 514), (515, some 515)], ?_, ?_, ?_⟩
        · omega
        · omega
        simp [go_sem, ↓iO, iO, tN]
      obtain rfl : i = r.length := by omega
      rw [wn k]
      repeat (first | (refine nf1_sound rfl ?_; simp [go_sem, ↓iO, iO, tN]; (repeat (refine anI ?_)); try (refine ⟨dcK, ?_⟩)) | ((first | refine itePos (by omega) ?_ | refine iteNeg (by omega) ?_); try simp [go_sem, ↓iO, iO, tN]) | (refine ⟨dcK, ?_⟩))
      rw [RoundQ_normal]; refine ⟨k + 1, [(511, some 511), (507, some 507)], ?_, ?_, ?_⟩
      · omega
      · omega
      simp [go_sem, ↓iO, iO, tN]
    · obtain rfl : k = m.length := by omega
      obtain ⟨W2, wl2, wg2, ws2, wn2, _, wt2, wf2⟩ := rows_ex 73 r.length (fun k i => if k = 0 then Z m.length i else Pc.join (Z m.length i))
      have hW2 : W m.length 0 = W2 0 0 := by rw [wf, wf2]; simp
      have hfin : (W2 1 0).map U.toT = (dealt r m).map encPs := by
        rw [wt2, dealt, List.map_map]
        apply List.map_congr_left
        intro q _
        show encPs (if (1 : Nat) = 0 then _ else _) = _
        rw [if_neg (by omega), zc, List.take_length]; rfl
      have hPr : ∀ i, Pc.Proper (Z m.length i) := fun i => by
        rw [zc, List.take_length]
        exact ⟨by rw [strm_len]; omega, strm_each r i m 0 hmall⟩
      rw [hW2]
      have hwl0 := wl2 0 0
      clear zs wf wf2 ws wg wl yc ys yk
      repeat (first | (refine nf1_sound rfl ?_; simp [go_sem, ↓iO, iO, tN]; (repeat (refine anI ?_)); try (refine ⟨dcK, ?_⟩)) | ((first | refine itePos (by omega) ?_ | refine iteNeg (by omega) ?_); try simp [go_sem, ↓iO, iO, tN]) | (refine ⟨dcK, ?_⟩))
      refine nf1_sound' _ _ _ ?_; simp only [nf1]
      refine CW.loop (ι := Nat) (fun i => ⟨[(11, .own 511), (103, .t (.int r.length)), (104, .t (.int i))], [(511, .rows 43 1 (W2 0 i) [])]⟩) (fun i => i ≤ r.length) (fun i => r.length - i) 0 [(511, some 511)] (by omega) ?_ ?_
      · simp [go_sem, ↓iO, iO, tN, hwl0]
      intro i hi
      have hwl := wl2 0 i
      by_cases hb3 : i < r.length
      · have hwg := wg2 0 i hb3
        have hws := ws2 0 i hb3
        have hp := hPr i
        rw [if_pos rfl] at hwg
        rw [if_neg (by omega)] at hws
        obtain ⟨O, hO⟩ : ∃ O, Z m.length i = O := ⟨_, rfl⟩
        rw [hO] at hwg hws hp
        have cm2 := merge_fn O (by have := hp.1; omega)
        rw [merge_good hp] at cm2
        obtain ⟨O2, hO2⟩ : ∃ O2, Pc.join O = O2 := ⟨_, rfl⟩
        rw [hO2] at hws cm2
        obtain ⟨X1, hX1⟩ : ∃ X, W2 0 i = X := ⟨_, rfl⟩
        rw [hX1] at hwl hwg hws ⊢
        iterate 4 (refine nf1_sound rfl ?_; simp [go_sem, ↓iO, iO, tN]; (repeat (refine anI ?_)); try (refine ⟨dcK, ?_⟩))
        refine CW.openRow 511 i 555 (us := X1) (ex := []) (u := .ow 73 2 (O.map encP)) (b := .list 73 2 (O.map encP)) (by rfl) hwg (by rfl) (by rfl) (by kernel_rfl) (by omega) ?_
        simp [go_sem, ↓iO, iO, tN]
        iterate 1 (refine nf1_sound rfl ?_; simp [go_sem, ↓iO, iO, tN, hwl, hwg]; (repeat (refine anI ?_)); try (refine ⟨dcK, ?_⟩))
        refine CallK.fn (cm2) [(1000, 602)] [] [555] (by kernel_rfl) ?_ ?_ ?_ (Or.inl rfl) ?_ <;> simp [go_sem, ↓iO, iO, tN, hwl, hwg]
        repeat (refine anI ?_)
        try (refine ⟨dcK, ?_⟩)
        refine CW.closeRow 511 i 602 (.ow 73 2 (O2.map encP)) (us := X1) (ex := [(i, .own 602)]) (by rfl) (by rfl) (by simp [go_sem]) (by rfl) ?_
        simp [go_sem, ↓iO, iO, tN, hws]
        repeat (first | (refine nf1_sound rfl ?_; simp [go_sem, ↓iO, iO, tN]; (repeat (refine anI ?_)); try (refine ⟨dcK, ?_⟩)) | ((first | refine itePos (by omega) ?_ | refine iteNeg (by omega) ?_); try simp [go_sem, ↓iO, iO, tN]) | (refine ⟨dcK, ?_⟩))
        rw [RoundQ_normal]; refine ⟨i + 1, [(511, some 511)], ?_, ?_, ?_⟩
        · omega
        · omega
        simp [go_sem, ↓iO, iO, tN]
      obtain rfl : i = r.length := by omega
      rw [wn2 0]
      repeat (first | (refine nf1_sound rfl ?_; simp [go_sem, ↓iO, iO, tN]; (repeat (refine anI ?_)); try (refine ⟨dcK, ?_⟩)) | ((first | refine itePos (by omega) ?_ | refine iteNeg (by omega) ?_); try simp [go_sem, ↓iO, iO, tN]) | (refine ⟨dcK, ?_⟩))
      first | rw [RetQ_ret] | rw [RetQ_normal]
      refine ⟨[], ?_⟩
      simp [go_sem, ↓iO, iO, tN, hfin]
  · rw [if_pos h0] at hx
    obtain ⟨rfl, rfl⟩ : x = [] ∧ e = chk r (Pc.vol m) := by simp only [Prod.mk.injEq] at hx; exact ⟨hx.1.symm, hx.2.symm⟩
    obtain ⟨e, he⟩ : ∃ e, chk r (Pc.vol m) = e := ⟨_, rfl⟩
    have c0 := c1 e he
    rw [he] at h0 ⊢
    obtain ⟨V, hVV⟩ : ∃ V, Pc.vol m = V := ⟨_, rfl⟩
    refine FnOk.intro fact_mixed Tryz.func119 rfl Tryz.ntmps119 (by rfl) (by simp) ?_
    repeat (first | (refine nf1_sound rfl ?_; simp [go_sem, ↓iO, iO, tN]; (repeat (refine anI ?_)); try (refine ⟨dcK, ?_⟩)) | ((first | refine itePos (by omega) ?_ | refine iteNeg (by omega) ?_); try simp [go_sem, ↓iO, iO, tN]) | (refine ⟨dcK, ?_⟩))
    refine CallK.fn (cm) [(1000, 601)] [] [] (by kernel_rfl) ?_ ?_ ?_ (Or.inl rfl) ?_ <;> simp [go_sem, ↓iO, iO, tN]
    repeat (refine anI ?_)
    try (refine ⟨dcK, ?_⟩)
    refine CW.cut (ι := Unit) (fun _ => ⟨[(0, .t (encPs l)), (1, .t (encIs r)), (6, .t (encPs m))], []⟩) (fun _ => True) ?_ ?_
    · by_cases h1 : m.length = 0
      · have h3 := hmty h1
        repeat (first | (refine nf1_sound rfl ?_; simp [go_sem, ↓iO, iO, tN, h1, h3]; (repeat (refine anI ?_)); try (refine ⟨dcK, ?_⟩)) | ((first | refine itePos (by omega) ?_ | refine iteNeg (by omega) ?_); try simp [go_sem, ↓iO, iO, tN, h1, h3]) | (refine ⟨dcK, ?_⟩))
        rw [CutQ_normal]; refine ⟨(), [], ?_, ?_⟩
        · trivial
        simp [go_sem, ↓iO, iO, tN]
      · repeat (first | (refine nf1_sound rfl ?_; simp [go_sem, ↓iO, iO, tN, h1, h200]; (repeat (refine anI ?_)); try (refine ⟨dcK, ?_⟩)) | ((first | refine itePos (by omega) ?_ | refine iteNeg (by omega) ?_); try simp [go_sem, ↓iO, iO, tN, h1, h200]) | (refine ⟨dcK, ?_⟩))
        rw [CutQ_normal]; refine ⟨(), [], ?_, ?_⟩
        · trivial
        simp [go_sem, ↓iO, iO, tN]
    rintro _ _
    repeat (first | (refine nf1_sound rfl ?_; simp [go_sem, ↓iO, iO, tN]; (repeat (refine anI ?_)); try (refine ⟨dcK, ?_⟩)) | ((first | refine itePos (by omega) ?_ | refine iteNeg (by omega) ?_); try simp [go_sem, ↓iO, iO, tN]) | (refine ⟨dcK, ?_⟩))
    refine nf1_sound' _ _ _ ?_; simp only [nf1]
    refine CW.loop (ι := Nat) (fun k => ⟨[(0, .t (encPs l)), (1, .t (encIs r)), (6, .t (encPs m)), (7, .t (.int (Pc.vol (m.take k)))), (33, .t (encPs m)), (34, .t (.int m.length)), (35, .t (.int k))], []⟩) (fun k => k ≤ m.length) (fun k => m.length - k) 0 [] (by omega) ?_ ?_
    · simp [go_sem, ↓iO, iO, tN, Pc.vol]
    intro k hk
    have hvk := hvp k
    by_cases hb : k < m.length
    · obtain ⟨p, hp⟩ := has_get hb
      have hvs := Pc.vol_snoc hp
      have hvk2 := hvp (k + 1)
      obtain ⟨v, hv⟩ : ∃ v, Pc.vol (m.take k) = v := ⟨_, rfl⟩
      rw [hv] at hvs hvk ⊢
      rw [hvs] at hvk2
      repeat (first | (refine nf1_sound rfl ?_; simp [go_sem, ↓iO, iO, tN, hp]; (repeat (refine anI ?_)); try (refine ⟨dcK, ?_⟩)) | ((first | refine itePos (by omega) ?_ | refine iteNeg (by omega) ?_); try simp [go_sem, ↓iO, iO, tN, hp]) | (refine ⟨dcK, ?_⟩))
      rw [RoundQ_normal]; refine ⟨k + 1, [], ?_, ?_, ?_⟩
      · omega
      · omega
      simp [go_sem, ↓iO, iO, tN, hvs]
    obtain rfl : k = m.length := by omega
    rw [List.take_length]
    rw [hVV] at c0 ⊢
    repeat (first | (refine nf1_sound rfl ?_; simp [go_sem, ↓iO, iO, tN]; (repeat (refine anI ?_)); try (refine ⟨dcK, ?_⟩)) | ((first | refine itePos (by omega) ?_ | refine iteNeg (by omega) ?_); try simp [go_sem, ↓iO, iO, tN]) | (refine ⟨dcK, ?_⟩))
    refine CallK.fn (c0) [] [] [] (by kernel_rfl) ?_ ?_ ?_ (Or.inl rfl) ?_ <;> simp [go_sem, ↓iO, iO, tN, h0]
    repeat (refine anI ?_)
    try (refine ⟨dcK, ?_⟩)
    repeat (first | (refine nf1_sound rfl ?_; simp [go_sem, ↓iO, iO, tN, h0]; (repeat (refine anI ?_)); try (refine ⟨dcK, ?_⟩)) | ((first | refine itePos (by omega) ?_ | refine iteNeg (by omega) ?_); try simp [go_sem, ↓iO, iO, tN, h0]) | (refine ⟨dcK, ?_⟩))
    first | rw [RetQ_ret] | rw [RetQ_normal]
    refine ⟨[], ?_⟩
    simp [go_sem, ↓iO, iO, tN]
end Go.Proofs.YtcehllkmfkoncaaGreat
/- Rounds of a range over a function, step by step. No condition. -/
namespace Go.Proofs.YtcehllkmfkoncaaGreat.Sy
open Go.RowKit
set_option linter.unusedVariables false
set_option linter.unusedSimpArgs false
/-- nf, not opened. -/
def NfK (N : Nat) (P : Program) (c : Code) (Q : Exit → St → Prop) (σ : St) : Prop := nf N P [] c Q σ
def ThenK (N : Nat) (P : Program) (body : Code) (post : List (Nat × Blk)) (e : Exit) (τ : St) : Prop := match e with
  | .normal => NfK N P body (EndQ post) τ
  | _ => False
@[go_sem] theorem ThenK_normal (N : Nat) (P : Program) (body : Code) (post : List (Nat × Blk)) (τ : St) : ThenK N P body post .normal τ = NfK N P body (EndQ post) τ := rfl
@[go_sem] def nfS (N : Nat) (P : Program) : Code → (Exit → St → Prop) → St → Prop
  | .skip, Q, σ => Q .normal σ
  | .region _ ops false, Q, σ => opsK P ops.toList (PlainK (Q .normal)) ops.toList σ []
  | .region _ ops true, Q, σ => opsK P ops.toList (DrawK ops.toList σ (Q .normal)) ops.toList σ []
  | .seq a b, Q, σ => nfS N P a (SeqQ (NfK N P b Q) Q) σ
  | .cond c x y, Q, σ => match rdS (lkS σ.g) c with
    | .t (.lit (.bool v)) => if v = true then NfK N P x Q σ else NfK N P y Q σ
    | _ => False
  | .block id c, Q, σ => nfS N P c (BlockQ id Q) σ
  | .exit id, Q, σ => Q (.exit id) σ
  | .ret, Q, σ => Q .ret σ
  | c, Q, σ => False
theorem nfS_sound {N : Nat} {P : Program} : ∀ (c : Code) (Q : Exit → St → Prop) (σ : St), nfS N P c Q σ → nf N P [] c Q σ
  | .skip, Q, σ, h => h
  | .region id ops false, Q, σ, h => h
  | .region id ops true, Q, σ, h => h
  | .seq x y, Q, σ, h => by
    have hst : stops [] x = false := by unfold stops; split <;> simp
    simp only [nf, hst]
    exact nfS_sound x _ σ h
  | .cond c x y, Q, σ, h => h
  | .block id c, Q, σ, h => nfS_sound c _ σ h
  | .exit id, Q, σ, h => h
  | .ret, Q, σ, h => h
  | .loop _, Q, σ, h => h.elim
  | .scope _, Q, σ, h => h.elim
  | .rangeFunc _ _ _ _, Q, σ, h => h.elim
  | .label _, Q, σ, h => h.elim
  | .goto _, Q, σ, h => h.elim
  | .refuse _, Q, σ, h => h.elim
theorem nfK1 {N : Nat} {P : Program} {c : Code} {Q : Exit → St → Prop} {σ : St} (h : nfS N P c Q σ) : NfK N P c Q σ := nfS_sound c Q σ h
theorem nfK0 {N : Nat} {P : Program} {a b : Code} {post : List (Nat × Blk)} {σ : St} (h : nfS N P a (ThenK N P b post) σ) : nf N P [] a (ThenB N P b post) σ := nfS_sound a _ σ h
attribute [irreducible] NfK
end Go.Proofs.YtcehllkmfkoncaaGreat.Sy
