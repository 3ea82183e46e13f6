/- Several texts of this proof, one behind the other. No condition. -/
import Derived.Test.YtdjmklobfjigoaaGreatDoorTTopsB11
import Derived.Test.YtdjmklobfjigoaaGreatDoorTTopsB10
import Derived.Test.YtdjmklobfjigoaaGreatDoorTTopsB12
set_option maxRecDepth 100000
set_option maxHeartbeats 16000000
set_option linter.unusedVariables false
set_option linter.unusedSimpArgs false
namespace Go.Proofs.YtdjmklobfjigoaaGreatDoor
open Go.RowKit Sy
open Go.IntWalk renaming iteOmega → iO, toNatUp → tN
theorem unlit_fn (p : Int × Int) : FnOk Tryz.prog 30 [.t (encP p)] [] (.t (.bool (!decide (Lit p)))) [] := by
  refine FnOk.intro fact_mixed Tryz.func30 rfl Tryz.ntmps30 (by rfl) (by simp) ?_
  repeat (first | (refine nf1_sound rfl ?_; simp [go_sem, ↓iO, iO, tN]) | refine anI ?_ | refine ⟨dcK, ?_⟩ | ((first | refine iP ?_ | refine iN ?_); try simp [go_sem, ↓iO, iO, tN]))
  refine CallK.fn (litre_fn p) [] [] [] (by kernel_rfl) ?_ ?_ ?_ (Or.inl rfl) ?_ <;> simp [go_sem, ↓iO, iO, tN]
  repeat (refine anI ?_)
  try (refine ⟨dcK, ?_⟩)
  repeat (first | (refine nf1_sound rfl ?_; simp [go_sem, ↓iO, iO, tN]) | refine anI ?_ | refine ⟨dcK, ?_⟩ | ((first | refine iP ?_ | refine iN ?_); try simp [go_sem, ↓iO, iO, tN]))
  first | rw [RetQ_ret] | rw [RetQ_normal]
  refine ⟨[], ?_⟩
  simp [go_sem, ↓iO, iO, tN]
theorem first_bad : ∀ {l : List (Int × Int)}, ¬ (∀ p ∈ l, Lit p) → ∃ (j : Nat) (p : Int × Int), l[j]? = some p ∧ ¬ Lit p ∧ ∀ (i : Nat) (q : Int × Int), i < j → l[i]? = some q → Lit q
  | [], h => absurd (by simp) h
  | p :: r, h => by
    by_cases hp : Lit p
    · obtain ⟨j, q, h1, h2, h3⟩ := first_bad (l := r) (fun hr => h (by
        intro q hq
        rcases List.mem_cons.1 hq with rfl | hq
        · exact hp
        · exact hr q hq))
      refine ⟨j + 1, q, by simpa using h1, h2, ?_⟩
      intro i x hi hx
      cases i with
      | zero => simp at hx; subst hx; exact hp
      | succ i => exact h3 i x (by omega) (by simpa using hx)
    · exact ⟨0, p, rfl, hp, fun i q hi => by omega⟩
theorem index_all (l : List (Int × Int)) (hlen : l.length ≤ 1000000) (hall : ∀ p ∈ l, Lit p) : FnOk Tryz.prog 52 [.t (encPs l), .fn 30 []] [] (.t (.int (-1))) [] := by
  refine FnOk.intro fact_mixed Tryz.func52 rfl Tryz.ntmps52 (by rfl) (by simp) ?_
  repeat (first | (refine nf1_sound rfl ?_; simp [go_sem, ↓iO, iO, tN]) | refine anI ?_ | refine ⟨dcK, ?_⟩ | ((first | refine iP ?_ | refine iN ?_); try simp [go_sem, ↓iO, iO, tN]))
  refine nf1_sound' _ _ _ ?_; simp only [nf1]
  refine CW.loop (ι := Nat) (fun k => ⟨[(0, .t (encPs l)), (1, .fn 30 []), (7, .t (.int l.length)), (8, .t (.int k))], []⟩) (fun k => k ≤ l.length) (fun k => l.length - k) 0 [] (by omega) ?_ ?_
  · simp [go_sem, ↓iO, iO, tN]
  intro k hk
  by_cases hb : k < l.length
  · obtain ⟨p, hp⟩ := has_get hb
    have hl := hall p (mem_get hp)
    have hu := unlit_fn p
    rw [decide_eq_true hl] at hu
    repeat (first | (refine nf1_sound rfl ?_; simp [go_sem, ↓iO, iO, tN, hp]) | refine anI ?_ | refine ⟨dcK, ?_⟩ | ((first | refine iP ?_ | refine iN ?_); try simp [go_sem, ↓iO, iO, tN, hp]))
    refine CallK.fn (hu) [] [] [] (by kernel_rfl) ?_ ?_ ?_ (Or.inl rfl) ?_ <;> simp [go_sem, ↓iO, iO, tN]
    repeat (refine anI ?_)
    try (refine ⟨dcK, ?_⟩)
    repeat (first | (refine nf1_sound rfl ?_; simp [go_sem, ↓iO, iO, tN]) | refine anI ?_ | refine ⟨dcK, ?_⟩ | ((first | refine iP ?_ | refine iN ?_); try simp [go_sem, ↓iO, iO, tN]))
    rw [RoundQ_normal]; refine ⟨k + 1, [], ?_, ?_, ?_⟩
    · omega
    · omega
    simp [go_sem, ↓iO, iO, tN]
  · obtain rfl : k = l.length := by omega
    repeat (first | (refine nf1_sound rfl ?_; simp [go_sem, ↓iO, iO, tN]) | refine anI ?_ | refine ⟨dcK, ?_⟩ | ((first | refine iP ?_ | refine iN ?_); try simp [go_sem, ↓iO, iO, tN]))
    first | rw [RetQ_ret] | rw [RetQ_normal]
    refine ⟨[], ?_⟩
    simp [go_sem, ↓iO, iO, tN]
theorem index_bad (l : List (Int × Int)) (hlen : l.length ≤ 1000000) {j : Nat} {p : Int × Int} (hj : l[j]? = some p) (hn : ¬ Lit p) (hf : ∀ (i : Nat) (q : Int × Int), i < j → l[i]? = some q → Lit q) : FnOk Tryz.prog 52 [.t (encPs l), .fn 30 []] [] (.t (.int j)) [] := by
  have hjl : j < l.length := (List.getElem?_eq_some_iff.1 hj).1
  refine FnOk.intro fact_mixed Tryz.func52 rfl Tryz.ntmps52 (by rfl) (by simp) ?_
  repeat (first | (refine nf1_sound rfl ?_; simp [go_sem, ↓iO, iO, tN]) | refine anI ?_ | refine ⟨dcK, ?_⟩ | ((first | refine iP ?_ | refine iN ?_); try simp [go_sem, ↓iO, iO, tN]))
  refine nf1_sound' _ _ _ ?_; simp only [nf1]
  refine CW.loop (ι := Nat) (fun k => ⟨[(0, .t (encPs l)), (1, .fn 30 []), (7, .t (.int l.length)), (8, .t (.int k))], []⟩) (fun k => k ≤ j) (fun k => l.length - k) 0 [] (by omega) ?_ ?_
  · simp [go_sem, ↓iO, iO, tN]
  intro k hk
  by_cases hb : k < j
  · obtain ⟨q, hq⟩ := has_get (show k < l.length by omega)
    have hl := hf k q hb hq
    have hu := unlit_fn q
    rw [decide_eq_true hl] at hu
    repeat (first | (refine nf1_sound rfl ?_; simp [go_sem, ↓iO, iO, tN, hq]) | refine anI ?_ | refine ⟨dcK, ?_⟩ | ((first | refine iP ?_ | refine iN ?_); try simp [go_sem, ↓iO, iO, tN, hq]))
    refine CallK.fn (hu) [] [] [] (by kernel_rfl) ?_ ?_ ?_ (Or.inl rfl) ?_ <;> simp [go_sem, ↓iO, iO, tN]
    repeat (refine anI ?_)
    try (refine ⟨dcK, ?_⟩)
    repeat (first | (refine nf1_sound rfl ?_; simp [go_sem, ↓iO, iO, tN]) | refine anI ?_ | refine ⟨dcK, ?_⟩ | ((first | refine iP ?_ | refine iN ?_); try simp [go_sem, ↓iO, iO, tN]))
    rw [RoundQ_normal]; refine ⟨k + 1, [], ?_, ?_, ?_⟩
    · omega
    · omega
    simp [go_sem, ↓iO, iO, tN]
  · obtain rfl : k = j := by omega
    have hu := unlit_fn p
    rw [decide_eq_false hn] at hu
    repeat (first | (refine nf1_sound rfl ?_; simp [go_sem, ↓iO, iO, tN, hj]) | refine anI ?_ | refine ⟨dcK, ?_⟩ | ((first | refine iP ?_ | refine iN ?_); try simp [go_sem, ↓iO, iO, tN, hj]))
    refine CallK.fn (hu) [] [] [] (by kernel_rfl) ?_ ?_ ?_ (Or.inl rfl) ?_ <;> simp [go_sem, ↓iO, iO, tN]
    repeat (refine anI ?_)
    try (refine ⟨dcK, ?_⟩)
    repeat (first | (refine nf1_sound rfl ?_; simp [go_sem, ↓iO, iO, tN]) | refine anI ?_ | refine ⟨dcK, ?_⟩ | ((first | refine iP ?_ | refine iN ?_); try simp [go_sem, ↓iO, iO, tN]))
    first | rw [RetQ_ret] | rw [RetQ_normal]
    refine ⟨[], ?_⟩
    simp [go_sem, ↓iO, iO, tN]
theorem contains_fn (l : List (Int × Int)) (hlen : l.length ≤ 1000000) (b : Bool) (h : b = true ↔ ¬ ∀ p ∈ l, Lit p) : FnOk Tryz.prog 29 [.t (encPs l), .fn 30 []] [] (.t (.bool b)) [] := by
  by_cases hall : ∀ p ∈ l, Lit p
  · obtain rfl : b = false := by
      cases b with
      | false => rfl
      | true => exact absurd hall (h.1 rfl)
    refine FnOk.intro fact_mixed Tryz.func29 rfl Tryz.ntmps29 (by rfl) (by simp) ?_
    repeat (first | (refine nf1_sound rfl ?_; simp [go_sem, ↓iO, iO, tN]) | refine anI ?_ | refine ⟨dcK, ?_⟩ | ((first | refine iP ?_ | refine iN ?_); try simp [go_sem, ↓iO, iO, tN]))
    refine CallK.fn (index_all l hlen hall) [] [] [] (by kernel_rfl) ?_ ?_ ?_ (Or.inl rfl) ?_ <;> simp [go_sem, ↓iO, iO, tN]
    repeat (refine anI ?_)
    try (refine ⟨dcK, ?_⟩)
    repeat (first | (refine nf1_sound rfl ?_; simp [go_sem, ↓iO, iO, tN]) | refine anI ?_ | refine ⟨dcK, ?_⟩ | ((first | refine iP ?_ | refine iN ?_); try simp [go_sem, ↓iO, iO, tN]))
    first | rw [RetQ_ret] | rw [RetQ_normal]
    refine ⟨[], ?_⟩
    simp [go_sem, ↓iO, iO, tN]
  · obtain rfl := h.2 hall
    obtain ⟨j, p, h1, h2, h3⟩ := first_bad hall
    have hjl : j < l.length := (List.getElem?_eq_some_iff.1 h1).1
    refine FnOk.intro fact_mixed Tryz.func29 rfl Tryz.ntmps29 (by rfl) (by simp) ?_
    repeat (first | (refine nf1_sound rfl ?_; simp [go_sem, ↓iO, iO, tN]) | refine anI ?_ | refine ⟨dcK, ?_⟩ | ((first | refine iP ?_ | refine iN ?_); try simp [go_sem, ↓iO, iO, tN]))
    refine CallK.fn (index_bad l hlen h1 h2 h3) [] [] [] (by kernel_rfl) ?_ ?_ ?_ (Or.inl rfl) ?_ <;> simp [go_sem, ↓iO, iO, tN]
    repeat (refine anI ?_)
    try (refine ⟨dcK, ?_⟩)
    repeat (first | (refine nf1_sound rfl ?_; simp [go_sem, ↓iO, iO, tN]) | refine anI ?_ | refine ⟨dcK, ?_⟩ | ((first | refine iP ?_ | refine iN ?_); try simp [go_sem, ↓iO, iO, tN]))
    first | rw [RetQ_ret] | rw [RetQ_normal]
    refine ⟨[], ?_⟩
    simp [go_sem, ↓iO, iO, tN]
theorem proper_sane {l : List (Int × Int)} (h : Pc.Proper l) : Pc.Sane l := ⟨by have := h.1; omega, fun p hp => (h.2 p hp).2⟩
theorem merge_good {l : List (Int × Int)} (h : Pc.Proper l) : Pc.merge l = Pc.join l := by unfold Pc.merge; rw [if_pos h]
theorem merge_bad {l : List (Int × Int)} (h : ¬ Pc.Proper l) : Pc.merge l = [] := by unfold Pc.merge; rw [if_neg h]
theorem merge_fn (l : List (Int × Int)) (hlen : l.length ≤ 1000000) : FnOk Tryz.prog 11 [.t (encPs l)] [] (.own 1000) [(1000, blkP (Pc.merge l))] := by
  by_cases hL : l.length ≤ 400
  · by_cases hall : ∀ p ∈ l, Lit p
    · have hp : Pc.Proper l := ⟨hL, hall⟩
      rw [merge_good hp]
      refine FnOk.intro fact_mixed Tryz.func11 rfl Tryz.ntmps11 (by rfl) (by simp) ?_
      repeat (first | (refine nf1_sound rfl ?_; simp [go_sem, ↓iO, iO, tN]) | refine anI ?_ | refine ⟨dcK, ?_⟩ | ((first | refine iP ?_ | refine iN ?_); try simp [go_sem, ↓iO, iO, tN]))
      refine CallK.fn (contains_fn l hlen false ⟨fun h => (by cases h), fun h => absurd hall h⟩) [] [] [] (by kernel_rfl) ?_ ?_ ?_ (Or.inl rfl) ?_ <;> simp [go_sem, ↓iO, iO, tN]
      repeat (refine anI ?_)
      try (refine ⟨dcK, ?_⟩)
      repeat (first | (refine nf1_sound rfl ?_; simp [go_sem, ↓iO, iO, tN]) | refine anI ?_ | refine ⟨dcK, ?_⟩ | ((first | refine iP ?_ | refine iN ?_); try simp [go_sem, ↓iO, iO, tN]))
      refine CallK.fn (merged_fn l (proper_sane hp)) [(1000, 601)] [] [] (by kernel_rfl) ?_ ?_ ?_ (Or.inl rfl) ?_ <;> simp [go_sem, ↓iO, iO, tN]
      repeat (refine anI ?_)
      try (refine ⟨dcK, ?_⟩)
      repeat (first | (refine nf1_sound rfl ?_; simp [go_sem, ↓iO, iO, tN]) | refine anI ?_ | refine ⟨dcK, ?_⟩ | ((first | refine iP ?_ | refine iN ?_); try simp [go_sem, ↓iO, iO, tN]))
      first | rw [RetQ_ret] | rw [RetQ_normal]
      refine ⟨[(1000, some 601)], ?_⟩
      simp [go_sem, ↓iO, iO, tN]
    · rw [merge_bad (fun h => hall h.2)]
      refine FnOk.intro fact_mixed Tryz.func11 rfl Tryz.ntmps11 (by rfl) (by simp) ?_
      repeat (first | (refine nf1_sound rfl ?_; simp [go_sem, ↓iO, iO, tN]) | refine anI ?_ | refine ⟨dcK, ?_⟩ | ((first | refine iP ?_ | refine iN ?_); try simp [go_sem, ↓iO, iO, tN]))
      refine CallK.fn (contains_fn l hlen true ⟨fun _ => hall, fun _ => rfl⟩) [] [] [] (by kernel_rfl) ?_ ?_ ?_ (Or.inl rfl) ?_ <;> simp [go_sem, ↓iO, iO, tN]
      repeat (refine anI ?_)
      try (refine ⟨dcK, ?_⟩)
      repeat (first | (refine nf1_sound rfl ?_; simp [go_sem, ↓iO, iO, tN]) | refine anI ?_ | refine ⟨dcK, ?_⟩ | ((first | refine iP ?_ | refine iN ?_); try simp [go_sem, ↓iO, iO, tN]))
      first | rw [RetQ_ret] | rw [RetQ_normal]
      refine ⟨[(1000, none)], ?_⟩
      simp [go_sem, ↓iO, iO, tN]
  · rw [merge_bad (fun h => hL h.1)]
    refine FnOk.intro fact_mixed Tryz.func11 rfl Tryz.ntmps11 (by rfl) (by simp) ?_
    repeat (first | (refine nf1_sound rfl ?_; simp [go_sem, ↓iO, iO, tN]) | refine anI ?_ | refine ⟨dcK, ?_⟩ | ((first | refine iP ?_ | refine iN ?_); try simp [go_sem, ↓iO, iO, tN]))
    try rw [if_pos (by omega)]
    repeat (first | (refine nf1_sound rfl ?_; simp [go_sem, ↓iO, iO, tN]) | refine anI ?_ | refine ⟨dcK, ?_⟩ | ((first | refine iP ?_ | refine iN ?_); try simp [go_sem, ↓iO, iO, tN]))
    first | rw [RetQ_ret] | rw [RetQ_normal]
    refine ⟨[(1000, none)], ?_⟩
    simp [go_sem, ↓iO, iO, tN]
end Go.Proofs.YtdjmklobfjigoaaGreatDoor
namespace Go.Proofs.YtdjmklobfjigoaaGreatDoor
open Go.RowKit Sy Dl
open Go.IntWalk renaming iteOmega → iO, toNatUp → tN
theorem merge_small (l : List (Int × Int)) : (Pc.merge l).length ≤ 400 ∧ (∀ p ∈ Pc.merge l, 0 ≤ p.1 ∧ p.1 < 1000) ∧ ∀ p ∈ Pc.merge l, 0 ≤ p.2 := by
  by_cases h : Pc.Proper l
  · rw [merge_good h]
    have h1 := Pc.join_length l
    have h2 := Pc.join_canon (ps := l) (fun p hp => (h.2 p hp).2.1)
    refine ⟨by have := h.1; omega, ?_, fun p hp => by have := h2.pos p hp; omega⟩
    have key : ∀ (ps out : List (Int × Int)), (∀ p ∈ ps, 0 ≤ p.1 ∧ p.1 < 1000) → (∀ p ∈ out, 0 ≤ p.1 ∧ p.1 < 1000) → ∀ p ∈ ps.foldl Pc.jstep out, 0 ≤ p.1 ∧ p.1 < 1000 := by
      intro ps
      induction ps with
      | nil => intro out _ ho; exact ho
      | cons q r ih =>
        intro out hp ho
        refine ih (Pc.jstep out q) (fun x hx => hp x (by simp [hx])) ?_
        intro x hx
        unfold Pc.jstep at hx
        split at hx
        · exact ho x hx
        · split at hx
          · split at hx
            · rcases List.mem_append.1 hx with hx | hx
              · exact ho x ((List.dropLast_sublist _).subset hx)
              · simp only [List.mem_singleton] at hx; subst hx
                rename_i y hy e
                exact ho y (List.mem_of_getLast? hy)
            · rcases List.mem_append.1 hx with hx | hx
              · exact ho x hx
              · simp only [List.mem_singleton] at hx; subst hx; exact hp _ (by simp)
          · rcases List.mem_append.1 hx with hx | hx
            · exact ho x hx
            · simp only [List.mem_singleton] at hx; subst hx; exact hp _ (by simp)
    exact key l [] (fun p hp => (h.2 p hp).1) (by simp)
  · rw [merge_bad h]; simp
theorem vol_pre {m : List (Int × Int)} (h : ∀ p ∈ m, 0 ≤ p.2) (k : Nat) : 0 ≤ Pc.vol (m.take k) ∧ Pc.vol (m.take k) ≤ Pc.vol m := by
  have h1 : Pc.vol (m.take k) + Pc.vol (m.drop k) = Pc.vol m := by rw [← Pc.vol_append, List.take_append_drop]
  have h2 := Pc.litres_length (m.drop k) (fun p hp => h p (List.mem_of_mem_drop hp))
  have h3 := Pc.litres_length (m.take k) (fun p hp => h p (List.mem_of_mem_take hp))
  omega
theorem vol_elem {m : List (Int × Int)} (h : ∀ p ∈ m, 0 ≤ p.2) {k : Nat} {p : Int × Int} (hp : m[k]? = some p) : p.2 ≤ Pc.vol m := by
  have h1 := vol_pre h (k + 1)
  have h2 := vol_pre h k
  rw [Pc.vol_snoc hp] at h1
  omega
theorem merge_vol (l : List (Int × Int)) : Pc.vol (Pc.merge l) ≤ 400000000 := by
  by_cases h : Pc.Proper l
  · rw [merge_good h, Pc.join_vol (fun p hp => (h.2 p hp).2.1)]
    have := (Pc.vol_bound l (fun p hp => (h.2 p hp).2)).2
    have := h.1
    omega
  · rw [merge_bad h]; simp [Pc.vol]
theorem pad_rt {r : List Int} {R : List Int} {k i : Nat} (h : i < r.length) (hR : R = pad (cs r k)) : rt R i = rt (cs r k) i := by
  rw [hR, rt_pad (by rw [cs_len]; exact h)]
theorem deal_fn (l : List (Int × Int)) (r : List Int) (hll : l.length ≤ 1000000) (hl : r.length ≤ 9223372036854775807) (x : List (List (Int × Int))) (e : Int) (hx : dealV l r = (x, e)) :
    FnOk Tryz.prog 70 [.t (encPs l), .t (encIs r)] [] (.tup [.t (.sl 1 (x.map encPs)), .t (.int e)]) [] := by
  have cm := merge_fn l hll
  obtain ⟨h400, hm1, hm2⟩ := merge_small l
  have hV := merge_vol l
  unfold dealV at hx
  obtain ⟨m, hm⟩ : ∃ m, Pc.merge l = m := ⟨_, rfl⟩
  rw [hm] at cm h400 hm1 hm2 hV hx
  simp only at hx
  by_cases hbad : (m = [] ∧ l ≠ []) ∨ 200 < m.length
  · rw [if_pos hbad] at hx
    obtain ⟨rfl, rfl⟩ : x = [] ∧ e = 9 := by simp only [Prod.mk.injEq] at hx; exact ⟨hx.1.symm, hx.2.symm⟩
    by_cases h1 : m.length = 0
    · have h2 : 0 < l.length := by
        rcases hbad with ⟨_, hn⟩ | hn
        · exact List.length_pos_iff.2 hn
        · omega
      refine FnOk.intro fact_mixed Tryz.func70 rfl Tryz.ntmps70 (by rfl) (by simp) ?_
      repeat (first | (refine nf1_sound rfl ?_; simp [go_sem, ↓iO, iO, tN]) | refine anI ?_ | refine ⟨dcK, ?_⟩ | ((first | refine iP ?_ | refine iN ?_); try simp [go_sem, ↓iO, iO, tN]))
      refine CallK.fn (cm) [(1000, 601)] [] [] (by kernel_rfl) ?_ ?_ ?_ (Or.inl rfl) ?_ <;> simp [go_sem, ↓iO, iO, tN]
      repeat (refine anI ?_)
      try (refine ⟨dcK, ?_⟩)
      repeat (first | (refine nf1_sound rfl ?_; simp [go_sem, ↓iO, iO, tN, h1, h2]) | refine anI ?_ | refine ⟨dcK, ?_⟩ | ((first | refine iP ?_ | refine iN ?_); try simp [go_sem, ↓iO, iO, tN, h1, h2]))
      first | rw [RetQ_ret] | rw [RetQ_normal]
      refine ⟨[], ?_⟩
      simp [go_sem, ↓iO, iO, tN]
    · have h2 : 200 < m.length := by
        rcases hbad with ⟨hn, _⟩ | hn
        · rw [hn] at h1; simp at h1
        · exact hn
      refine FnOk.intro fact_mixed Tryz.func70 rfl Tryz.ntmps70 (by rfl) (by simp) ?_
      repeat (first | (refine nf1_sound rfl ?_; simp [go_sem, ↓iO, iO, tN]) | refine anI ?_ | refine ⟨dcK, ?_⟩ | ((first | refine iP ?_ | refine iN ?_); try simp [go_sem, ↓iO, iO, tN]))
      refine CallK.fn (cm) [(1000, 601)] [] [] (by kernel_rfl) ?_ ?_ ?_ (Or.inl rfl) ?_ <;> simp [go_sem, ↓iO, iO, tN]
      repeat (refine anI ?_)
      try (refine ⟨dcK, ?_⟩)
      repeat (first | (refine nf1_sound rfl ?_; simp [go_sem, ↓iO, iO, tN, h1, h2]) | refine anI ?_ | refine ⟨dcK, ?_⟩ | ((first | refine iP ?_ | refine iN ?_); try simp [go_sem, ↓iO, iO, tN, h1, h2]))
      first | rw [RetQ_ret] | rw [RetQ_normal]
      refine ⟨[], ?_⟩
      simp [go_sem, ↓iO, iO, tN]
  rw [if_neg hbad] at hx
  have h200 : ¬ 200 < m.length := fun h => hbad (.inr h)
  have hmty : m.length = 0 → l.length = 0 := fun h => by
    rcases Nat.eq_zero_or_pos l.length with h2 | h2
    · exact h2
    · exact (hbad (.inl ⟨List.length_eq_zero_iff.1 h, List.length_pos_iff.1 h2⟩)).elim
  have hvp := vol_pre hm2
  have c1 := fun (e : Int) (he : chk r (Pc.vol m) = e) => check_fn r (Pc.vol m) hl e he
  by_cases h0 : chk r (Pc.vol m) = 0
  · rw [if_neg (fun h => h h0)] at hx
    obtain ⟨rfl, rfl⟩ : x = dealt r m ∧ e = 0 := by simp only [Prod.mk.injEq] at hx; exact ⟨hx.1.symm, hx.2.symm⟩
    obtain ⟨h, hk0, hk1⟩ := chk_ok h0
    have hkt := h.tot_le
    have hlen := h.len
    have hmall : ∀ p ∈ m, (0 ≤ p.1 ∧ p.1 < 1000) ∧ 0 ≤ p.2 ∧ p.2 ≤ 1000000 := fun p hp => by
      obtain ⟨i, hi⟩ := List.getElem?_of_mem hp
      have := vol_elem hm2 hi
      exact ⟨hm1 p hp, hm2 p hp, by omega⟩
    obtain ⟨R, Y, j, hR, yc, y0, yk, yn, yj, ys⟩ := tbl_ex h 64000 (by omega)
    obtain ⟨A, Z, a0, ak, z0, zc, zs⟩ := strm_ex r m hmall (by omega)
    obtain ⟨W, wl, wg, ws, wn, w0, wt, wf⟩ := rows_ex 40 r.length Z
    have cst := start_fn r h.len R (Y 0) hR y0.symm
    have hRl0 := (yk 0 (by omega)).r
    have hYl0 := (yk 0 (by omega)).c
    have c0 := c1 0 h0
    obtain ⟨V, hVV⟩ : ∃ V, Pc.vol m = V := ⟨_, rfl⟩
    refine FnOk.intro fact_mixed Tryz.func70 rfl Tryz.ntmps70 (by rfl) (by simp) ?_
    repeat (first | (refine nf1_sound rfl ?_; simp [go_sem, ↓iO, iO, tN]) | refine anI ?_ | refine ⟨dcK, ?_⟩ | ((first | refine iP ?_ | refine iN ?_); try simp [go_sem, ↓iO, iO, tN]))
    refine CallK.fn (cm) [(1000, 601)] [] [] (by kernel_rfl) ?_ ?_ ?_ (Or.inl rfl) ?_ <;> simp [go_sem, ↓iO, iO, tN]
    repeat (refine anI ?_)
    try (refine ⟨dcK, ?_⟩)
    refine CW.cut (ι := Unit) (fun _ => ⟨[(0, .t (encPs l)), (1, .t (encIs r)), (6, .t (encPs m))], []⟩) (fun _ => True) ?_ ?_
    · by_cases h1 : m.length = 0
      · have h3 := hmty h1
        repeat (first | (refine nf1_sound rfl ?_; simp [go_sem, ↓iO, iO, tN, h1, h3]) | refine anI ?_ | refine ⟨dcK, ?_⟩ | ((first | refine iP ?_ | refine iN ?_); try simp [go_sem, ↓iO, iO, tN, h1, h3]))
        rw [CutQ_normal]; refine ⟨(), [], ?_, ?_⟩
        · trivial
        simp [go_sem, ↓iO, iO, tN]
      · repeat (first | (refine nf1_sound rfl ?_; simp [go_sem, ↓iO, iO, tN, h1, h200]) | refine anI ?_ | refine ⟨dcK, ?_⟩ | ((first | refine iP ?_ | refine iN ?_); try simp [go_sem, ↓iO, iO, tN, h1, h200]))
        rw [CutQ_normal]; refine ⟨(), [], ?_, ?_⟩
        · trivial
        simp [go_sem, ↓iO, iO, tN]
    rintro _ _
    repeat (first | (refine nf1_sound rfl ?_; simp [go_sem, ↓iO, iO, tN]) | refine anI ?_ | refine ⟨dcK, ?_⟩ | ((first | refine iP ?_ | refine iN ?_); try simp [go_sem, ↓iO, iO, tN]))
    refine nf1_sound' _ _ _ ?_; simp only [nf1]
    refine CW.loop (ι := Nat) (fun k => ⟨[(0, .t (encPs l)), (1, .t (encIs r)), (6, .t (encPs m)), (7, .t (.int (Pc.vol (m.take k)))), (33, .t (encPs m)), (34, .t (.int m.length)), (35, .t (.int k))], []⟩) (fun k => k ≤ m.length) (fun k => m.length - k) 0 [] (by omega) ?_ ?_
    · simp [go_sem, ↓iO, iO, tN, Pc.vol]
    intro k hk
    have hvk := hvp k
    by_cases hb : k < m.length
    · obtain ⟨p, hp⟩ := has_get hb
      have hvs := Pc.vol_snoc hp
      have hvk2 := hvp (k + 1)
      obtain ⟨v, hv⟩ : ∃ v, Pc.vol (m.take k) = v := ⟨_, rfl⟩
      rw [hv] at hvs hvk ⊢
      rw [hvs] at hvk2
      repeat (first | (refine nf1_sound rfl ?_; simp [go_sem, ↓iO, iO, tN, hp]) | refine anI ?_ | refine ⟨dcK, ?_⟩ | ((first | refine iP ?_ | refine iN ?_); try simp [go_sem, ↓iO, iO, tN, hp]))
      rw [RoundQ_normal]; refine ⟨k + 1, [], ?_, ?_, ?_⟩
      · omega
      · omega
      simp [go_sem, ↓iO, iO, tN, hvs]
    obtain rfl : k = m.length := by omega
    rw [List.take_length]
    rw [hVV] at c0 ⊢
    repeat (first | (refine nf1_sound rfl ?_; simp [go_sem, ↓iO, iO, tN]) | refine anI ?_ | refine ⟨dcK, ?_⟩ | ((first | refine iP ?_ | refine iN ?_); try simp [go_sem, ↓iO, iO, tN]))
    refine CallK.fn (c0) [] [] [] (by kernel_rfl) ?_ ?_ ?_ (Or.inl rfl) ?_ <;> simp [go_sem, ↓iO, iO, tN]
    repeat (refine anI ?_)
    try (refine ⟨dcK, ?_⟩)
    repeat (first | (refine nf1_sound rfl ?_; simp [go_sem, ↓iO, iO, tN]) | refine anI ?_ | refine ⟨dcK, ?_⟩ | ((first | refine iP ?_ | refine iN ?_); try simp [go_sem, ↓iO, iO, tN]))
    refine CallK.fn (cst) [] [] [] (by kernel_rfl) ?_ ?_ ?_ (Or.inl rfl) ?_ <;> simp [go_sem, ↓iO, iO, tN, hRl0, hYl0]
    repeat (refine anI ?_)
    try (refine ⟨dcK, ?_⟩)
    repeat (first | (refine nf1_sound rfl ?_; simp [go_sem, ↓iO, iO, tN, hRl0, hYl0]) | refine anI ?_ | refine ⟨dcK, ?_⟩ | ((first | refine iP ?_ | refine iN ?_); try simp [go_sem, ↓iO, iO, tN, hRl0, hYl0]))
    have hW0 := w0 z0
    refine CW.toRows 152 (W 0 0) (e := 41) (s := 1) (xs := List.replicate r.length (.lit (.slice none 0 0))) (by rfl) (by rw [wl]; simp) (fun i x u h1 h2 => ?_) ?_
    · rw [hW0, List.getElem?_replicate] at h2
      rw [List.getElem?_replicate] at h1
      split at h1
      · rename_i hi
        rw [if_pos hi] at h2
        cases h1; cases h2
        unfold relTU; trivial
      · cases h1
    simp [go_sem, ↓iO, iO, tN]
    refine nf1_sound' _ _ _ ?_; simp only [nf1]
    refine CW.loop (ι := Nat) (fun k => ⟨[(11, .own 511), (12, .pt 507 [] 0), (55, .t (encPs m)), (56, .t (.int m.length)), (57, .t (.int k))], [(511, .rows 41 1 (W k 0) []), (507, tblB r.length R (Y (A k)))]⟩) (fun k => k ≤ m.length) (fun k => m.length - k) 0 [(511, some 152), (507, some 112)] (by omega) ?_ ?_
    · simp [go_sem, ↓iO, iO, tN, a0]
    intro k hk
    have hwl := wl k 0
    by_cases hb : k < m.length
    · obtain ⟨p, hp⟩ := has_get hb
      obtain ⟨zA, zZ⟩ := zs k p hp
      have hpb := hmall p (mem_get hp)
      obtain ⟨c, hc⟩ : ∃ c : Nat, p.2 = (c : Int) := ⟨p.2.toNat, by omega⟩
      have hA1 := ak (k + 1) hb
      have hyA := yk (A k) (by have := ak k hk; omega)
      have hyl := hyA.c
      rw [show p.2.toNat = c by omega] at zA
      obtain ⟨p1, p2⟩ := p
      simp only at hc
      subst hc
      repeat (first | (refine nf1_sound rfl ?_; simp [go_sem, ↓iO, iO, tN, hp, hRl0, hyl]) | refine anI ?_ | refine ⟨dcK, ?_⟩ | ((first | refine iP ?_ | refine iN ?_); try simp [go_sem, ↓iO, iO, tN, hp, hRl0, hyl]))
      have hRl := hRl0
      refine nf1_sound' _ _ _ ?_; simp only [nf1]
      refine CW.loop (ι := Nat) (fun q => ⟨[(11, .own 511), (12, .pt 507 [] 0), (14, .pt 514 [] 0), (15, .pt 515 [] 0), (55, .t (encPs m)), (56, .t (.int m.length)), (57, .t (.int k)), (64, .t (.int c)), (65, .t (.int q))], [(511, .rows 41 1 (W k 0) []), (507, tblB r.length R (Y (A k + q))), (514, .box 40 (.t (encP (p1, (c : Int))))), (515, .box 156 (.t (.agg ((Y (A k)).map encI))))]⟩)
        (fun q => q ≤ c) (fun q => c - q) 0 [(511, some 511), (507, some 507), (514, some 114), (515, some 115)] (by omega) ?_ ?_
      · simp [go_sem, ↓iO, iO, tN]
      intro q hq
      have hy := yk (A k + q) (by omega)
      have hyl := hy.c
      by_cases hb2 : q < c
      · have cn := next_fn r.length R (Y (A k + q)) hy
        have hg := get_rt (r := Y (A k + q)) (i := j (A k + q)) (by have := yj (A k + q); omega)
        have hs := ys (A k + q)
        have hjl := yj (A k + q)
        rw [yn (A k + q)] at cn
        have hcb := hy.cr _ (mem_get hg)
        obtain ⟨v, hv⟩ : ∃ v, rt (Y (A k + q)) (j (A k + q)) = v := ⟨_, rfl⟩
        rw [hv] at hg hs hcb
        obtain ⟨u, hu⟩ : ∃ u, j (A k + q) = u := ⟨_, rfl⟩
        rw [hu] at hg hs hjl cn
        rw [show A k + q + 1 = A k + (q + 1) by omega] at hs
        obtain ⟨C, hC⟩ : ∃ C, Y (A k + q) = C := ⟨_, rfl⟩
        rw [hC] at hg hs hyl cn ⊢
        have hs2 : (C.map encI).set u (T.lit (.int .i64 (v + 1))) = (Y (A k + (q + 1))).map encI := by rw [← hs, List.map_set]; rfl
        have hmin : min u C.length = u := by omega
        repeat (first | (refine nf1_sound rfl ?_; simp [go_sem, ↓iO, iO, tN, hg, hmin, hyl, hRl]) | refine anI ?_ | refine ⟨dcK, ?_⟩ | ((first | refine iP ?_ | refine iN ?_); try simp [go_sem, ↓iO, iO, tN, hg, hmin, hyl, hRl]))
        refine CallK.fn (cn) [(0, 507)] [] [] (by kernel_rfl) ?_ ?_ ?_ (Or.inl rfl) ?_ <;> simp [go_sem, ↓iO, iO, tN, hg, hmin, hRl, hyl]
        repeat (refine anI ?_)
        try (refine ⟨dcK, ?_⟩)
        repeat (first | (refine nf1_sound rfl ?_; simp [go_sem, ↓iO, iO, tN, hg, hmin, hs2, hRl, hyl]) | refine anI ?_ | refine ⟨dcK, ?_⟩ | ((first | refine iP ?_ | refine iN ?_); try simp [go_sem, ↓iO, iO, tN, hg, hmin, hs2, hRl, hyl]))
        rw [RoundQ_normal]; refine ⟨q + 1, [(511, some 511), (507, some 507), (514, some 514), (515, some 515)], ?_, ?_, ?_⟩
        · omega
        · omega
        simp [go_sem, ↓iO, iO, tN, hs2]
      obtain rfl : q = c := by omega
      rw [← zA] at hy hyl ⊢
      repeat (first | (refine nf1_sound rfl ?_; simp [go_sem, ↓iO, iO, tN]) | refine anI ?_ | refine ⟨dcK, ?_⟩ | ((first | refine iP ?_ | refine iN ?_); try simp [go_sem, ↓iO, iO, tN]))
      refine nf1_sound' _ _ _ ?_; simp only [nf1]
      refine CW.loop (ι := Nat) (fun i => ⟨[(11, .own 511), (12, .pt 507 [] 0), (14, .pt 514 [] 0), (15, .pt 515 [] 0), (55, .t (encPs m)), (56, .t (.int m.length)), (57, .t (.int k)), (76, .t (.int r.length)), (77, .t (.int i))], [(511, .rows 41 1 (W k i) []), (507, tblB r.length R (Y (A (k + 1)))), (514, .box 40 (.t (encP (p1, (q : Int))))), (515, .box 156 (.t (.agg ((Y (A k)).map encI))))]⟩)
        (fun i => i ≤ r.length) (fun i => r.length - i) 0 [(511, some 511), (507, some 507), (514, some 514), (515, some 515)] (by omega) ?_ ?_
      · simp [go_sem, ↓iO, iO, tN, hwl]
      intro i hi
      have hwl := wl k i
      by_cases hb3 : i < r.length
      · have hwg := wg k i hb3
        have hws := ws k i hb3
        rw [zZ i] at hws
        have hg1 := get_rt (r := Y (A (k + 1))) (i := i) (by omega)
        have hg2 := get_rt (r := Y (A k)) (i := i) (by rw [hyA.c]; omega)
        have hb4 := hy.cr _ (mem_get hg1)
        have hb5 := hyA.cr _ (mem_get hg2)
        rw [← pad_rt (R := Y (A (k + 1))) hb3 (yc _), ← pad_rt (R := Y (A k)) hb3 (yc _)] at hws
        obtain ⟨v1, hv1⟩ : ∃ v, rt (Y (A (k + 1))) i = v := ⟨_, rfl⟩
        obtain ⟨v2, hv2⟩ : ∃ v, rt (Y (A k)) i = v := ⟨_, rfl⟩
        rw [hv1] at hg1 hb4 hws
        rw [hv2] at hg2 hb5 hws
        have hylA := hyA.c
        have hzl : (Z k i).length ≤ 400 := by rw [zc, strm_len, List.length_take]; omega
        obtain ⟨O, hO⟩ : ∃ O, Z k i = O := ⟨_, rfl⟩
        rw [hO] at hwg hws hzl
        obtain ⟨C1, hC1⟩ : ∃ C, Y (A (k + 1)) = C := ⟨_, rfl⟩
        obtain ⟨C2, hC2⟩ : ∃ C, Y (A k) = C := ⟨_, rfl⟩
        rw [hC1] at hg1 hyl ⊢
        rw [hC2] at hg2 hylA ⊢
        obtain ⟨X1, hX1⟩ : ∃ X, W k i = X := ⟨_, rfl⟩
        rw [hX1] at hwl hwg hws ⊢
        have hm1 : min i C1.length = i := by omega
        have hm2 : min i C2.length = i := by omega
        iterate 4 (refine nf1_sound rfl ?_; simp [go_sem, ↓iO, iO, tN]; (repeat (refine anI ?_)); try (refine ⟨dcK, ?_⟩))
        refine CW.openRow 511 i 555 (us := X1) (ex := []) (u := .ow 40 2 (O.map encP)) (b := .list 40 2 (O.map encP)) (by rfl) hwg (by rfl) (by rfl) (by kernel_rfl) (by omega) ?_
        simp [go_sem, ↓iO, iO, tN]
        iterate 1 (refine nf1_sound rfl ?_; simp [go_sem, ↓iO, iO, tN, hg1, hg2, hm1, hm2, hylA, hyl, hwl, hwg]; (repeat (refine anI ?_)); try (refine ⟨dcK, ?_⟩))
        refine CW.closeRow 511 i 198 (.ow 40 2 (O.map encP ++ [T.agg [T.int p1, T.lit (.int .i64 (v1 - v2))]])) (us := X1) (ex := [(i, .own 198)]) (by rfl) (by rfl) (by simp [go_sem]) (by rfl) ?_
        have hws2 : X1.set i (.ow 40 2 (O.map encP ++ [T.agg [T.int p1, T.lit (.int .i64 (v1 - v2))]])) = W k (i + 1) := by
          rw [← hws, List.map_append]; rfl
        simp [go_sem, ↓iO, iO, tN, hws2]
        repeat (first | (refine nf1_sound rfl ?_; simp [go_sem, ↓iO, iO, tN]) | refine anI ?_ | refine ⟨dcK, ?_⟩ | ((first | refine iP ?_ | refine iN ?_); try simp [go_sem, ↓iO, iO, tN]))
        rw [RoundQ_normal]; refine ⟨i + 1, [(511, some 511), (507, some 507), (514, some 514), (515, some 515)], ?_, ?_, ?_⟩
        · omega
        · omega
        simp [go_sem, ↓iO, iO, tN]
      obtain rfl : i = r.length := by omega
      rw [wn k]
      repeat (first | (refine nf1_sound rfl ?_; simp [go_sem, ↓iO, iO, tN]) | refine anI ?_ | refine ⟨dcK, ?_⟩ | ((first | refine iP ?_ | refine iN ?_); try simp [go_sem, ↓iO, iO, tN]))
      rw [RoundQ_normal]; refine ⟨k + 1, [(511, some 511), (507, some 507)], ?_, ?_, ?_⟩
      · omega
      · omega
      simp [go_sem, ↓iO, iO, tN]
    · obtain rfl : k = m.length := by omega
      obtain ⟨W2, wl2, wg2, ws2, wn2, _, wt2, wf2⟩ := rows_ex 40 r.length (fun k i => if k = 0 then Z m.length i else Pc.join (Z m.length i))
      have hW2 : W m.length 0 = W2 0 0 := by rw [wf, wf2]; simp
      have hfin : (W2 1 0).map U.toT = (dealt r m).map encPs := by
        rw [wt2, dealt, List.map_map]
        apply List.map_congr_left
        intro q _
        show encPs (if (1 : Nat) = 0 then _ else _) = _
        rw [if_neg (by omega), zc, List.take_length]; rfl
      have hPr : ∀ i, Pc.Proper (Z m.length i) := fun i => by
        rw [zc, List.take_length]
        exact ⟨by rw [strm_len]; omega, strm_each r i m 0 hmall⟩
      rw [hW2]
      have hwl0 := wl2 0 0
      clear zs wf wf2 ws wg wl yc ys yk
      repeat (first | (refine nf1_sound rfl ?_; simp [go_sem, ↓iO, iO, tN]) | refine anI ?_ | refine ⟨dcK, ?_⟩ | ((first | refine iP ?_ | refine iN ?_); try simp [go_sem, ↓iO, iO, tN]))
      refine nf1_sound' _ _ _ ?_; simp only [nf1]
      refine CW.loop (ι := Nat) (fun i => ⟨[(11, .own 511), (103, .t (.int r.length)), (104, .t (.int i))], [(511, .rows 41 1 (W2 0 i) [])]⟩) (fun i => i ≤ r.length) (fun i => r.length - i) 0 [(511, some 511)] (by omega) ?_ ?_
      · simp [go_sem, ↓iO, iO, tN, hwl0]
      intro i hi
      have hwl := wl2 0 i
      by_cases hb3 : i < r.length
      · have hwg := wg2 0 i hb3
        have hws := ws2 0 i hb3
        have hp := hPr i
        rw [if_pos rfl] at hwg
        rw [if_neg (by omega)] at hws
        obtain ⟨O, hO⟩ : ∃ O, Z m.length i = O := ⟨_, rfl⟩
        rw [hO] at hwg hws hp
        have cm2 := merge_fn O (by have := hp.1; omega)
        rw [merge_good hp] at cm2
        obtain ⟨O2, hO2⟩ : ∃ O2, Pc.join O = O2 := ⟨_, rfl⟩
        rw [hO2] at hws cm2
        obtain ⟨X1, hX1⟩ : ∃ X, W2 0 i = X := ⟨_, rfl⟩
        rw [hX1] at hwl hwg hws ⊢
        iterate 4 (refine nf1_sound rfl ?_; simp [go_sem, ↓iO, iO, tN]; (repeat (refine anI ?_)); try (refine ⟨dcK, ?_⟩))
        refine CW.openRow 511 i 555 (us := X1) (ex := []) (u := .ow 40 2 (O.map encP)) (b := .list 40 2 (O.map encP)) (by rfl) hwg (by rfl) (by rfl) (by kernel_rfl) (by omega) ?_
        simp [go_sem, ↓iO, iO, tN]
        iterate 1 (refine nf1_sound rfl ?_; simp [go_sem, ↓iO, iO, tN, hwl, hwg]; (repeat (refine anI ?_)); try (refine ⟨dcK, ?_⟩))
        refine CallK.fn (cm2) [(1000, 602)] [] [555] (by kernel_rfl) ?_ ?_ ?_ (Or.inl rfl) ?_ <;> simp [go_sem, ↓iO, iO, tN, hwl, hwg]
        repeat (refine anI ?_)
        try (refine ⟨dcK, ?_⟩)
        refine CW.closeRow 511 i 602 (.ow 40 2 (O2.map encP)) (us := X1) (ex := [(i, .own 602)]) (by rfl) (by rfl) (by simp [go_sem]) (by rfl) ?_
        simp [go_sem, ↓iO, iO, tN, hws]
        repeat (first | (refine nf1_sound rfl ?_; simp [go_sem, ↓iO, iO, tN]) | refine anI ?_ | refine ⟨dcK, ?_⟩ | ((first | refine iP ?_ | refine iN ?_); try simp [go_sem, ↓iO, iO, tN]))
        rw [RoundQ_normal]; refine ⟨i + 1, [(511, some 511)], ?_, ?_, ?_⟩
        · omega
        · omega
        simp [go_sem, ↓iO, iO, tN]
      obtain rfl : i = r.length := by omega
      rw [wn2 0]
      repeat (first | (refine nf1_sound rfl ?_; simp [go_sem, ↓iO, iO, tN]) | refine anI ?_ | refine ⟨dcK, ?_⟩ | ((first | refine iP ?_ | refine iN ?_); try simp [go_sem, ↓iO, iO, tN]))
      first | rw [RetQ_ret] | rw [RetQ_normal]
      refine ⟨[], ?_⟩
      simp [go_sem, ↓iO, iO, tN, hfin]
  · rw [if_pos h0] at hx
    obtain ⟨rfl, rfl⟩ : x = [] ∧ e = chk r (Pc.vol m) := by simp only [Prod.mk.injEq] at hx; exact ⟨hx.1.symm, hx.2.symm⟩
    obtain ⟨e, he⟩ : ∃ e, chk r (Pc.vol m) = e := ⟨_, rfl⟩
    have c0 := c1 e he
    rw [he] at h0 ⊢
    obtain ⟨V, hVV⟩ : ∃ V, Pc.vol m = V := ⟨_, rfl⟩
    refine FnOk.intro fact_mixed Tryz.func70 rfl Tryz.ntmps70 (by rfl) (by simp) ?_
    repeat (first | (refine nf1_sound rfl ?_; simp [go_sem, ↓iO, iO, tN]) | refine anI ?_ | refine ⟨dcK, ?_⟩ | ((first | refine iP ?_ | refine iN ?_); try simp [go_sem, ↓iO, iO, tN]))
    refine CallK.fn (cm) [(1000, 601)] [] [] (by kernel_rfl) ?_ ?_ ?_ (Or.inl rfl) ?_ <;> simp [go_sem, ↓iO, iO, tN]
    repeat (refine anI ?_)
    try (refine ⟨dcK, ?_⟩)
    refine CW.cut (ι := Unit) (fun _ => ⟨[(0, .t (encPs l)), (1, .t (encIs r)), (6, .t (encPs m))], []⟩) (fun _ => True) ?_ ?_
    · by_cases h1 : m.length = 0
      · have h3 := hmty h1
        repeat (first | (refine nf1_sound rfl ?_; simp [go_sem, ↓iO, iO, tN, h1, h3]) | refine anI ?_ | refine ⟨dcK, ?_⟩ | ((first | refine iP ?_ | refine iN ?_); try simp [go_sem, ↓iO, iO, tN, h1, h3]))
        rw [CutQ_normal]; refine ⟨(), [], ?_, ?_⟩
        · trivial
        simp [go_sem, ↓iO, iO, tN]
      · repeat (first | (refine nf1_sound rfl ?_; simp [go_sem, ↓iO, iO, tN, h1, h200]) | refine anI ?_ | refine ⟨dcK, ?_⟩ | ((first | refine iP ?_ | refine iN ?_); try simp [go_sem, ↓iO, iO, tN, h1, h200]))
        rw [CutQ_normal]; refine ⟨(), [], ?_, ?_⟩
        · trivial
        simp [go_sem, ↓iO, iO, tN]
    rintro _ _
    repeat (first | (refine nf1_sound rfl ?_; simp [go_sem, ↓iO, iO, tN]) | refine anI ?_ | refine ⟨dcK, ?_⟩ | ((first | refine iP ?_ | refine iN ?_); try simp [go_sem, ↓iO, iO, tN]))
    refine nf1_sound' _ _ _ ?_; simp only [nf1]
    refine CW.loop (ι := Nat) (fun k => ⟨[(0, .t (encPs l)), (1, .t (encIs r)), (6, .t (encPs m)), (7, .t (.int (Pc.vol (m.take k)))), (33, .t (encPs m)), (34, .t (.int m.length)), (35, .t (.int k))], []⟩) (fun k => k ≤ m.length) (fun k => m.length - k) 0 [] (by omega) ?_ ?_
    · simp [go_sem, ↓iO, iO, tN, Pc.vol]
    intro k hk
    have hvk := hvp k
    by_cases hb : k < m.length
    · obtain ⟨p, hp⟩ := has_get hb
      have hvs := Pc.vol_snoc hp
      have hvk2 := hvp (k + 1)
      obtain ⟨v, hv⟩ : ∃ v, Pc.vol (m.take k) = v := ⟨_, rfl⟩
      rw [hv] at hvs hvk ⊢
      rw [hvs] at hvk2
      repeat (first | (refine nf1_sound rfl ?_; simp [go_sem, ↓iO, iO, tN, hp]) | refine anI ?_ | refine ⟨dcK, ?_⟩ | ((first | refine iP ?_ | refine iN ?_); try simp [go_sem, ↓iO, iO, tN, hp]))
      rw [RoundQ_normal]; refine ⟨k + 1, [], ?_, ?_, ?_⟩
      · omega
      · omega
      simp [go_sem, ↓iO, iO, tN, hvs]
    obtain rfl : k = m.length := by omega
    rw [List.take_length]
    rw [hVV] at c0 ⊢
    repeat (first | (refine nf1_sound rfl ?_; simp [go_sem, ↓iO, iO, tN]) | refine anI ?_ | refine ⟨dcK, ?_⟩ | ((first | refine iP ?_ | refine iN ?_); try simp [go_sem, ↓iO, iO, tN]))
    refine CallK.fn (c0) [] [] [] (by kernel_rfl) ?_ ?_ ?_ (Or.inl rfl) ?_ <;> simp [go_sem, ↓iO, iO, tN, h0]
    repeat (refine anI ?_)
    try (refine ⟨dcK, ?_⟩)
    repeat (first | (refine nf1_sound rfl ?_; simp [go_sem, ↓iO, iO, tN, h0]) | refine anI ?_ | refine ⟨dcK, ?_⟩ | ((first | refine iP ?_ | refine iN ?_); try simp [go_sem, ↓iO, iO, tN, h0]))
    first | rw [RetQ_ret] | rw [RetQ_normal]
    refine ⟨[], ?_⟩
    simp [go_sem, ↓iO, iO, tN]
end Go.Proofs.YtdjmklobfjigoaaGreatDoor
namespace Go.Proofs.YtdjmklobfjigoaaGreatDoor.Sy
open Go.RowKit
def NfK (N : Nat) (P : Program) (c : Code) (Q : Exit → St → Prop) (σ : St) : Prop := nf N P [] c Q σ
def ThenK (N : Nat) (P : Program) (body : Code) (post : List (Nat × Blk)) (e : Exit) (τ : St) : Prop := match e with
  | .normal => NfK N P body (EndQ post) τ
  | _ => False
@[go_sem] theorem ThenK_normal (N : Nat) (P : Program) (body : Code) (post : List (Nat × Blk)) (τ : St) : ThenK N P body post .normal τ = NfK N P body (EndQ post) τ := rfl
@[go_sem] def nfS (N : Nat) (P : Program) : Code → (Exit → St → Prop) → St → Prop
  | .skip, Q, σ => Q .normal σ
  | .region _ ops false, Q, σ => opsK P ops.toList (PlainK (Q .normal)) ops.toList σ []
  | .region _ ops true, Q, σ => opsK P ops.toList (DrawK ops.toList σ (Q .normal)) ops.toList σ []
  | .seq a b, Q, σ => nfS N P a (SeqQ (NfK N P b Q) Q) σ
  | .cond c x y, Q, σ => match rdS (lkS σ.g) c with
    | .t (.lit (.bool v)) => if v = true then NfK N P x Q σ else NfK N P y Q σ
    | _ => False
  | .block id c, Q, σ => nfS N P c (BlockQ id Q) σ
  | .exit id, Q, σ => Q (.exit id) σ
  | .ret, Q, σ => Q .ret σ
  | c, Q, σ => False
theorem nfS_sound {N : Nat} {P : Program} : ∀ (c : Code) (Q : Exit → St → Prop) (σ : St), nfS N P c Q σ → nf N P [] c Q σ
  | .skip, Q, σ, h => h
  | .region id ops false, Q, σ, h => h
  | .region id ops true, Q, σ, h => h
  | .seq x y, Q, σ, h => by
    have hst : stops [] x = false := by unfold stops; split <;> simp
    simp only [nf, hst]
    exact nfS_sound x _ σ h
  | .cond c x y, Q, σ, h => h
  | .block id c, Q, σ, h => nfS_sound c _ σ h
  | .exit id, Q, σ, h => h
  | .ret, Q, σ, h => h
  | .loop _, Q, σ, h => h.elim
  | .scope _, Q, σ, h => h.elim
  | .rangeFunc _ _ _ _, Q, σ, h => h.elim
  | .label _, Q, σ, h => h.elim
  | .goto _, Q, σ, h => h.elim
  | .refuse _, Q, σ, h => h.elim
theorem nfK1 {N : Nat} {P : Program} {c : Code} {Q : Exit → St → Prop} {σ : St} (h : nfS N P c Q σ) : NfK N P c Q σ := nfS_sound c Q σ h
theorem nfK0 {N : Nat} {P : Program} {a b : Code} {post : List (Nat × Blk)} {σ : St} (h : nfS N P a (ThenK N P b post) σ) : nf N P [] a (ThenB N P b post) σ := nfS_sound a _ σ h
attribute [irreducible] NfK
end Go.Proofs.YtdjmklobfjigoaaGreatDoor.Sy
namespace Go.Proofs.YtdjmklobfjigoaaGreatDoor
open Go.RowKit Sy Dl
open Go.IntWalk renaming iteOmega → iO, toNatUp → tN
theorem segYs_len2 (node : Int) (inn : Bool) : ∀ (k : Nat) (ps : List SegV) (rs : List Int), (segYs node inn k ps rs).length ≤ ps.length
  | k, [], rs => by simp [segYs]
  | k, p :: ps, [] => by simp [segYs]
  | k, p :: ps, r :: rs => by
    have := segYs_len2 node inn (k + 1) ps rs
    simp only [segYs]
    split <;> simp <;> omega
theorem segYs_inc (node : Int) (inn : Bool) : ∀ (k : Nat) (ps : List SegV) (rs : List Int), (segYs node inn k ps rs).Pairwise (fun a b => a.1 < b.1)
  | k, [], rs => by simp [segYs]
  | k, p :: ps, [] => by simp [segYs]
  | k, p :: ps, r :: rs => by
    have := segYs_inc node inn (k + 1) ps rs
    simp only [segYs]
    split
    · refine List.Pairwise.cons (fun b hb => ?_) this
      have := (segYs_get hb).1
      dsimp only; omega
    · exact this
def outO (oo : List (Option (List (Int × Int)))) (P : List (Nat × Int)) (x : List (List (Int × Int))) : Nat → List (Option (List (Int × Int)))
  | 0 => oo
  | k + 1 => (outO oo P x k).set (P.getD k (0, 0)).1 (some (x.getD k []))
theorem outO_len (oo P x) : ∀ k, (outO oo P x k).length = oo.length
  | 0 => rfl
  | k + 1 => by unfold outO; rw [List.length_set]; exact outO_len oo P x k
def backAt (rates : List Int) (y : Nat × Int) : Bool := decide (rates.getD y.1 0 < 0)
def setK {α : Type} (fi : List α) (Sg : List (Nat × Int)) (v : Nat → Nat × Int → α) : Nat → List α
  | 0 => fi
  | k + 1 => (setK fi Sg v k).set (Sg.getD k (0, 0)).1 (v k (Sg.getD k (0, 0)))
theorem setK_len {α : Type} (fi : List α) (Sg : List (Nat × Int)) (v : Nat → Nat × Int → α) : ∀ k, (setK fi Sg v k).length = fi.length
  | 0 => rfl
  | k + 1 => by unfold setK; rw [List.length_set]; exact setK_len fi Sg v k
theorem setK_at {α : Type} (fi : List α) (Sg : List (Nat × Int)) (v : Nat → Nat × Int → α) (hS : Sg.Pairwise (fun a b => a.1 < b.1)) (j : Nat) (y : Nat × Int) (hy : Sg[j]? = some y) : ∀ k, k ≤ j → (setK fi Sg v k)[y.1]? = fi[y.1]?
  | 0, _ => rfl
  | k + 1, hk => by
    unfold setK
    have h1 := setK_at fi Sg v hS j y hy k (by omega)
    obtain ⟨hj, rfl⟩ := List.getElem?_eq_some_iff.1 hy
    have h2 := List.pairwise_iff_getElem.1 hS k j (by omega) hj (by omega)
    rw [List.getElem?_set_ne (by rw [List.getD_eq_getElem?_getD, List.getElem?_eq_getElem (by omega)]; simp; omega), h1]
noncomputable def nodeF (rates : List Int) (fi : List (Option (List (Int × Int)))) (x : List (List (Int × Int))) (m : Nat) (k : Nat) (y : Nat × Int) : Option (List (Int × Int)) := some (fillV (gvAt fi y) (x.getD (m + k) []) (backAt rates y))
noncomputable def nodeG (rates : List Int) (fi : List (Option (List (Int × Int)))) (x : List (List (Int × Int))) (m : Nat) (k : Nat) (y : Nat × Int) : Option (List (Int × Int)) := some (outV (gvAt fi y) (x.getD (m + k) []) (backAt rates y))
theorem node_fn (d : LineD) (hd : LineOk d) (order : T) (w6 : order.width = 1) (fi gi oo : List (Option (List (Int × Int)))) (node : Int) (hg : gi.length = d.segs.length) (hfl : fi.length = d.segs.length) (hol : oo.length = d.ports.length) (hS : Pc.Sane (comesV d gi node)) (hnz : ∀ z ∈ segYs node true 0 (d.segs.map (·.1)) d.rates, ∀ p ∈ gvAt gi z, p.2 ≠ 0)
    (l : List (Int × Int)) (hl : Pc.join (comesV d gi node) = l) (hne : l ≠ []) (hl2 : l.length ≤ 200) (P Sg : List (Nat × Int)) (hP : prtYs node false 0 d.ports d.prates = P) (hSg : segYs node false 0 (d.segs.map (·.1)) d.rates = Sg) (x : List (List (Int × Int))) (hx : dealV l (P.map (·.2) ++ Sg.map (·.2)) = (x, 0)) (hxl : x.length = P.length + Sg.length)
    (hpush : ∀ (k : Nat) (y : Nat × Int), Sg[k]? = some y → (∃ f, fi[y.1]? = some (some f) ∧ f.length ≤ 1000000) ∧ (x.getD (P.length + k) []).length ≤ 1000000 ∧ (outV (gvAt fi y) (x.getD (P.length + k) []) (backAt d.rates y)).length ≤ 1000000 ∧ pushE (gvAt fi y) (x.getD (P.length + k) []) (backAt d.rates y) = 0) :
    FnOk Tryz.prog 51 [.pt 0 [] 0, .t (.int node)] [(0, lineB d.net d.plan (.sl 1 (d.feeds.map encI)) order), (1, blkG fi), (2, blkG gi), (3, blkG oo)]
      (.t (.int 0)) [(0, lineB d.net d.plan (.sl 1 (d.feeds.map encI)) order), (1, blkG (setK fi Sg (nodeF d.rates fi x P.length) Sg.length)), (2, blkG (setK gi Sg (nodeG d.rates fi x P.length) Sg.length)), (3, blkG (outO oo P x P.length))] := by
  have s1 := stream_fn d hd order w6 fi gi oo node hg hS hnz
  rw [hl] at s1
  have P_len : ∀ k, ((P.take k).map (·.2)).length ≤ 1000 := fun k => by
    have := prtYs_len2 node false 0 d.ports d.prates
    have := hd.maxP
    rw [hP] at *
    simp; omega
  have S_len : ∀ k, (P.map (·.2) ++ (Sg.take k).map (·.2)).length ≤ 2000 := fun k => by
    have := prtYs_len2 node false 0 d.ports d.prates
    have := segYs_len2 node false 0 (d.segs.map (·.1)) d.rates
    have := hd.maxP
    have := hd.maxS
    rw [hP] at *
    rw [hSg] at *
    simp at *; omega
  have hPl : P.length ≤ 1000 := by
    have := prtYs_len2 node false 0 d.ports d.prates
    have := hd.maxP
    rw [hP] at *
    omega
  have hSl : Sg.length ≤ 1000 := by
    have := segYs_len2 node false 0 (d.segs.map (·.1)) d.rates
    have := hd.maxS
    rw [hSg] at *
    simp at *; omega
  have hPg : ∀ y ∈ P, y.1 < d.ports.length := fun y hy => by
    rw [← hP] at hy
    have := (prtYs_get hy).2.1
    omega
  have hSGg : ∀ y ∈ Sg, y.1 < d.segs.length := fun y hy => by
    rw [← hSg] at hy
    have := (segYs_get hy).2.1
    simpa using this
  have hinc : Sg.Pairwise (fun a b => a.1 < b.1) := by rw [← hSg]; exact segYs_inc _ _ _ _ _
  have w1 := hd.w1
  have w2 := hd.w2
  have w3 := hd.w3
  have w4 := hd.w4
  have w5 := hd.w5
  have dl := deal_fn l (P.map (·.2) ++ Sg.map (·.2)) (by omega) (by simp; omega) x 0 hx
  have hlp : 0 < l.length := List.length_pos_iff.2 hne
  refine FnOk.intro fact_mixed Tryz.func51 rfl Tryz.ntmps51 (by rfl) (by simp) ?_
  repeat (first | (refine nf1_sound rfl ?_; simp [go_sem, ↓iO, iO, tN]) | refine anI ?_ | refine ⟨dcK, ?_⟩ | ((first | refine iP ?_ | refine iN ?_); try simp [go_sem, ↓iO, iO, tN]))
  refine CallK.fn (s1) [(0, 0), (1, 1), (2, 2), (3, 3), (1000, 510)] [] [] (by kernel_rfl) ?_ ?_ ?_ (Or.inl rfl) ?_ <;> simp [go_sem, ↓iO, iO, tN]
  repeat (refine anI ?_)
  try (refine ⟨dcK, ?_⟩)
  repeat (first | (refine nf1_sound rfl ?_; simp [go_sem, ↓iO, iO, tN]) | refine anI ?_ | refine ⟨dcK, ?_⟩ | ((first | refine iP ?_ | refine iN ?_); try simp [go_sem, ↓iO, iO, tN]))
  refine CallK.fn (ports_fn d.net d.plan (.sl 1 (d.feeds.map encI)) order fi gi oo node false) [(0, 0), (1, 1), (2, 2), (3, 3), (1000, 500), (1001, 501), (1002, 502)] [] [] (by kernel_rfl) ?_ ?_ ?_ (Or.inl rfl) ?_ <;> simp [go_sem, ↓iO, iO, tN]
  repeat (refine anI ?_)
  try (refine ⟨dcK, ?_⟩)
  refine nf1_sound' _ _ _ ?_; simp only [nf1]
  refine CW.rangeF (N := 87) [(0, .pt 0 [] 0), (1, .t (.int node)), (2, .pt 102 [] 0), (4, .pt 104 [] 0), (5, .own 510), (6, .pt 106 [] 0), (28, .fn 98 [.pt 500 [] 0, .pt 501 [] 0, .pt 502 [] 0])]
    (fun k => [(0, lineB d.net d.plan (.sl 1 (d.feeds.map encI)) order), (1, blkG fi), (2, blkG gi), (3, blkG oo), (102, .box 71 (.pt 0 [] 0)), (104, .box 46 (.t (.int 0))), (510, blkP l), (106, .box 22 (.own 520)), (520, .list 3 1 (((P.take k).map (·.2)).map encI)), (500, .box 71 (.pt 0 [] 0)), (501, .box 3 (.t (.int node))), (502, .box 4 (.t (.bool false)))])
    [(0, some 0), (1, some 1), (2, some 2), (3, some 3), (102, some 102), (104, some 104), (510, some 510), (106, some 106), (520, none), (500, some 500), (501, some 501), (502, some 502)]
    (lineI 500 501 502 0 (.t (.int node)) (.t (.bool false)) 3 4 d.net d.plan [.t (.sl 1 (d.feeds.map encI)), .t order, .own 1, .own 2, .own 3]) (P.map encY)
    [(0, some 0), (1, some 1), (2, some 2), (3, some 3), (102, some 102), (104, some 104), (510, some 510), (106, some 106), (520, some 520), (500, some 500), (501, some 501), (502, some 502)]
    ?_ rfl (by kernel_rfl) (by kernel_rfl) (by kernel_rfl) (by kernel_rfl) (by kernel_rfl) (by kernel_rfl) (by kernel_rfl) ?_ ?_ ?_ rfl ?_ ?_ ?_
  · simp [go_sem, ↓iO, iO, tN]
  · intro y hy
    obtain ⟨z, _, rfl⟩ := List.mem_map.1 hy
    rfl
  · intro y hy v hv
    obtain ⟨z, _, rfl⟩ := List.mem_map.1 hy
    simp [encY] at hv
    rcases hv with rfl | rfl <;> rfl
  · rw [← hP]
    exact ports_iter 500 501 502 0 rfl node false d.nodes (.sl 7 (d.segs.map encSg)) d.stat d.ports d.vap d.stl (.sl 1 (d.rates.map encI)) d.pumps d.prates _ hd.w1 rfl rfl hd.w2 hd.w3 hd.w4 hd.lenP hd.neP hd.maxP (fun r hr => by have := hd.bP r hr; omega)
  · intro k hk
    simp [go_sem, ↓iO, iO, tN, lineI]
    rfl
  · intro k y hy
    obtain ⟨z, hz, rfl⟩ : ∃ z, P[k]? = some z ∧ y = encY z := by
      rw [List.getElem?_map] at hy
      obtain ⟨z, h1, h2⟩ := Option.map_eq_some_iff.1 hy
      exact ⟨z, h1, h2.symm⟩
    have hkl : k < P.length := (List.getElem?_eq_some_iff.1 hz).1
    obtain ⟨z1, z2⟩ := z
    have e1 : ((P.take k).map (·.2)).map encI ++ [.int z2] = ((P.take (k + 1)).map (·.2)).map encI := by
      obtain ⟨hk, e⟩ := List.getElem?_eq_some_iff.1 hz
      rw [List.take_succ_eq_append_getElem hk, e]; simp [encI]
    have hlen := P_len k
    refine ⟨[(0, 106), (1, 520), (1000, 521)], [(6, .pt 0 [] 0)], [(0, .box 22 (.own 1)), (1, .list 3 1 (((P.take k).map (·.2)).map encI))], [(0, .box 22 (.own 1000)), (1000, .list 3 1 (((P.take (k + 1)).map (·.2)).map encI))], [(0, some 0), (1, some 1), (2, some 2), (3, some 3), (102, some 102), (104, some 104), (510, some 510), (106, some 106), (520, some 521), (500, some 500), (501, some 501), (502, some 502)], ?_⟩
    refine ⟨by kernel_rfl, ?_, ?_, rfl, by kernel_rfl, ?_, ?_⟩
    · simp [go_sem, ↓iO, iO, tN]
    · simp [go_sem, ↓iO, iO, tN, slotsR, S.ren]
    · rw [← e1]
      obtain ⟨V, hV⟩ : ∃ V, (P.take k).map (·.2) = V := ⟨_, rfl⟩
      rw [hV] at hlen ⊢
      simp [go_sem, ↓iO, iO, tN, psS, encY]
      repeat (refine anI ?_)
      refine ⟨[(0, some 0), (1000, some 134)], ?_⟩
      simp [go_sem, ↓iO, iO, tN]
    · simp [go_sem, ↓iO, iO, tN]
  · have hpl : (P.map encY).length = P.length := by simp
    rw [hpl]
    simp [go_sem, ↓iO, iO, tN, List.take_length]
    repeat (first | (refine nf1_sound rfl ?_; simp [go_sem, ↓iO, iO, tN]) | refine anI ?_ | refine ⟨dcK, ?_⟩ | ((first | refine iP ?_ | refine iN ?_); try simp [go_sem, ↓iO, iO, tN]))
    refine CallK.fn (segments_fn d.net d.plan (.sl 1 (d.feeds.map encI)) order fi gi oo node false) [(0, 0), (1, 1), (2, 2), (3, 3), (1000, 530), (1001, 531), (1002, 532)] [] [] (by kernel_rfl) ?_ ?_ ?_ (Or.inl rfl) ?_ <;> simp [go_sem, ↓iO, iO, tN]
    repeat (refine anI ?_)
    try (refine ⟨dcK, ?_⟩)
    refine nf1_sound' _ _ _ ?_; simp only [nf1]
    refine CW.rangeF (N := 87) [(0, .pt 0 [] 0), (1, .t (.int node)), (2, .pt 102 [] 0), (4, .pt 104 [] 0), (5, .own 510), (6, .pt 106 [] 0), (37, .fn 99 [.pt 530 [] 0, .pt 531 [] 0, .pt 532 [] 0])]
      (fun k => [(0, lineB d.net d.plan (.sl 1 (d.feeds.map encI)) order), (1, blkG fi), (2, blkG gi), (3, blkG oo), (102, .box 71 (.pt 0 [] 0)), (104, .box 46 (.t (.int 0))), (510, blkP l), (106, .box 22 (.own 520)), (520, .list 3 1 ((P.map (·.2) ++ (Sg.take k).map (·.2)).map encI)), (530, .box 71 (.pt 0 [] 0)), (531, .box 4 (.t (.bool false))), (532, .box 3 (.t (.int node)))])
      [(0, some 0), (1, some 1), (2, some 2), (3, some 3), (102, some 102), (104, some 104), (510, some 510), (106, some 106), (520, some 520), (530, some 530), (531, some 531), (532, some 532)]
      (lineI 530 531 532 0 (.t (.bool false)) (.t (.int node)) 4 3 d.net d.plan [.t (.sl 1 (d.feeds.map encI)), .t order, .own 1, .own 2, .own 3]) (Sg.map encY)
      [(0, some 0), (1, some 1), (2, some 2), (3, some 3), (102, some 102), (104, some 104), (510, some 510), (106, some 106), (520, some 520), (530, some 530), (531, some 531), (532, some 532)]
      ?_ rfl (by kernel_rfl) (by kernel_rfl) (by kernel_rfl) (by kernel_rfl) (by kernel_rfl) (by kernel_rfl) (by kernel_rfl) ?_ ?_ ?_ rfl ?_ ?_ ?_
    · simp [go_sem, ↓iO, iO, tN]
    · intro y hy
      obtain ⟨z, _, rfl⟩ := List.mem_map.1 hy
      rfl
    · intro y hy v hv
      obtain ⟨z, _, rfl⟩ := List.mem_map.1 hy
      simp [encY] at hv
      rcases hv with rfl | rfl <;> rfl
    · rw [← hSg]
      exact segs_iter 530 531 532 0 rfl node false d.nodes (.sl 3 (d.ports.map encPr)) d.stat d.segs d.vap d.stl (.sl 1 (d.prates.map encI)) d.pumps d.rates _ hd.w1 rfl hd.w2 hd.w3 hd.w4 hd.lenR hd.neS hd.maxS (fun r hr => by have := hd.bR r hr; omega)
    · intro k hk
      simp [go_sem, ↓iO, iO, tN, lineI]
      rfl
    · intro k y hy
      obtain ⟨z, hz, rfl⟩ : ∃ z, Sg[k]? = some z ∧ y = encY z := by
        rw [List.getElem?_map] at hy
        obtain ⟨z, h1, h2⟩ := Option.map_eq_some_iff.1 hy
        exact ⟨z, h1, h2.symm⟩
      have hkl : k < Sg.length := (List.getElem?_eq_some_iff.1 hz).1
      obtain ⟨z1, z2⟩ := z
      have e1 : (P.map (·.2) ++ (Sg.take k).map (·.2)).map encI ++ [.int z2] = (P.map (·.2) ++ (Sg.take (k + 1)).map (·.2)).map encI := by
        obtain ⟨hk, e⟩ := List.getElem?_eq_some_iff.1 hz
        rw [List.take_succ_eq_append_getElem hk, e]; simp [encI]
      have hlen := S_len k
      refine ⟨[(0, 106), (1, 520), (1000, 521)], [(6, .pt 0 [] 0)], [(0, .box 22 (.own 1)), (1, .list 3 1 ((P.map (·.2) ++ (Sg.take k).map (·.2)).map encI))], [(0, .box 22 (.own 1000)), (1000, .list 3 1 ((P.map (·.2) ++ (Sg.take (k + 1)).map (·.2)).map encI))], [(0, some 0), (1, some 1), (2, some 2), (3, some 3), (102, some 102), (104, some 104), (510, some 510), (106, some 106), (520, some 521), (530, some 530), (531, some 531), (532, some 532)], ?_⟩
      refine ⟨by kernel_rfl, ?_, ?_, rfl, by kernel_rfl, ?_, ?_⟩
      · simp [go_sem, ↓iO, iO, tN]
      · simp [go_sem, ↓iO, iO, tN, slotsR, S.ren]
      · rw [← e1]
        obtain ⟨V, hV⟩ : ∃ V, P.map (·.2) ++ (Sg.take k).map (·.2) = V := ⟨_, rfl⟩
        rw [hV] at hlen ⊢
        simp [go_sem, ↓iO, iO, tN, psS, encY]
        repeat (refine anI ?_)
        refine ⟨[(0, some 0), (1000, some 143)], ?_⟩
        simp [go_sem, ↓iO, iO, tN]
      · simp [go_sem, ↓iO, iO, tN]
    · have hsl : (Sg.map encY).length = Sg.length := by simp
      rw [hsl]
      obtain ⟨R, hR⟩ : ∃ R, P.map (·.2) ++ Sg.map (·.2) = R := ⟨_, rfl⟩
      rw [hR] at dl
      simp only [List.take_length, hR]
      refine CW.weak (ρ := [(0, some 0), (1, some 1), (2, some 2), (3, some 3), (102, some 102), (104, some 104), (106, some 106)]) (σ' := ⟨[(0, .pt 0 [] 0), (1, .t (.int node)), (2, .pt 102 [] 0), (4, .pt 104 [] 0), (5, .t (encPs l)), (6, .pt 106 [] 0)], [(0, lineB d.net d.plan (.sl 1 (d.feeds.map encI)) order), (1, blkG fi), (2, blkG gi), (3, blkG oo), (102, .box 71 (.pt 0 [] 0)), (104, .box 46 (.t (.int 0))), (106, .box 22 (.t (encIs R)))]⟩) ?_ ?_
      · simp [go_sem, ↓iO, iO, tN]
      repeat (first | (refine nf1_sound rfl ?_; simp [go_sem, ↓iO, iO, tN]) | refine anI ?_ | refine ⟨dcK, ?_⟩ | ((first | refine iP ?_ | refine iN ?_); try simp [go_sem, ↓iO, iO, tN]))
      refine CallK.fn (dl) [] [] [] (by kernel_rfl) ?_ ?_ ?_ (Or.inl rfl) ?_ <;> simp [go_sem, ↓iO, iO, tN]
      repeat (refine anI ?_)
      try (refine ⟨dcK, ?_⟩)
      repeat (first | (refine nf1_sound rfl ?_; simp [go_sem, ↓iO, iO, tN]) | refine anI ?_ | refine ⟨dcK, ?_⟩ | ((first | refine iP ?_ | refine iN ?_); try simp [go_sem, ↓iO, iO, tN]))
      refine CallK.fn (ports_fn d.net d.plan (.sl 1 (d.feeds.map encI)) order fi gi oo node false) [(0, 0), (1, 1), (2, 2), (3, 3), (1000, 540), (1001, 541), (1002, 542)] [] [] (by kernel_rfl) ?_ ?_ ?_ (Or.inl rfl) ?_ <;> simp [go_sem, ↓iO, iO, tN]
      repeat (refine anI ?_)
      try (refine ⟨dcK, ?_⟩)
      refine nf1_sound' _ _ _ ?_; simp only [nf1]
      refine CW.rangeF (N := 87) [(0, .pt 0 [] 0), (1, .t (.int node)), (2, .pt 102 [] 0), (4, .pt 104 [] 0), (11, .pt 111 [] 0), (13, .pt 113 [] 0), (55, .fn 98 [.pt 540 [] 0, .pt 541 [] 0, .pt 542 [] 0])]
        (fun k => [(0, lineB d.net d.plan (.sl 1 (d.feeds.map encI)) order), (1, blkG fi), (2, blkG gi), (3, blkG (outO oo P x k)), (102, .box 71 (.pt 0 [] 0)), (104, .box 46 (.t (.int 0))), (111, .box 42 (.t (.sl 1 (x.map encPs)))), (113, .box 3 (.t (.int k))), (540, .box 71 (.pt 0 [] 0)), (541, .box 3 (.t (.int node))), (542, .box 4 (.t (.bool false)))])
        [(0, some 0), (1, some 1), (2, some 2), (3, some 3), (102, some 102), (104, some 104), (111, some 111), (113, some 113), (540, some 540), (541, some 541), (542, some 542)]
        (lineI 540 541 542 0 (.t (.int node)) (.t (.bool false)) 3 4 d.net d.plan [.t (.sl 1 (d.feeds.map encI)), .t order, .own 1, .own 2, .own 3]) (P.map encY)
        [(0, some 0), (1, some 1), (2, some 2), (3, some 3), (102, some 102), (104, some 104), (111, some 111), (113, some 113), (540, some 540), (541, some 541), (542, some 542)]
        ?_ rfl (by kernel_rfl) (by kernel_rfl) (by kernel_rfl) (by kernel_rfl) (by kernel_rfl) (by kernel_rfl) (by kernel_rfl) ?_ ?_ ?_ rfl ?_ ?_ ?_
      · simp [go_sem, ↓iO, iO, tN, outO]
      · intro y hy
        obtain ⟨z, _, rfl⟩ := List.mem_map.1 hy
        rfl
      · intro y hy v hv
        obtain ⟨z, _, rfl⟩ := List.mem_map.1 hy
        simp [encY] at hv
        rcases hv with rfl | rfl <;> rfl
      · rw [← hP]
        exact ports_iter 540 541 542 0 rfl node false d.nodes (.sl 7 (d.segs.map encSg)) d.stat d.ports d.vap d.stl (.sl 1 (d.rates.map encI)) d.pumps d.prates _ hd.w1 rfl rfl hd.w2 hd.w3 hd.w4 hd.lenP hd.neP hd.maxP (fun r hr => by have := hd.bP r hr; omega)
      · intro k hk
        simp [go_sem, ↓iO, iO, tN, lineI]
        rfl
      · intro k y hy
        obtain ⟨z, hz, rfl⟩ : ∃ z, P[k]? = some z ∧ y = encY z := by
          rw [List.getElem?_map] at hy
          obtain ⟨z, h1, h2⟩ := Option.map_eq_some_iff.1 hy
          exact ⟨z, h1, h2.symm⟩
        have hkl : k < P.length := (List.getElem?_eq_some_iff.1 hz).1
        obtain ⟨z1, z2⟩ := z
        have hzl := hPg _ (List.mem_of_getElem? hz)
        dsimp only at hzl
        have hol2 := outO_len oo P x k
        obtain ⟨s, hs⟩ : ∃ s, x[k]? = some s := has_get (by omega)
        have hos : outO oo P x (k + 1) = (outO oo P x k).set z1 (some s) := by
          simp only [outO, List.getD_eq_getElem?_getD, hz, hs, Option.getD_some]
        refine ⟨[(0, 0), (1, 1), (2, 2), (3, 3), (4, 102), (5, 111), (6, 113)], [(2, .pt 4 [] 0), (11, .pt 5 [] 0), (13, .pt 6 [] 0)],
          [(0, lineB d.net d.plan (.sl 1 (d.feeds.map encI)) order), (1, blkG fi), (2, blkG gi), (3, blkG (outO oo P x k)), (4, .box 71 (.pt 0 [] 0)), (5, .box 42 (.t (.sl 1 (x.map encPs)))), (6, .box 3 (.t (.int k)))],
          [(0, lineB d.net d.plan (.sl 1 (d.feeds.map encI)) order), (1, blkG fi), (2, blkG gi), (3, blkG (outO oo P x (k + 1))), (4, .box 71 (.pt 0 [] 0)), (5, .box 42 (.t (.sl 1 (x.map encPs)))), (6, .box 3 (.t (.int (k + 1))))],
          [(0, some 0), (1, some 1), (2, some 2), (3, some 3), (102, some 102), (104, some 104), (111, some 111), (113, some 113), (540, some 540), (541, some 541), (542, some 542)], ?_⟩
        refine ⟨by kernel_rfl, ?_, ?_, rfl, by kernel_rfl, ?_, ?_⟩
        · simp [go_sem, ↓iO, iO, tN]
        · simp [go_sem, ↓iO, iO, tN, slotsR, S.ren]
        · rw [hos]
          obtain ⟨V, hV⟩ : ∃ V, outO oo P x k = V := ⟨_, rfl⟩
          rw [hV] at hol2 ⊢
          obtain ⟨og, hgo⟩ : ∃ og, V[z1]? = some og := has_get (by omega)
          have hvz : z1 < V.length := by omega
          have hsx : k < x.length := by omega
          have hs2 : x[k] = s := (List.getElem?_eq_some_iff.1 hs).2
          have hv2 : V[z1] = og := (List.getElem?_eq_some_iff.1 hgo).2
          refine nfK0 ?_; simp [go_sem, ↓iO, iO, tN, psS, encY]; (repeat (refine anI ?_)); try (refine ⟨dcK, ?_⟩)
          repeat (first | (refine nfK1 ?_; simp (maxSteps := 1000000) [go_sem, ↓iO, iO, tN, hs, hgo, hvz, hv2, hsx, hs2, w1, w2, w3, w4, w5, w6, widths_gv, width_gv]; (repeat (refine anI ?_)); try (refine ⟨dcK, ?_⟩)) | ((first | refine itePos (by omega) ?_ | refine iteNeg (by omega) ?_); try simp [go_sem, ↓iO, iO, tN, hs, hgo, hvz, hv2, hsx, hs2, w1, w2, w3, w4, w5, w6, widths_gv, width_gv]) | (refine ⟨dcK, ?_⟩))
          refine ⟨by cases og <;> rfl, ?_⟩
          repeat (refine anI ?_)
          refine ⟨dcK, ?_⟩
          repeat (first | (refine nfK1 ?_; simp (maxSteps := 1000000) [go_sem, ↓iO, iO, tN]; (repeat (refine anI ?_)); try (refine ⟨dcK, ?_⟩)) | ((first | refine itePos (by omega) ?_ | refine iteNeg (by omega) ?_); try simp [go_sem, ↓iO, iO, tN]) | (refine ⟨dcK, ?_⟩))
          refine ⟨[(0, some 0), (1, some 1), (2, some 2), (3, some 3), (4, some 4), (5, some 5), (6, some 6)], ?_⟩
          simp [go_sem, ↓iO, iO, tN, List.map_set]
        · simp [go_sem, ↓iO, iO, tN]
      · have hpl : (P.map encY).length = P.length := by simp
        rw [hpl]
        obtain ⟨O, hO⟩ : ∃ O, outO oo P x P.length = O := ⟨_, rfl⟩
        rw [hO]
        repeat (first | (refine nf1_sound rfl ?_; simp [go_sem, ↓iO, iO, tN]) | refine anI ?_ | refine ⟨dcK, ?_⟩ | ((first | refine iP ?_ | refine iN ?_); try simp [go_sem, ↓iO, iO, tN]))
        refine CallK.fn (segments_fn d.net d.plan (.sl 1 (d.feeds.map encI)) order fi gi O node false) [(0, 0), (1, 1), (2, 2), (3, 3), (1000, 550), (1001, 551), (1002, 552)] [] [] (by kernel_rfl) ?_ ?_ ?_ (Or.inl rfl) ?_ <;> simp [go_sem, ↓iO, iO, tN]
        repeat (refine anI ?_)
        try (refine ⟨dcK, ?_⟩)
        refine nf1_sound' _ _ _ ?_; simp only [nf1]
        refine CW.rangeF (N := 87) [(0, .pt 0 [] 0), (1, .t (.int node)), (2, .pt 102 [] 0), (4, .pt 104 [] 0), (11, .pt 111 [] 0), (13, .pt 113 [] 0), (72, .fn 99 [.pt 550 [] 0, .pt 551 [] 0, .pt 552 [] 0])]
          (fun k => [(0, lineB d.net d.plan (.sl 1 (d.feeds.map encI)) order), (1, blkG (setK fi Sg (nodeF d.rates fi x P.length) k)), (2, blkG (setK gi Sg (nodeG d.rates fi x P.length) k)), (3, blkG O), (102, .box 71 (.pt 0 [] 0)), (104, .box 46 (.t (.int 0))), (111, .box 42 (.t (.sl 1 (x.map encPs)))), (113, .box 3 (.t (.int ((P.length + k : Nat) : Int)))), (550, .box 71 (.pt 0 [] 0)), (551, .box 4 (.t (.bool false))), (552, .box 3 (.t (.int node)))])
          [(0, some 0), (1, some 1), (2, some 2), (3, some 3), (102, some 102), (104, some 104), (111, some 111), (113, some 113), (550, some 550), (551, some 551), (552, some 552)]
          (lineI 550 551 552 0 (.t (.bool false)) (.t (.int node)) 4 3 d.net d.plan [.t (.sl 1 (d.feeds.map encI)), .t order, .own 1, .own 2, .own 3]) (Sg.map encY)
          [(0, some 0), (1, some 1), (2, some 2), (3, some 3), (102, some 102), (104, some 104), (111, some 111), (113, some 113), (550, some 550), (551, some 551), (552, some 552)]
          ?_ rfl (by kernel_rfl) (by kernel_rfl) (by kernel_rfl) (by kernel_rfl) (by kernel_rfl) (by kernel_rfl) (by kernel_rfl) ?_ ?_ ?_ rfl ?_ ?_ ?_
        · simp [go_sem, ↓iO, iO, tN, setK]
        · intro y hy
          obtain ⟨z, _, rfl⟩ := List.mem_map.1 hy
          rfl
        · intro y hy v hv
          obtain ⟨z, _, rfl⟩ := List.mem_map.1 hy
          simp [encY] at hv
          rcases hv with rfl | rfl <;> rfl
        · rw [← hSg]
          exact segs_iter 550 551 552 0 rfl node false d.nodes (.sl 3 (d.ports.map encPr)) d.stat d.segs d.vap d.stl (.sl 1 (d.prates.map encI)) d.pumps d.rates _ hd.w1 rfl hd.w2 hd.w3 hd.w4 hd.lenR hd.neS hd.maxS (fun r hr => by have := hd.bR r hr; omega)
        · intro k hk
          simp [go_sem, ↓iO, iO, tN, lineI]
          rfl
        · intro k y hy
          obtain ⟨z, hz, rfl⟩ : ∃ z, Sg[k]? = some z ∧ y = encY z := by
            rw [List.getElem?_map] at hy
            obtain ⟨z, h1, h2⟩ := Option.map_eq_some_iff.1 hy
            exact ⟨z, h1, h2.symm⟩
          have hkl : k < Sg.length := (List.getElem?_eq_some_iff.1 hz).1
          obtain ⟨z1, z2⟩ := z
          have hzl := hSGg _ (List.mem_of_getElem? hz)
          dsimp only at hzl
          obtain ⟨⟨f, hf, hf6⟩, hl6, ho6, he⟩ := hpush k _ hz
          have hf0 : gvAt fi (z1, z2) = f := by unfold gvAt; rw [List.getD_eq_getElem?_getD, hf]; rfl
          obtain ⟨r, hr⟩ : ∃ r, d.rates[z1]? = some r := has_get (by rw [hd.lenR]; exact hzl)
          have hb0 : backAt d.rates (z1, z2) = decide (r < 0) := by unfold backAt; rw [List.getD_eq_getElem?_getD, hr]; rfl
          obtain ⟨s, hs⟩ : ∃ s, x[P.length + k]? = some s := has_get (by omega)
          have hs0 : x.getD (P.length + k) [] = s := by rw [List.getD_eq_getElem?_getD, hs]; rfl
          rw [hs0] at hl6
          rw [hf0, hs0, hb0] at ho6 he
          have hgd : Sg.getD k (0, 0) = (z1, z2) := by rw [List.getD_eq_getElem?_getD, hz]; rfl
          have hF1 : setK fi Sg (nodeF d.rates fi x P.length) (k + 1) = (setK fi Sg (nodeF d.rates fi x P.length) k).set z1 (some (fillV f s (decide (r < 0)))) := by
            rw [← hf0, ← hs0, ← hb0, setK, hgd]; rfl
          have hG1 : setK gi Sg (nodeG d.rates fi x P.length) (k + 1) = (setK gi Sg (nodeG d.rates fi x P.length) k).set z1 (some (outV f s (decide (r < 0)))) := by
            rw [← hf0, ← hs0, ← hb0, setK, hgd]; rfl
          have hfk := setK_at fi Sg (nodeF d.rates fi x P.length) hinc k (z1, z2) hz k (Nat.le_refl _)
          dsimp only at hfk
          rw [hf] at hfk
          have hfl2 := setK_len fi Sg (nodeF d.rates fi x P.length) k
          have hgl2 := setK_len gi Sg (nodeG d.rates fi x P.length) k
          have j1 := apush_fn d hd order w6 (setK fi Sg (nodeF d.rates fi x P.length) k) (setK gi Sg (nodeG d.rates fi x P.length) k) O (by omega) (by omega) z1 r f s hr hfk hf6 hl6 ho6 he
          rw [← hF1, ← hG1] at j1
          refine ⟨[(0, 0), (1, 1), (2, 2), (3, 3), (4, 102), (5, 111), (6, 113)], [(2, .pt 4 [] 0), (11, .pt 5 [] 0), (13, .pt 6 [] 0)],
            [(0, lineB d.net d.plan (.sl 1 (d.feeds.map encI)) order), (1, blkG (setK fi Sg (nodeF d.rates fi x P.length) k)), (2, blkG (setK gi Sg (nodeG d.rates fi x P.length) k)), (3, blkG O), (4, .box 71 (.pt 0 [] 0)), (5, .box 42 (.t (.sl 1 (x.map encPs)))), (6, .box 3 (.t (.int ((P.length + k : Nat) : Int))))],
            [(0, lineB d.net d.plan (.sl 1 (d.feeds.map encI)) order), (1, blkG (setK fi Sg (nodeF d.rates fi x P.length) (k + 1))), (2, blkG (setK gi Sg (nodeG d.rates fi x P.length) (k + 1))), (3, blkG O), (4, .box 71 (.pt 0 [] 0)), (5, .box 42 (.t (.sl 1 (x.map encPs)))), (6, .box 3 (.t (.int ((P.length + (k + 1) : Nat) : Int))))],
            [(0, some 0), (1, some 1), (2, some 2), (3, some 3), (102, some 102), (104, some 104), (111, some 111), (113, some 113), (550, some 550), (551, some 551), (552, some 552)], ?_⟩
          refine ⟨by kernel_rfl, ?_, ?_, rfl, by kernel_rfl, ?_, ?_⟩
          · simp [go_sem, ↓iO, iO, tN]
          · simp [go_sem, ↓iO, iO, tN, slotsR, S.ren]
          · obtain ⟨F1, hF1'⟩ : ∃ F1, setK fi Sg (nodeF d.rates fi x P.length) k = F1 := ⟨_, rfl⟩
            obtain ⟨F2, hF2'⟩ : ∃ F2, setK fi Sg (nodeF d.rates fi x P.length) (k + 1) = F2 := ⟨_, rfl⟩
            obtain ⟨G1, hG1'⟩ : ∃ G1, setK gi Sg (nodeG d.rates fi x P.length) k = G1 := ⟨_, rfl⟩
            obtain ⟨G2, hG2'⟩ : ∃ G2, setK gi Sg (nodeG d.rates fi x P.length) (k + 1) = G2 := ⟨_, rfl⟩
            rw [hF1', hF2', hG1', hG2'] at j1
            rw [hF1', hF2', hG1', hG2']
            have hsx : P.length + k < x.length := by omega
            have hs2 : x[P.length + k] = s := (List.getElem?_eq_some_iff.1 hs).2
            have e3 : ((P.length : Int) + (k : Int)).toNat = P.length + k := by omega
            refine nfK0 ?_; simp [go_sem, ↓iO, iO, tN, psS, encY]; (repeat (refine anI ?_)); try (refine ⟨dcK, ?_⟩)
            repeat (first | (refine nfK1 ?_; simp (maxSteps := 1000000) [go_sem, ↓iO, iO, tN, hs, e3, hsx, hs2, w1, w2, w3, w4, w5, w6, widths_gv, width_gv]; (repeat (refine anI ?_)); try (refine ⟨dcK, ?_⟩)) | ((first | refine itePos (by omega) ?_ | refine iteNeg (by omega) ?_); try simp [go_sem, ↓iO, iO, tN, hs, e3, hsx, hs2, w1, w2, w3, w4, w5, w6, widths_gv, width_gv]) | (refine ⟨dcK, ?_⟩))
            refine CallK.fn (j1) [(0, 0), (1, 1), (2, 2), (3, 3)] [] [] (by kernel_rfl) ?_ ?_ ?_ (Or.inl rfl) ?_ <;> simp [go_sem, ↓iO, iO, tN, hs, e3, hsx, hs2, w1, w2, w3, w4, w5, w6, widths_gv, width_gv]
            repeat (refine anI ?_)
            try (refine ⟨dcK, ?_⟩)
            repeat (first | (refine nfK1 ?_; simp (maxSteps := 1000000) [go_sem, ↓iO, iO, tN, e3]; (repeat (refine anI ?_)); try (refine ⟨dcK, ?_⟩)) | ((first | refine itePos (by omega) ?_ | refine iteNeg (by omega) ?_); try simp [go_sem, ↓iO, iO, tN, e3]) | (refine ⟨dcK, ?_⟩))
            refine ⟨[(0, some 0), (1, some 1), (2, some 2), (3, some 3), (4, some 4), (5, some 5), (6, some 6)], ?_⟩
            simp [go_sem, ↓iO, iO, tN]
            omega
          · simp [go_sem, ↓iO, iO, tN]
        · have hsl : (Sg.map encY).length = Sg.length := by simp
          rw [hsl]
          obtain ⟨F1, hF1'⟩ : ∃ F1, setK fi Sg (nodeF d.rates fi x P.length) Sg.length = F1 := ⟨_, rfl⟩
          obtain ⟨G1, hG1'⟩ : ∃ G1, setK gi Sg (nodeG d.rates fi x P.length) Sg.length = G1 := ⟨_, rfl⟩
          rw [hF1', hG1']
          repeat (first | (refine nf1_sound rfl ?_; simp [go_sem, ↓iO, iO, tN]) | refine anI ?_ | refine ⟨dcK, ?_⟩ | ((first | refine iP ?_ | refine iN ?_); try simp [go_sem, ↓iO, iO, tN]))
          first | rw [RetQ_ret] | rw [RetQ_normal]
          refine ⟨[(0, some 0), (1, some 1), (2, some 2), (3, some 3)], ?_⟩
          simp [go_sem, ↓iO, iO, tN]
end Go.Proofs.YtdjmklobfjigoaaGreatDoor
namespace Go.Proofs.YtdjmklobfjigoaaGreatDoor
open Go.RowKit Sy Dl
theorem vol_rev : ∀ f : List (Int × Int), Pc.vol f.reverse = Pc.vol f
  | [] => rfl
  | p :: r => by rw [List.reverse_cons, Pc.vol_append, vol_rev r]; simp only [Pc.vol]; omega
theorem rev_get {α : Type} {l : List α} {i : Nat} (h : i < l.length) : l.reverse[i]? = l[l.length - 1 - i]? := List.getElem?_reverse h
theorem vd_rev {f : List (Int × Int)} (h : Pc.Vd f) : Pc.Vd f.reverse := by
  refine ⟨by rw [List.length_reverse]; exact h.len, ?_, by rw [vol_rev]; exact h.vol⟩
  intro i hi p hp
  rw [List.length_reverse] at hi
  rw [rev_get hi] at hp
  have h1 := h.each p (mem_get hp)
  refine ⟨by omega, fun q h0 hq => ?_⟩
  rw [rev_get (by omega)] at hq
  have e : f.length - 1 - (i - 1) = f.length - 1 - i + 1 := by omega
  rw [e] at hq
  have h2 := (h.ok (f.length - 1 - i + 1) (by omega) q hq).2 p (by omega) (by simpa using hp)
  exact fun hh => h2 hh.symm
theorem litres_rev : ∀ f : List (Int × Int), Pc.litres f.reverse = (Pc.litres f).reverse
  | [] => rfl
  | p :: r => by rw [List.reverse_cons, Pc.litres_append, litres_rev r]; simp [Pc.litres]
theorem cs_one (r : Int) (hr : 0 < r) : ∀ k : Nat, cs [r] k = [(k : Int)]
  | 0 => rfl
  | k + 1 => by
    simp only [cs, cs_one r hr k]
    simp [bump, nx, rt, hr]
theorem strm_one (r : Int) (hr : 0 < r) : ∀ (l : List (Int × Int)) (a : Nat), (∀ p ∈ l, 0 ≤ p.2) → strm [r] 0 l a = l
  | [], _, _ => rfl
  | p :: t, a, h => by
    have hp := h p (by simp)
    simp only [strm, cs_one r hr, rt]
    rw [strm_one r hr t _ (fun q hq => h q (by simp [hq]))]
    have : ((a + p.2.toNat : Nat) : Int) - (a : Int) = p.2 := by omega
    simp
    rw [Int.max_eq_left hp]
    ext <;> simp
    omega
theorem merge_vd {l : List (Int × Int)} (h : Pc.Vd l) : Pc.merge l = l := by
  rw [merge_good ⟨by have := h.len; omega, fun p hp => by have := h.each p hp; omega⟩, Pc.join_self h.canon]
theorem deal_one (r : Int) (hr : 0 < r) (h1 : r ≤ 1000) (l : List (Int × Int)) (hl : Pc.Vd l) (hv : Pc.vol l ≤ r) (hne : l ≠ []) : dealV l [r] = ([l], 0) := by
  have hR : Rates [r] := ⟨by simp, by simp; omega, by simp [tot]; omega⟩
  have hc := chk_of hR (hl.sane.vol).1 (by simp [tot]; omega)
  unfold dealV
  rw [merge_vd hl]
  have hlen := hl.len
  simp only [hc]
  rw [if_neg (by simp [hne]; omega), if_neg (by simp)]
  simp [dealt, List.range_succ, strm_one r hr l 0 hl.nonneg, Pc.join_self hl.canon]
theorem vd_one {b r : Int} (hb : 0 ≤ b ∧ b < 1000) (hr : 0 < r) (h1 : r ≤ 1000) : Pc.Vd [(b, r)] := by
  refine Pc.vd_of_canon ⟨hr, by simp, trivial⟩ (fun p hp => ?_) (by simp) (by simp [Pc.vol]; omega)
  simp at hp; subst hp; exact hb
end Go.Proofs.YtdjmklobfjigoaaGreatDoor
namespace Go.Proofs.YtdjmklobfjigoaaGreatDoor
open Go.RowKit Sy
open Go.IntWalk renaming iteOmega → iO, toNatUp → tN
theorem nin_fn (n a b : Int) (r : Bool) (h : decide (a ≤ n ∧ n ≤ b) = r) : FnOk Tryz.prog 91 [.t (.int n), .t (.int a), .t (.int b)] [] (.t (.bool r)) [] := by
  subst h
  refine FnOk.intro fact_mixed Tryz.func91 rfl Tryz.ntmps91 (by rfl) (by simp) ?_
  by_cases h1 : a ≤ n
  · by_cases h2 : n ≤ b
    · repeat (first | (refine nf1_sound rfl ?_; simp [go_sem, ↓iO, iO, tN, h1, h2]) | refine anI ?_ | refine ⟨dcK, ?_⟩ | ((first | refine iP ?_ | refine iN ?_); try simp [go_sem, ↓iO, iO, tN, h1, h2]))
      first | rw [RetQ_ret] | rw [RetQ_normal]
      refine ⟨[], ?_⟩
      simp [go_sem, ↓iO, iO, tN, h1, h2]
    · repeat (first | (refine nf1_sound rfl ?_; simp [go_sem, ↓iO, iO, tN, h1, h2]) | refine anI ?_ | refine ⟨dcK, ?_⟩ | ((first | refine iP ?_ | refine iN ?_); try simp [go_sem, ↓iO, iO, tN, h1, h2]))
      first | rw [RetQ_ret] | rw [RetQ_normal]
      refine ⟨[], ?_⟩
      simp [go_sem, ↓iO, iO, tN, h1, h2]
  · repeat (first | (refine nf1_sound rfl ?_; simp [go_sem, ↓iO, iO, tN, h1]) | refine anI ?_ | refine ⟨dcK, ?_⟩ | ((first | refine iP ?_ | refine iN ?_); try simp [go_sem, ↓iO, iO, tN, h1]))
    first | rw [RetQ_ret] | rw [RetQ_normal]
    refine ⟨[], ?_⟩
    simp [go_sem, ↓iO, iO, tN, h1]
structure PipeOk (s : Sgm) : Prop where
  ends : s.1.fr ≠ s.1.to
  cap : 1 ≤ s.1.cp ∧ s.1.cp ≤ 1000000
  res : 0 ≤ s.1.rs ∧ s.1.rs ≤ 1000
  wav : 0 ≤ s.1.wv ∧ s.1.wv ≤ 100000
  len : 2 ≤ s.2.length ∧ s.2.length ≤ 8
  pts : ∀ (k : Nat) (p : Int × Int × Int), s.2[k]? = some p → ((-500 : Int) ≤ p.2.1 ∧ p.2.1 ≤ 5000) ∧ (0 ≤ p.2.2 ∧ p.2.2 ≤ 100000000) ∧ ∀ q, 0 < k → s.2[k - 1]? = some q → q.1 < p.1
  fst : ∀ (p : Int × Int × Int), s.2[0]? = some p → p.1 = 0
  lst : ∀ (p : Int × Int × Int), s.2[s.2.length - 1]? = some p → p.1 = s.1.cp
theorem pipe_fn (s : Sgm) (h : PipeOk s) : FnOk Tryz.prog 88 [.t (encSg s)] [] (.t (.bool true)) [] := by
  obtain ⟨⟨nm, fr, to, cp, rs, wv⟩, pts⟩ := s
  obtain ⟨h1, h2, h3, h4, h5, h6, h7, h8⟩ := h
  dsimp only at h1 h2 h3 h4 h5 h6 h7 h8
  have c1 := nin_fn cp 1 1000000 true (by simpa using h2)
  have c2 := nin_fn rs 0 1000 true (by simpa using h3)
  have c3 := nin_fn wv 0 100000 true (by simpa using h4)
  refine FnOk.intro fact_mixed Tryz.func88 rfl Tryz.ntmps88 (by rfl) (by simp) ?_
  repeat (first | (refine nf1_sound rfl ?_; simp [go_sem, ↓iO, iO, tN, h1]) | refine anI ?_ | refine ⟨dcK, ?_⟩ | ((first | refine iP ?_ | refine iN ?_); try simp [go_sem, ↓iO, iO, tN, h1]))
  refine CallK.fn (c1) [] [] [] (by kernel_rfl) ?_ ?_ ?_ (Or.inl rfl) ?_ <;> simp [go_sem, ↓iO, iO, tN, h1]
  repeat (refine anI ?_)
  try (refine ⟨dcK, ?_⟩)
  repeat (first | (refine nf1_sound rfl ?_; simp [go_sem, ↓iO, iO, tN, h1]) | refine anI ?_ | refine ⟨dcK, ?_⟩ | ((first | refine iP ?_ | refine iN ?_); try simp [go_sem, ↓iO, iO, tN, h1]))
  refine CallK.fn (c2) [] [] [] (by kernel_rfl) ?_ ?_ ?_ (Or.inl rfl) ?_ <;> simp [go_sem, ↓iO, iO, tN, h1]
  repeat (refine anI ?_)
  try (refine ⟨dcK, ?_⟩)
  repeat (first | (refine nf1_sound rfl ?_; simp [go_sem, ↓iO, iO, tN, h1]) | refine anI ?_ | refine ⟨dcK, ?_⟩ | ((first | refine iP ?_ | refine iN ?_); try simp [go_sem, ↓iO, iO, tN, h1]))
  refine CallK.fn (c3) [] [] [] (by kernel_rfl) ?_ ?_ ?_ (Or.inl rfl) ?_ <;> simp [go_sem, ↓iO, iO, tN, h1]
  repeat (refine anI ?_)
  try (refine ⟨dcK, ?_⟩)
  repeat (first | (refine nf1_sound rfl ?_; simp [go_sem, ↓iO, iO, tN, h1]) | refine anI ?_ | refine ⟨dcK, ?_⟩ | ((first | refine iP ?_ | refine iN ?_); try simp [go_sem, ↓iO, iO, tN, h1]))
  refine nf1_sound' _ _ _ ?_; simp only [nf1]
  refine CW.loop (ι := Nat) (fun k => ⟨[(1, .pt 101 [] 0), (29, .t (.sl 3 (pts.map encPt))), (30, .t (.int pts.length)), (31, .t (.int k))], [(101, .box 38 (.t (encSg (⟨nm, fr, to, cp, rs, wv⟩, pts))))]⟩) (fun k => k ≤ pts.length) (fun k => pts.length - k) 0 [(101, some 101)] (by omega) ?_ ?_
  · simp [go_sem, ↓iO, iO, tN]
  intro k hk
  by_cases hb : k < pts.length
  · obtain ⟨p, hp⟩ := has_get hb
    obtain ⟨q1, q2, q3⟩ := h6 k p hp
    obtain ⟨at', he, li⟩ := p
    dsimp only at q1 q2 q3
    have d1 := nin_fn he (-500) 5000 true (by simpa using q1)
    have d2 := nin_fn li 0 100000000 true (by simpa using q2)
    have hp2 : pts[k] = (at', he, li) := (List.getElem?_eq_some_iff.1 hp).2
    rcases Nat.eq_zero_or_pos k with rfl | h0
    · repeat (first | (refine nf1_sound rfl ?_; simp [go_sem, ↓iO, iO, tN, hp, hp2, hb]) | refine anI ?_ | refine ⟨dcK, ?_⟩ | ((first | refine iP ?_ | refine iN ?_); try simp [go_sem, ↓iO, iO, tN, hp, hp2, hb]))
      refine CallK.fn (d1) [] [] [] (by kernel_rfl) ?_ ?_ ?_ (Or.inl rfl) ?_ <;> simp [go_sem, ↓iO, iO, tN, hp, hp2, hb]
      repeat (refine anI ?_)
      try (refine ⟨dcK, ?_⟩)
      repeat (first | (refine nf1_sound rfl ?_; simp [go_sem, ↓iO, iO, tN, hp, hp2, hb]) | refine anI ?_ | refine ⟨dcK, ?_⟩ | ((first | refine iP ?_ | refine iN ?_); try simp [go_sem, ↓iO, iO, tN, hp, hp2, hb]))
      refine CallK.fn (d2) [] [] [] (by kernel_rfl) ?_ ?_ ?_ (Or.inl rfl) ?_ <;> simp [go_sem, ↓iO, iO, tN, hp, hp2, hb]
      repeat (refine anI ?_)
      try (refine ⟨dcK, ?_⟩)
      repeat (first | (refine nf1_sound rfl ?_; simp [go_sem, ↓iO, iO, tN, hp, hp2, hb]) | refine anI ?_ | refine ⟨dcK, ?_⟩ | ((first | refine iP ?_ | refine iN ?_); try simp [go_sem, ↓iO, iO, tN, hp, hp2, hb]))
      rw [RoundQ_normal]; refine ⟨1, [(101, some 101)], ?_, ?_, ?_⟩
      · omega
      · omega
      simp [go_sem, ↓iO, iO, tN]
    · obtain ⟨q, hq⟩ : ∃ q, pts[k - 1]? = some q := has_get (by omega)
      have q4 := q3 q h0 hq
      obtain ⟨qa, qh, ql⟩ := q
      dsimp only at q4
      have hk1 : k - 1 < pts.length := by omega
      have hq2 : pts[k - 1] = (qa, qh, ql) := (List.getElem?_eq_some_iff.1 hq).2
      have e1 : ((k : Int) - 1).toNat = k - 1 := by omega
      repeat (first | (refine nf1_sound rfl ?_; simp [go_sem, ↓iO, iO, tN, hp, hp2, hb]) | refine anI ?_ | refine ⟨dcK, ?_⟩ | ((first | refine iP ?_ | refine iN ?_); try simp [go_sem, ↓iO, iO, tN, hp, hp2, hb]))
      refine CallK.fn (d1) [] [] [] (by kernel_rfl) ?_ ?_ ?_ (Or.inl rfl) ?_ <;> simp [go_sem, ↓iO, iO, tN, hp, hp2, hb, h0]
      repeat (refine anI ?_)
      try (refine ⟨dcK, ?_⟩)
      repeat (first | (refine nf1_sound rfl ?_; simp [go_sem, ↓iO, iO, tN, hp, hp2, hb, h0]) | refine anI ?_ | refine ⟨dcK, ?_⟩ | ((first | refine iP ?_ | refine iN ?_); try simp [go_sem, ↓iO, iO, tN, hp, hp2, hb, h0]))
      refine CallK.fn (d2) [] [] [] (by kernel_rfl) ?_ ?_ ?_ (Or.inl rfl) ?_ <;> simp [go_sem, ↓iO, iO, tN, hp, hp2, hb, h0, hq, hq2, e1, hk1, q4]
      repeat (refine anI ?_)
      try (refine ⟨dcK, ?_⟩)
      repeat (first | (refine nf1_sound rfl ?_; simp [go_sem, ↓iO, iO, tN, hp, hp2, hb, h0, hq, hq2, e1, hk1, q4]) | refine anI ?_ | refine ⟨dcK, ?_⟩ | ((first | refine iP ?_ | refine iN ?_); try simp [go_sem, ↓iO, iO, tN, hp, hp2, hb, h0, hq, hq2, e1, hk1, q4]))
      rw [RoundQ_normal]; refine ⟨k + 1, [(101, some 101)], ?_, ?_, ?_⟩
      · omega
      · omega
      simp [go_sem, ↓iO, iO, tN]
  · obtain rfl : k = pts.length := by omega
    obtain ⟨p, hp⟩ : ∃ p, pts[0]? = some p := has_get (by omega)
    obtain ⟨q, hq⟩ : ∃ q, pts[pts.length - 1]? = some q := has_get (by omega)
    have g1 := h7 p hp
    have g2 := h8 q hq
    obtain ⟨pa, ph, pl⟩ := p
    obtain ⟨qa, qh, ql⟩ := q
    dsimp only at g1 g2
    have hp2 : pts[0]'(by omega) = (pa, ph, pl) := (List.getElem?_eq_some_iff.1 hp).2
    have hq2 : pts[pts.length - 1]'(by omega) = (qa, qh, ql) := (List.getElem?_eq_some_iff.1 hq).2
    have e1 : ((pts.length : Int) - 1).toNat = pts.length - 1 := by omega
    have e2 : 0 < pts.length := by omega
    have e3 : pts.length - 1 < pts.length := by omega
    repeat (first | (refine nf1_sound rfl ?_; simp [go_sem, ↓iO, iO, tN, hp, hp2, hq, hq2, g1, g2, e1, e2, e3]) | refine anI ?_ | refine ⟨dcK, ?_⟩ | ((first | refine iP ?_ | refine iN ?_); try simp [go_sem, ↓iO, iO, tN, hp, hp2, hq, hq2, g1, g2, e1, e2, e3]))
    first | rw [RetQ_ret] | rw [RetQ_normal]
    refine ⟨[], ?_⟩
    simp [go_sem, ↓iO, iO, tN]
end Go.Proofs.YtdjmklobfjigoaaGreatDoor
namespace Go.Proofs.YtdjmklobfjigoaaGreatDoor
open Go.RowKit Sy Dl
open Go.IntWalk renaming iteOmega → iO, toNatUp → tN
def NodeC (d : LineD) (order : T) (node : Int) (f0 g0 o0 f1 g1 o1 : List (Option (List (Int × Int)))) : Prop :=
  FnOk Tryz.prog 51 [.pt 0 [] 0, .t (.int node)] [(0, lineB d.net d.plan (.sl 1 (d.feeds.map encI)) order), (1, blkG f0), (2, blkG g0), (3, blkG o0)]
      (.t (.int 0)) [(0, lineB d.net d.plan (.sl 1 (d.feeds.map encI)) order), (1, blkG f1), (2, blkG g1), (3, blkG o1)]
@[go_sem] def lineX (net plan : List T) (feeds order : T) (a b : S) : Blk := .box 76 (.ag [.t (.agg net), .t (.agg plan), .t feeds, .t order, .own 1, a, b])
theorem gv_none (n : Nat) : (List.replicate n (none : Option (List (Int × Int)))).map encGv = List.replicate n (.lit (.slice none 0 0)) := by simp [encGv]
theorem tick0_fn (d : LineD) (hd : LineOk d) (ord : List Int) (hol : ord.length ≤ 1000) (F G O : Nat → List (Option (List (Int × Int)))) (hG0 : G 0 = List.replicate d.segs.length none) (hO0 : O 0 = List.replicate d.ports.length none)
    (hN : ∀ k node, ord[k]? = some node → NodeC d (.sl 1 (ord.map encI)) node (F k) (G k) (O k) (F (k + 1)) (G (k + 1)) (O (k + 1))) :
    FnOk Tryz.prog 26 [.pt 0 [] 0] [(0, lineX d.net d.plan (.sl 1 (d.feeds.map encI)) (.sl 1 (ord.map encI)) (.t (.lit (.slice none 0 0))) (.t (.lit (.slice none 0 0)))), (1, blkG (F 0))]
      (.t (.int 0)) [(0, lineX d.net d.plan (.sl 1 (d.feeds.map encI)) (.sl 1 (ord.map encI)) (.own 1000) (.own 1001)), (1, blkG (F ord.length)), (1000, blkG (G ord.length)), (1001, blkG (O ord.length))] := by
  have w1 := hd.w1
  have w2 := hd.w2
  have w3 := hd.w3
  have w4 := hd.w4
  have w5 := hd.w5
  have hmS := hd.maxS
  have hmP := hd.maxP
  refine FnOk.intro fact_mixed Tryz.func26 rfl Tryz.ntmps26 (by rfl) (by simp) ?_
  repeat (first | (refine nf1_sound rfl ?_; simp [go_sem, ↓iO, iO, tN, w1, w2, w3, w4, w5]) | refine anI ?_ | refine ⟨dcK, ?_⟩ | ((first | refine iP ?_ | refine iN ?_); try simp [go_sem, ↓iO, iO, tN, w1, w2, w3, w4, w5]))
  refine nf1_sound' _ _ _ ?_; simp only [nf1]
  refine CW.loop (ι := Nat) (fun k => ⟨[(0, .pt 0 [] 0), (29, .t (.sl 1 (ord.map encI))), (30, .t (.int ord.length)), (31, .t (.int k))], [(0, lineX d.net d.plan (.sl 1 (d.feeds.map encI)) (.sl 1 (ord.map encI)) (.own 500) (.own 501)), (1, blkG (F k)), (500, blkG (G k)), (501, blkG (O k))]⟩) (fun k => k ≤ ord.length) (fun k => ord.length - k) 0 [(0, some 0), (1, some 1), (500, some 114), (501, some 121)] (by omega) ?_ ?_
  · simp [go_sem, ↓iO, iO, tN, hG0, hO0, gv_none]
  intro k hk
  by_cases hb : k < ord.length
  · obtain ⟨node, hn⟩ := has_get hb
    have c1 := hN k node hn
    have hn2 : ord[k] = node := (List.getElem?_eq_some_iff.1 hn).2
    unfold NodeC at c1
    obtain ⟨F0, hF0⟩ : ∃ F0, F k = F0 := ⟨_, rfl⟩
    obtain ⟨G0, hG0⟩ : ∃ G0, G k = G0 := ⟨_, rfl⟩
    obtain ⟨O0, hO0⟩ : ∃ O0, O k = O0 := ⟨_, rfl⟩
    obtain ⟨F1, hF1⟩ : ∃ F1, F (k + 1) = F1 := ⟨_, rfl⟩
    obtain ⟨G1, hG1⟩ : ∃ G1, G (k + 1) = G1 := ⟨_, rfl⟩
    obtain ⟨O1, hO1⟩ : ∃ O1, O (k + 1) = O1 := ⟨_, rfl⟩
    rw [hF0, hG0, hO0, hF1, hG1, hO1] at c1
    rw [hF0, hG0, hO0]
    repeat (first | (refine nf1_sound rfl ?_; simp [go_sem, ↓iO, iO, tN, hn, hn2, hb]) | refine anI ?_ | refine ⟨dcK, ?_⟩ | ((first | refine iP ?_ | refine iN ?_); try simp [go_sem, ↓iO, iO, tN, hn, hn2, hb]))
    refine CallK.fn (c1) [(0, 0), (1, 1), (2, 500), (3, 501)] [] [] (by kernel_rfl) ?_ ?_ ?_ (Or.inl rfl) ?_ <;> simp [go_sem, ↓iO, iO, tN]
    repeat (refine anI ?_)
    try (refine ⟨dcK, ?_⟩)
    repeat (first | (refine nf1_sound rfl ?_; simp [go_sem, ↓iO, iO, tN]) | refine anI ?_ | refine ⟨dcK, ?_⟩ | ((first | refine iP ?_ | refine iN ?_); try simp [go_sem, ↓iO, iO, tN]))
    rw [RoundQ_normal]; refine ⟨k + 1, [(0, some 0), (1, some 1), (500, some 500), (501, some 501)], ?_, ?_, ?_⟩
    · omega
    · omega
    simp [go_sem, ↓iO, iO, tN, hF1, hG1, hO1]
  · obtain rfl : k = ord.length := by omega
    obtain ⟨F0, hF0⟩ : ∃ F0, F ord.length = F0 := ⟨_, rfl⟩
    obtain ⟨G0, hG0⟩ : ∃ G0, G ord.length = G0 := ⟨_, rfl⟩
    obtain ⟨O0, hO0⟩ : ∃ O0, O ord.length = O0 := ⟨_, rfl⟩
    rw [hF0, hG0, hO0]
    repeat (first | (refine nf1_sound rfl ?_; simp [go_sem, ↓iO, iO, tN]) | refine anI ?_ | refine ⟨dcK, ?_⟩ | ((first | refine iP ?_ | refine iN ?_); try simp [go_sem, ↓iO, iO, tN]))
    first | rw [RetQ_ret] | rw [RetQ_normal]
    refine ⟨[(0, some 0), (1, some 1), (1000, some 500), (1001, some 501)], ?_⟩
    simp [go_sem, ↓iO, iO, tN]
theorem tick_fn (d : LineD) (hd : LineOk d) (ord : List Int) (hol : ord.length ≤ 1000) (gi oo : List (Option (List (Int × Int)))) (F G O : Nat → List (Option (List (Int × Int)))) (hG0 : G 0 = List.replicate d.segs.length none) (hO0 : O 0 = List.replicate d.ports.length none)
    (hN : ∀ k node, ord[k]? = some node → NodeC d (.sl 1 (ord.map encI)) node (F k) (G k) (O k) (F (k + 1)) (G (k + 1)) (O (k + 1))) :
    FnOk Tryz.prog 26 [.pt 0 [] 0] [(0, lineX d.net d.plan (.sl 1 (d.feeds.map encI)) (.sl 1 (ord.map encI)) (.own 2) (.own 3)), (1, blkG (F 0)), (2, blkG gi), (3, blkG oo)]
      (.t (.int 0)) [(0, lineX d.net d.plan (.sl 1 (d.feeds.map encI)) (.sl 1 (ord.map encI)) (.own 1000) (.own 1001)), (1, blkG (F ord.length)), (1000, blkG (G ord.length)), (1001, blkG (O ord.length))] := by
  have w1 := hd.w1
  have w2 := hd.w2
  have w3 := hd.w3
  have w4 := hd.w4
  have w5 := hd.w5
  have hmS := hd.maxS
  have hmP := hd.maxP
  refine FnOk.intro fact_mixed Tryz.func26 rfl Tryz.ntmps26 (by rfl) (by simp) ?_
  repeat (first | (refine nf1_sound rfl ?_; simp [go_sem, ↓iO, iO, tN, w1, w2, w3, w4, w5]) | refine anI ?_ | refine ⟨dcK, ?_⟩ | ((first | refine iP ?_ | refine iN ?_); try simp [go_sem, ↓iO, iO, tN, w1, w2, w3, w4, w5]))
  refine nf1_sound' _ _ _ ?_; simp only [nf1]
  refine CW.loop (ι := Nat) (fun k => ⟨[(0, .pt 0 [] 0), (29, .t (.sl 1 (ord.map encI))), (30, .t (.int ord.length)), (31, .t (.int k))], [(0, lineX d.net d.plan (.sl 1 (d.feeds.map encI)) (.sl 1 (ord.map encI)) (.own 500) (.own 501)), (1, blkG (F k)), (500, blkG (G k)), (501, blkG (O k))]⟩) (fun k => k ≤ ord.length) (fun k => ord.length - k) 0 [(0, some 0), (1, some 1), (500, some 114), (501, some 121)] (by omega) ?_ ?_
  · simp [go_sem, ↓iO, iO, tN, hG0, hO0, gv_none]
  intro k hk
  by_cases hb : k < ord.length
  · obtain ⟨node, hn⟩ := has_get hb
    have c1 := hN k node hn
    have hn2 : ord[k] = node := (List.getElem?_eq_some_iff.1 hn).2
    unfold NodeC at c1
    obtain ⟨F0, hF0⟩ : ∃ F0, F k = F0 := ⟨_, rfl⟩
    obtain ⟨G0, hG0⟩ : ∃ G0, G k = G0 := ⟨_, rfl⟩
    obtain ⟨O0, hO0⟩ : ∃ O0, O k = O0 := ⟨_, rfl⟩
    obtain ⟨F1, hF1⟩ : ∃ F1, F (k + 1) = F1 := ⟨_, rfl⟩
    obtain ⟨G1, hG1⟩ : ∃ G1, G (k + 1) = G1 := ⟨_, rfl⟩
    obtain ⟨O1, hO1⟩ : ∃ O1, O (k + 1) = O1 := ⟨_, rfl⟩
    rw [hF0, hG0, hO0, hF1, hG1, hO1] at c1
    rw [hF0, hG0, hO0]
    repeat (first | (refine nf1_sound rfl ?_; simp [go_sem, ↓iO, iO, tN, hn, hn2, hb]) | refine anI ?_ | refine ⟨dcK, ?_⟩ | ((first | refine iP ?_ | refine iN ?_); try simp [go_sem, ↓iO, iO, tN, hn, hn2, hb]))
    refine CallK.fn (c1) [(0, 0), (1, 1), (2, 500), (3, 501)] [] [] (by kernel_rfl) ?_ ?_ ?_ (Or.inl rfl) ?_ <;> simp [go_sem, ↓iO, iO, tN]
    repeat (refine anI ?_)
    try (refine ⟨dcK, ?_⟩)
    repeat (first | (refine nf1_sound rfl ?_; simp [go_sem, ↓iO, iO, tN]) | refine anI ?_ | refine ⟨dcK, ?_⟩ | ((first | refine iP ?_ | refine iN ?_); try simp [go_sem, ↓iO, iO, tN]))
    rw [RoundQ_normal]; refine ⟨k + 1, [(0, some 0), (1, some 1), (500, some 500), (501, some 501)], ?_, ?_, ?_⟩
    · omega
    · omega
    simp [go_sem, ↓iO, iO, tN, hF1, hG1, hO1]
  · obtain rfl : k = ord.length := by omega
    obtain ⟨F0, hF0⟩ : ∃ F0, F ord.length = F0 := ⟨_, rfl⟩
    obtain ⟨G0, hG0⟩ : ∃ G0, G ord.length = G0 := ⟨_, rfl⟩
    obtain ⟨O0, hO0⟩ : ∃ O0, O ord.length = O0 := ⟨_, rfl⟩
    rw [hF0, hG0, hO0]
    repeat (first | (refine nf1_sound rfl ?_; simp [go_sem, ↓iO, iO, tN]) | refine anI ?_ | refine ⟨dcK, ?_⟩ | ((first | refine iP ?_ | refine iN ?_); try simp [go_sem, ↓iO, iO, tN]))
    first | rw [RetQ_ret] | rw [RetQ_normal]
    refine ⟨[(0, some 0), (1, some 1), (1000, some 500), (1001, some 501)], ?_⟩
    simp [go_sem, ↓iO, iO, tN]
end Go.Proofs.YtdjmklobfjigoaaGreatDoor
