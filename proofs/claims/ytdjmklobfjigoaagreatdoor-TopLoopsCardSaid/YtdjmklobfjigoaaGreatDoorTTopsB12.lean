/- Several texts of this proof, one behind the other. No condition. -/
import Derived.Test.YtdjmklobfjigoaaGreatDoorTTopsB11
import Derived.Test.YtdjmklobfjigoaaGreatDoorTTopsB10
import Derived.Test.YtdjmklobfjigoaaGreatDoorTTopsB8
set_option maxRecDepth 100000
set_option maxHeartbeats 16000000
set_option linter.unusedVariables false
set_option linter.unusedSimpArgs false
namespace Go.Proofs.YtdjmklobfjigoaaGreatDoor
open Go.RowKit Sy
open Go.IntWalk renaming iteOmega → iO, toNatUp → tN
theorem push_fn (f g : List (Int × Int)) (back : Bool) (hf : f.length ≤ 1000000) (hg : g.length ≤ 1000000) : FnOk Tryz.prog 104 [.t (encPs f), .t (encPs g), .t (.bool back)] []
    (.tup [.own 1000, .own 1001, .t (.int (Pc.push f g back).2.2)]) [(1000, blkP (Pc.push f g back).1), (1001, blkP (Pc.push f g back).2.1)] := by
  refine FnOk.intro fact_mixed Tryz.func104 rfl Tryz.ntmps104 (by rfl) (by simp) ?_
  by_cases vf : Pc.valid f = true
  · by_cases vg : Pc.valid g = true
    · have hvf := (Pc.valid_iff.1 vf).sane.vol
      have hvg := (Pc.valid_iff.1 vg).sane.vol
      have hlf := (Pc.valid_iff.1 vf).len
      have hlg := (Pc.valid_iff.1 vg).len
      have s1 := sane_app (Pc.valid_iff.1 vf) (Pc.valid_iff.1 vg)
      have s2 := sane_app (Pc.valid_iff.1 vg) (Pc.valid_iff.1 vf)
      repeat (first | (refine nf1_sound rfl ?_; simp [go_sem, ↓iO, iO, tN]) | refine anI ?_ | refine ⟨dcK, ?_⟩ | ((first | refine iP ?_ | refine iN ?_); try simp [go_sem, ↓iO, iO, tN]))
      refine CallK.fn (valid_fn' f hf true vf) [] [] [] (by kernel_rfl) ?_ ?_ ?_ (Or.inl rfl) ?_ <;> simp [go_sem, ↓iO, iO, tN]
      repeat (refine anI ?_)
      try (refine ⟨dcK, ?_⟩)
      refine CallK.fn (valid_fn' g hg true vg) [] [] [] (by kernel_rfl) ?_ ?_ ?_ (Or.inl rfl) ?_ <;> simp [go_sem, ↓iO, iO, tN]
      repeat (refine anI ?_)
      try (refine ⟨dcK, ?_⟩)
      repeat (first | (refine nf1_sound rfl ?_; simp [go_sem, ↓iO, iO, tN]) | refine anI ?_ | refine ⟨dcK, ?_⟩ | ((first | refine iP ?_ | refine iN ?_); try simp [go_sem, ↓iO, iO, tN]))
      cases back with
      | true =>
        have hsh : Pc.shift f g true = (Pc.join (Pc.tails (f ++ g) (Pc.vol g)), Pc.join (Pc.heads (f ++ g) (Pc.vol g))) := rfl
        repeat (first | (refine nf1_sound rfl ?_; simp [go_sem, ↓iO, iO, tN]) | refine anI ?_ | refine ⟨dcK, ?_⟩ | ((first | refine iP ?_ | refine iN ?_); try simp [go_sem, ↓iO, iO, tN]))
        refine CallK.fn (clone_fn f hf) [(1000, 622)] [] [] (by kernel_rfl) ?_ ?_ ?_ (Or.inl rfl) ?_ <;> simp [go_sem, ↓iO, iO, tN]
        repeat (refine anI ?_)
        try (refine ⟨dcK, ?_⟩)
        refine CallK.fn (total_fn g (Pc.valid_iff.1 vg).sane) [] [] [] (by kernel_rfl) ?_ ?_ ?_ (Or.inl rfl) ?_ <;> simp [go_sem, ↓iO, iO, tN]
        repeat (refine anI ?_)
        try (refine ⟨dcK, ?_⟩)
        refine CallK.fn (cut_fn (f ++ g) (Pc.vol g) s1 hvg.1 (by omega)) [(1000, 600), (1001, 601)] [124] [] (by kernel_rfl) ?_ ?_ ?_ (Or.inr ⟨?_, ?_⟩) ?_ <;> simp [go_sem, ↓iO, iO, tN]
        repeat (refine anI ?_)
        try (refine ⟨dcK, ?_⟩)
        by_cases hA : (Pc.join (Pc.tails (f ++ g) (Pc.vol g))).length ≤ 200
        · by_cases hB : (Pc.join (Pc.heads (f ++ g) (Pc.vol g))).length ≤ 200
          · have hp := push_ok (back := true) vf vg (by rw [hsh]; exact ⟨hA, hB⟩)
            rw [hsh] at hp
            repeat (first | (refine nf1_sound rfl ?_; simp [go_sem, ↓iO, iO, tN]) | refine anI ?_ | refine ⟨dcK, ?_⟩ | ((first | refine iP ?_ | refine iN ?_); try simp [go_sem, ↓iO, iO, tN]))
            first | rw [RetQ_ret] | rw [RetQ_normal]
            refine ⟨[(1000, some 601), (1001, some 600)], ?_⟩
            simp [go_sem, ↓iO, iO, tN, hp]
          · have hp := push_long (back := true) vf vg (by rw [hsh]; exact fun h => hB h.2)
            repeat (first | (refine nf1_sound rfl ?_; simp [go_sem, ↓iO, iO, tN]) | refine anI ?_ | refine ⟨dcK, ?_⟩ | ((first | refine iP ?_ | refine iN ?_); try simp [go_sem, ↓iO, iO, tN]))
            first | rw [RetQ_ret] | rw [RetQ_normal]
            refine ⟨[(1000, none), (1001, none)], ?_⟩
            simp [go_sem, ↓iO, iO, tN, hp]
        · have hp := push_long (back := true) vf vg (by rw [hsh]; exact fun h => hA h.1)
          repeat (first | (refine nf1_sound rfl ?_; simp [go_sem, ↓iO, iO, tN]) | refine anI ?_ | refine ⟨dcK, ?_⟩ | ((first | refine iP ?_ | refine iN ?_); try simp [go_sem, ↓iO, iO, tN]))
          try rw [if_pos (by omega)]
          repeat (first | (refine nf1_sound rfl ?_; simp [go_sem, ↓iO, iO, tN]) | refine anI ?_ | refine ⟨dcK, ?_⟩ | ((first | refine iP ?_ | refine iN ?_); try simp [go_sem, ↓iO, iO, tN]))
          first | rw [RetQ_ret] | rw [RetQ_normal]
          refine ⟨[(1000, none), (1001, none)], ?_⟩
          simp [go_sem, ↓iO, iO, tN, hp]
      | false =>
        have hsh : Pc.shift f g false = (Pc.join (Pc.heads (g ++ f) (Pc.vol f)), Pc.join (Pc.tails (g ++ f) (Pc.vol f))) := rfl
        repeat (first | (refine nf1_sound rfl ?_; simp [go_sem, ↓iO, iO, tN]) | refine anI ?_ | refine ⟨dcK, ?_⟩ | ((first | refine iP ?_ | refine iN ?_); try simp [go_sem, ↓iO, iO, tN]))
        refine CallK.fn (clone_fn g hg) [(1000, 622)] [] [] (by kernel_rfl) ?_ ?_ ?_ (Or.inl rfl) ?_ <;> simp [go_sem, ↓iO, iO, tN]
        repeat (refine anI ?_)
        try (refine ⟨dcK, ?_⟩)
        refine CallK.fn (total_fn f (Pc.valid_iff.1 vf).sane) [] [] [] (by kernel_rfl) ?_ ?_ ?_ (Or.inl rfl) ?_ <;> simp [go_sem, ↓iO, iO, tN]
        repeat (refine anI ?_)
        try (refine ⟨dcK, ?_⟩)
        refine CallK.fn (cut_fn (g ++ f) (Pc.vol f) s2 hvf.1 (by omega)) [(1000, 600), (1001, 601)] [134] [] (by kernel_rfl) ?_ ?_ ?_ (Or.inr ⟨?_, ?_⟩) ?_ <;> simp [go_sem, ↓iO, iO, tN]
        repeat (refine anI ?_)
        try (refine ⟨dcK, ?_⟩)
        by_cases hA : (Pc.join (Pc.heads (g ++ f) (Pc.vol f))).length ≤ 200
        · by_cases hB : (Pc.join (Pc.tails (g ++ f) (Pc.vol f))).length ≤ 200
          · have hp := push_ok (back := false) vf vg (by rw [hsh]; exact ⟨hA, hB⟩)
            rw [hsh] at hp
            repeat (first | (refine nf1_sound rfl ?_; simp [go_sem, ↓iO, iO, tN]) | refine anI ?_ | refine ⟨dcK, ?_⟩ | ((first | refine iP ?_ | refine iN ?_); try simp [go_sem, ↓iO, iO, tN]))
            first | rw [RetQ_ret] | rw [RetQ_normal]
            refine ⟨[(1000, some 600), (1001, some 601)], ?_⟩
            simp [go_sem, ↓iO, iO, tN, hp]
          · have hp := push_long (back := false) vf vg (by rw [hsh]; exact fun h => hB h.2)
            repeat (first | (refine nf1_sound rfl ?_; simp [go_sem, ↓iO, iO, tN]) | refine anI ?_ | refine ⟨dcK, ?_⟩ | ((first | refine iP ?_ | refine iN ?_); try simp [go_sem, ↓iO, iO, tN]))
            first | rw [RetQ_ret] | rw [RetQ_normal]
            refine ⟨[(1000, none), (1001, none)], ?_⟩
            simp [go_sem, ↓iO, iO, tN, hp]
        · have hp := push_long (back := false) vf vg (by rw [hsh]; exact fun h => hA h.1)
          repeat (first | (refine nf1_sound rfl ?_; simp [go_sem, ↓iO, iO, tN]) | refine anI ?_ | refine ⟨dcK, ?_⟩ | ((first | refine iP ?_ | refine iN ?_); try simp [go_sem, ↓iO, iO, tN]))
          try rw [if_pos (by omega)]
          repeat (first | (refine nf1_sound rfl ?_; simp [go_sem, ↓iO, iO, tN]) | refine anI ?_ | refine ⟨dcK, ?_⟩ | ((first | refine iP ?_ | refine iN ?_); try simp [go_sem, ↓iO, iO, tN]))
          first | rw [RetQ_ret] | rw [RetQ_normal]
          refine ⟨[(1000, none), (1001, none)], ?_⟩
          simp [go_sem, ↓iO, iO, tN, hp]
    · have vg' : Pc.valid g = false := by simpa using vg
      have hp := push_bad (back := back) (fun h => vg h.2 : ¬ (Pc.valid f = true ∧ Pc.valid g = true))
      repeat (first | (refine nf1_sound rfl ?_; simp [go_sem, ↓iO, iO, tN]) | refine anI ?_ | refine ⟨dcK, ?_⟩ | ((first | refine iP ?_ | refine iN ?_); try simp [go_sem, ↓iO, iO, tN]))
      refine CallK.fn (valid_fn' f hf true vf) [] [] [] (by kernel_rfl) ?_ ?_ ?_ (Or.inl rfl) ?_ <;> simp [go_sem, ↓iO, iO, tN]
      repeat (refine anI ?_)
      try (refine ⟨dcK, ?_⟩)
      refine CallK.fn (valid_fn' g hg false vg') [] [] [] (by kernel_rfl) ?_ ?_ ?_ (Or.inl rfl) ?_ <;> simp [go_sem, ↓iO, iO, tN]
      repeat (refine anI ?_)
      try (refine ⟨dcK, ?_⟩)
      repeat (first | (refine nf1_sound rfl ?_; simp [go_sem, ↓iO, iO, tN]) | refine anI ?_ | refine ⟨dcK, ?_⟩ | ((first | refine iP ?_ | refine iN ?_); try simp [go_sem, ↓iO, iO, tN]))
      first | rw [RetQ_ret] | rw [RetQ_normal]
      refine ⟨[(1000, none), (1001, none)], ?_⟩
      simp [go_sem, ↓iO, iO, tN, hp]
  · have vf' : Pc.valid f = false := by simpa using vf
    have hp := push_bad (back := back) (fun h => vf h.1 : ¬ (Pc.valid f = true ∧ Pc.valid g = true))
    repeat (first | (refine nf1_sound rfl ?_; simp [go_sem, ↓iO, iO, tN]) | refine anI ?_ | refine ⟨dcK, ?_⟩ | ((first | refine iP ?_ | refine iN ?_); try simp [go_sem, ↓iO, iO, tN]))
    refine CallK.fn (valid_fn' f hf false vf') [] [] [] (by kernel_rfl) ?_ ?_ ?_ (Or.inl rfl) ?_ <;> simp [go_sem, ↓iO, iO, tN]
    repeat (refine anI ?_)
    try (refine ⟨dcK, ?_⟩)
    repeat (first | (refine nf1_sound rfl ?_; simp [go_sem, ↓iO, iO, tN]) | refine anI ?_ | refine ⟨dcK, ?_⟩ | ((first | refine iP ?_ | refine iN ?_); try simp [go_sem, ↓iO, iO, tN]))
    first | rw [RetQ_ret] | rw [RetQ_normal]
    refine ⟨[(1000, none), (1001, none)], ?_⟩
    simp [go_sem, ↓iO, iO, tN, hp]
def swapV {α : Type} (l : List α) (k : Nat) : List α := (l.reverse.take k ++ (l.drop k).take (l.length - 2 * k)) ++ l.reverse.drop (l.length - k)
theorem swapV_get {α : Type} {l : List α} {k i : Nat} (hk : 2 * k ≤ l.length) (hi : i < l.length) : (swapV l k)[i]? = if i < k ∨ l.length - k ≤ i then l.reverse[i]? else l[i]? := by
  unfold swapV
  have h1 : (l.reverse.take k).length = k := by rw [List.length_take, List.length_reverse]; omega
  have h2 : ((l.drop k).take (l.length - 2 * k)).length = l.length - 2 * k := by rw [List.length_take, List.length_drop]; omega
  by_cases ha : i < k
  · rw [if_pos (.inl ha), List.getElem?_append_left (by rw [List.length_append]; omega), List.getElem?_append_left (by omega), List.getElem?_take, if_pos ha]
  · by_cases hb : l.length - k ≤ i
    · rw [if_pos (.inr hb), List.getElem?_append_right (by rw [List.length_append]; omega), List.length_append, h1, h2, List.getElem?_drop]
      congr 1; omega
    · rw [if_neg (by omega), List.getElem?_append_left (by rw [List.length_append]; omega), List.getElem?_append_right (by omega), h1, List.getElem?_take, if_pos (by omega), List.getElem?_drop]
      congr 1; omega
theorem swapV_len {α : Type} {l : List α} {k : Nat} (hk : 2 * k ≤ l.length) : (swapV l k).length = l.length := by
  unfold swapV
  simp only [List.length_append, List.length_take, List.length_drop, List.length_reverse]
  omega
theorem swap_ex {α : Type} (l : List α) : ∃ Y : Nat → List α, Y 0 = l ∧ (∀ k, 2 * k + 1 < l.length → ∃ p q, (Y k)[k]? = some p ∧ (Y k)[l.length - 1 - k]? = some q ∧ ((Y k).set k q).set (l.length - 1 - k) p = Y (k + 1)) ∧ (∀ k, 2 * k ≤ l.length → (Y k).length = l.length) ∧ ∀ k, 2 * k ≤ l.length → l.length ≤ 2 * k + 1 → Y k = l.reverse := by
  refine ⟨swapV l, ?_, ?_, fun k hk => swapV_len hk, ?_⟩
  · simp [swapV]
  · intro k hk
    obtain ⟨p, hp⟩ := has_get (l := swapV l k) (k := k) (by rw [swapV_len (by omega)]; omega)
    obtain ⟨q, hq⟩ := has_get (l := swapV l k) (k := l.length - 1 - k) (by rw [swapV_len (by omega)]; omega)
    refine ⟨p, q, hp, hq, ?_⟩
    rw [swapV_get (by omega) (by omega), if_neg (by omega)] at hp hq
    apply List.ext_getElem?
    intro i
    by_cases hi : i < l.length
    · rw [swapV_get (by omega) hi, List.getElem?_set, List.length_set, swapV_len (by omega)]
      by_cases e1 : l.length - 1 - k = i
      · rw [if_pos e1, if_pos (by omega), if_pos (by omega), List.getElem?_reverse hi, ← hp]
        congr 1; omega
      · rw [if_neg e1, List.getElem?_set, swapV_len (by omega)]
        by_cases e2 : k = i
        · rw [if_pos e2, if_pos (by omega), if_pos (by omega), List.getElem?_reverse hi, ← hq]
          congr 1; omega
        · rw [if_neg e2, swapV_get (by omega) hi]
          by_cases h3 : i < k ∨ l.length - k ≤ i
          · rw [if_pos h3, if_pos (by omega)]
          · rw [if_neg h3, if_neg (by omega)]
    · rw [List.getElem?_eq_none (by rw [List.length_set, List.length_set, swapV_len (by omega)]; omega), List.getElem?_eq_none (by rw [swapV_len (by omega)]; omega)]
  · intro k h1 h2
    apply List.ext_getElem?
    intro i
    by_cases hi : i < l.length
    · rw [swapV_get h1 hi]
      by_cases h3 : i < k ∨ l.length - k ≤ i
      · rw [if_pos h3]
      · rw [if_neg h3, List.getElem?_reverse hi]
        congr 1; omega
    · rw [List.getElem?_eq_none (by rw [swapV_len h1]; omega), List.getElem?_eq_none (by rw [List.length_reverse]; omega)]
theorem reverse_fn (l : List (Int × Int)) (hl : l.length ≤ 1000000) : FnOk Tryz.prog 38 [.own 0] [(0, blkP l)] (.tup []) [(0, blkP l.reverse)] := by
  obtain ⟨Y, y0, ys, yl, ye⟩ := swap_ex l
  refine FnOk.intro fact_mixed Tryz.func38 rfl Tryz.ntmps38 (by rfl) (by simp) ?_
  repeat (first | (refine nf1_sound rfl ?_; simp [go_sem, ↓iO, iO, tN]) | refine anI ?_ | refine ⟨dcK, ?_⟩ | ((first | refine iP ?_ | refine iN ?_); try simp [go_sem, ↓iO, iO, tN]))
  refine nf1_sound' _ _ _ ?_; simp only [nf1]
  refine CW.loop (ι := Nat) (fun k => ⟨[(0, .own 0), (2, .t (.int k)), (3, .t (.int ((l.length : Int) - 1 - k)))], [(0, blkP (Y k))]⟩) (fun k => 2 * k ≤ l.length) (fun k => l.length - k) 0 [(0, some 0)] (by omega) ?_ ?_
  · simp [go_sem, ↓iO, iO, tN, y0]
  intro k hk
  have hyl := yl k hk
  by_cases hb : 2 * k + 1 < l.length
  · obtain ⟨p, q, hp, hq, hs⟩ := ys k hb
    obtain ⟨V, hV⟩ : ∃ V, Y k = V := ⟨_, rfl⟩
    rw [hV] at hp hq hs hyl ⊢
    obtain ⟨p1, p2⟩ := p
    obtain ⟨q1, q2⟩ := q
    have e1 : ((l.length : Int) - 1 - k).toNat = l.length - 1 - k := by omega
    have hq2 : ∀ X, ((V.map encP).set k X)[l.length - 1 - k]? = some (.agg [.int q1, .int q2]) := fun X => by
      rw [List.getElem?_set_ne (by omega), List.getElem?_map, hq]; rfl
    have hs2 : ((V.map encP).set k (encP (q1, q2))).set (l.length - 1 - k) (encP (p1, p2)) = (Y (k + 1)).map encP := by rw [← hs, List.map_set, List.map_set]
    simp only [encP] at hs2
    repeat (first | (refine nf1_sound rfl ?_; simp [go_sem, ↓iO, iO, tN, hp, hq, e1, ↓hq2]) | refine anI ?_ | refine ⟨dcK, ?_⟩ | ((first | refine iP ?_ | refine iN ?_); try simp [go_sem, ↓iO, iO, tN, hp, hq, e1, ↓hq2]))
    rw [RoundQ_normal]; refine ⟨k + 1, [(0, some 0)], ?_, ?_, ?_⟩
    · omega
    · omega
    simp [go_sem, ↓iO, iO, tN, hs2]
    omega
  · have hy := ye k hk (by omega)
    rw [hy]
    repeat (first | (refine nf1_sound rfl ?_; simp [go_sem, ↓iO, iO, tN]) | refine anI ?_ | refine ⟨dcK, ?_⟩ | ((first | refine iP ?_ | refine iN ?_); try simp [go_sem, ↓iO, iO, tN]))
    first | rw [RetQ_ret] | rw [RetQ_normal]
    refine ⟨[(0, some 0)], ?_⟩
    simp [go_sem, ↓iO, iO, tN]
theorem aturned_fn (l : List (Int × Int)) (hl : l.length ≤ 1000000) : FnOk Tryz.prog 103 [.t (encPs l)] [] (.own 1000) [(1000, blkP l.reverse)] := by
  have c1 := clone_fn l hl
  have c2 := reverse_fn l hl
  refine FnOk.intro fact_mixed Tryz.func103 rfl Tryz.ntmps103 (by rfl) (by simp) ?_
  repeat (first | (refine nf1_sound rfl ?_; simp [go_sem, ↓iO, iO, tN]) | refine anI ?_ | refine ⟨dcK, ?_⟩ | ((first | refine iP ?_ | refine iN ?_); try simp [go_sem, ↓iO, iO, tN]))
  refine CallK.fn (c1) [(1000, 600)] [] [] (by kernel_rfl) ?_ ?_ ?_ (Or.inl rfl) ?_ <;> simp [go_sem, ↓iO, iO, tN]
  repeat (refine anI ?_)
  try (refine ⟨dcK, ?_⟩)
  repeat (first | (refine nf1_sound rfl ?_; simp [go_sem, ↓iO, iO, tN]) | refine anI ?_ | refine ⟨dcK, ?_⟩ | ((first | refine iP ?_ | refine iN ?_); try simp [go_sem, ↓iO, iO, tN]))
  refine CallK.fn (c2) [(0, 600)] [] [] (by kernel_rfl) ?_ ?_ ?_ (Or.inl rfl) ?_ <;> simp [go_sem, ↓iO, iO, tN]
  repeat (refine anI ?_)
  try (refine ⟨dcK, ?_⟩)
  repeat (first | (refine nf1_sound rfl ?_; simp [go_sem, ↓iO, iO, tN]) | refine anI ?_ | refine ⟨dcK, ?_⟩ | ((first | refine iP ?_ | refine iN ?_); try simp [go_sem, ↓iO, iO, tN]))
  first | rw [RetQ_ret] | rw [RetQ_normal]
  refine ⟨[(1000, some 600)], ?_⟩
  simp [go_sem, ↓iO, iO, tN]
noncomputable def outV (f l : List (Int × Int)) (back : Bool) : List (Int × Int) := if back then (Pc.push f l true).2.1 else (Pc.push f l.reverse false).2.1.reverse
noncomputable def fillV (f l : List (Int × Int)) (back : Bool) : List (Int × Int) := if back then (Pc.push f l true).1 else (Pc.push f l.reverse false).1
noncomputable def pushE (f l : List (Int × Int)) (back : Bool) : Int := if back then (Pc.push f l true).2.2 else (Pc.push f l.reverse false).2.2
theorem apush_fn (d : LineD) (hd : LineOk d) (order : T) (w6 : order.width = 1) (fi gi oo : List (Option (List (Int × Int)))) (hg : gi.length = d.segs.length) (hfl : fi.length = d.segs.length) (s : Nat) (r : Int) (f l : List (Int × Int)) (hr : d.rates[s]? = some r) (hf : fi[s]? = some (some f))
    (hf6 : f.length ≤ 1000000) (hl6 : l.length ≤ 1000000) (ho6 : (outV f l (decide (r < 0))).length ≤ 1000000) (he : pushE f l (decide (r < 0)) = 0) :
    FnOk Tryz.prog 71 [.pt 0 [] 0, .t (.int s), .t (encPs l)] [(0, lineB d.net d.plan (.sl 1 (d.feeds.map encI)) order), (1, blkG fi), (2, blkG gi), (3, blkG oo)]
      (.t (.int 0)) [(0, lineB d.net d.plan (.sl 1 (d.feeds.map encI)) order), (1, blkG (fi.set s (some (fillV f l (decide (r < 0)))))), (2, blkG (gi.set s (some (outV f l (decide (r < 0)))))), (3, blkG oo)] := by
  have w1 := hd.w1
  have w2 := hd.w2
  have w3 := hd.w3
  have w4 := hd.w4
  have w5 := hd.w5
  have q1 : s < d.rates.length := (List.getElem?_eq_some_iff.1 hr).1
  have q2 : s < fi.length := (List.getElem?_eq_some_iff.1 hf).1
  have q3 : s < gi.length := by omega
  obtain ⟨og, hgo⟩ : ∃ og, gi[s]? = some og := has_get q3
  have hmx := hd.maxS
  have r2 : d.rates[s] = r := (List.getElem?_eq_some_iff.1 hr).2
  have f2 : fi[s] = some f := (List.getElem?_eq_some_iff.1 hf).2
  have hlr := hd.lenR
  refine FnOk.intro fact_mixed Tryz.func71 rfl Tryz.ntmps71 (by rfl) (by simp) ?_
  by_cases hn : r < 0
  · have e0 : decide (r < 0) = true := by simpa using hn
    rw [e0] at he ho6
    rw [e0]
    unfold outV at ho6 ⊢
    unfold fillV
    unfold pushE at he
    simp only [if_true] at he ho6 ⊢
    have p1 := push_fn f l true hf6 hl6
    rw [he] at p1
    obtain ⟨F', hF⟩ : ∃ F', (Pc.push f l true).1 = F' := ⟨_, rfl⟩
    obtain ⟨O, hO⟩ : ∃ O, (Pc.push f l true).2.1 = O := ⟨_, rfl⟩
    rw [hF, hO] at p1
    rw [hF, hO]
    repeat (first | (refine nf1_sound rfl ?_; simp [go_sem, ↓iO, iO, tN, hr, r2, hn, hf, f2, w1, w2, w3, w4, w5, w6, q1, q2, widths_gv, width_gv]) | refine anI ?_ | refine ⟨dcK, ?_⟩ | ((first | refine iP ?_ | refine iN ?_); try simp [go_sem, ↓iO, iO, tN, hr, r2, hn, hf, f2, w1, w2, w3, w4, w5, w6, q1, q2, widths_gv, width_gv]))
    refine CallK.fn (p1) [(1000, 600), (1001, 601)] [] [] (by kernel_rfl) ?_ ?_ ?_ (Or.inl rfl) ?_ <;> simp [go_sem, ↓iO, iO, tN, hr, r2, hn, hf, f2, w1, w2, w3, w4, w5, w6, q1, q2, widths_gv, width_gv]
    repeat (refine anI ?_)
    try (refine ⟨dcK, ?_⟩)
    refine CW.weak (ρ := [(0, some 0), (1, some 1), (2, some 2), (3, some 3)]) (σ' := ⟨[(0, .pt 0 [] 0), (1, .t (.int s)), (7, .t (.bool true)), (8, .t (encPs F')), (9, .t (encPs O)), (10, .t (.int 0))], [(0, lineB d.net d.plan (.sl 1 (d.feeds.map encI)) order), (1, blkG fi), (2, blkG gi), (3, blkG oo)]⟩) ?_ ?_
    · simp [go_sem, ↓iO, iO, tN]
    repeat (first | (refine nf1_sound rfl ?_; simp [go_sem, ↓iO, iO, tN, hr, r2, hn, hf, f2, w1, w2, w3, w4, w5, w6, q1, q2, q3, hgo, hg, hfl, widths_gv, width_gv]) | refine anI ?_ | refine ⟨dcK, ?_⟩ | ((first | refine iP ?_ | refine iN ?_); try simp [go_sem, ↓iO, iO, tN, hr, r2, hn, hf, f2, w1, w2, w3, w4, w5, w6, q1, q2, q3, hgo, hg, hfl, widths_gv, width_gv]))
    refine ⟨by cases og <;> rfl, ?_⟩
    refine ⟨dcK, ?_⟩
    repeat (first | (refine nf1_sound rfl ?_; simp [go_sem, ↓iO, iO, tN]) | refine anI ?_ | refine ⟨dcK, ?_⟩ | ((first | refine iP ?_ | refine iN ?_); try simp [go_sem, ↓iO, iO, tN]))
    first | rw [RetQ_ret] | rw [RetQ_normal]
    refine ⟨[(0, some 0), (1, some 1), (2, some 2), (3, some 3)], ?_⟩
    simp [go_sem, ↓iO, iO, tN, List.map_set]
  · have e0 : decide (r < 0) = false := by simpa using hn
    rw [e0] at he ho6
    rw [e0]
    unfold outV at ho6 ⊢
    unfold fillV
    unfold pushE at he
    simp only [if_false, Bool.false_eq_true] at he ho6 ⊢
    have p1 := push_fn f l.reverse false hf6 (by simpa using hl6)
    rw [he] at p1
    obtain ⟨F', hF⟩ : ∃ F', (Pc.push f l.reverse false).1 = F' := ⟨_, rfl⟩
    obtain ⟨O, hO⟩ : ∃ O, (Pc.push f l.reverse false).2.1 = O := ⟨_, rfl⟩
    rw [hF, hO] at p1
    rw [hO] at ho6
    rw [hF, hO]
    have t1 := aturned_fn l hl6
    obtain ⟨L, hL⟩ : ∃ L, l.reverse = L := ⟨_, rfl⟩
    rw [hL] at p1 t1
    have t2 := aturned_fn O (by simpa using ho6)
    obtain ⟨O', hO'⟩ : ∃ O', O.reverse = O' := ⟨_, rfl⟩
    rw [hO'] at t2
    rw [hO']
    repeat (first | (refine nf1_sound rfl ?_; simp [go_sem, ↓iO, iO, tN, hr, r2, hn, hf, f2, w1, w2, w3, w4, w5, w6, q1, q2, widths_gv, width_gv]) | refine anI ?_ | refine ⟨dcK, ?_⟩ | ((first | refine iP ?_ | refine iN ?_); try simp [go_sem, ↓iO, iO, tN, hr, r2, hn, hf, f2, w1, w2, w3, w4, w5, w6, q1, q2, widths_gv, width_gv]))
    refine CallK.fn (t1) [(1000, 600)] [] [] (by kernel_rfl) ?_ ?_ ?_ (Or.inl rfl) ?_ <;> simp [go_sem, ↓iO, iO, tN, hr, r2, hn]
    repeat (refine anI ?_)
    try (refine ⟨dcK, ?_⟩)
    repeat (first | (refine nf1_sound rfl ?_; simp [go_sem, ↓iO, iO, tN, hr, r2, hn, hf, f2, w1, w2, w3, w4, w5, w6, q1, q2, widths_gv, width_gv]) | refine anI ?_ | refine ⟨dcK, ?_⟩ | ((first | refine iP ?_ | refine iN ?_); try simp [go_sem, ↓iO, iO, tN, hr, r2, hn, hf, f2, w1, w2, w3, w4, w5, w6, q1, q2, widths_gv, width_gv]))
    refine CallK.fn (p1) [(1000, 601), (1001, 602)] [600] [] (by kernel_rfl) ?_ ?_ ?_ (Or.inr ⟨?_, ?_⟩) ?_ <;> simp [go_sem, ↓iO, iO, tN, hr, r2, hn, hf, f2, w1, w2, w3, w4, w5, w6, q1, q2, widths_gv, width_gv]
    repeat (refine anI ?_)
    try (refine ⟨dcK, ?_⟩)
    repeat (first | (refine nf1_sound rfl ?_; simp [go_sem, ↓iO, iO, tN, hn]) | refine anI ?_ | refine ⟨dcK, ?_⟩ | ((first | refine iP ?_ | refine iN ?_); try simp [go_sem, ↓iO, iO, tN, hn]))
    refine CallK.fn (t2) [(1000, 603)] [602] [] (by kernel_rfl) ?_ ?_ ?_ (Or.inr ⟨?_, ?_⟩) ?_ <;> simp [go_sem, ↓iO, iO, tN]
    repeat (refine anI ?_)
    try (refine ⟨dcK, ?_⟩)
    refine CW.weak (ρ := [(0, some 0), (1, some 1), (2, some 2), (3, some 3)]) (σ' := ⟨[(0, .pt 0 [] 0), (1, .t (.int s)), (7, .t (.bool false)), (8, .t (encPs F')), (9, .t (encPs O')), (10, .t (.int 0))], [(0, lineB d.net d.plan (.sl 1 (d.feeds.map encI)) order), (1, blkG fi), (2, blkG gi), (3, blkG oo)]⟩) ?_ ?_
    · simp [go_sem, ↓iO, iO, tN]
    repeat (first | (refine nf1_sound rfl ?_; simp [go_sem, ↓iO, iO, tN, hr, r2, hn, hf, f2, w1, w2, w3, w4, w5, w6, q1, q2, q3, hgo, hg, hfl, widths_gv, width_gv]) | refine anI ?_ | refine ⟨dcK, ?_⟩ | ((first | refine iP ?_ | refine iN ?_); try simp [go_sem, ↓iO, iO, tN, hr, r2, hn, hf, f2, w1, w2, w3, w4, w5, w6, q1, q2, q3, hgo, hg, hfl, widths_gv, width_gv]))
    refine ⟨by cases og <;> rfl, ?_⟩
    refine ⟨dcK, ?_⟩
    repeat (first | (refine nf1_sound rfl ?_; simp [go_sem, ↓iO, iO, tN]) | refine anI ?_ | refine ⟨dcK, ?_⟩ | ((first | refine iP ?_ | refine iN ?_); try simp [go_sem, ↓iO, iO, tN]))
    first | rw [RetQ_ret] | rw [RetQ_normal]
    refine ⟨[(0, some 0), (1, some 1), (2, some 2), (3, some 3)], ?_⟩
    simp [go_sem, ↓iO, iO, tN, List.map_set]
end Go.Proofs.YtdjmklobfjigoaaGreatDoor
namespace Go.Proofs.YtdjmklobfjigoaaGreatDoor
open Go.RowKit Sy
@[go_sem] def blkI (l : List Int) : Blk := .list 3 1 (l.map encI)
@[go_sem] theorem flat_encI : ∀ l : List Int, flatTs (l.map encI)
  | [] => by simp [flatTs]
  | p :: r => by simp [flatTs, flatT, encI, flat_encI r]
end Go.Proofs.YtdjmklobfjigoaaGreatDoor
/- Who gets the next litre: plain, and the contracts of the program's and the reference's functions. No condition. -/
namespace Go.Proofs.YtdjmklobfjigoaaGreatDoor
open Go.RowKit Sy
open Go.IntWalk renaming iteOmega → iO, toNatUp → tN
@[go_sem] theorem widths_encI : ∀ l : List Int, T.widths (l.map encI) = l.length
  | [] => rfl
  | x :: r => by simp [T.widths, encI, T.width, widths_encI r]; omega
@[go_sem] theorem widths_encI_take (n : Nat) (l : List Int) : T.widths ((l.map encI).take n) = min n l.length := by
  rw [← List.map_take, widths_encI, List.length_take]
namespace Dl
def rt (r : List Int) (i : Nat) : Int := r.getD i 0
theorem rt_get {r : List Int} {i : Nat} {x : Int} (h : r[i]? = some x) : rt r i = x := by unfold rt; rw [List.getD_eq_getElem?_getD, h]; rfl
theorem get_rt {r : List Int} {i : Nat} (h : i < r.length) : r[i]? = some (rt r i) := by
  obtain ⟨x, hx⟩ := has_get h
  rw [hx, rt_get hx]
theorem rt_app {r z : List Int} {i : Nat} (h : i < r.length) : rt (r ++ z) i = rt r i := rt_get (by rw [List.getElem?_append_left h]; exact get_rt h)
def nx (R C : List Int) : Nat → Int
  | 0 => -1
  | k + 1 => if 0 < rt R k ∧ (nx R C k < 0 ∨ (rt C k + 1) * rt R (nx R C k).toNat < (rt C (nx R C k).toNat + 1) * rt R k) then k else nx R C k
theorem nx_range (R C : List Int) : ∀ k, -1 ≤ nx R C k ∧ nx R C k < k
  | 0 => by simp [nx]
  | k + 1 => by
    have := nx_range R C k
    unfold nx
    split <;> omega
theorem nx_app {r z c y : List Int} : ∀ {k : Nat}, k ≤ r.length → k ≤ c.length → nx (r ++ z) (c ++ y) k = nx r c k
  | 0, _, _ => rfl
  | k + 1, h1, h2 => by
    have ih := nx_app (r := r) (z := z) (c := c) (y := y) (k := k) (by omega) (by omega)
    have hr := nx_range r c k
    unfold nx
    rw [ih, rt_app (by omega), rt_app (by omega)]
    by_cases h0 : nx r c k < 0
    · simp [h0]
    · rw [rt_app (by omega), rt_app (by omega)]
end Dl
open Dl
@[go_sem] def tblT (n : Nat) (R C : List Int) : T := .agg [.int n, .agg (R.map encI), .agg (C.map encI)]
@[go_sem] def tblB (n : Nat) (R C : List Int) : Blk := .box 158 (.t (tblT n R C))
structure TblOk (n : Nat) (R C : List Int) : Prop where
  r : R.length = 64
  c : C.length = 64
  n : n ≤ 64
  rr : ∀ x ∈ R, 0 ≤ x ∧ x ≤ 1000
  cr : ∀ x ∈ C, 0 ≤ x ∧ x ≤ 1000000
theorem mul_bd {a b A B : Int} (h1 : 0 ≤ a) (h2 : a ≤ A) (h3 : 0 ≤ b) (h4 : b ≤ B) : 0 ≤ a * b ∧ a * b ≤ A * B :=
  ⟨Int.mul_nonneg h1 h3, Int.mul_le_mul h2 h4 h3 (by omega)⟩
theorem next_fn (n : Nat) (R C : List Int) (h : TblOk n R C) : FnOk Tryz.prog 102 [.pt 0 [] 0] [(0, tblB n R C)] (.t (.int (nx R C n))) [(0, tblB n R C)] := by
  obtain ⟨hR, hC, hn, hr, hc⟩ := h
  refine FnOk.intro fact_mixed Tryz.func102 rfl Tryz.ntmps102 (by rfl) (by simp) ?_
  repeat (first | (refine nf1_sound rfl ?_; simp [go_sem, ↓iO, iO, tN]) | refine anI ?_ | refine ⟨dcK, ?_⟩ | ((first | refine iP ?_ | refine iN ?_); try simp [go_sem, ↓iO, iO, tN]))
  refine nf1_sound' _ _ _ ?_; simp only [nf1]
  refine CW.loop (ι := Nat) (fun k => ⟨[(0, .pt 0 [] 0), (3, .t (.int (nx R C k))), (8, .t (.int n)), (9, .t (.int k))], [(0, tblB n R C)]⟩) (fun k => k ≤ n) (fun k => n - k) 0 [(0, some 0)] (by omega) ?_ ?_
  · simp [go_sem, ↓iO, iO, tN, nx]
  intro k hk
  have hx := nx_range R C k
  by_cases hb : k < n
  · have gr := get_rt (r := R) (i := k) (by omega)
    have gc := get_rt (r := C) (i := k) (by omega)
    have b1 := hr _ (mem_get gr)
    have b2 := hc _ (mem_get gc)
    have step : nx R C (k + 1) = if 0 < rt R k ∧ (nx R C k < 0 ∨ (rt C k + 1) * rt R (nx R C k).toNat < (rt C (nx R C k).toNat + 1) * rt R k) then (k : Int) else nx R C k := rfl
    obtain ⟨u, hu⟩ : ∃ u, rt R k = u := ⟨_, rfl⟩
    obtain ⟨v, hv⟩ : ∃ v, rt C k = v := ⟨_, rfl⟩
    obtain ⟨q, hq⟩ : ∃ q, nx R C k = q := ⟨_, rfl⟩
    rw [hu] at gr b1
    rw [hv] at gc b2
    rw [hu, hv, hq] at step
    rw [hq] at hx ⊢
    by_cases h1 : 0 < u
    · by_cases h2 : q < 0
      · rw [if_pos ⟨h1, .inl h2⟩] at step
        repeat (first | (refine nf1_sound rfl ?_; simp [go_sem, ↓iO, iO, tN, gr, gc]) | refine anI ?_ | refine ⟨dcK, ?_⟩ | ((first | refine iP ?_ | refine iN ?_); try simp [go_sem, ↓iO, iO, tN, gr, gc]))
        rw [RoundQ_normal]; refine ⟨k + 1, [(0, some 0)], ?_, ?_, ?_⟩
        · omega
        · omega
        simp [go_sem, ↓iO, iO, tN, step]
      · obtain ⟨j, rfl⟩ : ∃ j : Nat, q = (j : Int) := ⟨q.toNat, by omega⟩
        rw [Int.toNat_natCast] at step
        have gr2 := get_rt (r := R) (i := j) (by omega)
        have gc2 := get_rt (r := C) (i := j) (by omega)
        have b3 := hr _ (mem_get gr2)
        have b4 := hc _ (mem_get gc2)
        obtain ⟨y, hy⟩ : ∃ y, rt R j = y := ⟨_, rfl⟩
        obtain ⟨z, hz⟩ : ∃ z, rt C j = z := ⟨_, rfl⟩
        rw [hy] at gr2 b3 step
        rw [hz] at gc2 b4 step
        have m1 := mul_bd (a := v + 1) (A := 1000001) (b := y) (B := 1000) (by omega) (by omega) (by omega) (by omega)
        have m2 := mul_bd (a := z + 1) (A := 1000001) (b := u) (B := 1000) (by omega) (by omega) (by omega) (by omega)
        obtain ⟨p1, hp1⟩ : ∃ p, (v + 1) * y = p := ⟨_, rfl⟩
        obtain ⟨p2, hp2⟩ : ∃ p, (z + 1) * u = p := ⟨_, rfl⟩
        rw [hp1] at m1 step
        rw [hp2] at m2 step
        by_cases h3 : p1 < p2
        · rw [if_pos ⟨h1, .inr h3⟩] at step
          repeat (first | (refine nf1_sound rfl ?_; simp [go_sem, ↓iO, iO, tN, gr, gc, gr2, gc2, hp1, hp2]) | refine anI ?_ | refine ⟨dcK, ?_⟩ | ((first | refine iP ?_ | refine iN ?_); try simp [go_sem, ↓iO, iO, tN, gr, gc, gr2, gc2, hp1, hp2]))
          rw [RoundQ_normal]; refine ⟨k + 1, [(0, some 0)], ?_, ?_, ?_⟩
          · omega
          · omega
          simp [go_sem, ↓iO, iO, tN, step]
        · rw [if_neg (by omega)] at step
          repeat (first | (refine nf1_sound rfl ?_; simp [go_sem, ↓iO, iO, tN, gr, gc, gr2, gc2, hp1, hp2]) | refine anI ?_ | refine ⟨dcK, ?_⟩ | ((first | refine iP ?_ | refine iN ?_); try simp [go_sem, ↓iO, iO, tN, gr, gc, gr2, gc2, hp1, hp2]))
          rw [RoundQ_normal]; refine ⟨k + 1, [(0, some 0)], ?_, ?_, ?_⟩
          · omega
          · omega
          simp [go_sem, ↓iO, iO, tN, step]
    · rw [if_neg (fun h => h1 h.1)] at step
      repeat (first | (refine nf1_sound rfl ?_; simp [go_sem, ↓iO, iO, tN, gr, gc]) | refine anI ?_ | refine ⟨dcK, ?_⟩ | ((first | refine iP ?_ | refine iN ?_); try simp [go_sem, ↓iO, iO, tN, gr, gc]))
      rw [RoundQ_normal]; refine ⟨k + 1, [(0, some 0)], ?_, ?_, ?_⟩
      · omega
      · omega
      simp [go_sem, ↓iO, iO, tN, step]
  · obtain rfl : k = n := by omega
    repeat (first | (refine nf1_sound rfl ?_; simp [go_sem, ↓iO, iO, tN]) | refine anI ?_ | refine ⟨dcK, ?_⟩ | ((first | refine iP ?_ | refine iN ?_); try simp [go_sem, ↓iO, iO, tN]))
    first | rw [RetQ_ret] | rw [RetQ_normal]
    refine ⟨[(0, some 0)], ?_⟩
    simp [go_sem, ↓iO, iO, tN]
end Go.Proofs.YtdjmklobfjigoaaGreatDoor
/- Lists whose elements own slices: an element is opened, and shut again; a plain list becomes such a list. No condition. -/
namespace Go.Proofs.YtdjmklobfjigoaaGreatDoor.Sy
open Go.RowKit
section
variable {N : Nat} {W : World} {G0 : Gh} {A : Nat → Prop} {G : Gh} {w : World} {g : Nat → S} {h : Nat → Option Blk} {a : Act}
theorem SatG.alter (hs : SatG N W G0 A G g h a w) {l : Nat} {b b' : Blk} (hl : h l = some b) (h1 : RepB G w b' (G.β l)) (h2 : Inn G w b' (G.β l) (G.φ l)) : SatG N W G0 A G g (hput h l (some b')) a w := by
  have other : ∀ k x, hput h l (some b') k = some x → (k = l ∧ x = b') ∨ (k ≠ l ∧ h k = some x) := by
    intro k x hx
    unfold hput at hx
    split at hx
    · exact .inl ⟨‹_›, (Option.some.inj hx).symm⟩
    · exact .inr ⟨‹_›, hx⟩
  have some' : ∀ k x, hput h l (some b') k = some x → ∃ y, h k = some y := by
    intro k x hx
    rcases other k x hx with ⟨rfl, _⟩ | ⟨_, h3⟩
    · exact ⟨b, hl⟩
    · exact ⟨x, h3⟩
  refine ⟨hs.size, hs.defers, hs.slots, ⟨?_, ?_, ?_, ?_, hs.heap.fb⟩, ⟨hs.frm.os, hs.frm.tape, hs.frm.output, hs.frm.size, hs.frm.block, ?_, hs.frm.fin, hs.frm.fout, hs.frm.same⟩⟩
  · intro k x hx
    rcases other k x hx with ⟨rfl, rfl⟩ | ⟨_, h3⟩
    · exact h1
    · exact hs.heap.rep k x h3
  · intro k x hx
    rcases other k x hx with ⟨rfl, rfl⟩ | ⟨_, h3⟩
    · exact h2
    · exact hs.heap.inn k x h3
  · intro k x j hx hj
    obtain ⟨y, hy⟩ := some' k x hx
    exact hs.heap.sep k y j hy hj
  · intro k k' x x' j hx hx' hj hj'
    obtain ⟨y, hy⟩ := some' k x hx
    obtain ⟨y', hy'⟩ := some' k' x' hx'
    exact hs.heap.inj k k' y y' j hy hy' hj hj'
  · intro k x j hx hj
    obtain ⟨y, hy⟩ := some' k x hx
    exact hs.frm.own k y j hy hj
def relTU : T → U → Prop
  | .lit (.slice none 0 0), .ow _ _ [] => True
  | .agg xs, .fw fs _ _ [] => xs = fs ++ [.nil]
  | x, .t y => x = y
  | _, _ => False
theorem repU_of (x : T) (u : U) (v : Value) (h : relTU x u) (hr : Rep G.F w x v) : RepU G w u v none := by
  unfold relTU at h
  split at h
  · unfold Rep at hr
    rw [hr.1]
    exact ⟨⟨none, 0, [], rfl, by unfold Reps; rfl, by simp, World.ownsRow_nil _ _ _ _⟩, rfl⟩
  · rename_i xs fs e s
    subst h
    unfold Rep at hr
    obtain ⟨cells, rfl, h2⟩ := hr
    have h3 := Reps.split fs.length h2
    rw [List.take_left, List.drop_left] at h3
    obtain ⟨h4, h5⟩ := h3
    unfold Reps at h5
    obtain ⟨v', cs', h6, h7, h8⟩ := h5
    unfold Reps at h8
    subst h8
    unfold Rep at h7
    rw [h7.1] at h6
    refine ⟨_, .slice none 0 0, ?_, h4, ⟨none, 0, [], rfl, by unfold Reps; rfl, by simp, World.ownsRow_nil _ _ _ _⟩, rfl⟩
    have h9 : cells = cells.take (T.widths fs) ++ [.slice none 0 0] := by
      conv => lhs; rw [← List.take_append_drop (T.widths fs) cells, h6]
      rfl
    rw [← h9]
  · subst h
    exact ⟨hr, rfl⟩
  · exact h.elim
theorem RepU.frame {G' : Gh} (hF : ∀ b, G.F b → G'.F b) {u : U} {v : Value} {k : Option Nat} (h : RepU G w u v k) : RepU G' w u v k := h.mono hF
theorem SatG.toRows (hs : SatG N W G0 A G g h a w) {l e s : Nat} {xs : List T} {us : List U} (hl : h l = some (.list e s xs)) (hlen : us.length = xs.length) (hus : ∀ (i : Nat) (x : T) (u : U), xs[i]? = some x → us[i]? = some u → relTU x u) :
    SatG N W G0 A G g (hput h l (some (.rows e s us []))) a w := by
  obtain ⟨x, cap, cells, h1, h2, h3, h4⟩ := hs.heap.rep l _ hl
  have h5 := hs.heap.inn l _ hl
  refine hs.alter hl ⟨x, cap, cells, by rw [h1, hlen], by rw [hlen]; exact h4⟩ ⟨cells, fun _ => none, by rw [hlen]; exact h4, ?_, fun k => ⟨fun hk => (h5 k hk).elim, fun ⟨i, hi⟩ => by cases hi⟩, (fun i j k hk => by cases hk), (fun i k hk => by cases hk), fun i _ => rfl⟩
  intro i u hu
  have hi : i < xs.length := by rw [← hlen]; exact (List.getElem?_eq_some_iff.1 hu).1
  have hx := List.getElem?_eq_getElem hi
  obtain ⟨v, h6, h7, _⟩ := Reps.get h2 hx
  rw [widths_take_const h3 (Nat.le_of_lt hi)] at h7
  have hw : xs[i].width = s := h3 _ (List.getElem_mem hi)
  refine ⟨v, h7, by rw [Rep.width _ _ h6, hw], Rep.one _ _ h6, ?_⟩
  unfold RowOk
  simp only [lkE]
  exact repU_of _ u v (hus i _ u hx hu) h6
def U.open (d : Nat) : U → S
  | .t x => .t x
  | .ow _ _ _ => .own d
  | .fw fs _ _ _ => .ag (fs.map S.t ++ [.own d])
def U.blk : U → Option Blk
  | .t _ => none
  | .ow e s xs => some (.list e s xs)
  | .fw _ e s xs => some (.list e s xs)
theorem repSs_t : ∀ {fs : List T} {cs : List Value}, Reps G.F w fs cs → RepSs G w (fs.map S.t) cs
  | [], cs, h => by unfold Reps at h; simp only [List.map_nil]; unfold RepSs; exact h
  | x :: r, cs, h => by
    unfold Reps at h
    obtain ⟨v, cs', h1, h2, h3⟩ := h
    simp only [List.map_cons]
    unfold RepSs
    exact ⟨v, cs', h1, by simp only [S.width]; exact Rep.width _ _ h2, Rep.one _ _ h2, by unfold RepS; exact h2, repSs_t h3⟩
theorem sslice_cells {u : Value} {x : Option Addr} {n c : Nat} (h : u = .slice x n c) : u.cells = #[u] := by subst h; rfl
theorem SatG.openRow (hs : SatG N W G0 A G g h a w) {l i d e s : Nat} {us : List U} {ex : List (Nat × S)} {u : U} {b : Blk} (hl : h l = some (.rows e s us ex)) (hu : us[i]? = some u) (hex : lkE ex i = none) (hb : u.blk = some b)
    (hd : 100 ≤ d) (hf : Fresh g h d) : ∃ G', SatG N W G0 A G' g (hput (hput h l (some (.rows e s us (putE ex i (u.open d))))) d (some b)) a w := by
  obtain ⟨hd0, hgf, hhf⟩ := hf
  obtain ⟨cells, κ, h1, h2, h3, h4, h5, h6⟩ := hs.heap.inn l _ hl
  obtain ⟨x, cap, cells0, hβ, h7⟩ := hs.heap.rep l _ hl
  obtain ⟨v, g1, g2, g3, g4⟩ := h2 i u hu
  unfold RowOk at g4
  rw [hex] at g4
  simp only at g4
  have hdl : l ≠ d := by rintro rfl; rw [hd0] at hl; cases hl
  -- the slice that it owns
  obtain ⟨v', hvb, hvk, hopen⟩ : ∃ v', RepB G w b v' ∧ κ i = hblk v' ∧ ∀ G' : Gh, (∀ b, G.F b → G'.F b) → G'.β d = v' → RepS G' w (u.open d) v := by
    cases u with
    | t x => cases hb
    | ow e' s' xs =>
      cases hb
      refine ⟨v, g4.1, g4.2, fun G' _ hd' => ?_⟩
      obtain ⟨x', cap', cells', hv, _⟩ := g4.1
      unfold U.open RepS
      exact ⟨hd'.symm, _, _, _, hv⟩
    | fw fs e' s' xs =>
      cases hb
      obtain ⟨cs, v', rfl, k1, k2, k3⟩ := g4
      refine ⟨v', k2, k3, fun G' hF hd' => ?_⟩
      obtain ⟨x', cap', cells', hv, _⟩ := k2
      have hcv := sslice_cells hv
      unfold U.open RepS
      refine ⟨_, rfl, RepSs.append (repSs_t (Reps.mono hF (fun _ _ _ => rfl) fs cs k1)) ?_⟩
      unfold RepSs
      refine ⟨v', [], by rw [hcv]; rfl, by rw [hcv]; rfl, ?_, by unfold RepS; exact ⟨hd'.symm, _, _, _, hv⟩, by unfold RepSs; rfl⟩
      intro c hc
      rw [hcv] at hc
      simp at hc
      rw [hc, hv]; rfl
  have hbl : ∃ e' s' xs', b = .list e' s' xs' := by
    cases u with
    | t x => cases hb
    | ow e' s' xs => exact ⟨_, _, _, (Option.some.inj hb).symm⟩
    | fw fs e' s' xs => exact ⟨_, _, _, (Option.some.inj hb).symm⟩
  obtain ⟨e', s', xs', rfl⟩ := hbl
  let G' : Gh := ⟨G.F, bput G.β d v', pput (pput G.φ l (fun k => G.φ l k ∧ hblk v' ≠ some k)) d noF⟩
  have K : Keep G w G' w [d] := ⟨fun _ h => h, fun _ _ _ => rfl, fun k hk => bput_other v' (by simpa using hk)⟩
  have hβo : ∀ k, k ≠ d → G'.β k = G.β k := fun k hk => bput_other v' hk
  have hβd : G'.β d = v' := bput_same _ _ _
  have hφd : G'.φ d = noF := pput_same _ _ _
  have hφl : G'.φ l = fun k => G.φ l k ∧ hblk v' ≠ some k := by
    show pput (pput G.φ l _) d noF l = _
    rw [pput_other _ hdl, pput_same]
  have hφo : ∀ k, k ≠ d → k ≠ l → G'.φ k = G.φ k := fun k hk hk2 => by
    show pput (pput G.φ l _) d noF k = _
    rw [pput_other _ hk, pput_other _ hk2]
  have ft' : ∀ k j, k ≠ d → G'.ft k j → G.ft k j := by
    intro k j hk hj
    rcases hj with hj | hj
    · left; rw [hβo k hk] at hj; exact hj
    · right
      by_cases e1 : k = l
      · subst e1; rw [hφl] at hj; exact hj.1
      · rw [hφo k hk e1] at hj; exact hj
  have ftd : ∀ j, G'.ft d j → hblk v' = some j ∧ G.φ l j := by
    intro j hj
    rcases hj with hj | hj
    · rw [hβd] at hj
      exact ⟨hj, (h3 j).2 ⟨i, by rw [hvk]; exact hj⟩⟩
    · rw [hφd] at hj; exact hj.elim
  have ftl : ∀ j, hblk v' = some j → ¬ G'.ft l j := by
    intro j hj hl'
    rcases hl' with hl' | hl'
    · rw [hβo l hdl] at hl'
      exact h5 i j (by rw [hvk]; exact hj) hl'
    · rw [hφl] at hl'; exact hl'.2 hj
  have cases' : ∀ k x, hput (hput h l (some (.rows e s us (putE ex i (u.open d))))) d (some (.list e' s' xs')) k = some x → (k = d ∧ x = .list e' s' xs') ∨ (k ≠ d ∧ k = l ∧ x = .rows e s us (putE ex i (u.open d))) ∨ (k ≠ d ∧ k ≠ l ∧ h k = some x) := by
    intro k x hx
    simp only [hput] at hx
    split at hx
    · exact .inl ⟨‹_›, (Option.some.inj hx).symm⟩
    · split at hx
      · exact .inr (.inl ⟨‹_›, ‹_›, (Option.some.inj hx).symm⟩)
      · exact .inr (.inr ⟨‹_›, ‹_›, hx⟩)
  have old : ∀ k x, hput (hput h l (some (.rows e s us (putE ex i (u.open d))))) d (some (.list e' s' xs')) k = some x → k ≠ d → ∃ y, h k = some y := by
    intro k x hx hk
    rcases cases' k x hx with ⟨h8, _⟩ | ⟨_, rfl, _⟩ | ⟨_, _, h8⟩
    · exact (hk h8).elim
    · exact ⟨_, hl⟩
    · exact ⟨_, h8⟩
  refine ⟨G', hs.size, hs.defers, fun t => RepS.keep K (g t) _ (fun k hk => by simp at hk; subst hk; exact hgf t) (hs.slots t), ⟨?_, ?_, ?_, ?_, hs.heap.fb⟩, ?_⟩
  · intro k y hy
    rcases cases' k y hy with ⟨rfl, rfl⟩ | ⟨h8, rfl, rfl⟩ | ⟨h8, h9, h10⟩
    · rw [hβd]; exact RepB.keep2 K (fun _ _ => rfl) (fun _ _ => rfl) hvb
    · rw [hβo _ h8]; exact ⟨x, cap, cells0, hβ, h7⟩
    · rw [hβo k h8]; exact RepB.keep2 K (fun q hq => by simp at hq; subst hq; exact hhf k y h10) (fun _ _ => rfl) (hs.heap.rep k y h10)
  · intro k y hy
    rcases cases' k y hy with ⟨rfl, rfl⟩ | ⟨h8, rfl, rfl⟩ | ⟨h8, h9, h10⟩
    · rw [hφd]; exact fun _ h => h
    · rw [hβo _ h8, hφl]
      refine ⟨cells, fun j => if j = i then none else κ j, h1, ?_, ?_, ?_, ?_, ?_⟩
      · intro j x hx
        by_cases hj : j = i
        · subst hj
          rw [hu] at hx
          cases hx
          refine ⟨v, g1, g2, g3, ?_⟩
          unfold RowOk
          rw [lkE_put, if_pos rfl]
          refine ⟨hopen G' (fun _ h => h) hβd, ?_, by simp⟩
          have h11 := hopen G' (fun _ h => h) hβd
          have hso : (u.open d).solid = true := by cases u <;> rfl
          have := (RepS.lens h11 hso).1
          omega
        · obtain ⟨v1, k1, k2, k3, k4⟩ := h2 j x hx
          refine ⟨v1, k1, k2, k3, ?_⟩
          unfold RowOk at k4 ⊢
          rw [lkE_put, if_neg hj]
          simp only [if_neg hj]
          cases hc : lkE ex j with
          | some c =>
            rw [hc] at k4
            have := hhf k _ hl
            exact ⟨RepS.keep K c v1 (fun q hq => by simp at hq; subst hq; exact freesE_spec this hc) k4.1, k4.2⟩
          | none =>
            rw [hc] at k4
            exact k4.keep2 K (fun _ _ => rfl)
      · intro q
        refine ⟨fun ⟨hq1, hq2⟩ => ?_, fun ⟨j, hj⟩ => ?_⟩
        · obtain ⟨j, hj⟩ := (h3 q).1 hq1
          refine ⟨j, ?_⟩
          show (if j = i then none else κ j) = some q
          rw [if_neg]
          · exact hj
          · rintro rfl
            rw [hvk] at hj
            exact hq2 hj
        · dsimp only at hj
          by_cases e1 : j = i
          · rw [if_pos e1] at hj; cases hj
          · rw [if_neg e1] at hj
            refine ⟨(h3 q).2 ⟨j, hj⟩, fun hq => e1 (h4 j i q hj (by rw [hvk]; exact hq))⟩
      · intro j1 j2 q hq1 hq2
        dsimp only at hq1 hq2
        by_cases e1 : j1 = i
        · rw [if_pos e1] at hq1; cases hq1
        · by_cases e2 : j2 = i
          · rw [if_pos e2] at hq2; cases hq2
          · rw [if_neg e1] at hq1; rw [if_neg e2] at hq2
            exact h4 j1 j2 q hq1 hq2
      · intro j q hq
        dsimp only at hq
        by_cases e1 : j = i
        · rw [if_pos e1] at hq; cases hq
        · rw [if_neg e1] at hq; exact h5 j q hq
      · intro j hj
        show (if j = i then none else κ j) = none
        by_cases e1 : j = i
        · rw [if_pos e1]
        · rw [if_neg e1]; exact h6 j hj
    · rw [hβo k h8, hφo k h8 h9]
      exact Inn.keep2 K (fun q hq => by simp at hq; subst hq; exact hhf k y h10) (fun _ _ => rfl) (hs.heap.inn k y h10)
  · intro k y j hy hj
    by_cases hk : k = d
    · subst hk
      exact hs.heap.sep l _ j hl (.inr (ftd j hj).2)
    · obtain ⟨y0, h8⟩ := old k y hy hk
      exact hs.heap.sep k y0 j h8 (ft' k j hk hj)
  · intro k k' y y' j hy hy' hj hj'
    by_cases hk : k = d <;> by_cases hk' : k' = d
    · rw [hk, hk']
    · subst hk
      obtain ⟨y0, h8⟩ := old k' y' hy' hk'
      obtain ⟨h9, h10⟩ := ftd j hj
      have := hs.heap.inj l k' _ y0 j hl h8 (.inr h10) (ft' k' j hk' hj')
      subst this
      exact (ftl j h9 hj').elim
    · subst hk'
      obtain ⟨y0, h8⟩ := old k y hy hk
      obtain ⟨h9, h10⟩ := ftd j hj'
      have := hs.heap.inj l k _ y0 j hl h8 (.inr h10) (ft' k j hk hj)
      subst this
      exact (ftl j h9 hj).elim
    · obtain ⟨y0, h8⟩ := old k y hy hk
      obtain ⟨y0', h8'⟩ := old k' y' hy' hk'
      exact hs.heap.inj k k' y0 y0' j h8 h8' (ft' k j hk hj) (ft' k' j hk' hj')
  · refine ⟨hs.frm.os, hs.frm.tape, hs.frm.output, hs.frm.size, hs.frm.block, ?_, hs.frm.fin, hs.frm.fout, fun k hk => (hβo k (by omega)).trans (hs.frm.same k hk)⟩
    intro k y j hy hj
    by_cases hk : k = d
    · subst hk
      exact hs.frm.own l _ j hl (.inr (ftd j hj).2)
    · obtain ⟨y0, h8⟩ := old k y hy hk
      exact hs.frm.own k y0 j h8 (ft' k j hk hj)
theorem SatG.closeRow (hs : SatG N W G0 A G g h a w) {l i d e s e' s' : Nat} {us : List U} {ex : List (Nat × S)} {xs : List T} {u' : U} (hl : h l = some (.rows e s us ex)) (hd : h d = some (.list e' s' xs))
    (hex : lkE ex i = some (u'.open d)) (hb : u'.blk = some (.list e' s' xs)) : ∃ G', SatG N W G0 A G' g (hput (hput h l (some (.rows e s (us.set i u') (delE i ex)))) d none) a w := by
  obtain ⟨cells, κ, h1, h2, h3, h4, h5, h6⟩ := hs.heap.inn l _ hl
  obtain ⟨x0, cap, cells0, hβ, h7⟩ := hs.heap.rep l _ hl
  have hrd := hs.heap.rep d _ hd
  have hld : l ≠ d := by rintro rfl; rw [hl] at hd; cases hd
  by_cases hnlt : us.length ≤ i
  · -- no such element
    have e1 : us.set i u' = us := List.set_eq_of_length_le (by omega)
    let G' : Gh := ⟨G.F, G.β, G.φ⟩
    have cases' : ∀ k x, hput (hput h l (some (.rows e s (us.set i u') (delE i ex)))) d none k = some x → k ≠ d ∧ ((k = l ∧ x = .rows e s us (delE i ex)) ∨ (k ≠ l ∧ h k = some x)) := by
      intro k x hx
      simp only [hput, e1] at hx
      split at hx
      · cases hx
      · refine ⟨‹_›, ?_⟩
        split at hx
        · exact .inl ⟨‹_›, (Option.some.inj hx).symm⟩
        · exact .inr ⟨‹_›, hx⟩
    have old : ∀ k x, hput (hput h l (some (.rows e s (us.set i u') (delE i ex)))) d none k = some x → ∃ y, h k = some y := by
      intro k x hx
      rcases (cases' k x hx).2 with ⟨rfl, _⟩ | ⟨_, h8⟩
      · exact ⟨_, hl⟩
      · exact ⟨_, h8⟩
    refine ⟨G, hs.size, hs.defers, hs.slots, ⟨?_, ?_, ?_, ?_, hs.heap.fb⟩, ⟨hs.frm.os, hs.frm.tape, hs.frm.output, hs.frm.size, hs.frm.block, ?_, hs.frm.fin, hs.frm.fout, hs.frm.same⟩⟩
    · intro k x hx
      rcases (cases' k x hx).2 with ⟨rfl, rfl⟩ | ⟨_, h8⟩
      · exact ⟨x0, cap, cells0, hβ, h7⟩
      · exact hs.heap.rep k x h8
    · intro k x hx
      rcases (cases' k x hx).2 with ⟨rfl, rfl⟩ | ⟨_, h8⟩
      · refine ⟨cells, κ, h1, fun j y hy => ?_, h3, h4, h5, h6⟩
        have hj : j < us.length := (List.getElem?_eq_some_iff.1 hy).1
        obtain ⟨v, g1, g2, g3, g4⟩ := h2 j y hy
        refine ⟨v, g1, g2, g3, ?_⟩
        unfold RowOk at g4 ⊢
        rw [lkE_del, if_neg (by omega)]
        exact g4
      · exact hs.heap.inn k x h8
    · intro k x j hx hj
      obtain ⟨y, hy⟩ := old k x hx
      exact hs.heap.sep k y j hy hj
    · intro k k' x x' j hx hx' hj hj'
      obtain ⟨y, hy⟩ := old k x hx
      obtain ⟨y', hy'⟩ := old k' x' hx'
      exact hs.heap.inj k k' y y' j hy hy' hj hj'
    · intro k x j hx hj
      obtain ⟨y, hy⟩ := old k x hx
      exact hs.frm.own k y j hy hj
  have hlt : i < us.length := by omega
  obtain ⟨v, g1, g2, g3, g4⟩ := h2 i _ (List.getElem?_eq_getElem hlt)
  unfold RowOk at g4
  rw [hex] at g4
  obtain ⟨g5, g6, g7⟩ := g4
  have hru : RepU G w u' v (hblk (G.β d)) := by
    cases u' with
    | t x => cases hb
    | ow e1 s1 xs1 =>
      simp only [U.blk, Option.some.injEq, Blk.list.injEq] at hb
      obtain ⟨rfl, rfl, rfl⟩ := hb
      unfold U.open RepS at g5
      rw [g5.1]
      exact ⟨hrd, rfl⟩
    | fw fs e1 s1 xs1 =>
      simp only [U.blk, Option.some.injEq, Blk.list.injEq] at hb
      obtain ⟨rfl, rfl, rfl⟩ := hb
      unfold U.open RepS at g5
      obtain ⟨cs, rfl, k1⟩ := g5
      have : ∀ {fs : List T} {cs : List Value}, RepSs G w (fs.map S.t ++ [.own d]) cs → ∃ cs1 v', cs = cs1 ++ [v'] ∧ Reps G.F w fs cs1 ∧ v' = G.β d := by
        intro fs
        induction fs with
        | nil =>
          intro cs hc
          simp only [List.map_nil, List.nil_append] at hc
          unfold RepSs at hc
          obtain ⟨v1, cs', q1, _, _, q2, q3⟩ := hc
          unfold RepSs at q3
          subst q3
          unfold RepS at q2
          obtain ⟨q4, _, _, _, q5⟩ := q2
          exact ⟨[], v1, by rw [q1, sslice_cells q5]; rfl, by unfold Reps; rfl, q4⟩
        | cons f fs ih =>
          intro cs hc
          simp only [List.map_cons, List.cons_append] at hc
          unfold RepSs at hc
          obtain ⟨v1, cs', q1, _, _, q2, q3⟩ := hc
          obtain ⟨cs1, v', q4, q5, q6⟩ := ih q3
          refine ⟨v1.cells.toList ++ cs1, v', by rw [q1, q4, List.append_assoc], ?_, q6⟩
          unfold Reps
          unfold RepS at q2
          exact ⟨v1, cs1, rfl, q2, q5⟩
      obtain ⟨cs1, v', rfl, k2, rfl⟩ := this k1
      exact ⟨cs1, _, rfl, k2, hrd, rfl⟩
  let G' : Gh := ⟨G.F, G.β, pput G.φ l (fun k => G.φ l k ∨ hblk (G.β d) = some k)⟩
  have K : Keep G w G' w [] := ⟨fun _ h => h, fun _ _ _ => rfl, fun _ _ => rfl⟩
  have hφl : G'.φ l = fun k => G.φ l k ∨ hblk (G.β d) = some k := pput_same _ _ _
  have hφo : ∀ k, k ≠ l → G'.φ k = G.φ k := fun k hk => pput_other _ hk
  have ftl : ∀ j, G'.ft l j → G.ft l j ∨ G.ft d j := by
    intro j hj
    rcases hj with hj | hj
    · exact .inl (.inl hj)
    · rw [hφl] at hj
      rcases hj with hj | hj
      · exact .inl (.inr hj)
      · exact .inr (.inl hj)
  have fto : ∀ k j, k ≠ l → G'.ft k j → G.ft k j := by
    intro k j hk hj
    rcases hj with hj | hj
    · exact .inl hj
    · rw [hφo k hk] at hj; exact .inr hj
  have cases' : ∀ k x, hput (hput h l (some (.rows e s (us.set i u') (delE i ex)))) d none k = some x → k ≠ d ∧ ((k = l ∧ x = .rows e s (us.set i u') (delE i ex)) ∨ (k ≠ l ∧ h k = some x)) := by
    intro k x hx
    simp only [hput] at hx
    split at hx
    · cases hx
    · refine ⟨‹_›, ?_⟩
      split at hx
      · exact .inl ⟨‹_›, (Option.some.inj hx).symm⟩
      · exact .inr ⟨‹_›, hx⟩
  refine ⟨G', hs.size, hs.defers, fun t => RepS.keep K (g t) _ (by simp) (hs.slots t), ⟨?_, ?_, ?_, ?_, hs.heap.fb⟩, ?_⟩
  · intro k x hx
    rcases (cases' k x hx).2 with ⟨rfl, rfl⟩ | ⟨_, h8⟩
    · exact ⟨x0, cap, cells0, by rw [List.length_set]; exact hβ, by rw [List.length_set]; exact h7⟩
    · exact RepB.keep2 K (by simp) (fun _ _ => rfl) (hs.heap.rep k x h8)
  · intro k x hx
    rcases (cases' k x hx).2 with ⟨rfl, rfl⟩ | ⟨hk, h8⟩
    · rw [hφl]
      refine ⟨cells, fun j => if j = i then hblk (G.β d) else κ j, by rw [List.length_set]; exact h1, ?_, ?_, ?_, ?_, ?_⟩
      · intro j y hy
        rw [List.getElem?_set] at hy
        by_cases hj : i = j
        · subst hj
          rw [if_pos rfl, if_pos hlt] at hy
          cases hy
          refine ⟨v, g1, g2, g3, ?_⟩
          unfold RowOk
          rw [lkE_del, if_pos rfl]
          simp only [if_pos]
          exact hru.keep2 K (fun _ _ => rfl)
        · rw [if_neg hj] at hy
          obtain ⟨v1, k1, k2, k3, k4⟩ := h2 j y hy
          refine ⟨v1, k1, k2, k3, ?_⟩
          have hj' : ¬ j = i := fun e => hj e.symm
          unfold RowOk at k4 ⊢
          rw [lkE_del, if_neg hj']
          simp only [if_neg hj']
          cases hc : lkE ex j with
          | some c =>
            rw [hc] at k4
            exact ⟨RepS.keep K c v1 (by simp) k4.1, k4.2⟩
          | none =>
            rw [hc] at k4
            exact k4.keep2 K (fun _ _ => rfl)
      · intro q
        refine ⟨fun hq => ?_, fun ⟨j, hj⟩ => ?_⟩
        · rcases hq with hq | hq
          · obtain ⟨j, hj⟩ := (h3 q).1 hq
            refine ⟨j, ?_⟩
            show (if j = i then _ else κ j) = some q
            rw [if_neg]
            · exact hj
            · rintro rfl; rw [g7] at hj; cases hj
          · exact ⟨i, by show (if i = i then _ else κ i) = some q; rw [if_pos rfl]; exact hq⟩
        · dsimp only at hj
          by_cases e1 : j = i
          · rw [if_pos e1] at hj; exact .inr hj
          · rw [if_neg e1] at hj; exact .inl ((h3 q).2 ⟨j, hj⟩)
      · intro j1 j2 q hq1 hq2
        dsimp only at hq1 hq2
        by_cases e1 : j1 = i <;> by_cases e2 : j2 = i
        · rw [e1, e2]
        · rw [if_pos e1] at hq1; rw [if_neg e2] at hq2
          exact (hld (hs.heap.inj k d _ _ q hl hd (.inr ((h3 q).2 ⟨j2, hq2⟩)) (.inl hq1))).elim
        · rw [if_neg e1] at hq1; rw [if_pos e2] at hq2
          exact (hld (hs.heap.inj k d _ _ q hl hd (.inr ((h3 q).2 ⟨j1, hq1⟩)) (.inl hq2))).elim
        · rw [if_neg e1] at hq1; rw [if_neg e2] at hq2
          exact h4 j1 j2 q hq1 hq2
      · intro j q hq hlq
        dsimp only at hq
        by_cases e1 : j = i
        · rw [if_pos e1] at hq
          exact hld (hs.heap.inj k d _ _ q hl hd (.inl hlq) (.inl hq))
        · rw [if_neg e1] at hq; exact h5 j q hq hlq
      · intro j hj
        rw [List.length_set] at hj
        show (if j = i then _ else κ j) = none
        rw [if_neg (by omega)]
        exact h6 j hj
    · rw [hφo k hk]
      exact Inn.keep2 K (by simp) (fun _ _ => rfl) (hs.heap.inn k x h8)
  · intro k x j hx hj
    rcases (cases' k x hx).2 with ⟨rfl, rfl⟩ | ⟨hk, h8⟩
    · rcases ftl j hj with h9 | h9
      · exact hs.heap.sep k _ j hl h9
      · exact hs.heap.sep d _ j hd h9
    · exact hs.heap.sep k x j h8 (fto k j hk hj)
  · intro k k' x x' j hx hx' hj hj'
    obtain ⟨hkd, hx⟩ := cases' k x hx
    obtain ⟨hkd', hx'⟩ := cases' k' x' hx'
    rcases hx with ⟨rfl, rfl⟩ | ⟨hk, h8⟩ <;> rcases hx' with ⟨rfl, rfl⟩ | ⟨hk', h8'⟩
    · rfl
    · rcases ftl j hj with h9 | h9
      · exact hs.heap.inj k k' _ _ j hl h8' h9 (fto k' j hk' hj')
      · exact (hkd' (hs.heap.inj k' d _ _ j h8' hd (fto k' j hk' hj') h9)).elim
    · rcases ftl j hj' with h9 | h9
      · exact hs.heap.inj k k' _ _ j h8 hl (fto k j hk hj) h9
      · exact (hkd (hs.heap.inj k d _ _ j h8 hd (fto k j hk hj) h9)).elim
    · exact hs.heap.inj k k' _ _ j h8 h8' (fto k j hk hj) (fto k' j hk' hj')
  · refine ⟨hs.frm.os, hs.frm.tape, hs.frm.output, hs.frm.size, hs.frm.block, ?_, hs.frm.fin, hs.frm.fout, hs.frm.same⟩
    intro k x j hx hj
    rcases (cases' k x hx).2 with ⟨rfl, rfl⟩ | ⟨hk, h8⟩
    · rcases ftl j hj with h9 | h9
      · exact hs.frm.own k _ j hl h9
      · exact hs.frm.own d _ j hd h9
    · exact hs.frm.own k x j h8 (fto k j hk hj)
end
/-! ### The same for code -/
section
variable {N : Nat} {P : Program} {Q : Exit → St → Prop} {c : Code}
theorem lkB_put (l : Nat) (b : Blk) (h : List (Nat × Blk)) : lkB ((l, b) :: delB l h) = hput (lkB h) l (some b) := by
  funext k
  simp only [lkB, lkB_delB, hput]
  split <;> rfl
theorem lkB_drop (l : Nat) (h : List (Nat × Blk)) : lkB (delB l h) = hput (lkB h) l none := by
  funext k
  simp only [lkB_delB, hput]
theorem CW.toRows {σ : St} (l : Nat) (us : List U) {e s : Nat} {xs : List T} (hl : lkB σ.h l = some (.list e s xs)) (hlen : us.length = xs.length) (hus : ∀ (i : Nat) (x : T) (u : U), xs[i]? = some x → us[i]? = some u → relTU x u)
    (h : CW N P c Q ⟨σ.g, (l, .rows e s us []) :: delB l σ.h⟩) : CW N P c Q σ := by
  intro hm hc W G0 A a w ⟨G, hs⟩
  refine h hm hc W G0 A a w ⟨G, ?_⟩
  rw [lkB_put]
  exact hs.toRows hl hlen hus
theorem CW.openRow {σ : St} (l i d : Nat) {e s : Nat} {us : List U} {ex : List (Nat × S)} {u : U} {b : Blk} (hl : lkB σ.h l = some (.rows e s us ex)) (hu : us[i]? = some u) (hex : lkE ex i = none) (hb : u.blk = some b)
    (hd : nwOk σ [d] = true) (h100 : 100 ≤ d) (h : CW N P c Q ⟨σ.g, (d, b) :: delB d ((l, .rows e s us (putE ex i (u.open d))) :: delB l σ.h)⟩) : CW N P c Q σ := by
  intro hm hc W G0 A a w ⟨G, hs⟩
  obtain ⟨G', hs'⟩ := hs.openRow hl hu hex hb h100 (nwOk_spec hd d (by simp))
  refine h hm hc W G0 A a w ⟨G', ?_⟩
  rw [lkB_put, lkB_put]
  exact hs'
theorem CW.closeRow {σ : St} (l i d : Nat) (u' : U) {e s e' s' : Nat} {us : List U} {ex : List (Nat × S)} {xs : List T} (hl : lkB σ.h l = some (.rows e s us ex)) (hd : lkB σ.h d = some (.list e' s' xs))
    (hex : lkE ex i = some (u'.open d)) (hb : u'.blk = some (.list e' s' xs)) (h : CW N P c Q ⟨σ.g, delB d ((l, .rows e s (us.set i u') (delE i ex)) :: delB l σ.h)⟩) : CW N P c Q σ := by
  intro hm hc W G0 A a w ⟨G, hs⟩
  obtain ⟨G', hs'⟩ := hs.closeRow hl hd hex hb
  refine h hm hc W G0 A a w ⟨G', ?_⟩
  rw [lkB_drop, lkB_put]
  exact hs'
end
end Go.Proofs.YtdjmklobfjigoaaGreatDoor.Sy
namespace Go.Proofs.YtdjmklobfjigoaaGreatDoor.Sy
attribute [go_sem] U.open
end Go.Proofs.YtdjmklobfjigoaaGreatDoor.Sy
/- Counts of the program and of the reference, and what they call, as contracts. No condition. -/
namespace Go.Proofs.YtdjmklobfjigoaaGreatDoor
open Go.RowKit Sy
open Go.IntWalk renaming iteOmega → iO, toNatUp → tN
namespace Dl
def tot : List Int → Int
  | [] => 0
  | x :: r => x + tot r
theorem tot_app : ∀ a b : List Int, tot (a ++ b) = tot a + tot b
  | [], b => by simp [tot]
  | x :: r, b => by simp [tot, tot_app r b]; omega
theorem tot_snoc {l : List Int} {k : Nat} {x : Int} (h : l[k]? = some x) : tot (l.take (k + 1)) = tot (l.take k) + x := by
  rw [take_snoc h, tot_app]; simp [tot]
theorem tot_nn : ∀ {l : List Int}, (∀ x ∈ l, 0 ≤ x) → 0 ≤ tot l
  | [], _ => by simp [tot]
  | x :: r, h => by
    have := tot_nn (l := r) (fun y hy => h y (by simp [hy]))
    have := h x (by simp)
    simp only [tot]; omega
theorem tot_le {M : Int} : ∀ {l : List Int}, (∀ x ∈ l, x ≤ M) → tot l ≤ M * l.length
  | [], _ => by simp [tot]
  | x :: r, h => by
    have h1 := tot_le (l := r) (fun y hy => h y (by simp [hy]))
    have h2 := h x (by simp)
    simp only [tot, List.length_cons]
    rw [show ((r.length + 1 : Nat) : Int) = r.length + 1 by omega, Int.mul_add, Int.mul_one]
    omega
def chk (r : List Int) (k : Int) : Int :=
  if 64 < r.length then 4 else if ¬ ∀ x ∈ r, 0 ≤ x ∧ x ≤ 1000 then 1 else if tot r = 0 then 9 else if k < 0 ∨ tot r < k then 1 else 0
def bump (C : List Int) (i : Int) : List Int := C.set i.toNat (rt C i.toNat + 1)
def cs (r : List Int) : Nat → List Int
  | 0 => List.replicate r.length 0
  | k + 1 => bump (cs r k) (nx r (cs r k) r.length)
theorem cs_len (r : List Int) : ∀ k, (cs r k).length = r.length
  | 0 => by simp [cs]
  | k + 1 => by simp [cs, bump, cs_len r k]
theorem cs_bd (r : List Int) : ∀ k, ∀ x ∈ cs r k, 0 ≤ x ∧ x ≤ k
  | 0, x, h => by simp [cs] at h; omega
  | k + 1, x, h => by
    have ih := cs_bd r k
    unfold cs bump at h
    rcases List.mem_or_eq_of_mem_set h with h | h
    · have := ih x h; omega
    · subst h
      unfold rt
      rw [List.getD_eq_getElem?_getD]
      cases hz : (cs r k)[(nx r (cs r k) r.length).toNat]? with
      | none => simp; omega
      | some z => have := ih z (List.mem_of_getElem? hz); simp; omega
structure Rates (r : List Int) : Prop where
  len : r.length ≤ 64
  each : ∀ x ∈ r, 0 ≤ x ∧ x ≤ 1000
  pos : 0 < tot r
theorem Rates.nn {r : List Int} (h : Rates r) : ∀ x ∈ r, 0 ≤ x := fun x hx => (h.each x hx).1
theorem Rates.tot_le {r : List Int} (h : Rates r) : tot r ≤ 64000 := by
  have h1 := Dl.tot_le (M := 1000) (l := r) (fun x hx => (h.each x hx).2)
  have := h.len
  omega
theorem pos_mem : ∀ {l : List Int}, (∀ x ∈ l, 0 ≤ x) → 0 < tot l → ∃ (i : Nat) (x : Int), l[i]? = some x ∧ 0 < x
  | [], _, h => by simp [tot] at h
  | a :: r, hn, h => by
    by_cases ha : 0 < a
    · exact ⟨0, a, rfl, ha⟩
    · have h2 := hn a (by simp)
      obtain ⟨i, x, h3, h4⟩ := pos_mem (l := r) (fun y hy => hn y (by simp [hy])) (by simp only [tot] at h; omega)
      exact ⟨i + 1, x, by simpa using h3, h4⟩
theorem nx_pos {R C : List Int} {i : Nat} (hi : 0 < rt R i) : ∀ {k : Nat}, i < k → 0 ≤ nx R C k
  | 0, h => by omega
  | k + 1, h => by
    unfold nx
    split
    · omega
    · rename_i hn
      by_cases e : i = k
      · subst e
        have := nx_range R C i
        by_cases h0 : nx R C i < 0
        · exact (hn ⟨hi, .inl h0⟩).elim
        · omega
      · exact nx_pos hi (by omega)
theorem Rates.nx {r : List Int} (h : Rates r) (C : List Int) : ∃ j : Nat, Dl.nx r C r.length = (j : Int) ∧ j < r.length := by
  obtain ⟨i, x, h1, h2⟩ := pos_mem h.nn h.pos
  have h3 := nx_range r C r.length
  have h4 := nx_pos (R := r) (C := C) (i := i) (by rw [rt_get h1]; exact h2) (k := r.length) (List.getElem?_eq_some_iff.1 h1).1
  exact ⟨(Dl.nx r C r.length).toNat, by omega, by omega⟩
theorem chk_ok {r : List Int} {k : Int} (h : chk r k = 0) : Rates r ∧ 0 ≤ k ∧ k ≤ tot r := by
  unfold chk at h
  by_cases h1 : 64 < r.length
  · rw [if_pos h1] at h; omega
  rw [if_neg h1] at h
  by_cases h2 : ∀ x ∈ r, 0 ≤ x ∧ x ≤ 1000
  · rw [if_neg (fun hn => hn h2)] at h
    by_cases h3 : tot r = 0
    · rw [if_pos h3] at h; omega
    rw [if_neg h3] at h
    by_cases h4 : k < 0 ∨ tot r < k
    · rw [if_pos h4] at h; omega
    have := tot_nn (l := r) (fun x hx => (h2 x hx).1)
    exact ⟨⟨by omega, h2, by omega⟩, by omega, by omega⟩
  · rw [if_pos h2] at h; omega
theorem chk_of {r : List Int} {k : Int} (h : Rates r) (h1 : 0 ≤ k) (h2 : k ≤ tot r) : chk r k = 0 := by
  have := h.pos
  have := h.len
  unfold chk
  rw [if_neg (by omega), if_neg (fun hn => hn h.each), if_neg (by omega), if_neg (by omega)]
end Dl
open Dl
theorem check_fn (r : List Int) (k : Int) (hl : r.length ≤ 9223372036854775807) (e : Int) (he : chk r k = e) : FnOk Tryz.prog 100 [.t (encIs r), .t (.int k)] [] (.t (.int e)) [] := by
  unfold chk at he
  by_cases h1 : 64 < r.length
  · rw [if_pos h1] at he
    subst he
    refine FnOk.intro fact_mixed Tryz.func100 rfl Tryz.ntmps100 (by rfl) (by simp) ?_
    repeat (first | (refine nf1_sound rfl ?_; simp [go_sem, ↓iO, iO, tN]) | refine anI ?_ | refine ⟨dcK, ?_⟩ | ((first | refine iP ?_ | refine iN ?_); try simp [go_sem, ↓iO, iO, tN]))
    first | rw [RetQ_ret] | rw [RetQ_normal]
    refine ⟨[], ?_⟩
    simp [go_sem, ↓iO, iO, tN]
  rw [if_neg h1] at he
  refine FnOk.intro fact_mixed Tryz.func100 rfl Tryz.ntmps100 (by rfl) (by simp) ?_
  repeat (first | (refine nf1_sound rfl ?_; simp [go_sem, ↓iO, iO, tN]) | refine anI ?_ | refine ⟨dcK, ?_⟩ | ((first | refine iP ?_ | refine iN ?_); try simp [go_sem, ↓iO, iO, tN]))
  refine nf1_sound' _ _ _ ?_; simp only [nf1]
  refine CW.loop (ι := Nat) (fun i => ⟨[(1, .t (.int k)), (5, .t (.int (tot (r.take i)))), (11, .t (encIs r)), (12, .t (.int r.length)), (13, .t (.int i))], []⟩) (fun i => i ≤ r.length ∧ ∀ x ∈ r.take i, 0 ≤ x ∧ x ≤ 1000) (fun i => r.length - i) 0 [] ⟨by omega, by simp⟩ ?_ ?_
  · simp [go_sem, ↓iO, iO, tN, tot]
  rintro i ⟨hi, hall⟩
  by_cases hb : i < r.length
  · obtain ⟨x, hx⟩ := has_get hb
    have hm := mem_get hx
    by_cases h2 : 0 ≤ x
    · by_cases h3 : x ≤ 1000
      · have ha2 : ∀ y ∈ r.take (i + 1), 0 ≤ y ∧ y ≤ 1000 := by
          rw [take_snoc hx]
          intro y hy
          rcases List.mem_append.1 hy with hy | hy
          · exact hall y hy
          · simp only [List.mem_singleton] at hy; subst hy; exact ⟨h2, h3⟩
        have hs := tot_snoc hx
        have b1 := tot_nn (l := r.take i) (fun y hy => (hall y hy).1)
        have b2 := tot_le (M := 1000) (l := r.take i) (fun y hy => (hall y hy).2)
        rw [List.length_take] at b2
        obtain ⟨T, hT⟩ : ∃ T, tot (r.take i) = T := ⟨_, rfl⟩
        rw [hT] at hs b1 b2 ⊢
        repeat (first | (refine nf1_sound rfl ?_; simp [go_sem, ↓iO, iO, tN, hx]) | refine anI ?_ | refine ⟨dcK, ?_⟩ | ((first | refine iP ?_ | refine iN ?_); try simp [go_sem, ↓iO, iO, tN, hx]))
        rw [RoundQ_normal]; refine ⟨i + 1, [], ?_, ?_, ?_⟩
        · exact ⟨by omega, ha2⟩
        · omega
        simp [go_sem, ↓iO, iO, tN, hs]
      · rw [if_pos (fun h => h3 (h x hm).2)] at he
        subst he
        repeat (first | (refine nf1_sound rfl ?_; simp [go_sem, ↓iO, iO, tN, hx]) | refine anI ?_ | refine ⟨dcK, ?_⟩ | ((first | refine iP ?_ | refine iN ?_); try simp [go_sem, ↓iO, iO, tN, hx]))
        first | rw [RetQ_ret] | rw [RetQ_normal]
        refine ⟨[], ?_⟩
        simp [go_sem, ↓iO, iO, tN]
    · rw [if_pos (fun h => h2 (h x hm).1)] at he
      subst he
      repeat (first | (refine nf1_sound rfl ?_; simp [go_sem, ↓iO, iO, tN, hx]) | refine anI ?_ | refine ⟨dcK, ?_⟩ | ((first | refine iP ?_ | refine iN ?_); try simp [go_sem, ↓iO, iO, tN, hx]))
      first | rw [RetQ_ret] | rw [RetQ_normal]
      refine ⟨[], ?_⟩
      simp [go_sem, ↓iO, iO, tN]
  · obtain rfl : i = r.length := by omega
    rw [List.take_length] at hall ⊢
    rw [if_neg (fun hn => hn hall)] at he
    have b1 := tot_nn (l := r) (fun y hy => (hall y hy).1)
    obtain ⟨T, hT⟩ : ∃ T, tot r = T := ⟨_, rfl⟩
    rw [hT] at he b1 ⊢
    by_cases h4 : T = 0
    · rw [if_pos h4] at he
      subst he
      repeat (first | (refine nf1_sound rfl ?_; simp [go_sem, ↓iO, iO, tN, h4]) | refine anI ?_ | refine ⟨dcK, ?_⟩ | ((first | refine iP ?_ | refine iN ?_); try simp [go_sem, ↓iO, iO, tN, h4]))
      first | rw [RetQ_ret] | rw [RetQ_normal]
      refine ⟨[], ?_⟩
      simp [go_sem, ↓iO, iO, tN]
    · rw [if_neg h4] at he
      by_cases h5 : k < 0
      · rw [if_pos (.inl h5)] at he
        subst he
        repeat (first | (refine nf1_sound rfl ?_; simp [go_sem, ↓iO, iO, tN, h4]) | refine anI ?_ | refine ⟨dcK, ?_⟩ | ((first | refine iP ?_ | refine iN ?_); try simp [go_sem, ↓iO, iO, tN, h4]))
        first | rw [RetQ_ret] | rw [RetQ_normal]
        refine ⟨[], ?_⟩
        simp [go_sem, ↓iO, iO, tN]
      · by_cases h6 : T < k
        · rw [if_pos (.inr h6)] at he
          subst he
          repeat (first | (refine nf1_sound rfl ?_; simp [go_sem, ↓iO, iO, tN, h4]) | refine anI ?_ | refine ⟨dcK, ?_⟩ | ((first | refine iP ?_ | refine iN ?_); try simp [go_sem, ↓iO, iO, tN, h4]))
          first | rw [RetQ_ret] | rw [RetQ_normal]
          refine ⟨[], ?_⟩
          simp [go_sem, ↓iO, iO, tN]
        · rw [if_neg (by omega)] at he
          subst he
          repeat (first | (refine nf1_sound rfl ?_; simp [go_sem, ↓iO, iO, tN, h4]) | refine anI ?_ | refine ⟨dcK, ?_⟩ | ((first | refine iP ?_ | refine iN ?_); try simp [go_sem, ↓iO, iO, tN, h4]))
          first | rw [RetQ_ret] | rw [RetQ_normal]
          refine ⟨[], ?_⟩
          simp [go_sem, ↓iO, iO, tN]
def pad (r : List Int) : List Int := r ++ List.replicate (64 - r.length) 0
theorem pad_len {r : List Int} (h : r.length ≤ 64) : (pad r).length = 64 := by simp [pad]; omega
theorem start_fn (r : List Int) (hl : r.length ≤ 64) (R Z : List Int) (hR : pad r = R) (hZ : List.replicate 64 0 = Z) : FnOk Tryz.prog 101 [.t (encIs r)] [] (.t (tblT r.length R Z)) [] := by
  have hmin : min r.length 64 = r.length := by omega
  have hz : List.replicate 64 (T.lit (.int .i64 0)) = Z.map encI := by rw [← hZ, List.map_replicate]; rfl
  have hzl : Z.length = 64 := by rw [← hZ, List.length_replicate]
  have hp : List.take r.length (r.map encI) ++ List.drop r.length (Z.map encI) = R.map encI := by
    rw [← hR, pad, List.map_append, ← hZ, ← List.map_drop, List.drop_replicate, List.take_of_length_le (by simp)]
  have hRl : R.length = 64 := by rw [← hR]; exact pad_len hl
  refine FnOk.intro fact_mixed Tryz.func101 rfl Tryz.ntmps101 (by rfl) (by simp) ?_
  repeat (first | (refine nf1_sound rfl ?_; simp [go_sem, ↓iO, iO, tN, ↓hz, hmin, hp, hzl, hRl]) | refine anI ?_ | refine ⟨dcK, ?_⟩ | ((first | refine iP ?_ | refine iN ?_); try simp [go_sem, ↓iO, iO, tN, ↓hz, hmin, hp, hzl, hRl]))
  first | rw [RetQ_ret] | rw [RetQ_normal]
  refine ⟨[], ?_⟩
  simp [go_sem, ↓iO, iO, tN, hz, hp]
  omega
theorem pad_set {c : List Int} {j : Nat} (h : j < c.length) (x : Int) : (pad c).set j x = pad (c.set j x) := by
  unfold pad
  rw [List.set_append_left _ _ h, List.length_set]
theorem rt_pad {c : List Int} {i : Nat} (h : i < c.length) : rt (pad c) i = rt c i := rt_app h
theorem nx_pad {r c : List Int} (h : c.length = r.length) : nx (pad r) (pad c) r.length = nx r c r.length := nx_app (by omega) (by omega)
theorem pad_mem {c : List Int} {x : Int} (h : x ∈ pad c) : x ∈ c ∨ x = 0 := by
  unfold pad at h
  rcases List.mem_append.1 h with h | h
  · exact .inl h
  · exact .inr (List.eq_of_mem_replicate h)
theorem tbl_ex {r : List Int} (h : Rates r) (M : Nat) (hM : M ≤ 1000000) : ∃ (R : List Int) (Y : Nat → List Int) (j : Nat → Nat), pad r = R ∧ (∀ k, Y k = pad (cs r k)) ∧ Y 0 = List.replicate 64 0 ∧ (∀ k, k ≤ M → TblOk r.length R (Y k)) ∧
    (∀ k, nx R (Y k) r.length = (j k : Int)) ∧ (∀ k, j k < r.length) ∧ ∀ k, (Y k).set (j k) (rt (Y k) (j k) + 1) = Y (k + 1) := by
  have hj : ∀ k, ∃ j : Nat, nx r (cs r k) r.length = (j : Int) ∧ j < r.length := fun k => h.nx _
  refine ⟨pad r, fun k => pad (cs r k), fun k => (nx r (cs r k) r.length).toNat, rfl, fun _ => rfl, ?_, ?_, ?_, ?_, ?_⟩
  · have := h.len
    simp only [cs, pad, List.length_replicate]
    rw [List.replicate_append_replicate]; congr 1; omega
  · intro k hk
    refine ⟨pad_len h.len, pad_len (by rw [cs_len]; exact h.len), h.len, fun x hx => ?_, fun x hx => ?_⟩
    · rcases pad_mem hx with hx | rfl
      · exact h.each x hx
      · omega
    · rcases pad_mem hx with hx | rfl
      · have := cs_bd r k x hx; omega
      · omega
  · intro k
    obtain ⟨j, h1, h2⟩ := hj k
    show nx (pad r) (pad (cs r k)) r.length = _
    rw [nx_pad (cs_len r k)]
    show _ = (((nx r (cs r k) r.length).toNat : Nat) : Int)
    rw [h1, Int.toNat_natCast]
  · intro k
    obtain ⟨j, h1, h2⟩ := hj k
    show (nx r (cs r k) r.length).toNat < r.length
    rw [h1]; exact h2
  · intro k
    obtain ⟨j, h1, h2⟩ := hj k
    show (pad (cs r k)).set (nx r (cs r k) r.length).toNat (rt (pad (cs r k)) (nx r (cs r k) r.length).toNat + 1) = pad (cs r (k + 1))
    have h3 : (nx r (cs r k) r.length).toNat < (cs r k).length := by rw [cs_len, h1]; exact h2
    rw [pad_set h3, rt_pad h3]; rfl
end Go.Proofs.YtdjmklobfjigoaaGreatDoor
/- What is dealt: plain. No condition. -/
namespace Go.Proofs.YtdjmklobfjigoaaGreatDoor
open Go.RowKit Sy
namespace Dl
theorem bump_ge {C : List Int} {j i : Nat} : rt C i ≤ rt (bump C (j : Int)) i ∧ rt (bump C (j : Int)) i ≤ rt C i + 1 := by
  unfold bump
  rw [Int.toNat_natCast]
  unfold rt
  simp only [List.getD_eq_getElem?_getD, List.getElem?_set]
  by_cases e : j = i
  · subst e
    rw [if_pos rfl]
    split
    · simp; omega
    · rename_i h
      rw [List.getElem?_eq_none (by omega)]; simp
  · rw [if_neg e]; omega
theorem cs_mono1 (r : List Int) (k i : Nat) : rt (cs r k) i ≤ rt (cs r (k + 1)) i ∧ rt (cs r (k + 1)) i ≤ rt (cs r k) i + 1 := by
  by_cases h : nx r (cs r k) r.length < 0
  · have : (nx r (cs r k) r.length).toNat = 0 := by omega
    have h2 := bump_ge (C := cs r k) (j := 0) (i := i)
    simp only [cs, bump, this]
    simpa [bump] using h2
  · obtain ⟨j, hj⟩ : ∃ j : Nat, nx r (cs r k) r.length = (j : Int) := ⟨(nx r (cs r k) r.length).toNat, by omega⟩
    simp only [cs, hj]
    exact bump_ge
theorem cs_mono (r : List Int) (k i : Nat) : ∀ d, rt (cs r k) i ≤ rt (cs r (k + d)) i ∧ rt (cs r (k + d)) i ≤ rt (cs r k) i + d
  | 0 => by simp
  | d + 1 => by
    have h1 := cs_mono r k i d
    have h2 := cs_mono1 r (k + d) i
    rw [show k + (d + 1) = k + d + 1 by omega]
    omega
def strm (r : List Int) (i : Nat) : List (Int × Int) → Nat → List (Int × Int)
  | [], _ => []
  | p :: t, a => (p.1, rt (cs r (a + p.2.toNat)) i - rt (cs r a) i) :: strm r i t (a + p.2.toNat)
def volN (l : List (Int × Int)) : Nat := (Pc.vol l).toNat
theorem volN_cons {p : Int × Int} {t : List (Int × Int)} (hp : 0 ≤ p.2) (ht : ∀ q ∈ t, 0 ≤ q.2) : volN (p :: t) = p.2.toNat + volN t := by
  have h1 := Pc.litres_length t ht
  unfold volN
  simp only [Pc.vol]
  omega
theorem strm_app (r : List Int) (i : Nat) : ∀ (a b : List (Int × Int)) (n : Nat), (∀ p ∈ a, 0 ≤ p.2) → strm r i (a ++ b) n = strm r i a n ++ strm r i b (n + volN a)
  | [], b, n, _ => by simp [strm, volN, Pc.vol]
  | p :: t, b, n, h => by
    have h1 := h p (by simp)
    have h2 : ∀ q ∈ t, 0 ≤ q.2 := fun q hq => h q (by simp [hq])
    simp only [List.cons_append, strm]
    rw [strm_app r i t b _ h2, volN_cons h1 h2, Nat.add_assoc]
theorem strm_len (r : List Int) (i : Nat) : ∀ (l : List (Int × Int)) (n : Nat), (strm r i l n).length = l.length
  | [], _ => rfl
  | p :: t, n => by simp [strm, strm_len r i t]
theorem strm_each (r : List Int) (i : Nat) : ∀ (l : List (Int × Int)) (n : Nat), (∀ p ∈ l, (0 ≤ p.1 ∧ p.1 < 1000) ∧ 0 ≤ p.2 ∧ p.2 ≤ 1000000) → ∀ q ∈ strm r i l n, (0 ≤ q.1 ∧ q.1 < 1000) ∧ 0 ≤ q.2 ∧ q.2 ≤ 1000000
  | [], _, _, q, hq => by simp [strm] at hq
  | p :: t, n, h, q, hq => by
    simp only [strm, List.mem_cons] at hq
    have hp := h p (by simp)
    rcases hq with rfl | hq
    · have := cs_mono r n i p.2.toNat
      exact ⟨hp.1, by simp only; omega, by simp only; omega⟩
    · exact strm_each r i t _ (fun x hx => h x (by simp [hx])) q hq
def dealt (r : List Int) (l : List (Int × Int)) : List (List (Int × Int)) := (List.range r.length).map fun i => Pc.join (strm r i l 0)
noncomputable def dealV (l : List (Int × Int)) (r : List Int) : List (List (Int × Int)) × Int :=
  let m := Pc.merge l
  if (m = [] ∧ l ≠ []) ∨ 200 < m.length then ([], 9) else if chk r (Pc.vol m) ≠ 0 then ([], chk r (Pc.vol m)) else (dealt r m, 0)
theorem rows_ex (e : TypeId) (n : Nat) (Z : Nat → Nat → List (Int × Int)) : ∃ W : Nat → Nat → List U, (∀ k i, (W k i).length = n) ∧ (∀ k i, i < n → (W k i)[i]? = some (.ow e 2 ((Z k i).map encP))) ∧
    (∀ k i, i < n → (W k i).set i (.ow e 2 ((Z (k + 1) i).map encP)) = W k (i + 1)) ∧ (∀ k, W k n = W (k + 1) 0) ∧ ((∀ q, Z 0 q = []) → W 0 0 = List.replicate n (.ow e 2 [])) ∧ (∀ k, (W k 0).map U.toT = (List.range n).map fun q => encPs (Z k q)) ∧ ∀ k, W k 0 = (List.range n).map fun q => .ow e 2 ((Z k q).map encP) := by
  refine ⟨fun k i => (List.range n).map fun q => .ow e 2 ((if q < i then Z (k + 1) q else Z k q).map encP), ?_, ?_, ?_, ?_, ?_, ?_, fun k => by simp⟩
  · intro k i; simp
  · intro k i hi
    rw [List.getElem?_map, List.getElem?_range hi]
    simp
  · intro k i hi
    apply List.ext_getElem?
    intro q
    rw [List.getElem?_set, List.getElem?_map, List.getElem?_map]
    by_cases hq : q < n
    · rw [List.getElem?_range hq]
      by_cases e1 : i = q
      · subst e1
        rw [if_pos rfl, if_pos (by simpa using hq)]
        simp
      · rw [if_neg e1]
        simp only [Option.map_some]
        by_cases h1 : q < i
        · rw [if_pos h1, if_pos (by omega)]
        · rw [if_neg h1, if_neg (by omega)]
    · rw [List.getElem?_eq_none (l := List.range n) (by simpa using Nat.le_of_not_lt hq)]
      split
      · rename_i e1; subst e1; omega
      · rfl
  · intro k
    apply List.map_congr_left
    intro q hq
    rw [List.mem_range] at hq
    rw [if_pos hq, if_neg (by omega)]
  · intro hz
    apply List.ext_getElem?
    intro q
    rw [List.getElem?_map, List.getElem?_replicate]
    by_cases hq : q < n
    · rw [List.getElem?_range hq, if_pos hq]
      simp [hz]
    · rw [List.getElem?_eq_none (l := List.range n) (by simpa using Nat.le_of_not_lt hq), if_neg hq]
      rfl
  · intro k
    rw [List.map_map]
    apply List.map_congr_left
    intro q _
    simp [U.toT, encPs]
theorem strm_ex (r : List Int) (m : List (Int × Int)) (hm : ∀ p ∈ m, (0 ≤ p.1 ∧ p.1 < 1000) ∧ 0 ≤ p.2 ∧ p.2 ≤ 1000000) (h64 : Pc.vol m ≤ 64000) : ∃ (A : Nat → Nat) (Z : Nat → Nat → List (Int × Int)), A 0 = 0 ∧ (∀ k, k ≤ m.length → A k ≤ 64000) ∧ (∀ i, Z 0 i = []) ∧ (∀ k i, Z k i = strm r i (m.take k) 0) ∧
    ∀ k p, m[k]? = some p → A (k + 1) = A k + p.2.toNat ∧ ∀ i, Z (k + 1) i = Z k i ++ [(p.1, rt (cs r (A (k + 1))) i - rt (cs r (A k)) i)] := by
  have hn : ∀ k, ∀ p ∈ m.take k, 0 ≤ p.2 := fun k p hp => (hm p (List.mem_of_mem_take hp)).2.1
  have hstep : ∀ k p, m[k]? = some p → volN (m.take (k + 1)) = volN (m.take k) + p.2.toNat := by
    intro k p hp
    have h1 := Pc.vol_snoc hp
    have h2 := Pc.litres_length (m.take k) (hn k)
    have h3 := (hm p (mem_get hp)).2.1
    unfold volN
    omega
  refine ⟨fun k => volN (m.take k), fun k i => strm r i (m.take k) 0, by simp [volN, Pc.vol], ?_, by simp [strm], fun _ _ => rfl, ?_⟩
  · intro k hk
    have h1 : Pc.vol (m.take k) + Pc.vol (m.drop k) = Pc.vol m := by rw [← Pc.vol_append, List.take_append_drop]
    have h2 := Pc.litres_length (m.drop k) (fun p hp => (hm p (List.mem_of_mem_drop hp)).2.1)
    have h3 := Pc.litres_length (m.take k) (hn k)
    show volN _ ≤ _
    unfold volN
    omega
  · intro k p hp
    refine ⟨hstep k p hp, fun i => ?_⟩
    show strm r i (m.take (k + 1)) 0 = strm r i (m.take k) 0 ++ _
    rw [take_snoc hp, strm_app r i _ _ _ (hn k), Nat.zero_add]
    simp only [strm]
    rw [hstep k p hp]
end Dl
end Go.Proofs.YtdjmklobfjigoaaGreatDoor
