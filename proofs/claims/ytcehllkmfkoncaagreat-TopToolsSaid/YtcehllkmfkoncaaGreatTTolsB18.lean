/- Several texts of this proof, one behind the other. No condition. -/
import Derived.Test.YtcehllkmfkoncaaGreatTTolsB17
import Derived.Test.YtcehllkmfkoncaaGreatTTolsB16
/- Pushes and places as plain facts. No condition. -/
namespace Go.Proofs.YtcehllkmfkoncaaGreat
open Go.RowKit Sy
set_option linter.unusedVariables false
set_option linter.unusedSimpArgs false
theorem valid_fn' (l : List (Int × Int)) (hl : l.length ≤ 1000000) (b : Bool) (h : Pc.valid l = b) : FnOk Tryz.prog 77 [.t (encPs l)] [] (.t (.bool b)) [] := h ▸ valid_fn l hl
theorem push_bad {f g : List (Int × Int)} {back : Bool} (h : ¬ (Pc.valid f = true ∧ Pc.valid g = true)) : Pc.push f g back = ([], [], 9) := by
  unfold Pc.push; rw [if_neg h]
theorem push_long {f g : List (Int × Int)} {back : Bool} (h1 : Pc.valid f = true) (h2 : Pc.valid g = true) (h : ¬ ((Pc.shift f g back).1.length ≤ 200 ∧ (Pc.shift f g back).2.length ≤ 200)) : Pc.push f g back = ([], [], 4) := by
  unfold Pc.push; rw [if_pos ⟨h1, h2⟩, if_neg h]
theorem push_ok {f g : List (Int × Int)} {back : Bool} (h1 : Pc.valid f = true) (h2 : Pc.valid g = true) (h : (Pc.shift f g back).1.length ≤ 200 ∧ (Pc.shift f g back).2.length ≤ 200) : Pc.push f g back = ((Pc.shift f g back).1, (Pc.shift f g back).2, 0) := by
  unfold Pc.push; rw [if_pos ⟨h1, h2⟩, if_pos h]
theorem sane_app {f g : List (Int × Int)} (h1 : Pc.Vd f) (h2 : Pc.Vd g) : Pc.Sane (f ++ g) := by
  refine ⟨by rw [List.length_append]; have := h1.len; have := h2.len; omega, fun p hp => ?_⟩
  rcases List.mem_append.1 hp with hp | hp
  · exact h1.sane.each p hp
  · exact h2.sane.each p hp
theorem at_cons (p : Int × Int) (r : List (Int × Int)) (k : Int) : Pc.atIn (p :: r) k = if k < p.2 then p.1 else Pc.atIn r (k - p.2) := rfl
theorem at_nil (k : Int) : Pc.atIn [] k = -1 := rfl
end Go.Proofs.YtcehllkmfkoncaaGreat
/- piece.Push, Volume as contracts. No condition. -/
namespace Go.Proofs.YtcehllkmfkoncaaGreat
open Go.RowKit Sy
open Go.IntWalk renaming iteOmega → iO, toNatUp → tN
set_option linter.unusedVariables false
set_option linter.unusedSimpArgs false
set_option maxRecDepth 100000 in
set_option maxHeartbeats 4000000 in
theorem push_fn (f g : List (Int × Int)) (back : Bool) (hf : f.length ≤ 1000000) (hg : g.length ≤ 1000000) : FnOk Tryz.prog 156 [.t (encPs f), .t (encPs g), .t (.bool back)] []
    (.tup [.own 1000, .own 1001, .t (.int (Pc.push f g back).2.2)]) [(1000, blkP (Pc.push f g back).1), (1001, blkP (Pc.push f g back).2.1)] := by
  refine FnOk.intro fact_mixed Tryz.func156 rfl Tryz.ntmps156 (by rfl) (by simp) ?_
  by_cases vf : Pc.valid f = true
  · by_cases vg : Pc.valid g = true
    · have hvf := (Pc.valid_iff.1 vf).sane.vol
      have hvg := (Pc.valid_iff.1 vg).sane.vol
      have hlf := (Pc.valid_iff.1 vf).len
      have hlg := (Pc.valid_iff.1 vg).len
      have s1 := sane_app (Pc.valid_iff.1 vf) (Pc.valid_iff.1 vg)
      have s2 := sane_app (Pc.valid_iff.1 vg) (Pc.valid_iff.1 vf)
      repeat (first | (refine nf1_sound rfl ?_; simp [go_sem, ↓iO, iO, tN]; (repeat (refine anI ?_)); try (refine ⟨dcK, ?_⟩)) | ((first | refine itePos (by omega) ?_ | refine iteNeg (by omega) ?_); try simp [go_sem, ↓iO, iO, tN]) | (refine ⟨dcK, ?_⟩))
      refine CallK.fn (valid_fn' f hf true vf) [] [] [] (by kernel_rfl) ?_ ?_ ?_ (Or.inl rfl) ?_ <;> simp [go_sem, ↓iO, iO, tN]
      repeat (refine anI ?_)
      try (refine ⟨dcK, ?_⟩)
      refine CallK.fn (valid_fn' g hg true vg) [] [] [] (by kernel_rfl) ?_ ?_ ?_ (Or.inl rfl) ?_ <;> simp [go_sem, ↓iO, iO, tN]
      repeat (refine anI ?_)
      try (refine ⟨dcK, ?_⟩)
      repeat (first | (refine nf1_sound rfl ?_; simp [go_sem, ↓iO, iO, tN]; (repeat (refine anI ?_)); try (refine ⟨dcK, ?_⟩)) | ((first | refine itePos (by omega) ?_ | refine iteNeg (by omega) ?_); try simp [go_sem, ↓iO, iO, tN]) | (refine ⟨dcK, ?_⟩))
      cases back with
      | true =>
        have hsh : Pc.shift f g true = (Pc.join (Pc.tails (f ++ g) (Pc.vol g)), Pc.join (Pc.heads (f ++ g) (Pc.vol g))) := rfl
        repeat (first | (refine nf1_sound rfl ?_; simp [go_sem, ↓iO, iO, tN]; (repeat (refine anI ?_)); try (refine ⟨dcK, ?_⟩)) | ((first | refine itePos (by omega) ?_ | refine iteNeg (by omega) ?_); try simp [go_sem, ↓iO, iO, tN]) | (refine ⟨dcK, ?_⟩))
        refine CallK.fn (clone_fn f hf) [(1000, 622)] [] [] (by kernel_rfl) ?_ ?_ ?_ (Or.inl rfl) ?_ <;> simp [go_sem, ↓iO, iO, tN]
        repeat (refine anI ?_)
        try (refine ⟨dcK, ?_⟩)
        refine CallK.fn (total_fn g (Pc.valid_iff.1 vg).sane) [] [] [] (by kernel_rfl) ?_ ?_ ?_ (Or.inl rfl) ?_ <;> simp [go_sem, ↓iO, iO, tN]
        repeat (refine anI ?_)
        try (refine ⟨dcK, ?_⟩)
        refine CallK.fn (cut_fn (f ++ g) (Pc.vol g) s1 hvg.1 (by omega)) [(1000, 600), (1001, 601)] [124] [] (by kernel_rfl) ?_ ?_ ?_ (Or.inr ⟨?_, ?_⟩) ?_ <;> simp [go_sem, ↓iO, iO, tN]
        repeat (refine anI ?_)
        try (refine ⟨dcK, ?_⟩)
        by_cases hA : (Pc.join (Pc.tails (f ++ g) (Pc.vol g))).length ≤ 200
        · by_cases hB : (Pc.join (Pc.heads (f ++ g) (Pc.vol g))).length ≤ 200
          · have hp := push_ok (back := true) vf vg (by rw [hsh]; exact ⟨hA, hB⟩)
            rw [hsh] at hp
            repeat (first | (refine nf1_sound rfl ?_; simp [go_sem, ↓iO, iO, tN]; (repeat (refine anI ?_)); try (refine ⟨dcK, ?_⟩)) | ((first | refine itePos (by omega) ?_ | refine iteNeg (by omega) ?_); try simp [go_sem, ↓iO, iO, tN]) | (refine ⟨dcK, ?_⟩))
            first | rw [RetQ_ret] | rw [RetQ_normal]
            refine ⟨[(1000, some 601), (1001, some 600)], ?_⟩
            simp [go_sem, ↓iO, iO, tN, hp]
          · have hp := push_long (back := true) vf vg (by rw [hsh]; exact fun h => hB h.2)
            repeat (first | (refine nf1_sound rfl ?_; simp [go_sem, ↓iO, iO, tN]; (repeat (refine anI ?_)); try (refine ⟨dcK, ?_⟩)) | ((first | refine itePos (by omega) ?_ | refine iteNeg (by omega) ?_); try simp [go_sem, ↓iO, iO, tN]) | (refine ⟨dcK, ?_⟩))
            first | rw [RetQ_ret] | rw [RetQ_normal]
            refine ⟨[(1000, none), (1001, none)], ?_⟩
            simp [go_sem, ↓iO, iO, tN, hp]
        · have hp := push_long (back := true) vf vg (by rw [hsh]; exact fun h => hA h.1)
          repeat (first | (refine nf1_sound rfl ?_; simp [go_sem, ↓iO, iO, tN]; (repeat (refine anI ?_)); try (refine ⟨dcK, ?_⟩)) | ((first | refine itePos (by omega) ?_ | refine iteNeg (by omega) ?_); try simp [go_sem, ↓iO, iO, tN]) | (refine ⟨dcK, ?_⟩))
          try rw [if_pos (by omega)]
          repeat (first | (refine nf1_sound rfl ?_; simp [go_sem, ↓iO, iO, tN]; (repeat (refine anI ?_)); try (refine ⟨dcK, ?_⟩)) | ((first | refine itePos (by omega) ?_ | refine iteNeg (by omega) ?_); try simp [go_sem, ↓iO, iO, tN]) | (refine ⟨dcK, ?_⟩))
          first | rw [RetQ_ret] | rw [RetQ_normal]
          refine ⟨[(1000, none), (1001, none)], ?_⟩
          simp [go_sem, ↓iO, iO, tN, hp]
      | false =>
        have hsh : Pc.shift f g false = (Pc.join (Pc.heads (g ++ f) (Pc.vol f)), Pc.join (Pc.tails (g ++ f) (Pc.vol f))) := rfl
        repeat (first | (refine nf1_sound rfl ?_; simp [go_sem, ↓iO, iO, tN]; (repeat (refine anI ?_)); try (refine ⟨dcK, ?_⟩)) | ((first | refine itePos (by omega) ?_ | refine iteNeg (by omega) ?_); try simp [go_sem, ↓iO, iO, tN]) | (refine ⟨dcK, ?_⟩))
        refine CallK.fn (clone_fn g hg) [(1000, 622)] [] [] (by kernel_rfl) ?_ ?_ ?_ (Or.inl rfl) ?_ <;> simp [go_sem, ↓iO, iO, tN]
        repeat (refine anI ?_)
        try (refine ⟨dcK, ?_⟩)
        refine CallK.fn (total_fn f (Pc.valid_iff.1 vf).sane) [] [] [] (by kernel_rfl) ?_ ?_ ?_ (Or.inl rfl) ?_ <;> simp [go_sem, ↓iO, iO, tN]
        repeat (refine anI ?_)
        try (refine ⟨dcK, ?_⟩)
        refine CallK.fn (cut_fn (g ++ f) (Pc.vol f) s2 hvf.1 (by omega)) [(1000, 600), (1001, 601)] [134] [] (by kernel_rfl) ?_ ?_ ?_ (Or.inr ⟨?_, ?_⟩) ?_ <;> simp [go_sem, ↓iO, iO, tN]
        repeat (refine anI ?_)
        try (refine ⟨dcK, ?_⟩)
        by_cases hA : (Pc.join (Pc.heads (g ++ f) (Pc.vol f))).length ≤ 200
        · by_cases hB : (Pc.join (Pc.tails (g ++ f) (Pc.vol f))).length ≤ 200
          · have hp := push_ok (back := false) vf vg (by rw [hsh]; exact ⟨hA, hB⟩)
            rw [hsh] at hp
            repeat (first | (refine nf1_sound rfl ?_; simp [go_sem, ↓iO, iO, tN]; (repeat (refine anI ?_)); try (refine ⟨dcK, ?_⟩)) | ((first | refine itePos (by omega) ?_ | refine iteNeg (by omega) ?_); try simp [go_sem, ↓iO, iO, tN]) | (refine ⟨dcK, ?_⟩))
            first | rw [RetQ_ret] | rw [RetQ_normal]
            refine ⟨[(1000, some 600), (1001, some 601)], ?_⟩
            simp [go_sem, ↓iO, iO, tN, hp]
          · have hp := push_long (back := false) vf vg (by rw [hsh]; exact fun h => hB h.2)
            repeat (first | (refine nf1_sound rfl ?_; simp [go_sem, ↓iO, iO, tN]; (repeat (refine anI ?_)); try (refine ⟨dcK, ?_⟩)) | ((first | refine itePos (by omega) ?_ | refine iteNeg (by omega) ?_); try simp [go_sem, ↓iO, iO, tN]) | (refine ⟨dcK, ?_⟩))
            first | rw [RetQ_ret] | rw [RetQ_normal]
            refine ⟨[(1000, none), (1001, none)], ?_⟩
            simp [go_sem, ↓iO, iO, tN, hp]
        · have hp := push_long (back := false) vf vg (by rw [hsh]; exact fun h => hA h.1)
          repeat (first | (refine nf1_sound rfl ?_; simp [go_sem, ↓iO, iO, tN]; (repeat (refine anI ?_)); try (refine ⟨dcK, ?_⟩)) | ((first | refine itePos (by omega) ?_ | refine iteNeg (by omega) ?_); try simp [go_sem, ↓iO, iO, tN]) | (refine ⟨dcK, ?_⟩))
          try rw [if_pos (by omega)]
          repeat (first | (refine nf1_sound rfl ?_; simp [go_sem, ↓iO, iO, tN]; (repeat (refine anI ?_)); try (refine ⟨dcK, ?_⟩)) | ((first | refine itePos (by omega) ?_ | refine iteNeg (by omega) ?_); try simp [go_sem, ↓iO, iO, tN]) | (refine ⟨dcK, ?_⟩))
          first | rw [RetQ_ret] | rw [RetQ_normal]
          refine ⟨[(1000, none), (1001, none)], ?_⟩
          simp [go_sem, ↓iO, iO, tN, hp]
    · have vg' : Pc.valid g = false := by simpa using vg
      have hp := push_bad (back := back) (fun h => vg h.2 : ¬ (Pc.valid f = true ∧ Pc.valid g = true))
      repeat (first | (refine nf1_sound rfl ?_; simp [go_sem, ↓iO, iO, tN]; (repeat (refine anI ?_)); try (refine ⟨dcK, ?_⟩)) | ((first | refine itePos (by omega) ?_ | refine iteNeg (by omega) ?_); try simp [go_sem, ↓iO, iO, tN]) | (refine ⟨dcK, ?_⟩))
      refine CallK.fn (valid_fn' f hf true vf) [] [] [] (by kernel_rfl) ?_ ?_ ?_ (Or.inl rfl) ?_ <;> simp [go_sem, ↓iO, iO, tN]
      repeat (refine anI ?_)
      try (refine ⟨dcK, ?_⟩)
      refine CallK.fn (valid_fn' g hg false vg') [] [] [] (by kernel_rfl) ?_ ?_ ?_ (Or.inl rfl) ?_ <;> simp [go_sem, ↓iO, iO, tN]
      repeat (refine anI ?_)
      try (refine ⟨dcK, ?_⟩)
      repeat (first | (refine nf1_sound rfl ?_; simp [go_sem, ↓iO, iO, tN]; (repeat (refine anI ?_)); try (refine ⟨dcK, ?_⟩)) | ((first | refine itePos (by omega) ?_ | refine iteNeg (by omega) ?_); try simp [go_sem, ↓iO, iO, tN]) | (refine ⟨dcK, ?_⟩))
      first | rw [RetQ_ret] | rw [RetQ_normal]
      refine ⟨[(1000, none), (1001, none)], ?_⟩
      simp [go_sem, ↓iO, iO, tN, hp]
  · have vf' : Pc.valid f = false := by simpa using vf
    have hp := push_bad (back := back) (fun h => vf h.1 : ¬ (Pc.valid f = true ∧ Pc.valid g = true))
    repeat (first | (refine nf1_sound rfl ?_; simp [go_sem, ↓iO, iO, tN]; (repeat (refine anI ?_)); try (refine ⟨dcK, ?_⟩)) | ((first | refine itePos (by omega) ?_ | refine iteNeg (by omega) ?_); try simp [go_sem, ↓iO, iO, tN]) | (refine ⟨dcK, ?_⟩))
    refine CallK.fn (valid_fn' f hf false vf') [] [] [] (by kernel_rfl) ?_ ?_ ?_ (Or.inl rfl) ?_ <;> simp [go_sem, ↓iO, iO, tN]
    repeat (refine anI ?_)
    try (refine ⟨dcK, ?_⟩)
    repeat (first | (refine nf1_sound rfl ?_; simp [go_sem, ↓iO, iO, tN]; (repeat (refine anI ?_)); try (refine ⟨dcK, ?_⟩)) | ((first | refine itePos (by omega) ?_ | refine iteNeg (by omega) ?_); try simp [go_sem, ↓iO, iO, tN]) | (refine ⟨dcK, ?_⟩))
    first | rw [RetQ_ret] | rw [RetQ_normal]
    refine ⟨[(1000, none), (1001, none)], ?_⟩
    simp [go_sem, ↓iO, iO, tN, hp]
end Go.Proofs.YtcehllkmfkoncaaGreat
/- slices.Reverse, advance.turned, line.push as contracts. No condition. -/
namespace Go.Proofs.YtcehllkmfkoncaaGreat
open Go.RowKit Sy
open Go.IntWalk renaming iteOmega → iO, toNatUp → tN
set_option linter.unusedVariables false
set_option linter.unusedSimpArgs false
/-- A list of which k elements at each end have changed places. -/
def swapV {α : Type} (l : List α) (k : Nat) : List α := (l.reverse.take k ++ (l.drop k).take (l.length - 2 * k)) ++ l.reverse.drop (l.length - k)
theorem swapV_get {α : Type} {l : List α} {k i : Nat} (hk : 2 * k ≤ l.length) (hi : i < l.length) : (swapV l k)[i]? = if i < k ∨ l.length - k ≤ i then l.reverse[i]? else l[i]? := by
  unfold swapV
  have h1 : (l.reverse.take k).length = k := by rw [List.length_take, List.length_reverse]; omega
  have h2 : ((l.drop k).take (l.length - 2 * k)).length = l.length - 2 * k := by rw [List.length_take, List.length_drop]; omega
  by_cases ha : i < k
  · rw [if_pos (.inl ha), List.getElem?_append_left (by rw [List.length_append]; omega), List.getElem?_append_left (by omega), List.getElem?_take, if_pos ha]
  · by_cases hb : l.length - k ≤ i
    · rw [if_pos (.inr hb), List.getElem?_append_right (by rw [List.length_append]; omega), List.length_append, h1, h2, List.getElem?_drop]
      congr 1; omega
    · rw [if_neg (by omega), List.getElem?_append_left (by rw [List.length_append]; omega), List.getElem?_append_right (by omega), h1, List.getElem?_take, if_pos (by omega), List.getElem?_drop]
      congr 1; omega
theorem swapV_len {α : Type} {l : List α} {k : Nat} (hk : 2 * k ≤ l.length) : (swapV l k).length = l.length := by
  unfold swapV
  simp only [List.length_append, List.length_take, List.length_drop, List.length_reverse]
  omega
theorem swap_ex {α : Type} (l : List α) : ∃ Y : Nat → List α, Y 0 = l ∧ (∀ k, 2 * k + 1 < l.length → ∃ p q, (Y k)[k]? = some p ∧ (Y k)[l.length - 1 - k]? = some q ∧ ((Y k).set k q).set (l.length - 1 - k) p = Y (k + 1)) ∧ (∀ k, 2 * k ≤ l.length → (Y k).length = l.length) ∧ ∀ k, 2 * k ≤ l.length → l.length ≤ 2 * k + 1 → Y k = l.reverse := by
  refine ⟨swapV l, ?_, ?_, fun k hk => swapV_len hk, ?_⟩
  · simp [swapV]
  · intro k hk
    obtain ⟨p, hp⟩ := has_get (l := swapV l k) (k := k) (by rw [swapV_len (by omega)]; omega)
    obtain ⟨q, hq⟩ := has_get (l := swapV l k) (k := l.length - 1 - k) (by rw [swapV_len (by omega)]; omega)
    refine ⟨p, q, hp, hq, ?_⟩
    rw [swapV_get (by omega) (by omega), if_neg (by omega)] at hp hq
    apply List.ext_getElem?
    intro i
    by_cases hi : i < l.length
    · rw [swapV_get (by omega) hi, List.getElem?_set, List.length_set, swapV_len (by omega)]
      by_cases e1 : l.length - 1 - k = i
      · rw [if_pos e1, if_pos (by omega), if_pos (by omega), List.getElem?_reverse hi, ← hp]
        congr 1; omega
      · rw [if_neg e1, List.getElem?_set, swapV_len (by omega)]
        by_cases e2 : k = i
        · rw [if_pos e2, if_pos (by omega), if_pos (by omega), List.getElem?_reverse hi, ← hq]
          congr 1; omega
        · rw [if_neg e2, swapV_get (by omega) hi]
          by_cases h3 : i < k ∨ l.length - k ≤ i
          · rw [if_pos h3, if_pos (by omega)]
          · rw [if_neg h3, if_neg (by omega)]
    · rw [List.getElem?_eq_none (by rw [List.length_set, List.length_set, swapV_len (by omega)]; omega), List.getElem?_eq_none (by rw [swapV_len (by omega)]; omega)]
  · intro k h1 h2
    apply List.ext_getElem?
    intro i
    by_cases hi : i < l.length
    · rw [swapV_get h1 hi]
      by_cases h3 : i < k ∨ l.length - k ≤ i
      · rw [if_pos h3]
      · rw [if_neg h3, List.getElem?_reverse hi]
        congr 1; omega
    · rw [List.getElem?_eq_none (by rw [swapV_len h1]; omega), List.getElem?_eq_none (by rw [List.length_reverse]; omega)]
set_option maxRecDepth 100000 in
set_option maxHeartbeats 8000000 in
theorem reverse_fn (l : List (Int × Int)) (hl : l.length ≤ 1000000) : FnOk Tryz.prog 165 [.own 0] [(0, blkP l)] (.tup []) [(0, blkP l.reverse)] := by
  obtain ⟨Y, y0, ys, yl, ye⟩ := swap_ex l
  refine FnOk.intro fact_mixed Tryz.func165 rfl Tryz.ntmps165 (by rfl) (by simp) ?_
  repeat (first | (refine nf1_sound rfl ?_; simp [go_sem, ↓iO, iO, tN]; (repeat (refine anI ?_)); try (refine ⟨dcK, ?_⟩)) | ((first | refine itePos (by omega) ?_ | refine iteNeg (by omega) ?_); try simp [go_sem, ↓iO, iO, tN]) | (refine ⟨dcK, ?_⟩))
  refine nf1_sound' _ _ _ ?_; simp only [nf1]
  refine CW.loop (ι := Nat) (fun k => ⟨[(0, .own 0), (2, .t (.int k)), (3, .t (.int ((l.length : Int) - 1 - k)))], [(0, blkP (Y k))]⟩) (fun k => 2 * k ≤ l.length) (fun k => l.length - k) 0 [(0, some 0)] (by omega) ?_ ?_
  · simp [go_sem, ↓iO, iO, tN, y0]
  intro k hk
  have hyl := yl k hk
  by_cases hb : 2 * k + 1 < l.length
  · obtain ⟨p, q, hp, hq, hs⟩ := ys k hb
    obtain ⟨V, hV⟩ : ∃ V, Y k = V := ⟨_, rfl⟩
    rw [hV] at hp hq hs hyl ⊢
    obtain ⟨p1, p2⟩ := p
    obtain ⟨q1, q2⟩ := q
    have e1 : ((l.length : Int) - 1 - k).toNat = l.length - 1 - k := by omega
    have hq2 : ∀ X, ((V.map encP).set k X)[l.length - 1 - k]? = some (.agg [.int q1, .int q2]) := fun X => by
      rw [List.getElem?_set_ne (by omega), List.getElem?_map, hq]; rfl
    have hs2 : ((V.map encP).set k (encP (q1, q2))).set (l.length - 1 - k) (encP (p1, p2)) = (Y (k + 1)).map encP := by rw [← hs, List.map_set, List.map_set]
    simp only [encP] at hs2
    repeat (first | (refine nf1_sound rfl ?_; simp [go_sem, ↓iO, iO, tN, hp, hq, e1, ↓hq2]; (repeat (refine anI ?_)); try (refine ⟨dcK, ?_⟩)) | ((first | refine itePos (by omega) ?_ | refine iteNeg (by omega) ?_); try simp [go_sem, ↓iO, iO, tN, hp, hq, e1, ↓hq2]) | (refine ⟨dcK, ?_⟩))
    rw [RoundQ_normal]; refine ⟨k + 1, [(0, some 0)], ?_, ?_, ?_⟩
    · omega
    · omega
    simp [go_sem, ↓iO, iO, tN, hs2]
    omega
  · have hy := ye k hk (by omega)
    rw [hy]
    repeat (first | (refine nf1_sound rfl ?_; simp [go_sem, ↓iO, iO, tN]; (repeat (refine anI ?_)); try (refine ⟨dcK, ?_⟩)) | ((first | refine itePos (by omega) ?_ | refine iteNeg (by omega) ?_); try simp [go_sem, ↓iO, iO, tN]) | (refine ⟨dcK, ?_⟩))
    first | rw [RetQ_ret] | rw [RetQ_normal]
    refine ⟨[(0, some 0)], ?_⟩
    simp [go_sem, ↓iO, iO, tN]
set_option maxRecDepth 100000 in
set_option maxHeartbeats 4000000 in
theorem aturned_fn (l : List (Int × Int)) (hl : l.length ≤ 1000000) : FnOk Tryz.prog 155 [.t (encPs l)] [] (.own 1000) [(1000, blkP l.reverse)] := by
  have c1 := clone_fn l hl
  have c2 := reverse_fn l hl
  refine FnOk.intro fact_mixed Tryz.func155 rfl Tryz.ntmps155 (by rfl) (by simp) ?_
  repeat (first | (refine nf1_sound rfl ?_; simp [go_sem, ↓iO, iO, tN]; (repeat (refine anI ?_)); try (refine ⟨dcK, ?_⟩)) | ((first | refine itePos (by omega) ?_ | refine iteNeg (by omega) ?_); try simp [go_sem, ↓iO, iO, tN]) | (refine ⟨dcK, ?_⟩))
  refine CallK.fn (c1) [(1000, 600)] [] [] (by kernel_rfl) ?_ ?_ ?_ (Or.inl rfl) ?_ <;> simp [go_sem, ↓iO, iO, tN]
  repeat (refine anI ?_)
  try (refine ⟨dcK, ?_⟩)
  repeat (first | (refine nf1_sound rfl ?_; simp [go_sem, ↓iO, iO, tN]; (repeat (refine anI ?_)); try (refine ⟨dcK, ?_⟩)) | ((first | refine itePos (by omega) ?_ | refine iteNeg (by omega) ?_); try simp [go_sem, ↓iO, iO, tN]) | (refine ⟨dcK, ?_⟩))
  refine CallK.fn (c2) [(0, 600)] [] [] (by kernel_rfl) ?_ ?_ ?_ (Or.inl rfl) ?_ <;> simp [go_sem, ↓iO, iO, tN]
  repeat (refine anI ?_)
  try (refine ⟨dcK, ?_⟩)
  repeat (first | (refine nf1_sound rfl ?_; simp [go_sem, ↓iO, iO, tN]; (repeat (refine anI ?_)); try (refine ⟨dcK, ?_⟩)) | ((first | refine itePos (by omega) ?_ | refine iteNeg (by omega) ?_); try simp [go_sem, ↓iO, iO, tN]) | (refine ⟨dcK, ?_⟩))
  first | rw [RetQ_ret] | rw [RetQ_normal]
  refine ⟨[(1000, some 600)], ?_⟩
  simp [go_sem, ↓iO, iO, tN]
/-- What a segment gives out. -/
noncomputable def outV (f l : List (Int × Int)) (back : Bool) : List (Int × Int) := if back then (Pc.push f l true).2.1 else (Pc.push f l.reverse false).2.1.reverse
noncomputable def fillV (f l : List (Int × Int)) (back : Bool) : List (Int × Int) := if back then (Pc.push f l true).1 else (Pc.push f l.reverse false).1
noncomputable def pushE (f l : List (Int × Int)) (back : Bool) : Int := if back then (Pc.push f l true).2.2 else (Pc.push f l.reverse false).2.2
set_option maxRecDepth 100000 in
set_option maxHeartbeats 8000000 in
theorem apush_fn (d : LineD) (hd : LineOk d) (order : T) (w6 : order.width = 1) (fi gi oo : List (Option (List (Int × Int)))) (hg : gi.length = d.segs.length) (hfl : fi.length = d.segs.length) (s : Nat) (r : Int) (f l : List (Int × Int)) (hr : d.rates[s]? = some r) (hf : fi[s]? = some (some f))
    (hf6 : f.length ≤ 1000000) (hl6 : l.length ≤ 1000000) (ho6 : (outV f l (decide (r < 0))).length ≤ 1000000) (he : pushE f l (decide (r < 0)) = 0) :
    FnOk Tryz.prog 120 [.pt 0 [] 0, .t (.int s), .t (encPs l)] [(0, lineB d.net d.plan (.sl 1 (d.feeds.map encI)) order), (1, blkG fi), (2, blkG gi), (3, blkG oo)]
      (.t (.int 0)) [(0, lineB d.net d.plan (.sl 1 (d.feeds.map encI)) order), (1, blkG (fi.set s (some (fillV f l (decide (r < 0)))))), (2, blkG (gi.set s (some (outV f l (decide (r < 0)))))), (3, blkG oo)] := by
  have w1 := hd.w1
  have w2 := hd.w2
  have w3 := hd.w3
  have w4 := hd.w4
  have w5 := hd.w5
  have q1 : s < d.rates.length := (List.getElem?_eq_some_iff.1 hr).1
  have q2 : s < fi.length := (List.getElem?_eq_some_iff.1 hf).1
  have q3 : s < gi.length := by omega
  obtain ⟨og, hgo⟩ : ∃ og, gi[s]? = some og := has_get q3
  have hmx := hd.maxS
  have r2 : d.rates[s] = r := (List.getElem?_eq_some_iff.1 hr).2
  have f2 : fi[s] = some f := (List.getElem?_eq_some_iff.1 hf).2
  have hlr := hd.lenR
  refine FnOk.intro fact_mixed Tryz.func120 rfl Tryz.ntmps120 (by rfl) (by simp) ?_
  by_cases hn : r < 0
  · have e0 : decide (r < 0) = true := by simpa using hn
    rw [e0] at he ho6
    rw [e0]
    unfold outV at ho6 ⊢
    unfold fillV
    unfold pushE at he
    simp only [if_true] at he ho6 ⊢
    have p1 := push_fn f l true hf6 hl6
    rw [he] at p1
    obtain ⟨F', hF⟩ : ∃ F', (Pc.push f l true).1 = F' := ⟨_, rfl⟩
    obtain ⟨O, hO⟩ : ∃ O, (Pc.push f l true).2.1 = O := ⟨_, rfl⟩
    rw [hF, hO] at p1
    rw [hF, hO]
    repeat (first | (refine nf1_sound rfl ?_; simp [go_sem, ↓iO, iO, tN, hr, r2, hn, hf, f2, w1, w2, w3, w4, w5, w6, q1, q2, widths_gv, width_gv]; (repeat (refine anI ?_)); try (refine ⟨dcK, ?_⟩)) | ((first | refine itePos (by omega) ?_ | refine iteNeg (by omega) ?_); try simp [go_sem, ↓iO, iO, tN, hr, r2, hn, hf, f2, w1, w2, w3, w4, w5, w6, q1, q2, widths_gv, width_gv]) | (refine ⟨dcK, ?_⟩))
    refine CallK.fn (p1) [(1000, 600), (1001, 601)] [] [] (by kernel_rfl) ?_ ?_ ?_ (Or.inl rfl) ?_ <;> simp [go_sem, ↓iO, iO, tN, hr, r2, hn, hf, f2, w1, w2, w3, w4, w5, w6, q1, q2, widths_gv, width_gv]
    repeat (refine anI ?_)
    try (refine ⟨dcK, ?_⟩)
    refine CW.weak (ρ := [(0, some 0), (1, some 1), (2, some 2), (3, some 3)]) (σ' := ⟨[(0, .pt 0 [] 0), (1, .t (.int s)), (7, .t (.bool true)), (8, .t (encPs F')), (9, .t (encPs O)), (10, .t (.int 0))], [(0, lineB d.net d.plan (.sl 1 (d.feeds.map encI)) order), (1, blkG fi), (2, blkG gi), (3, blkG oo)]⟩) ?_ ?_
    · simp [go_sem, ↓iO, iO, tN]
    repeat (first | (refine nf1_sound rfl ?_; simp [go_sem, ↓iO, iO, tN, hr, r2, hn, hf, f2, w1, w2, w3, w4, w5, w6, q1, q2, q3, hgo, hg, hfl, widths_gv, width_gv]; (repeat (refine anI ?_)); try (refine ⟨dcK, ?_⟩)) | ((first | refine itePos (by omega) ?_ | refine iteNeg (by omega) ?_); try simp [go_sem, ↓iO, iO, tN, hr, r2, hn, hf, f2, w1, w2, w3, w4, w5, w6, q1, q2, q3, hgo, hg, hfl, widths_gv, width_gv]) | (refine ⟨dcK, ?_⟩))
    refine ⟨by cases og <;> rfl, ?_⟩
    refine ⟨dcK, ?_⟩
    repeat (first | (refine nf1_sound rfl ?_; simp [go_sem, ↓iO, iO, tN]; (repeat (refine anI ?_)); try (refine ⟨dcK, ?_⟩)) | ((first | refine itePos (by omega) ?_ | refine iteNeg (by omega) ?_); try simp [go_sem, ↓iO, iO, tN]) | (refine ⟨dcK, ?_⟩))
    first | rw [RetQ_ret] | rw [RetQ_normal]
    refine ⟨[(0, some 0), (1, some 1), (2, some 2), (3, some 3)], ?_⟩
    simp [go_sem, ↓iO, iO, tN, List.map_set]
  · have e0 : decide (r < 0) = false := by simpa using hn
    rw [e0] at he ho6
    rw [e0]
    unfold outV at ho6 ⊢
    unfold fillV
    unfold pushE at he
    simp only [if_false, Bool.false_eq_true] at he ho6 ⊢
    have p1 := push_fn f l.reverse false hf6 (by simpa using hl6)
    rw [he] at p1
    obtain ⟨F', hF⟩ : ∃ F', (Pc.push f l.reverse false).1 = F' := ⟨_, rfl⟩
    obtain ⟨O, hO⟩ : ∃ O, (Pc.push f l.reverse false).2.1 = O := ⟨_, rfl⟩
    rw [hF, hO] at p1
    rw [hO] at ho6
    rw [hF, hO]
    have t1 := aturned_fn l hl6
    obtain ⟨L, hL⟩ : ∃ L, l.reverse = L := ⟨_, rfl⟩
    rw [hL] at p1 t1
    have t2 := aturned_fn O (by simpa using ho6)
    obtain ⟨O', hO'⟩ : ∃ O', O.reverse = O' := ⟨_, rfl⟩
    rw [hO'] at t2
    rw [hO']
    repeat (first | (refine nf1_sound rfl ?_; simp [go_sem, ↓iO, iO, tN, hr, r2, hn, hf, f2, w1, w2, w3, w4, w5, w6, q1, q2, widths_gv, width_gv]; (repeat (refine anI ?_)); try (refine ⟨dcK, ?_⟩)) | ((first | refine itePos (by omega) ?_ | refine iteNeg (by omega) ?_); try simp [go_sem, ↓iO, iO, tN, hr, r2, hn, hf, f2, w1, w2, w3, w4, w5, w6, q1, q2, widths_gv, width_gv]) | (refine ⟨dcK, ?_⟩))
    refine CallK.fn (t1) [(1000, 600)] [] [] (by kernel_rfl) ?_ ?_ ?_ (Or.inl rfl) ?_ <;> simp [go_sem, ↓iO, iO, tN, hr, r2, hn]
    repeat (refine anI ?_)
    try (refine ⟨dcK, ?_⟩)
    repeat (first | (refine nf1_sound rfl ?_; simp [go_sem, ↓iO, iO, tN, hr, r2, hn, hf, f2, w1, w2, w3, w4, w5, w6, q1, q2, widths_gv, width_gv]; (repeat (refine anI ?_)); try (refine ⟨dcK, ?_⟩)) | ((first | refine itePos (by omega) ?_ | refine iteNeg (by omega) ?_); try simp [go_sem, ↓iO, iO, tN, hr, r2, hn, hf, f2, w1, w2, w3, w4, w5, w6, q1, q2, widths_gv, width_gv]) | (refine ⟨dcK, ?_⟩))
    refine CallK.fn (p1) [(1000, 601), (1001, 602)] [600] [] (by kernel_rfl) ?_ ?_ ?_ (Or.inr ⟨?_, ?_⟩) ?_ <;> simp [go_sem, ↓iO, iO, tN, hr, r2, hn, hf, f2, w1, w2, w3, w4, w5, w6, q1, q2, widths_gv, width_gv]
    repeat (refine anI ?_)
    try (refine ⟨dcK, ?_⟩)
    repeat (first | (refine nf1_sound rfl ?_; simp [go_sem, ↓iO, iO, tN, hn]; (repeat (refine anI ?_)); try (refine ⟨dcK, ?_⟩)) | ((first | refine itePos (by omega) ?_ | refine iteNeg (by omega) ?_); try simp [go_sem, ↓iO, iO, tN, hn]) | (refine ⟨dcK, ?_⟩))
    refine CallK.fn (t2) [(1000, 603)] [602] [] (by kernel_rfl) ?_ ?_ ?_ (Or.inr ⟨?_, ?_⟩) ?_ <;> simp [go_sem, ↓iO, iO, tN]
    repeat (refine anI ?_)
    try (refine ⟨dcK, ?_⟩)
    refine CW.weak (ρ := [(0, some 0), (1, some 1), (2, some 2), (3, some 3)]) (σ' := ⟨[(0, .pt 0 [] 0), (1, .t (.int s)), (7, .t (.bool false)), (8, .t (encPs F')), (9, .t (encPs O')), (10, .t (.int 0))], [(0, lineB d.net d.plan (.sl 1 (d.feeds.map encI)) order), (1, blkG fi), (2, blkG gi), (3, blkG oo)]⟩) ?_ ?_
    · simp [go_sem, ↓iO, iO, tN]
    repeat (first | (refine nf1_sound rfl ?_; simp [go_sem, ↓iO, iO, tN, hr, r2, hn, hf, f2, w1, w2, w3, w4, w5, w6, q1, q2, q3, hgo, hg, hfl, widths_gv, width_gv]; (repeat (refine anI ?_)); try (refine ⟨dcK, ?_⟩)) | ((first | refine itePos (by omega) ?_ | refine iteNeg (by omega) ?_); try simp [go_sem, ↓iO, iO, tN, hr, r2, hn, hf, f2, w1, w2, w3, w4, w5, w6, q1, q2, q3, hgo, hg, hfl, widths_gv, width_gv]) | (refine ⟨dcK, ?_⟩))
    refine ⟨by cases og <;> rfl, ?_⟩
    refine ⟨dcK, ?_⟩
    repeat (first | (refine nf1_sound rfl ?_; simp [go_sem, ↓iO, iO, tN]; (repeat (refine anI ?_)); try (refine ⟨dcK, ?_⟩)) | ((first | refine itePos (by omega) ?_ | refine iteNeg (by omega) ?_); try simp [go_sem, ↓iO, iO, tN]) | (refine ⟨dcK, ?_⟩))
    first | rw [RetQ_ret] | rw [RetQ_normal]
    refine ⟨[(0, some 0), (1, some 1), (2, some 2), (3, some 3)], ?_⟩
    simp [go_sem, ↓iO, iO, tN, List.map_set]
end Go.Proofs.YtcehllkmfkoncaaGreat
/- Lists of ints as memory. No condition. -/
namespace Go.Proofs.YtcehllkmfkoncaaGreat
open Go.RowKit Sy
set_option linter.unusedVariables false
set_option linter.unusedSimpArgs false
@[go_sem] def blkI (l : List Int) : Blk := .list 3 1 (l.map encI)
@[go_sem] theorem flat_encI : ∀ l : List Int, flatTs (l.map encI)
  | [] => by simp [flatTs]
  | p :: r => by simp [flatTs, flatT, encI, flat_encI r]
theorem takeI_step {α : Type} {a b : List α} {k : Nat} {x : α} (ha : a[k]? = some x) (hb : b[k]? = some x) (h : a.take k = b.take k) : a.take (k + 1) = b.take (k + 1) := by
  rw [take_snoc ha, take_snoc hb, h]
theorem takeI_ne {α : Type} {a b : List α} {k : Nat} {x y : α} (ha : a[k]? = some x) (hb : b[k]? = some y) (e : x ≠ y) : a ≠ b := by
  rintro rfl
  rw [ha] at hb
  exact e (Option.some.inj hb)
end Go.Proofs.YtcehllkmfkoncaaGreat
/- Who gets the next litre: plain, and the contracts of the program's and the reference's functions. No condition. -/
namespace Go.Proofs.YtcehllkmfkoncaaGreat
open Go.RowKit Sy
open Go.IntWalk renaming iteOmega → iO, toNatUp → tN
set_option linter.unusedVariables false
set_option linter.unusedSimpArgs false
@[go_sem] theorem widths_encI : ∀ l : List Int, T.widths (l.map encI) = l.length
  | [] => rfl
  | x :: r => by simp [T.widths, encI, T.width, widths_encI r]; omega
@[go_sem] theorem widths_encI_take (n : Nat) (l : List Int) : T.widths ((l.map encI).take n) = min n l.length := by
  rw [← List.map_take, widths_encI, List.length_take]
namespace Dl
/-- The i-th number of a list. -/
def rt (r : List Int) (i : Nat) : Int := r.getD i 0
theorem rt_get {r : List Int} {i : Nat} {x : Int} (h : r[i]? = some x) : rt r i = x := by unfold rt; rw [List.getD_eq_getElem?_getD, h]; rfl
theorem get_rt {r : List Int} {i : Nat} (h : i < r.length) : r[i]? = some (rt r i) := by
  obtain ⟨x, hx⟩ := has_get h
  rw [hx, rt_get hx]
theorem rt_app {r z : List Int} {i : Nat} (h : i < r.length) : rt (r ++ z) i = rt r i := rt_get (by rw [List.getElem?_append_left h]; exact get_rt h)
/-- The one that gets the next litre, among the first k. -/
def nx (R C : List Int) : Nat → Int
  | 0 => -1
  | k + 1 => if 0 < rt R k ∧ (nx R C k < 0 ∨ (rt C k + 1) * rt R (nx R C k).toNat < (rt C (nx R C k).toNat + 1) * rt R k) then k else nx R C k
theorem nx_range (R C : List Int) : ∀ k, -1 ≤ nx R C k ∧ nx R C k < k
  | 0 => by simp [nx]
  | k + 1 => by
    have := nx_range R C k
    unfold nx
    split <;> omega
theorem nx_app {r z c y : List Int} : ∀ {k : Nat}, k ≤ r.length → k ≤ c.length → nx (r ++ z) (c ++ y) k = nx r c k
  | 0, _, _ => rfl
  | k + 1, h1, h2 => by
    have ih := nx_app (r := r) (z := z) (c := c) (y := y) (k := k) (by omega) (by omega)
    have hr := nx_range r c k
    unfold nx
    rw [ih, rt_app (by omega), rt_app (by omega)]
    by_cases h0 : nx r c k < 0
    · simp [h0]
    · rw [rt_app (by omega), rt_app (by omega)]
end Dl
open Dl
/-- The program's table. -/
@[go_sem] def tblT (n : Nat) (R C : List Int) : T := .agg [.int n, .agg (R.map encI), .agg (C.map encI)]
@[go_sem] def tblB (n : Nat) (R C : List Int) : Blk := .box 221 (.t (tblT n R C))
structure TblOk (n : Nat) (R C : List Int) : Prop where
  r : R.length = 64
  c : C.length = 64
  n : n ≤ 64
  rr : ∀ x ∈ R, 0 ≤ x ∧ x ≤ 1000
  cr : ∀ x ∈ C, 0 ≤ x ∧ x ≤ 1000000
theorem mul_bd {a b A B : Int} (h1 : 0 ≤ a) (h2 : a ≤ A) (h3 : 0 ≤ b) (h4 : b ≤ B) : 0 ≤ a * b ∧ a * b ≤ A * B :=
  ⟨Int.mul_nonneg h1 h3, Int.mul_le_mul h2 h4 h3 (by omega)⟩
set_option maxRecDepth 100000 in
set_option maxHeartbeats 8000000 in
theorem next_fn (n : Nat) (R C : List Int) (h : TblOk n R C) : FnOk Tryz.prog 154 [.pt 0 [] 0] [(0, tblB n R C)] (.t (.int (nx R C n))) [(0, tblB n R C)] := by
  obtain ⟨hR, hC, hn, hr, hc⟩ := h
  refine FnOk.intro fact_mixed Tryz.func154 rfl Tryz.ntmps154 (by rfl) (by simp) ?_
  repeat (first | (refine nf1_sound rfl ?_; simp [go_sem, ↓iO, iO, tN]; (repeat (refine anI ?_)); try (refine ⟨dcK, ?_⟩)) | ((first | refine itePos (by omega) ?_ | refine iteNeg (by omega) ?_); try simp [go_sem, ↓iO, iO, tN]) | (refine ⟨dcK, ?_⟩))
  refine nf1_sound' _ _ _ ?_; simp only [nf1]
  refine CW.loop (ι := Nat) (fun k => ⟨[(0, .pt 0 [] 0), (3, .t (.int (nx R C k))), (8, .t (.int n)), (9, .t (.int k))], [(0, tblB n R C)]⟩) (fun k => k ≤ n) (fun k => n - k) 0 [(0, some 0)] (by omega) ?_ ?_
  · simp [go_sem, ↓iO, iO, tN, nx]
  intro k hk
  have hx := nx_range R C k
  by_cases hb : k < n
  · have gr := get_rt (r := R) (i := k) (by omega)
    have gc := get_rt (r := C) (i := k) (by omega)
    have b1 := hr _ (mem_get gr)
    have b2 := hc _ (mem_get gc)
    have step : nx R C (k + 1) = if 0 < rt R k ∧ (nx R C k < 0 ∨ (rt C k + 1) * rt R (nx R C k).toNat < (rt C (nx R C k).toNat + 1) * rt R k) then (k : Int) else nx R C k := rfl
    obtain ⟨u, hu⟩ : ∃ u, rt R k = u := ⟨_, rfl⟩
    obtain ⟨v, hv⟩ : ∃ v, rt C k = v := ⟨_, rfl⟩
    obtain ⟨q, hq⟩ : ∃ q, nx R C k = q := ⟨_, rfl⟩
    rw [hu] at gr b1
    rw [hv] at gc b2
    rw [hu, hv, hq] at step
    rw [hq] at hx ⊢
    by_cases h1 : 0 < u
    · by_cases h2 : q < 0
      · rw [if_pos ⟨h1, .inl h2⟩] at step
        repeat (first | (refine nf1_sound rfl ?_; simp [go_sem, ↓iO, iO, tN, gr, gc]; (repeat (refine anI ?_)); try (refine ⟨dcK, ?_⟩)) | ((first | refine itePos (by omega) ?_ | refine iteNeg (by omega) ?_); try simp [go_sem, ↓iO, iO, tN, gr, gc]) | (refine ⟨dcK, ?_⟩))
        rw [RoundQ_normal]; refine ⟨k + 1, [(0, some 0)], ?_, ?_, ?_⟩
        · omega
        · omega
        simp [go_sem, ↓iO, iO, tN, step]
      · obtain ⟨j, rfl⟩ : ∃ j : Nat, q = (j : Int) := ⟨q.toNat, by omega⟩
        rw [Int.toNat_natCast] at step
        have gr2 := get_rt (r := R) (i := j) (by omega)
        have gc2 := get_rt (r := C) (i := j) (by omega)
        have b3 := hr _ (mem_get gr2)
        have b4 := hc _ (mem_get gc2)
        obtain ⟨y, hy⟩ : ∃ y, rt R j = y := ⟨_, rfl⟩
        obtain ⟨z, hz⟩ : ∃ z, rt C j = z := ⟨_, rfl⟩
        rw [hy] at gr2 b3 step
        rw [hz] at gc2 b4 step
        have m1 := mul_bd (a := v + 1) (A := 1000001) (b := y) (B := 1000) (by omega) (by omega) (by omega) (by omega)
        have m2 := mul_bd (a := z + 1) (A := 1000001) (b := u) (B := 1000) (by omega) (by omega) (by omega) (by omega)
        obtain ⟨p1, hp1⟩ : ∃ p, (v + 1) * y = p := ⟨_, rfl⟩
        obtain ⟨p2, hp2⟩ : ∃ p, (z + 1) * u = p := ⟨_, rfl⟩
        rw [hp1] at m1 step
        rw [hp2] at m2 step
        by_cases h3 : p1 < p2
        · rw [if_pos ⟨h1, .inr h3⟩] at step
          repeat (first | (refine nf1_sound rfl ?_; simp [go_sem, ↓iO, iO, tN, gr, gc, gr2, gc2, hp1, hp2]; (repeat (refine anI ?_)); try (refine ⟨dcK, ?_⟩)) | ((first | refine itePos (by omega) ?_ | refine iteNeg (by omega) ?_); try simp [go_sem, ↓iO, iO, tN, gr, gc, gr2, gc2, hp1, hp2]) | (refine ⟨dcK, ?_⟩))
          rw [RoundQ_normal]; refine ⟨k + 1, [(0, some 0)], ?_, ?_, ?_⟩
          · omega
          · omega
          simp [go_sem, ↓iO, iO, tN, step]
        · rw [if_neg (by omega)] at step
          repeat (first | (refine nf1_sound rfl ?_; simp [go_sem, ↓iO, iO, tN, gr, gc, gr2, gc2, hp1, hp2]; (repeat (refine anI ?_)); try (refine ⟨dcK, ?_⟩)) | ((first | refine itePos (by omega) ?_ | refine iteNeg (by omega) ?_); try simp [go_sem, ↓iO, iO, tN, gr, gc, gr2, gc2, hp1, hp2]) | (refine ⟨dcK, ?_⟩))
          rw [RoundQ_normal]; refine ⟨k + 1, [(0, some 0)], ?_, ?_, ?_⟩
          · omega
          · omega
          simp [go_sem, ↓iO, iO, tN, step]
    · rw [if_neg (fun h => h1 h.1)] at step
      repeat (first | (refine nf1_sound rfl ?_; simp [go_sem, ↓iO, iO, tN, gr, gc]; (repeat (refine anI ?_)); try (refine ⟨dcK, ?_⟩)) | ((first | refine itePos (by omega) ?_ | refine iteNeg (by omega) ?_); try simp [go_sem, ↓iO, iO, tN, gr, gc]) | (refine ⟨dcK, ?_⟩))
      rw [RoundQ_normal]; refine ⟨k + 1, [(0, some 0)], ?_, ?_, ?_⟩
      · omega
      · omega
      simp [go_sem, ↓iO, iO, tN, step]
  · obtain rfl : k = n := by omega
    repeat (first | (refine nf1_sound rfl ?_; simp [go_sem, ↓iO, iO, tN]; (repeat (refine anI ?_)); try (refine ⟨dcK, ?_⟩)) | ((first | refine itePos (by omega) ?_ | refine iteNeg (by omega) ?_); try simp [go_sem, ↓iO, iO, tN]) | (refine ⟨dcK, ?_⟩))
    first | rw [RetQ_ret] | rw [RetQ_normal]
    refine ⟨[(0, some 0)], ?_⟩
    simp [go_sem, ↓iO, iO, tN]
end Go.Proofs.YtcehllkmfkoncaaGreat
