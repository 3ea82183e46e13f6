/- Equal lists; Accept, said by membership. No condition. -/
import Derived.Test.YtopmmodcaoaaeaaInY
import Derived.Test.YtopmmodcaoaaeaaTgF
import Derived.Test.YtopmmodcaoaaeaaTgH
namespace Go.Proofs.Ytopmmodcaoaaeaa
open Go.RowKit Sy
open Go.IntWalk renaming iteOmega → iO, toNatUp → tN
set_option linter.unusedVariables false
set_option linter.unusedSimpArgs false
set_option maxRecDepth 100000 in
set_option maxHeartbeats 8000000 in
theorem ralike_fn (l : List Tg) (hl : l.length ≤ 1000000) (hv : ∀ t ∈ l, t.vs.length ≤ 100000000) : FnOk Try.prog 18 [.t (encTgs l), .t (encTgs l)] [] (.t (.bool true)) [] := by
  refine FnOk.intro fact_mixed Try.func18 rfl Try.ntmps18 (by rfl) (by simp) ?_
  repeat (first | (refine nf1_sound rfl ?_; simp [go_sem, ↓iO, iO, tN]; (repeat (refine anI ?_)); try (refine ⟨dcK, ?_⟩)) | ((first | refine itePos (by omega) ?_ | refine iteNeg (by omega) ?_); try simp [go_sem, ↓iO, iO, tN]) | (refine ⟨dcK, ?_⟩))
  refine nf1_sound' _ _ _ ?_; simp only [nf1]
  refine CW.loop (ι := Nat) (fun k => ⟨[(0, .t (encTgs l)), (1, .t (encTgs l)), (12, .t (.int l.length)), (13, .t (.int k))], []⟩) (fun k => k ≤ l.length) (fun k => l.length - k) 0 [] (by omega) ?_ ?_
  · simp [go_sem, ↓iO, iO, tN]
  intro k hk
  by_cases hkl : k < l.length
  · obtain ⟨t, ht⟩ := has_get hkl
    have c := rsame_fn t (hv t (mem_get ht))
    repeat (first | (refine nf1_sound rfl ?_; simp [go_sem, ↓iO, iO, tN, ht]; (repeat (refine anI ?_)); try (refine ⟨dcK, ?_⟩)) | ((first | refine itePos (by omega) ?_ | refine iteNeg (by omega) ?_); try simp [go_sem, ↓iO, iO, tN, ht]) | (refine ⟨dcK, ?_⟩))
    refine CallK.fn (c) [] [] [] (by kernel_rfl) ?_ ?_ ?_ (Or.inl rfl) ?_ <;> simp [go_sem, ↓iO, iO, tN]
    repeat (refine anI ?_)
    try (refine ⟨dcK, ?_⟩)
    repeat (first | (refine nf1_sound rfl ?_; simp [go_sem, ↓iO, iO, tN]; (repeat (refine anI ?_)); try (refine ⟨dcK, ?_⟩)) | ((first | refine itePos (by omega) ?_ | refine iteNeg (by omega) ?_); try simp [go_sem, ↓iO, iO, tN]) | (refine ⟨dcK, ?_⟩))
    rw [RoundQ_normal]; refine ⟨k + 1, [], ?_, ?_, ?_⟩
    · omega
    · omega
    simp [go_sem, ↓iO, iO, tN]
  · obtain rfl : k = l.length := by omega
    repeat (first | (refine nf1_sound rfl ?_; simp [go_sem, ↓iO, iO, tN]; (repeat (refine anI ?_)); try (refine ⟨dcK, ?_⟩)) | ((first | refine itePos (by omega) ?_ | refine iteNeg (by omega) ?_); try simp [go_sem, ↓iO, iO, tN]) | (refine ⟨dcK, ?_⟩))
    first | rw [RetQ_ret] | rw [RetQ_normal]
    refine ⟨[], ?_⟩
    simp [go_sem, ↓iO, iO, tN]
theorem lb_mem {t : Int} : ∀ {l : List Int}, Asc l → t ∈ l → l[lb t l]? = some t
  | [], _, h => by simp at h
  | a :: r, ha, hx => by
    unfold lb
    rcases List.mem_cons.1 hx with rfl | hx
    · rw [if_neg (by omega)]; rfl
    · rw [if_pos (asc_lt ha _ hx)]
      simpa using lb_mem (asc_tail ha) hx
theorem asc_nth : ∀ {l : List Int} {i j : Nat} {a b : Int}, Asc l → i < j → l[i]? = some a → l[j]? = some b → a < b
  | [], i, j, a, b, _, _, h, _ => by simp at h
  | x :: l, 0, j + 1, a, b, hs, _, h1, h2 => by
    simp at h1 h2
    subst h1
    exact asc_lt hs _ (List.mem_of_getElem? h2)
  | x :: l, i + 1, j + 1, a, b, hs, h, h1, h2 => asc_nth (i := i) (j := j) (asc_tail hs) (by omega) (by simpa using h1) (by simpa using h2)
theorem asc_inj {l : List Int} {i j : Nat} {a : Int} (hs : Asc l) (h1 : l[i]? = some a) (h2 : l[j]? = some a) : i = j := by
  rcases Nat.lt_trichotomy i j with h | h | h
  · have := asc_nth hs h h1 h2; omega
  · exact h
  · have := asc_nth hs h h2 h1; omega
theorem InOk.uniq {i : In} (h : InOk i) {v w : Wt} (hv : v ∈ i.sts) (hw : w ∈ i.sts) (he : v.st = w.st) : v = w := by
  obtain ⟨a, ha⟩ := List.mem_iff_getElem?.1 hv
  obtain ⟨b, hb⟩ := List.mem_iff_getElem?.1 hw
  have := asc_inj (i := a) (j := b) (a := w.st) h.asc (by rw [List.getElem?_map, ha, ← he]; rfl) (by rw [List.getElem?_map, hb]; rfl)
  subst this
  rw [ha] at hb
  exact Option.some.inj hb
theorem acc_mem {i : In} {x : Tg} (h : InOk i) (hx : TgOk x) (h64 : i.sts.length < 64) : ∃ w0, WtOk w0 i.win ∧ w0.st = x.st ∧ (w0 ∈ i.sts ∨ (∀ w ∈ i.sts, w.st ≠ x.st) ∧ w0 = ⟨x.st, x.ep, 0, []⟩) ∧
    ∃ i', accV i x = (i', (takeV w0 x i.win).2, 0) ∧ i'.win = i.win ∧ i'.tail = i.tail ∧ ∀ w, w ∈ i'.sts ↔ (w = (takeV w0 x i.win).1 ∨ (w ∈ i.sts ∧ w.st ≠ x.st)) := by
  have hwin : 0 ≤ i.win := by have := h.wn; omega
  have new : (∀ w ∈ i.sts, w.st ≠ x.st) → ∃ w0, WtOk w0 i.win ∧ w0.st = x.st ∧ (w0 ∈ i.sts ∨ (∀ w ∈ i.sts, w.st ≠ x.st) ∧ w0 = ⟨x.st, x.ep, 0, []⟩) ∧
      ∃ i', newA i x (lb x.st (i.sts.map (·.st))) = (i', (takeV w0 x i.win).2, 0) ∧ i'.win = i.win ∧ i'.tail = i.tail ∧ ∀ w, w ∈ i'.sts ↔ (w = (takeV w0 x i.win).1 ∨ (w ∈ i.sts ∧ w.st ≠ x.st)) := by
    intro hno
    refine ⟨⟨x.st, x.ep, 0, []⟩, newW_ok hx hwin, rfl, .inr ⟨hno, rfl⟩, ?_⟩
    unfold newA
    rw [if_neg (by omega)]
    refine ⟨_, rfl, rfl, rfl, fun w => ?_⟩
    dsimp only
    rw [List.mem_append, List.mem_cons]
    constructor
    · rintro (hw | hw | hw)
      · exact .inr ⟨List.mem_of_mem_take hw, hno w (List.mem_of_mem_take hw)⟩
      · exact .inl hw
      · exact .inr ⟨List.mem_of_mem_drop hw, hno w (List.mem_of_mem_drop hw)⟩
    · rintro (hw | ⟨hw, _⟩)
      · exact .inr (.inl hw)
      · rw [← List.take_append_drop (lb x.st (i.sts.map (·.st))) i.sts, List.mem_append] at hw
        rcases hw with hw | hw
        · exact .inl hw
        · exact .inr (.inr hw)
  have no : (i.sts.map (·.st))[lb x.st (i.sts.map (·.st))]? ≠ some x.st → ∀ w ∈ i.sts, w.st ≠ x.st := fun hk w hw he =>
    hk (lb_mem h.asc (by rw [← he]; exact List.mem_map.2 ⟨w, hw, rfl⟩))
  unfold accV
  rw [if_pos hx]
  unfold accA
  cases hw : i.sts[lb x.st (i.sts.map (·.st))]? with
  | none => exact new (no (by rw [List.getElem?_map, hw]; simp))
  | some w =>
    dsimp only
    by_cases hs : w.st = x.st
    · rw [if_pos hs]
      refine ⟨w, h.each w (mem_get hw), hs, .inl (mem_get hw), _, rfl, rfl, rfl, fun v => ?_⟩
      dsimp only
      have hpl := (List.getElem?_eq_some_iff.1 hw).1
      constructor
      · intro hv
        obtain ⟨j, hj⟩ := List.mem_iff_getElem?.1 hv
        rw [List.getElem?_set] at hj
        split at hj
        · rename_i e
          subst e
          exact .inl (Option.some.inj hj).symm
        · rename_i hne
          refine .inr ⟨mem_get hj, fun he => hne ?_⟩
          exact asc_inj (a := x.st) h.asc (by rw [List.getElem?_map, hw, ← hs]; rfl) (by rw [List.getElem?_map, hj, ← he]; rfl)
      · rintro (rfl | ⟨hv, hne⟩)
        · exact List.mem_iff_getElem?.2 ⟨_, List.getElem?_set_self hpl⟩
        · obtain ⟨j, hj⟩ := List.mem_iff_getElem?.1 hv
          refine List.mem_iff_getElem?.2 ⟨j, ?_⟩
          rw [List.getElem?_set_ne]
          · exact hj
          · rintro rfl
            rw [hw] at hj
            obtain rfl := Option.some.inj hj
            exact hne hs
    · rw [if_neg hs]
      exact new (no (by rw [List.getElem?_map, hw]; simpa using hs))
theorem endV_len (w : Wt) (o : List Tg) (win : Int) : (endV w o win).2.length ≤ o.length + w.held.length := by
  have h1 := gvL_len w
  unfold endV
  cases hh : (gvW w).held with
  | nil => dsimp only; rw [List.length_append]; omega
  | cons x r =>
    dsimp only
    rw [hh] at h1
    have h2 := gvL_len ⟨w.st, w.ep, x.sq, x :: r⟩
    split
    · simp only [List.length_append] at h1 h2 ⊢
      omega
    · simp only [List.length_append]; omega
theorem takeV_len (w : Wt) (t : Tg) (win : Int) : (takeV w t win).2.length ≤ w.held.length + 1 := by
  unfold takeV
  split
  · simp
  · split
    · unfold putV
      rw [if_neg (by simp)]
      have := endV_len ⟨w.st, t.ep, 0, [t]⟩ w.held win
      simpa using this
    · unfold putV
      split
      · simp
      · have := endV_len ⟨w.st, w.ep, w.nx, w.held.take (lb t.sq (keys w.held)) ++ [t] ++ w.held.drop (lb t.sq (keys w.held))⟩ [] win
        have h2 := ins_len (t := t) (lb_len t.sq w.held)
        dsimp only at this
        rw [h2] at this
        simpa using this
end Go.Proofs.Ytopmmodcaoaaeaa
