/- What Accept leaves is valid. No condition. The law's awake. No condition. -/
import Derived.Test.YtopmmodcaoaaeaaInR
namespace Go.Proofs.Ytopmmodcaoaaeaa
open Go.RowKit Sy
open Go.IntWalk renaming iteOmega → iO, toNatUp → tN
set_option linter.unusedVariables false
set_option linter.unusedSimpArgs false
theorem held_weak {st ep la la' : Int} {l : List Tg} (h : la' ≤ la) (hl : heldOk st ep la l) : heldOk st ep la' l := by
  cases l with
  | nil => trivial
  | cons t r =>
    rw [held_cons] at hl ⊢
    exact ⟨hl.1, hl.2.1, hl.2.2.1, by omega, hl.2.2.2.2⟩
theorem held_ins {st ep : Int} {t : Tg} (ht : TgOk t) (hs : t.st = st) (he : t.ep = ep) : ∀ {la : Int} {l : List Tg}, heldOk st ep la l → la < t.sq → (∀ x, l[lb t.sq (keys l)]? = some x → x.sq ≠ t.sq) → heldOk st ep la (l.take (lb t.sq (keys l)) ++ t :: l.drop (lb t.sq (keys l)))
  | la, [], _, hla, _ => by
    show heldOk st ep la [t]
    rw [held_cons]
    exact ⟨ht, hs, he, hla, trivial⟩
  | la, k :: r, hl, hla, hne => by
    have e : keys (k :: r) = k.sq :: keys r := rfl
    rw [e] at hne ⊢
    unfold lb at hne ⊢
    have hl' := hl
    rw [held_cons] at hl
    by_cases h : k.sq < t.sq
    · rw [if_pos h] at hne ⊢
      have := held_ins ht hs he hl.2.2.2.2 h (by simpa using hne)
      rw [List.take_succ_cons, List.drop_succ_cons, List.cons_append, held_cons]
      exact ⟨hl.1, hl.2.1, hl.2.2.1, hl.2.2.2.1, this⟩
    · rw [if_neg h] at hne ⊢
      have hk := hne k rfl
      show heldOk st ep la (t :: k :: r)
      rw [held_cons]
      refine ⟨ht, hs, he, hla, ?_⟩
      rw [held_cons]
      exact ⟨hl.1, hl.2.1, hl.2.2.1, by omega, hl.2.2.2.2⟩
theorem held_give {st ep : Int} : ∀ {nx : Int} {l : List Tg}, heldOk st ep (nx - 1) l → nx ≤ 2147483649 → heldOk st ep (nx + giveN nx l) (l.drop (giveN nx l)) ∧ nx + giveN nx l ≤ 2147483649
  | nx, [], _, h => by simp [giveN]; exact ⟨trivial, h⟩
  | nx, t :: r, hl, h => by
    unfold giveN
    rw [held_cons] at hl
    by_cases g : t.sq = nx
    · rw [if_pos g]
      have hsq := hl.1.sq
      obtain ⟨h1, h2⟩ := held_give (nx := nx + 1) (l := r) (by rw [show nx + 1 - 1 = t.sq by omega]; exact hl.2.2.2.2) (by omega)
      refine ⟨?_, by omega⟩
      rw [List.drop_succ_cons, show nx + ((giveN (nx + 1) r + 1 : Nat) : Int) = nx + 1 + (giveN (nx + 1) r : Int) by omega]
      exact h1
    · rw [if_neg g]
      refine ⟨?_, by simpa using h⟩
      show heldOk st ep (nx + (0 : Nat)) (t :: r)
      rw [held_cons]
      exact ⟨hl.1, hl.2.1, hl.2.2.1, by omega, hl.2.2.2.2⟩
theorem held_mem {st ep la : Int} {l : List Tg} (h : heldOk st ep la l) : ∀ x ∈ l, la < x.sq ∧ TgOk x ∧ x.st = st ∧ x.ep = ep := (held_asc st ep la l h).2
/-- What is left and given out when a telegram was put in. -/
theorem endV_ok {w : Wt} {o : List Tg} {win : Int} (hwin : 0 ≤ win) (h1 : ¬ w.st < 0) (h2 : ¬ 255 < w.st) (h3 : ¬ w.ep < 0) (h4 : ¬ 255 < w.ep) (h5 : ¬ w.nx < 0) (h6 : ¬ 2147483649 < w.nx) (h7 : (w.held.length : Int) ≤ win + 1) (h8 : heldOk w.st w.ep (w.nx - 1) w.held) :
    WtOk (endV w o win).1 win ∧ (endV w o win).1.st = w.st ∧ ∃ g, (endV w o win).2 = o ++ g ∧ ∀ x ∈ g, x ∈ w.held := by
  obtain ⟨g1, g2⟩ := held_give h8 (by omega)
  have hgl := giveN_le w.nx w.held
  unfold endV
  have base : (((gvW w).held.length : Int) ≤ win → WtOk (gvW w) win) := fun h => ⟨h1, h2, h3, h4, by show ¬ w.nx + _ < 0; omega, by show ¬ _ < w.nx + _; omega, by omega, g1⟩
  have gm : ∀ x ∈ gvL w, x ∈ w.held := fun x hx => List.mem_of_mem_take hx
  cases hh : (gvW w).held with
  | nil => exact ⟨base (by rw [hh]; simpa using hwin), rfl, _, rfl, gm⟩
  | cons x r =>
    dsimp only
    have hd : w.held.drop (giveN w.nx w.held) = x :: r := hh
    rw [hd] at g1
    by_cases hl : win < (r.length + 1 : Nat)
    · rw [if_pos hl]
      have g1' := g1
      rw [held_cons] at g1
      have hxs := g1.1.sq
      obtain ⟨k1, k2⟩ := held_give (st := w.st) (ep := w.ep) (nx := x.sq) (l := x :: r) (by rw [held_cons]; exact ⟨g1.1, g1.2.1, g1.2.2.1, by omega, g1.2.2.2.2⟩) (by omega)
      have hdl : r.length + 1 ≤ w.held.length := by
        have := congrArg List.length hd
        rw [List.length_drop] at this
        simp at this
        omega
      have hg1 : giveN x.sq (x :: r) = giveN (x.sq + 1) r + 1 := by
        conv => lhs; unfold giveN
        rw [if_pos rfl]
      refine ⟨⟨h1, h2, h3, h4, by show ¬ x.sq + (giveN x.sq (x :: r) : Int) < 0; omega, by show ¬ 2147483649 < x.sq + (giveN x.sq (x :: r) : Int); omega, ?_, k1⟩, rfl, gvL w ++ gvL ⟨w.st, w.ep, x.sq, x :: r⟩, by rw [List.append_assoc], ?_⟩
      · show ¬ win < (((x :: r).drop (giveN x.sq (x :: r))).length : Int)
        rw [hg1, List.length_drop]
        simp only [List.length_cons]
        omega
      · intro y hy
        rcases List.mem_append.1 hy with hy | hy
        · exact gm y hy
        · have : y ∈ x :: r := List.mem_of_mem_take hy
          rw [← hd] at this
          exact List.mem_of_mem_drop this
    · rw [if_neg hl]
      exact ⟨base (by rw [hh]; simp only [List.length_cons]; omega), rfl, _, rfl, gm⟩
theorem ins_len {l : List Tg} {t : Tg} {n : Nat} (hn : n ≤ l.length) : (l.take n ++ [t] ++ l.drop n).length = l.length + 1 := by simp; omega
theorem takeV_ok {w : Wt} {t : Tg} {win : Int} (hw : WtOk w win) (ht : TgOk t) (hs : t.st = w.st) (hwin : 0 ≤ win) : WtOk (takeV w t win).1 win ∧ (takeV w t win).1.st = w.st ∧ ∀ x ∈ (takeV w t win).2, x.st = w.st ∧ TgOk x := by
  obtain ⟨h1, h2, h3, h4, h5, h6, h7, h8⟩ := hw
  have hep := ht.ep
  have hsq := ht.sq
  have hm := held_mem h8
  unfold takeV
  by_cases c1 : t.ep < w.ep ∨ t.ep = w.ep ∧ t.sq < w.nx
  · rw [if_pos c1]; exact ⟨⟨h1, h2, h3, h4, h5, h6, h7, h8⟩, rfl, by simp⟩
  rw [if_neg c1]
  by_cases c2 : w.ep < t.ep
  · rw [if_pos c2]
    unfold putV
    rw [if_neg (by simp)]
    have e0 : heldOk w.st t.ep (0 - 1) [t] := by rw [held_cons]; exact ⟨ht, hs, rfl, by omega, trivial⟩
    obtain ⟨k1, k2, g, k3, k4⟩ := endV_ok (w := ⟨w.st, t.ep, 0, [t]⟩) (o := w.held) hwin h1 h2 (by dsimp only; omega) (by dsimp only; omega) (by simp) (by simp) (by simp; omega) e0
    refine ⟨k1, k2, fun x hx => ?_⟩
    have hx' : x ∈ w.held ++ g := by rw [← k3]; exact hx
    rcases List.mem_append.1 hx' with hx | hx
    · exact ⟨(hm x hx).2.2.1, (hm x hx).2.1⟩
    · have := k4 x hx
      simp at this
      subst this
      exact ⟨hs, ht⟩
  · rw [if_neg c2]
    have c3 : t.ep = w.ep := by omega
    unfold putV
    by_cases c4 : ∃ x, w.held[lb t.sq (keys w.held)]? = some x ∧ x.sq = t.sq
    · rw [if_pos c4]; exact ⟨⟨h1, h2, h3, h4, h5, h6, h7, h8⟩, rfl, by simp⟩
    · rw [if_neg c4]
      have hins := held_ins ht hs c3 (la := w.nx - 1) (held_weak (by omega) h8) (by omega) (fun x hx he => c4 ⟨x, hx, he⟩)
      have hlen := ins_len (t := t) (lb_len t.sq w.held)
      obtain ⟨k1, k2, g, k3, k4⟩ := endV_ok (w := ⟨w.st, w.ep, w.nx, w.held.take (lb t.sq (keys w.held)) ++ [t] ++ w.held.drop (lb t.sq (keys w.held))⟩) (o := []) hwin h1 h2 h3 h4 h5 h6 (by dsimp only; rw [hlen]; omega) (by simpa using hins)
      refine ⟨k1, k2, fun x hx => ?_⟩
      rw [k3, List.nil_append] at hx
      have := k4 x hx
      simp only [List.mem_append, List.mem_singleton] at this
      rcases this with (hx | hx) | hx
      · have := hm x (List.mem_of_mem_take hx); exact ⟨this.2.2.1, this.2.1⟩
      · subst hx; exact ⟨hs, ht⟩
      · have := hm x (List.mem_of_mem_drop hx); exact ⟨this.2.2.1, this.2.1⟩
theorem asc_ins {t : Int} : ∀ {l : List Int}, Asc l → l[lb t l]? ≠ some t → Asc (l.take (lb t l) ++ t :: l.drop (lb t l))
  | [], _, _ => trivial
  | k :: r, h, hne => by
    unfold lb at hne ⊢
    by_cases g : k < t
    · rw [if_pos g] at hne ⊢
      have ih := asc_ins (t := t) (asc_tail h) (by simpa using hne)
      rw [List.take_succ_cons, List.drop_succ_cons, List.cons_append]
      cases r with
      | nil => exact ⟨g, trivial⟩
      | cons b r =>
        unfold lb at ih ⊢
        by_cases g2 : b < t
        · rw [if_pos g2] at ih ⊢
          exact ⟨h.1, ih⟩
        · rw [if_neg g2] at ih ⊢
          exact ⟨g, ih⟩
    · rw [if_neg g] at hne ⊢
      have : k ≠ t := fun e => hne (by simp [e])
      exact ⟨by omega, h⟩
theorem asc_adj : ∀ {l : List Int}, Asc l → ∀ {j : Nat} {a b : Int}, l[j]? = some a → l[j + 1]? = some b → a < b
  | [], _, j, a, b, h, _ => by simp at h
  | [x], _, j, a, b, _, h => by simp at h
  | x :: y :: r, hs, 0, a, b, h1, h2 => by simp at h1 h2; subst h1 h2; exact hs.1
  | x :: y :: r, hs, j + 1, a, b, h1, h2 => asc_adj hs.2 (j := j) (by simpa using h1) (by simpa using h2)
theorem inOk_of {i : In} (wn : ¬ i.win < 0) (wx : ¬ 16 < i.win) (tl : ¬ 400 < i.tail.length) (sl : ¬ 64 < i.sts.length) (tk : tailOk i.tail) (hw : ∀ w ∈ i.sts, WtOk w i.win) (ha : Asc (i.sts.map (·.st))) : InOk i := by
  refine ⟨wn, wx, tl, sl, tk, fun j w hj => ⟨hw w (mem_get hj), fun v h0 hv => ?_⟩⟩
  obtain ⟨m, rfl⟩ : ∃ m, j = m + 1 := ⟨j - 1, by omega⟩
  exact asc_adj ha (j := m) (by rw [List.getElem?_map, show i.sts[m]? = some v by simpa using hv]; rfl) (by rw [List.getElem?_map, hj]; rfl)
theorem InOk.each {i : In} (h : InOk i) : ∀ w ∈ i.sts, WtOk w i.win := fun w hw => by
  obtain ⟨j, hj⟩ := List.mem_iff_getElem?.1 hw
  exact (h.st j w hj).1
theorem newW_ok {t : Tg} {win : Int} (ht : TgOk t) (hwin : 0 ≤ win) : WtOk ⟨t.st, t.ep, 0, []⟩ win := by
  have h1 := ht.st
  have h2 := ht.ep
  exact ⟨by dsimp only; omega, by dsimp only; omega, by dsimp only; omega, by dsimp only; omega, by simp, by simp, by simp; omega, trivial⟩
theorem newA_ok {i : In} {t : Tg} (h : InOk i) (ht : TgOk t) (hk : (i.sts.map (·.st))[lb t.st (i.sts.map (·.st))]? ≠ some t.st) : InOk (newA i t (lb t.st (i.sts.map (·.st)))).1 := by
  have hwin : 0 ≤ i.win := by have := h.wn; omega
  unfold newA
  by_cases h64 : i.sts.length = 64
  · rw [if_pos h64]; exact h
  · rw [if_neg h64]
    obtain ⟨k1, k2, k3⟩ := takeV_ok (newW_ok ht hwin) ht rfl hwin
    have hlb := lb_le t.st (i.sts.map (·.st))
    rw [List.length_map] at hlb
    refine inOk_of h.wn h.wx h.tl ?_ h.tk ?_ ?_
    · have := h.sl
      simp; omega
    · intro w hw
      dsimp only at hw ⊢
      rcases List.mem_append.1 hw with hw | hw
      · exact h.each w (List.mem_of_mem_take hw)
      · rcases List.mem_cons.1 hw with rfl | hw
        · exact k1
        · exact h.each w (List.mem_of_mem_drop hw)
    · dsimp only
      rw [List.map_append, List.map_cons, k2, List.map_take, List.map_drop]
      exact asc_ins h.asc hk
theorem accV_ok {i : In} {t : Tg} (h : InOk i) : InOk (accV i t).1 := by
  have hwin : 0 ≤ i.win := by have := h.wn; omega
  unfold accV
  by_cases ht : TgOk t
  · rw [if_pos ht]
    unfold accA
    cases hw : i.sts[lb t.st (i.sts.map (·.st))]? with
    | none => exact newA_ok h ht (by rw [List.getElem?_map, hw]; simp)
    | some w =>
      dsimp only
      by_cases hs : w.st = t.st
      · rw [if_pos hs]
        obtain ⟨k1, k2, k3⟩ := takeV_ok (h.each w (mem_get hw)) ht hs.symm hwin
        refine inOk_of h.wn h.wx h.tl (by have := h.sl; simpa using this) h.tk ?_ ?_
        · intro v hv
          rcases List.mem_or_eq_of_mem_set hv with hv | rfl
          · exact h.each v hv
          · exact k1
        · dsimp only
          rw [List.map_set, k2, List.set_getElem?_self' (by rw [List.getElem?_map, hw]; rfl)]
          exact h.asc
      · rw [if_neg hs]
        exact newA_ok h ht (by rw [List.getElem?_map, hw]; simpa using hs)
  · rw [if_neg ht]; exact h
end Go.Proofs.Ytopmmodcaoaaeaa
namespace Go.Proofs.Ytopmmodcaoaaeaa
open Go.RowKit Sy
open Go.IntWalk renaming iteOmega → iO, toNatUp → tN
set_option linter.unusedVariables false
set_option linter.unusedSimpArgs false
theorem accV_new1 {win : Int} {tail : List Nat} {t : Tg} (ht : TgOk t) : accV ⟨win, tail, []⟩ t = (⟨win, tail, [(takeV ⟨t.st, t.ep, 0, []⟩ t win).1]⟩, (takeV ⟨t.st, t.ep, 0, []⟩ t win).2, 0) := by
  unfold accV
  rw [if_pos ht]
  rfl
theorem accV_old1 {win : Int} {tail : List Nat} {w : Wt} {t : Tg} (ht : TgOk t) (hs : w.st = t.st) : accV ⟨win, tail, [w]⟩ t = (⟨win, tail, [(takeV w t win).1]⟩, (takeV w t win).2, 0) := by
  unfold accV
  rw [if_pos ht]
  have e : lb t.st ([w].map (·.st)) = 0 := by show lb t.st [w.st] = 0; unfold lb; rw [if_neg (by omega)]
  dsimp only
  rw [e]
  unfold accA
  show (if w.st = t.st then _ else _) = _
  rw [if_pos hs]
  rfl
def aTg (n : Int) : Tg := ⟨1, 0, n, 0, 0, []⟩
theorem aTg_ok {n : Int} (h0 : 0 ≤ n) (h1 : n ≤ 1000) : TgOk (aTg n) := ⟨by simp [aTg], by simp [aTg], by simp [aTg]; omega, by simp [aTg], by simp [aTg], by simp [aTg], by simp [aTg]⟩
theorem take1 : takeV ⟨1, 0, 0, []⟩ (aTg 0) 2 = (⟨1, 0, 1, []⟩, [aTg 0]) := by simp [takeV, putV, endV, gvW, gvL, giveN, lb, keys, aTg]
theorem take2 : takeV ⟨1, 0, 1, []⟩ (aTg 2) 2 = (⟨1, 0, 1, [aTg 2]⟩, []) := by simp [takeV, putV, endV, gvW, gvL, giveN, lb, keys, aTg]
theorem take3 : takeV ⟨1, 0, 1, [aTg 2]⟩ (aTg 1) 2 = (⟨1, 0, 3, []⟩, [aTg 1, aTg 2]) := by simp [takeV, putV, endV, gvW, gvL, giveN, lb, keys, aTg]
theorem take4 : takeV ⟨1, 0, 3, []⟩ (aTg 1) 2 = (⟨1, 0, 3, []⟩, []) := by simp [takeV, putV, endV, gvW, gvL, giveN, lb, keys, aTg]
theorem take5 : takeV ⟨1, 0, 3, []⟩ (aTg 3) 2 = (⟨1, 0, 4, []⟩, [aTg 3]) := by simp [takeV, putV, endV, gvW, gvL, giveN, lb, keys, aTg]
theorem str_app (a b : List Nat) : str a ++ str b = str (a ++ b) := by
  apply ByteArray.ext
  simp [str]
def awL : List Int := [0, 2, 1, 1, 3]
def dg (t : Tg) : Nat := (48 + t.sq).toNat
theorem aw_ex : ∃ (A : Nat → In) (O : Nat → List Tg) (G : Nat → List Nat), A 0 = ⟨2, [], []⟩ ∧ G 0 = [] ∧ G 5 = [48, 59, 59, 49, 50, 59, 59, 51, 59] ∧ (∀ k, (G k).length ≤ 9) ∧ ∀ k, k < 5 → ∃ n, awL[k]? = some n ∧ accV (A k) (aTg n) = (A (k + 1), O k, 0) ∧ InOk (A k) ∧ (A k).tail = [] ∧ (∀ w ∈ (A k).sts, w.held.length ≤ 5 ∧ ∀ t ∈ w.held, t.vs.length ≤ 5) ∧ (A k).sts.length ≤ 5 ∧ (O k).length ≤ 2 ∧ (∀ t ∈ O k, 0 ≤ t.sq ∧ t.sq < 10) ∧ G (k + 1) = G k ++ (O k).map dg ++ [59] := by
  refine ⟨fun k => [⟨2, [], []⟩, ⟨2, [], [⟨1, 0, 1, []⟩]⟩, ⟨2, [], [⟨1, 0, 1, [aTg 2]⟩]⟩, ⟨2, [], [⟨1, 0, 3, []⟩]⟩, ⟨2, [], [⟨1, 0, 3, []⟩]⟩, ⟨2, [], [⟨1, 0, 4, []⟩]⟩].getD k ⟨2, [], []⟩, fun k => [[aTg 0], [], [aTg 1, aTg 2], [], [aTg 3]].getD k [], fun k => [[], [48, 59], [48, 59, 59], [48, 59, 59, 49, 50, 59], [48, 59, 59, 49, 50, 59, 59], [48, 59, 59, 49, 50, 59, 59, 51, 59]].getD k [], rfl, rfl, rfl, ?_, ?_⟩
  · intro k
    match k with
    | 0 => simp
    | 1 => simp
    | 2 => simp
    | 3 => simp
    | 4 => simp
    | 5 => simp
    | k + 6 => simp
  have i0 : InOk ⟨2, [], []⟩ := inOk_of (by simp) (by simp) (by simp) (by simp) (.inl rfl) (by simp) trivial
  have s1 := accV_new1 (win := 2) (tail := []) (aTg_ok (n := 0) (by omega) (by omega))
  have s2 := accV_old1 (win := 2) (tail := []) (w := ⟨1, 0, 1, []⟩) (aTg_ok (n := 2) (by omega) (by omega)) rfl
  have s3 := accV_old1 (win := 2) (tail := []) (w := ⟨1, 0, 1, [aTg 2]⟩) (aTg_ok (n := 1) (by omega) (by omega)) rfl
  have s4 := accV_old1 (win := 2) (tail := []) (w := ⟨1, 0, 3, []⟩) (aTg_ok (n := 1) (by omega) (by omega)) rfl
  have s5 := accV_old1 (win := 2) (tail := []) (w := ⟨1, 0, 3, []⟩) (aTg_ok (n := 3) (by omega) (by omega)) rfl
  rw [show (⟨(aTg 0).st, (aTg 0).ep, 0, []⟩ : Wt) = ⟨1, 0, 0, []⟩ from rfl, take1] at s1
  rw [take2] at s2
  rw [take3] at s3
  rw [take4] at s4
  rw [take5] at s5
  have i1 := accV_ok (t := aTg 0) i0
  rw [s1] at i1
  have i2 := accV_ok (t := aTg 2) i1
  rw [s2] at i2
  have i3 := accV_ok (t := aTg 1) i2
  rw [s3] at i3
  intro k hk
  match k, hk with
  | 0, _ => exact ⟨0, rfl, s1, i0, rfl, by simp, by simp, by simp, by simp [aTg], rfl⟩
  | 1, _ => exact ⟨2, rfl, s2, i1, rfl, by simp, by simp, by simp, by simp [aTg], rfl⟩
  | 2, _ => exact ⟨1, rfl, s3, i2, rfl, by simp [aTg], by simp, by simp, by simp [aTg], rfl⟩
  | 3, _ => exact ⟨1, rfl, s4, i3, rfl, by simp, by simp, by simp, by simp [aTg], rfl⟩
  | 4, _ => exact ⟨3, rfl, s5, i3, rfl, by simp, by simp, by simp, by simp [aTg], rfl⟩
set_option maxRecDepth 100000 in
set_option maxHeartbeats 8000000 in
theorem inawake_fn : FnOk Try.prog 14 [] [] (.t (.bool true)) [] := by
  obtain ⟨A, O, G, a0, g0, g5, gl, hA⟩ := aw_ex
  have cn := inew_fn 2 ⟨2, [], []⟩ 0 rfl
  have hs0 : str (G 0) = ⟨#[]⟩ := by rw [g0]; rfl
  have hs5 : (str (G 5)).toList = [48, 59, 59, 49, 50, 59, 59, 51, 59] := by rw [g5]; decide +kernel
  have hsc : (⟨#[59]⟩ : ByteArray) = str [59] := rfl
  clear g0 g5
  refine FnOk.intro fact_mixed Try.func14 rfl Try.ntmps14 (by rfl) (by simp) ?_
  repeat (first | (refine nf1_sound rfl ?_; simp [go_sem, ↓iO, iO, tN]; (repeat (refine anI ?_)); try (refine ⟨dcK, ?_⟩)) | ((first | refine itePos (by omega) ?_ | refine iteNeg (by omega) ?_); try simp [go_sem, ↓iO, iO, tN]) | (refine ⟨dcK, ?_⟩))
  refine CallK.fn (cn) [] [] [] (by kernel_rfl) ?_ ?_ ?_ (Or.inl rfl) ?_ <;> simp [go_sem, ↓iO, iO, tN]
  repeat (refine anI ?_)
  try (refine ⟨dcK, ?_⟩)
  repeat (first | (refine nf1_sound rfl ?_; simp [go_sem, ↓iO, iO, tN]; (repeat (refine anI ?_)); try (refine ⟨dcK, ?_⟩)) | ((first | refine itePos (by omega) ?_ | refine iteNeg (by omega) ?_); try simp [go_sem, ↓iO, iO, tN]) | (refine ⟨dcK, ?_⟩))
  refine nf1_sound' _ _ _ ?_; simp only [nf1]
  refine CW.loop (ι := Nat) (fun k => ⟨[(1, .pt 501 [] 0), (2, .t (.int 0)), (3, .t (.lit (.string (str (G k))))), (14, .own 514), (15, .t (.int 5)), (16, .t (.int k))], [(501, .box 29 (.t (encIn (A k)))), (514, blkI awL)]⟩) (fun k => k ≤ 5) (fun k => 5 - k) 0 [(501, some 101), (514, some 114)] (by omega) ?_ ?_
  · simp [go_sem, ↓iO, iO, tN, a0, hs0, awL]
  intro k hk
  have glk := gl k
  by_cases hk5 : k < 5
  · obtain ⟨n, hn, hacc, hok, htl, hhl, hsl, hol, hod, hg⟩ := hA k hk5
    have ca := accept_fn (A k) (aTg n) ⟨by rw [htl]; simp, by omega, by rw [htl]; simp, fun w hw => ⟨by have := (hhl w hw).1; omega, fun t ht => by have := (hhl w hw).2 t ht; omega⟩⟩ (by simp [aTg]) hok
    rw [hacc] at ca
    have hawl : awL.length = 5 := rfl
    obtain ⟨X, hX⟩ : ∃ X, A k = X := ⟨_, rfl⟩
    obtain ⟨Y, hY⟩ : ∃ Y, A (k + 1) = Y := ⟨_, rfl⟩
    rw [hX, hY] at ca
    rw [hX]
    obtain ⟨o, ho⟩ : ∃ o, O k = o := ⟨_, rfl⟩
    rw [ho] at ca hod hg hol
    clear hA hhl hsl htl hok hacc
    repeat (first | (refine nf1_sound rfl ?_; simp [go_sem, ↓iO, iO, tN, hn, hawl]; (repeat (refine anI ?_)); try (refine ⟨dcK, ?_⟩)) | ((first | refine itePos (by omega) ?_ | refine iteNeg (by omega) ?_); try simp [go_sem, ↓iO, iO, tN, hn, hawl]) | (refine ⟨dcK, ?_⟩))
    refine CallK.fn (ca) [] [] [] (by kernel_rfl) ?_ ?_ ?_ (Or.inl rfl) ?_ <;> simp [go_sem, ↓iO, iO, tN, aTg]
    repeat (refine anI ?_)
    try (refine ⟨dcK, ?_⟩)
    repeat (first | (refine nf1_sound rfl ?_; simp [go_sem, ↓iO, iO, tN]; (repeat (refine anI ?_)); try (refine ⟨dcK, ?_⟩)) | ((first | refine itePos (by omega) ?_ | refine iteNeg (by omega) ?_); try simp [go_sem, ↓iO, iO, tN]) | (refine ⟨dcK, ?_⟩))
    refine nf1_sound' _ _ _ ?_; simp only [nf1]
    refine CW.loop (ι := Nat) (fun m => ⟨[(1, .pt 501 [] 0), (2, .t (.int 0)), (3, .t (.lit (.string (str (G k ++ (o.take m).map dg))))), (7, .t (encTgs o)), (14, .own 514), (15, .t (.int 5)), (16, .t (.int k)), (32, .t (.int o.length)), (33, .t (.int m))], [(501, .box 29 (.t (encIn Y))), (514, blkI awL)]⟩) (fun m => m ≤ o.length) (fun m => o.length - m) 0 [(501, some 501), (514, some 514)] (by omega) ?_ ?_
    · simp [go_sem, ↓iO, iO, tN]
    intro m hm
    by_cases hmo : m < o.length
    · obtain ⟨t, ht⟩ := has_get hmo
      obtain ⟨d0, d1⟩ := hod t (mem_get ht)
      obtain ⟨t1, t2, t3, t4, t5, tv⟩ := t
      dsimp only at d0 d1
      have hsz : (str (G k ++ (o.take m).map dg)).size ≤ 20 := by rw [str_size]; simp; omega
      have hm1 : List.take (m + 1) (o.map dg) = List.take m (o.map dg) ++ [dg ⟨t1, t2, t3, t4, t5, tv⟩] := by rw [take_snoc (c := dg ⟨t1, t2, t3, t4, t5, tv⟩) (by simp [ht])]
      obtain ⟨r, hr⟩ : ∃ r : Nat, t3 = (r : Int) := ⟨t3.toNat, by omega⟩
      subst hr
      have hr10 : r < 10 := by omega
      have hw : IntKind.u8.wrap (48 + (r : Int)) = 48 + (r : Int) := by rw [u8_wrap]; omega
      have hmod : (r : Int).tmod 10 = (r : Int) := by rw [Int.tmod_eq_emod_of_nonneg (by omega)]; omega
      repeat (first | (refine nf1_sound rfl ?_; simp [go_sem, ↓iO, iO, tN, ht, hsz, hw, hmod]; (repeat (refine anI ?_)); try (refine ⟨dcK, ?_⟩)) | ((first | refine itePos (by omega) ?_ | refine iteNeg (by omega) ?_); try simp [go_sem, ↓iO, iO, tN, ht, hsz, hw, hmod]) | (refine ⟨dcK, ?_⟩))
      rw [RoundQ_normal]; refine ⟨m + 1, [(501, some 501), (514, some 514)], ?_, ?_, ?_⟩
      · omega
      · omega
      simp [go_sem, ↓iO, iO, tN, hm1]
      have hdg : dg ⟨t1, t2, (r : Int), t4, t5, tv⟩ = 48 + r % 10 := by unfold dg; dsimp only; omega
      rw [hdg, str_app, List.append_assoc]
    · obtain rfl : m = o.length := by omega
      have hz2 : str (G k ++ o.map dg) ++ ⟨#[59]⟩ = str (G (k + 1)) := by rw [hg, hsc, str_app]
      have hsz : (str (G k ++ o.map dg)).size ≤ 20 := by rw [str_size]; simp; omega
      repeat (first | (refine nf1_sound rfl ?_; simp [go_sem, ↓iO, iO, tN, hsz]; (repeat (refine anI ?_)); try (refine ⟨dcK, ?_⟩)) | ((first | refine itePos (by omega) ?_ | refine iteNeg (by omega) ?_); try simp [go_sem, ↓iO, iO, tN, hsz]) | (refine ⟨dcK, ?_⟩))
      rw [RoundQ_normal]; refine ⟨k + 1, [(501, some 501), (514, some 514)], ?_, ?_, ?_⟩
      · omega
      · omega
      simp [go_sem, ↓iO, iO, tN, hz2, hY]
  · obtain rfl : k = 5 := by omega
    repeat (first | (refine nf1_sound rfl ?_; simp [go_sem, ↓iO, iO, tN, hs5]; (repeat (refine anI ?_)); try (refine ⟨dcK, ?_⟩)) | ((first | refine itePos (by omega) ?_ | refine iteNeg (by omega) ?_); try simp [go_sem, ↓iO, iO, tN, hs5]) | (refine ⟨dcK, ?_⟩))
    first | rw [RetQ_ret] | rw [RetQ_normal]
    refine ⟨[], ?_⟩
    simp [go_sem, ↓iO, iO, tN]
end Go.Proofs.Ytopmmodcaoaaeaa
