/- Places within symbolic values: what lies at a place, and what is left when it is replaced. No condition. -/
import Derived.Test.YtgjfkklemelejaaSyC
namespace Go.Proofs.Ytgjfkklemelejaa.Sy
open Go.RowKit
set_option linter.unusedVariables false
set_option linter.unusedSimpArgs false

def T.at : T → List Nat → Option (Nat × T)
  | x, [] => some (0, x)
  | .agg fs, k :: p => match fs[k]? with
    | some y => match T.at y p with
      | some (o, z) => some (T.widths (fs.take k) + o, z)
      | none => none
    | none => none
  | _, _ :: _ => none
def T.set : T → List Nat → T → Option T
  | _, [], v => some v
  | .agg fs, k :: p, v => match fs[k]? with
    | some y => match T.set y p v with
      | some y' => some (.agg (fs.set k y'))
      | none => none
    | none => none
  | _, _ :: _, _ => none
def S.at : S → List Nat → Option (Nat × S)
  | .t x, p => match T.at x p with
    | some (o, z) => some (o, .t z)
    | none => none
  | x, [] => some (0, x)
  | .ag fs, k :: p => match fs[k]? with
    | some y => match S.at y p with
      | some (o, z) => some (S.widths (fs.take k) + o, z)
      | none => none
    | none => none
  | _, _ :: _ => none
def S.set : S → List Nat → S → Option S
  | .t x, p, .t v => match T.set x p v with
    | some y => some (.t y)
    | none => none
  | _, [], v => some v
  | .ag fs, k :: p, v => match fs[k]? with
    | some y => match S.set y p v with
      | some y' => some (.ag (fs.set k y'))
      | none => none
    | none => none
  | .t (.agg fs), k :: p, v => match fs[k]? with
    | some y => match S.set (.t y) p v with
      | some y' => some (.ag ((fs.map S.t).set k y'))
      | none => none
    | none => none
  | _, _ :: _, _ => none

def splice (cs : List Value) (o : Nat) (us : List Value) : List Value := cs.take o ++ (us ++ cs.drop (o + us.length))
theorem splice_length {cs us : List Value} {o : Nat} (h : o + us.length ≤ cs.length) : (splice cs o us).length = cs.length := by
  simp [splice]; omega
theorem splice_mid {a m b us : List Value} {o k : Nat} (hk : a.length = k) (h : o + us.length ≤ m.length) : splice (a ++ (m ++ b)) (k + o) us = a ++ (splice m o us ++ b) := by
  unfold splice
  rw [Nat.add_assoc, take_app hk, drop_app hk, List.take_append_of_le_length (by omega), List.drop_append_of_le_length h]
  simp
theorem splice_all {m us : List Value} (h : us.length = m.length) : splice m 0 us = us := by
  simp [splice, h]

section
variable {F : Nat → Prop} {w : World}
theorem T.at_spec : ∀ {p : List Nat} {x z : T} {v : Value} {o : Nat}, Rep F w x v → x.at p = some (o, z) →
    ∃ u, Rep F w z u ∧ o + z.width ≤ x.width ∧ ∀ j c, u.cells.toList[j]? = some c → v.cells.toList[o + j]? = some c
  | [], x, z, v, o, h, e => by
    cases x <;> simp [T.at] at e <;> obtain ⟨rfl, rfl⟩ := e <;> exact ⟨v, h, by omega, fun j c hj => by rw [Nat.zero_add]; exact hj⟩
  | k :: p, .lit _, z, v, o, h, e => by simp [T.at] at e
  | k :: p, .sl _ _, z, v, o, h, e => by simp [T.at] at e
  | k :: p, .agg fs, z, v, o, h, e => by
    simp only [T.at] at e
    cases hk : fs[k]? with
    | none => rw [hk] at e; simp at e
    | some y =>
      rw [hk] at e
      simp only at e
      cases hy : T.at y p with
      | none => rw [hy] at e; simp at e
      | some q =>
        rw [hy] at e
        obtain ⟨o', z'⟩ := q
        simp at e
        obtain ⟨rfl, rfl⟩ := e
        unfold Rep at h
        obtain ⟨cells, rfl, h2⟩ := h
        obtain ⟨u1, h3, h4, _⟩ := Reps.get h2 hk
        obtain ⟨u, h5, h6, h7⟩ := T.at_spec h3 hy
        refine ⟨u, h5, ?_, fun j c hj => ?_⟩
        · have h8 := widths_take_succ hk
          have h9 : T.widths fs = T.widths (fs.take (k + 1)) + T.widths (fs.drop (k + 1)) := by rw [← widths_append, List.take_append_drop]
          simp only [T.width]
          omega
        · have := h4 _ _ (h7 j c hj)
          simpa [Value.cells, Nat.add_assoc] using this

theorem T.set_spec : ∀ {p : List Nat} {x z y x' : T} {v u : Value} {o : Nat}, Rep F w x v → x.at p = some (o, z) → Rep F w y u → y.width = z.width → x.set p y = some x' →
    ∃ v', Rep F w x' v' ∧ v'.cells.toList = splice v.cells.toList o u.cells.toList ∧ x'.width = x.width
  | [], x, z, y, x', v, u, o, h, e, hy, hw, e2 => by
    have h1 := Rep.width x v h
    have h2 := Rep.width y u hy
    cases x <;> simp [T.at] at e <;> obtain ⟨rfl, rfl⟩ := e <;> simp [T.set] at e2 <;> subst e2 <;>
      exact ⟨u, hy, (splice_all (by simp only [Array.length_toList]; omega)).symm, hw⟩
  | k :: p, .lit _, z, y, x', v, u, o, h, e, hy, hw, e2 => by simp [T.at] at e
  | k :: p, .sl _ _, z, y, x', v, u, o, h, e, hy, hw, e2 => by simp [T.at] at e
  | k :: p, .agg fs, z, y, x', v, u, o, h, e, hy, hw, e2 => by
    simp only [T.at] at e
    simp only [T.set] at e2
    cases hk : fs[k]? with
    | none => rw [hk] at e; simp at e
    | some f =>
      rw [hk] at e e2
      simp only at e e2
      cases hf : T.at f p with
      | none => rw [hf] at e; simp at e
      | some q =>
        cases hs : T.set f p y with
        | none => rw [hs] at e2; simp at e2
        | some f' =>
          rw [hf] at e
          rw [hs] at e2
          obtain ⟨o', z'⟩ := q
          simp at e e2
          obtain ⟨rfl, rfl⟩ := e
          subst e2
          unfold Rep at h
          obtain ⟨cells, rfl, h2⟩ := h
          obtain ⟨f1, h3, h4, h4'⟩ := Reps.get h2 hk
          obtain ⟨v', h5, h6, h7⟩ := T.set_spec h3 hf hy hw hs
          have h10 := Reps.set h2 hk h5 h7
          have hcells := Reps.widths fs cells h2
          obtain ⟨_, _, hle, _⟩ := T.at_spec h3 hf
          have hf1 := Rep.width f f1 h3
          have hu := Rep.width y u hy
          refine ⟨.agg (List.toArray _), by unfold Rep; exact ⟨_, rfl, h10⟩, ?_, ?_⟩
          · show cells.take (T.widths (fs.take k)) ++ (v'.cells.toList ++ cells.drop (T.widths (fs.take k) + f.width)) = splice cells _ _
            have h8 := widths_take_succ hk
            have h9 : T.widths fs = T.widths (fs.take (k + 1)) + T.widths (fs.drop (k + 1)) := by rw [← widths_append, List.take_append_drop]
            have hdec : cells = cells.take (T.widths (fs.take k)) ++ (f1.cells.toList ++ cells.drop (T.widths (fs.take k) + f.width)) := by
              rw [← h8, ← h4', List.take_append_drop]
            rw [h6]
            conv => rhs; rw [hdec]
            rw [splice_mid (by rw [List.length_take]; omega) (by simp only [Array.length_toList]; omega)]
          · simp only [T.width]
            have h11 := Reps.widths _ _ h10
            have h12 := congrArg List.length h6
            rw [splice_length (by simp only [Array.length_toList]; omega)] at h12
            have h8 := widths_take_succ hk
            have h9 : T.widths fs = T.widths (fs.take (k + 1)) + T.widths (fs.drop (k + 1)) := by rw [← widths_append, List.take_append_drop]
            rw [← h11]
            simp only [List.length_append, List.length_take, List.length_drop, h12, Array.length_toList]
            omega
end

/-- Known through and through: no dead part, no results. -/
def S.solid : S → Bool
  | .dead => false
  | .tup _ => false
  | _ => true

section
variable {G : Gh} {w : World}
theorem RepSs.lens : ∀ {fs : List S} {cs : List Value}, RepSs G w fs cs → cs.length = S.widths fs ∧ ∀ c ∈ cs, c.oneCell' = true
  | [], cs, h => by unfold RepSs at h; subst h; exact ⟨rfl, by simp⟩
  | x :: r, cs, h => by
    unfold RepSs at h
    obtain ⟨v, cs', rfl, h2, h3, h4, h5⟩ := h
    have h6 := RepSs.lens h5
    refine ⟨by simp [S.widths, h6.1, h2], ?_⟩
    intro c hc
    rcases List.mem_append.1 hc with hc | hc
    · exact h3 c hc
    · exact h6.2 c hc
theorem RepS.lens : ∀ {s : S} {u : Value}, RepS G w s u → s.solid = true → u.cells.size = s.width ∧ ∀ c ∈ u.cells.toList, c.oneCell' = true
  | .dead, u, h, e => by simp [S.solid] at e
  | .tup _, u, h, e => by simp [S.solid] at e
  | .t x, u, h, e => by unfold RepS at h; exact ⟨Rep.width x u h, Rep.one x u h⟩
  | .rp x, u, h, e => by
    unfold RepS at h
    obtain ⟨b, off, v, rfl, _⟩ := h
    exact ⟨rfl, by simp [Value.cells, Value.oneCell']⟩
  | .own l, u, h, e => by
    unfold RepS at h
    obtain ⟨_, x, n, cap, rfl⟩ := h
    exact ⟨rfl, by simp [Value.cells, Value.oneCell']⟩
  | .pt _ _ _, u, h, e => by
    unfold RepS at h
    obtain ⟨b, _, rfl⟩ := h
    exact ⟨rfl, by simp [Value.cells, Value.oneCell']⟩
  | .fn _ _, u, h, e => by
    unfold RepS at h
    obtain ⟨b, rfl, _⟩ := h
    exact ⟨rfl, by simp [Value.cells, Value.oneCell']⟩
  | .fb _ _, u, h, e => by
    unfold RepS at h
    obtain ⟨b, rfl, _⟩ := h
    exact ⟨rfl, by simp [Value.cells, Value.oneCell']⟩
  | .ag fs, u, h, e => by
    unfold RepS at h
    obtain ⟨cells, rfl, h2⟩ := h
    have := RepSs.lens h2
    simpa [Value.cells, S.width] using this

theorem RepSs.append : ∀ {xs ys : List S} {cs ds : List Value}, RepSs G w xs cs → RepSs G w ys ds → RepSs G w (xs ++ ys) (cs ++ ds)
  | [], ys, cs, ds, h1, h2 => by unfold RepSs at h1; subst h1; exact h2
  | x :: r, ys, cs, ds, h1, h2 => by
    unfold RepSs at h1
    obtain ⟨v, cs', rfl, h3, h4, h5, h6⟩ := h1
    show RepSs G w (x :: (r ++ ys)) _
    unfold RepSs
    exact ⟨v, cs' ++ ds, by simp, h3, h4, h5, RepSs.append h6 h2⟩
theorem RepSs.split : ∀ {xs : List S} {cs : List Value} (i : Nat), RepSs G w xs cs → RepSs G w (xs.take i) (cs.take (S.widths (xs.take i))) ∧ RepSs G w (xs.drop i) (cs.drop (S.widths (xs.take i)))
  | xs, cs, 0, h => by simp [S.widths]; exact ⟨by unfold RepSs; rfl, h⟩
  | [], cs, i + 1, h => by unfold RepSs at h; subst h; simp; unfold RepSs; rfl
  | x :: r, cs, i + 1, h => by
    unfold RepSs at h
    obtain ⟨v, cs', rfl, hw, h1, h2, h3⟩ := h
    have hl : v.cells.toList.length = x.width := by simpa using hw
    obtain ⟨h4, h5⟩ := RepSs.split i h3
    simp only [List.take_succ_cons, List.drop_succ_cons, S.widths]
    rw [take_app hl, drop_app hl]
    refine ⟨?_, h5⟩
    unfold RepSs
    exact ⟨v, _, rfl, hw, h1, h2, h4⟩
theorem swidths_append : ∀ (xs ys : List S), S.widths (xs ++ ys) = S.widths xs + S.widths ys
  | [], ys => by simp [S.widths]
  | x :: r, ys => by simp [S.widths, swidths_append r ys]; omega
theorem swidths_take_succ {xs : List S} {i : Nat} {x : S} (h : xs[i]? = some x) : S.widths (xs.take (i + 1)) = S.widths (xs.take i) + x.width := by
  rw [take_snoc h, swidths_append]; simp [S.widths]
theorem swidths_split (xs : List S) (i : Nat) : S.widths xs = S.widths (xs.take i) + S.widths (xs.drop i) := by rw [← swidths_append, List.take_append_drop]
theorem RepSs.get {fs : List S} {cs : List Value} {i : Nat} {x : S} (h : RepSs G w fs cs) (hx : fs[i]? = some x) :
    ∃ v, RepS G w x v ∧ v.cells.size = x.width ∧ (∀ c ∈ v.cells.toList, c.oneCell' = true) ∧ (cs.drop (S.widths (fs.take i)) = v.cells.toList ++ cs.drop (S.widths (fs.take i) + x.width)) := by
  have h1 := (RepSs.split i h).2
  have hlt := (List.getElem?_eq_some_iff.1 hx).1
  have he : fs.drop i = x :: fs.drop (i + 1) := drop_get hx
  rw [he] at h1
  unfold RepSs at h1
  obtain ⟨v, cs', h2, h3, h4, h5, h6⟩ := h1
  refine ⟨v, h5, h3, h4, ?_⟩
  have hl : v.cells.toList.length = x.width := by simpa using h3
  have : cs.drop (S.widths (fs.take i) + x.width) = cs' := by
    rw [← List.drop_drop, h2]
    have := drop_app hl (b := cs') 0
    simpa using this
  rw [this]; exact h2
theorem RepSs.set {xs : List S} {cs : List Value} {i : Nat} {x y : S} {u : Value} (h : RepSs G w xs cs) (hx : xs[i]? = some x) (hy : RepS G w y u) (hw : u.cells.size = y.width) (h1 : ∀ c ∈ u.cells.toList, c.oneCell' = true) (hxy : y.width = x.width) :
    RepSs G w (xs.set i y) (cs.take (S.widths (xs.take i)) ++ (u.cells.toList ++ cs.drop (S.widths (xs.take i) + x.width))) := by
  have h2 := (RepSs.split i h).1
  have h3 := (RepSs.split (i + 1) h).2
  rw [swidths_take_succ hx] at h3
  have hlt := (List.getElem?_eq_some_iff.1 hx).1
  rw [List.set_eq_take_append_cons_drop, if_pos hlt]
  refine RepSs.append h2 ?_
  unfold RepSs
  exact ⟨u, _, rfl, hw, h1, hy, h3⟩

theorem get_of_drop {cs a b : List Value} {k : Nat} (h : cs.drop k = a ++ b) {j : Nat} {c : Value} (hj : a[j]? = some c) : cs[k + j]? = some c := by
  rw [← List.getElem?_drop, h, List.getElem?_append_left (List.getElem?_eq_some_iff.1 hj).1]
  exact hj

theorem S.at_spec : ∀ {p : List Nat} {x z : S} {v : Value} {o : Nat}, RepS G w x v → v.cells.size = x.width → (∀ c ∈ v.cells.toList, c.oneCell' = true) → x.at p = some (o, z) →
    ∃ u, RepS G w z u ∧ u.cells.size = z.width ∧ (∀ c ∈ u.cells.toList, c.oneCell' = true) ∧ o + z.width ≤ x.width ∧ ∀ j c, u.cells.toList[j]? = some c → v.cells.toList[o + j]? = some c
  | p, .t x, z, v, o, h, hw, hs, e => by
    simp only [S.at] at e
    cases hx : T.at x p with
    | none => rw [hx] at e; simp at e
    | some q =>
      rw [hx] at e
      obtain ⟨o', z'⟩ := q
      simp at e
      obtain ⟨rfl, rfl⟩ := e
      unfold RepS at h
      obtain ⟨u, h1, h2, h3⟩ := T.at_spec h hx
      exact ⟨u, by unfold RepS; exact h1, Rep.width _ _ h1, Rep.one _ _ h1, h2, h3⟩
  | k :: p, .ag fs, z, v, o, h, hw, hs, e => by
    simp only [S.at] at e
    cases hk : fs[k]? with
    | none => rw [hk] at e; simp at e
    | some y =>
      rw [hk] at e
      simp only at e
      cases hy : S.at y p with
      | none => rw [hy] at e; simp at e
      | some q =>
        rw [hy] at e
        obtain ⟨o', z'⟩ := q
        simp at e
        obtain ⟨rfl, rfl⟩ := e
        unfold RepS at h
        obtain ⟨cells, rfl, h2⟩ := h
        obtain ⟨u1, h3, h4, h4', h4''⟩ := RepSs.get h2 hk
        obtain ⟨u, h5, h6, h6', h7, h8⟩ := S.at_spec h3 h4 h4' hy
        refine ⟨u, h5, h6, h6', ?_, fun j c hj => ?_⟩
        · have h8 := swidths_take_succ hk
          have h9 := swidths_split fs (k + 1)
          simp only [S.width]
          omega
        · have := get_of_drop h4'' (h8 j c hj)
          simpa [Value.cells, Nat.add_assoc] using this
  | [], .ag fs, z, v, o, h, hw, hs, e => by simp [S.at] at e; obtain ⟨rfl, rfl⟩ := e; exact ⟨v, h, hw, hs, by omega, fun j c hj => by rw [Nat.zero_add]; exact hj⟩
  | [], .dead, z, v, o, h, hw, hs, e => by simp [S.at] at e; obtain ⟨rfl, rfl⟩ := e; exact ⟨v, h, hw, hs, by omega, fun j c hj => by rw [Nat.zero_add]; exact hj⟩
  | [], .rp _, z, v, o, h, hw, hs, e => by simp [S.at] at e; obtain ⟨rfl, rfl⟩ := e; exact ⟨v, h, hw, hs, by omega, fun j c hj => by rw [Nat.zero_add]; exact hj⟩
  | [], .own _, z, v, o, h, hw, hs, e => by simp [S.at] at e; obtain ⟨rfl, rfl⟩ := e; exact ⟨v, h, hw, hs, by omega, fun j c hj => by rw [Nat.zero_add]; exact hj⟩
  | [], .pt _ _ _, z, v, o, h, hw, hs, e => by simp [S.at] at e; obtain ⟨rfl, rfl⟩ := e; exact ⟨v, h, hw, hs, by omega, fun j c hj => by rw [Nat.zero_add]; exact hj⟩
  | [], .tup _, z, v, o, h, hw, hs, e => by simp [S.at] at e; obtain ⟨rfl, rfl⟩ := e; exact ⟨v, h, hw, hs, by omega, fun j c hj => by rw [Nat.zero_add]; exact hj⟩
  | [], .fn _ _, z, v, o, h, hw, hs, e => by simp [S.at] at e; obtain ⟨rfl, rfl⟩ := e; exact ⟨v, h, hw, hs, by omega, fun j c hj => by rw [Nat.zero_add]; exact hj⟩
  | [], .fb _ _, z, v, o, h, hw, hs, e => by simp [S.at] at e; obtain ⟨rfl, rfl⟩ := e; exact ⟨v, h, hw, hs, by omega, fun j c hj => by rw [Nat.zero_add]; exact hj⟩
  | k :: p, .dead, z, v, o, h, hw, hs, e => by simp [S.at] at e
  | k :: p, .rp _, z, v, o, h, hw, hs, e => by simp [S.at] at e
  | k :: p, .own _, z, v, o, h, hw, hs, e => by simp [S.at] at e
  | k :: p, .pt _ _ _, z, v, o, h, hw, hs, e => by simp [S.at] at e
  | k :: p, .tup _, z, v, o, h, hw, hs, e => by simp [S.at] at e
  | k :: p, .fn _ _, z, v, o, h, hw, hs, e => by simp [S.at] at e
  | k :: p, .fb _ _, z, v, o, h, hw, hs, e => by simp [S.at] at e

theorem S.widths_t : ∀ (fs : List T), S.widths (fs.map S.t) = T.widths fs
  | [] => rfl
  | x :: r => by simp [S.widths, S.width, T.widths, S.widths_t r]
theorem RepSs.of_t : ∀ {fs : List T} {cs : List Value}, Reps G.F w fs cs → RepSs G w (fs.map S.t) cs
  | [], cs, h => by unfold Reps at h; simp only [List.map_nil]; unfold RepSs; exact h
  | x :: r, cs, h => by
    unfold Reps at h
    obtain ⟨v, cs', h1, h2, h3⟩ := h
    simp only [List.map_cons]
    unfold RepSs
    exact ⟨v, cs', h1, by rw [Rep.width _ _ h2]; rfl, Rep.one _ _ h2, by unfold RepS; exact h2, RepSs.of_t h3⟩

/-- The parts of a struct, one of them at a place within replaced. -/
theorem ag_set {fs : List S} {cells : List Value} {k o : Nat} {f f' : S} {u v' f1 : Value} (h2 : RepSs G w fs cells) (hk : fs[k]? = some f)
    (h4'' : cells.drop (S.widths (fs.take k)) = f1.cells.toList ++ cells.drop (S.widths (fs.take k) + f.width)) (hf1 : f1.cells.size = f.width) (hle : o + u.cells.size ≤ f.width)
    (h5 : RepS G w f' v') (h6 : v'.cells.toList = splice f1.cells.toList o u.cells.toList) (h7 : f'.width = f.width) (h8 : v'.cells.size = f'.width) (h9 : ∀ c ∈ v'.cells.toList, c.oneCell' = true) :
    ∃ cells', RepSs G w (fs.set k f') cells' ∧ cells' = splice cells (S.widths (fs.take k) + o) u.cells.toList := by
  have h10 := RepSs.set h2 hk h5 h8 h9 h7
  have hl := (RepSs.lens h2).1
  refine ⟨_, h10, ?_⟩
  have h11 := swidths_take_succ hk
  have h12 := swidths_split fs (k + 1)
  have hdec : cells = cells.take (S.widths (fs.take k)) ++ (f1.cells.toList ++ cells.drop (S.widths (fs.take k) + f.width)) := by
    rw [← h4'', List.take_append_drop]
  rw [h6]
  conv => rhs; rw [hdec]
  rw [splice_mid (by rw [List.length_take]; omega) (by simp only [Array.length_toList]; omega)]

theorem S.set_spec : ∀ {p : List Nat} {x z y x' : S} {v u : Value} {o : Nat}, RepS G w x v → v.cells.size = x.width → (∀ c ∈ v.cells.toList, c.oneCell' = true) → x.at p = some (o, z) →
    RepS G w y u → u.cells.size = y.width → (∀ c ∈ u.cells.toList, c.oneCell' = true) → y.width = z.width → x.set p y = some x' →
    ∃ v', RepS G w x' v' ∧ v'.cells.toList = splice v.cells.toList o u.cells.toList ∧ x'.width = x.width ∧ v'.cells.size = x'.width ∧ ∀ c ∈ v'.cells.toList, c.oneCell' = true := by
  have base : ∀ {x z y : S} {v u : Value} {o : Nat}, v.cells.size = x.width → o = 0 → z.width = x.width → RepS G w y u → u.cells.size = y.width → (∀ c ∈ u.cells.toList, c.oneCell' = true) → y.width = z.width →
      ∃ v', RepS G w y v' ∧ v'.cells.toList = splice v.cells.toList o u.cells.toList ∧ y.width = x.width ∧ v'.cells.size = y.width ∧ ∀ c ∈ v'.cells.toList, c.oneCell' = true := by
    intro x z y v u o hv ho hz hy hu h1 hw
    subst ho
    exact ⟨u, hy, (splice_all (by simp only [Array.length_toList]; omega)).symm, by omega, hu, h1⟩
  intro p
  induction p with
  | nil =>
    intro x z y x' v u o h hw hs e hy hyw hy1 hyz e2
    have hz : o = 0 ∧ z = x := by
      cases x with
      | t x => cases x <;> simp [S.at, T.at] at e <;> exact ⟨e.1.symm, e.2.symm⟩
      | _ => simp [S.at] at e; exact ⟨e.1.symm, e.2.symm⟩
    obtain ⟨rfl, rfl⟩ := hz
    have hx' : x' = y := by
      cases z <;> cases y <;> simp [S.set] at e2 <;> first | exact e2.symm | (rename_i a b; cases a <;> simp [T.set] at e2 <;> exact e2.symm)
    subst hx'
    exact base hw rfl rfl hy hyw hy1 hyz
  | cons k p ih =>
    intro x z y x' v u o h hw hs e hy hyw hy1 hyz e2
    cases x with
    | ag fs =>
      simp only [S.at] at e
      simp only [S.set] at e2
      cases hk : fs[k]? with
      | none => rw [hk] at e; simp at e
      | some f =>
        rw [hk] at e e2
        simp only at e e2
        cases hf : S.at f p with
        | none => rw [hf] at e; simp at e
        | some q =>
          cases hst : S.set f p y with
          | none => rw [hst] at e2; simp at e2
          | some f' =>
            rw [hf] at e
            rw [hst] at e2
            obtain ⟨o', z'⟩ := q
            simp at e e2
            obtain ⟨rfl, rfl⟩ := e
            subst e2
            unfold RepS at h
            obtain ⟨cells, rfl, h2⟩ := h
            obtain ⟨f1, h3, h4, h4', h4''⟩ := RepSs.get h2 hk
            obtain ⟨v', h5, h6, h7, h8, h9⟩ := ih h3 h4 h4' hf hy hyw hy1 hyz hst
            obtain ⟨_, _, _, _, hle, _⟩ := S.at_spec h3 h4 h4' hf
            obtain ⟨cells', h10, h11⟩ := ag_set (u := u) h2 hk h4'' h4 (by omega) h5 h6 h7 h8 h9
            have h12 := RepSs.lens h10
            have h14 := RepSs.lens h2
            have h13 : S.widths (fs.set k f') = S.widths fs := by
              rw [← h12.1, ← h14.1, h11]
              refine splice_length ?_
              have := swidths_take_succ hk
              have := swidths_split fs (k + 1)
              simp only [Array.length_toList]; omega
            exact ⟨.agg cells'.toArray, by unfold RepS; exact ⟨cells', rfl, h10⟩, h11, h13, by simpa [Value.cells, S.width] using h12.1, by simpa [Value.cells] using h12.2⟩
    | t x =>
      cases y with
      | t y =>
        simp only [S.at] at e
        simp only [S.set] at e2
        cases hx : T.at x (k :: p) with
        | none => rw [hx] at e; simp at e
        | some q =>
          cases hst : T.set x (k :: p) y with
          | none => rw [hst] at e2; simp at e2
          | some y' =>
            rw [hx] at e
            rw [hst] at e2
            obtain ⟨o', z'⟩ := q
            simp at e e2
            obtain ⟨rfl, rfl⟩ := e
            subst e2
            unfold RepS at h hy
            obtain ⟨v', h1, h2, h3⟩ := T.set_spec h hx hy hyz hst
            exact ⟨v', by unfold RepS; exact h1, h2, h3, Rep.width _ _ h1, Rep.one _ _ h1⟩
      | _ =>
        cases x with
        | agg fs =>
          simp only [S.at, T.at] at e
          simp only [S.set] at e2
          cases hk : fs[k]? with
          | none => rw [hk] at e; simp at e
          | some f =>
            rw [hk] at e e2
            simp only at e e2
            cases hf : T.at f p with
            | none => rw [hf] at e; simp at e
            | some q =>
              cases hst : S.set (.t f) p _ with
              | none => rw [hst] at e2; simp at e2
              | some f' =>
                rw [hf] at e
                rw [hst] at e2
                obtain ⟨o', z'⟩ := q
                simp at e e2
                obtain ⟨rfl, rfl⟩ := e
                subst e2
                unfold RepS at h
                unfold Rep at h
                obtain ⟨cells, rfl, h2⟩ := h
                have h2' := RepSs.of_t (G := G) h2
                have hk' : (fs.map S.t)[k]? = some (.t f) := by simp [hk]
                obtain ⟨f1, h3, h4, h4', h4''⟩ := RepSs.get h2' hk'
                have hf' : S.at (.t f) p = some (o', .t z') := by simp [S.at, hf]
                obtain ⟨v', h5, h6, h7, h8, h9⟩ := ih h3 h4 h4' hf' hy hyw hy1 hyz hst
                obtain ⟨_, _, _, _, hle, _⟩ := S.at_spec h3 h4 h4' hf'
                obtain ⟨cells', h10, h11⟩ := ag_set (u := u) h2' hk' h4'' h4 (by omega) h5 h6 h7 h8 h9
                have h12 := RepSs.lens h10
                have h14 := RepSs.lens h2'
                have hwt : S.widths ((fs.map S.t).take k) = T.widths (fs.take k) := by rw [← List.map_take, S.widths_t]
                have h13 : S.widths ((fs.map S.t).set k f') = T.widths fs := by
                  rw [← S.widths_t, ← h12.1, ← h14.1, h11]
                  refine splice_length ?_
                  have := swidths_take_succ hk'
                  have := swidths_split (fs.map S.t) (k + 1)
                  simp only [Array.length_toList]; omega
                rw [hwt] at h11
                exact ⟨.agg cells'.toArray, by unfold RepS; exact ⟨cells', rfl, h10⟩, h11, h13, by simpa [Value.cells, S.width] using h12.1, by simpa [Value.cells] using h12.2⟩
        | lit _ => simp [S.at, T.at] at e
        | sl _ _ => simp [S.at, T.at] at e
    | _ => simp [S.at] at e
end
end Go.Proofs.Ytgjfkklemelejaa.Sy
