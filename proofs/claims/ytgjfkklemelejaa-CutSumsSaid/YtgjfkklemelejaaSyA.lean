/- Symbolic values: trees that stand for values in memory, and what it means that a value in a world reads as a tree. Definitions and their first laws. No condition. -/
import Derived.Test.YtgjfkklemelejaaLib
namespace Go.Proofs.Ytgjfkklemelejaa.Sy
open Go.RowKit
set_option linter.unusedVariables false
set_option linter.unusedSimpArgs false

/-- A value that does not change: one cell, a slice whose elements are s cells wide, or a struct or array of parts. -/
inductive T where
  | lit (v : Value)
  | sl (s : Nat) (xs : List T)
  | agg (fs : List T)
  deriving Inhabited

abbrev T.int (n : Int) : T := .lit (.int .i64 n)
abbrev T.bool (b : Bool) : T := .lit (.bool b)
abbrev T.nil : T := .lit (.slice none 0 0)

mutual
def T.width : T → Nat
  | .lit _ => 1
  | .sl _ _ => 1
  | .agg fs => T.widths fs
def T.widths : List T → Nat
  | [] => 0
  | x :: r => x.width + T.widths r
end

/-- What a slot holds: nothing that is known, a tree, an address at which a tree can be read, a slice of the call's own, an address within memory of the call's own, a struct with parts of its own, several results, a function with what it has captured. -/
inductive S where
  | dead
  | t (x : T)
  | rp (x : T)
  | own (l : Nat)
  | pt (l : Nat) (p : List Nat) (off : Nat)
  | ag (fs : List S)
  | tup (vs : List S)
  | fn (f : FuncId) (caps : List S)
  | fb (f : FuncId) (fs : List S)
  deriving Inhabited

/-- Memory of the call's own: a slice's elements (their type, their width), or a variable. -/
inductive Blk where
  | list (e : TypeId) (s : Nat) (xs : List T)
  | box (e : TypeId) (c : S)
  deriving Inhabited

/-- n elements of s cells can be read from address x on. -/
structure Seg (F : Nat → Prop) (w : World) (x : Option Addr) (n cap s : Nat) (cells : List Value) : Prop where
  le : n ≤ cap
  capLe : cap ≤ maxLen
  len : cells.length = n * s
  nil : x = none → cap = 0
  cells : n = 0 ∨ ∃ b off, x = some ⟨b, off, none⟩ ∧ F b ∧ ∀ j u, cells[j]? = some u → w.cell? ⟨b, off + j, none⟩ = some u

mutual
def Rep (F : Nat → Prop) (w : World) : T → Value → Prop
  | .lit v, u => u = v ∧ v.oneCell' = true
  | .sl s xs, u => ∃ x cap cells, u = .slice x xs.length cap ∧ Reps F w xs cells ∧ (∀ y ∈ xs, y.width = s) ∧ Seg F w x xs.length cap s cells
  | .agg fs, u => ∃ cells : List Value, u = .agg cells.toArray ∧ Reps F w fs cells
def Reps (F : Nat → Prop) (w : World) : List T → List Value → Prop
  | [], cs => cs = []
  | x :: r, cs => ∃ v cs', cs = v.cells.toList ++ cs' ∧ Rep F w x v ∧ Reps F w r cs'
end

theorem Seg.mono {F F' : Nat → Prop} {w w' : World} {x : Option Addr} {n cap s : Nat} {cells : List Value} (hF : ∀ b, F b → F' b) (hc : ∀ b o, F b → w'.cell? ⟨b, o, none⟩ = w.cell? ⟨b, o, none⟩)
    (h : Seg F w x n cap s cells) : Seg F' w' x n cap s cells := by
  refine ⟨h.le, h.capLe, h.len, h.nil, ?_⟩
  rcases h.cells with h0 | ⟨b, off, hx, hb, hr⟩
  · exact .inl h0
  · exact .inr ⟨b, off, hx, hF b hb, fun j u hu => (hc b _ hb).trans (hr j u hu)⟩

section
variable {F F' : Nat → Prop} {w w' : World}
mutual
theorem Rep.mono (hF : ∀ b, F b → F' b) (hc : ∀ b o, F b → w'.cell? ⟨b, o, none⟩ = w.cell? ⟨b, o, none⟩) : ∀ (x : T) (u : Value), Rep F w x u → Rep F' w' x u
  | .lit v, u, h => by unfold Rep at *; exact h
  | .sl s xs, u, h => by
    unfold Rep at *
    obtain ⟨x, cap, cells, h1, h2, h3, h4⟩ := h
    exact ⟨x, cap, cells, h1, Reps.mono hF hc xs cells h2, h3, h4.mono hF hc⟩
  | .agg fs, u, h => by
    unfold Rep at *
    obtain ⟨cells, h1, h2⟩ := h
    exact ⟨cells, h1, Reps.mono hF hc fs cells h2⟩
theorem Reps.mono (hF : ∀ b, F b → F' b) (hc : ∀ b o, F b → w'.cell? ⟨b, o, none⟩ = w.cell? ⟨b, o, none⟩) : ∀ (xs : List T) (cs : List Value), Reps F w xs cs → Reps F' w' xs cs
  | [], cs, h => by unfold Reps at *; exact h
  | x :: r, cs, h => by
    unfold Reps at *
    obtain ⟨v, cs', h1, h2, h3⟩ := h
    exact ⟨v, cs', h1, Rep.mono hF hc x v h2, Reps.mono hF hc r cs' h3⟩
end
end

theorem cells_one {v : Value} (h : v.oneCell' = true) : v.cells = #[v] := by
  cases v <;> first | rfl | (simp [Value.oneCell'] at h)

theorem drop_app {α : Type} {a b : List α} {m : Nat} (h : a.length = m) (n : Nat) : (a ++ b).drop (m + n) = b.drop n := by
  subst h; rw [← List.drop_drop, List.drop_left]
theorem take_app {α : Type} {a b : List α} {m : Nat} (h : a.length = m) (n : Nat) : (a ++ b).take (m + n) = a ++ b.take n := by
  subst h; rw [List.take_append, List.take_of_length_le (by omega), Nat.add_sub_cancel_left]

section
variable {F : Nat → Prop} {w : World}
mutual
theorem Rep.width : ∀ (x : T) (u : Value), Rep F w x u → u.cells.size = x.width
  | .lit v, u, h => by
    unfold Rep at h
    obtain ⟨rfl, h1⟩ := h
    rw [cells_one h1]; rfl
  | .sl s xs, u, h => by
    unfold Rep at h
    obtain ⟨x, cap, cells, rfl, _⟩ := h
    rfl
  | .agg fs, u, h => by
    unfold Rep at h
    obtain ⟨cells, rfl, h2⟩ := h
    have := Reps.widths fs cells h2
    simpa [Value.cells, T.width] using this
theorem Reps.widths : ∀ (xs : List T) (cs : List Value), Reps F w xs cs → cs.length = T.widths xs
  | [], cs, h => by unfold Reps at h; subst h; rfl
  | x :: r, cs, h => by
    unfold Reps at h
    obtain ⟨v, cs', rfl, h2, h3⟩ := h
    have h4 := Rep.width x v h2
    have h5 := Reps.widths r cs' h3
    simp [T.widths, h5, h4]
end
mutual
theorem Rep.one : ∀ (x : T) (u : Value), Rep F w x u → ∀ c ∈ u.cells.toList, c.oneCell' = true
  | .lit v, u, h => by
    unfold Rep at h
    obtain ⟨rfl, h1⟩ := h
    rw [cells_one h1]; simpa using h1
  | .sl s xs, u, h => by
    unfold Rep at h
    obtain ⟨x, cap, cells, rfl, _⟩ := h
    intro c hc
    simp [Value.cells] at hc; subst hc; rfl
  | .agg fs, u, h => by
    unfold Rep at h
    obtain ⟨cells, rfl, h2⟩ := h
    simpa [Value.cells] using Reps.one fs cells h2
theorem Reps.one : ∀ (xs : List T) (cs : List Value), Reps F w xs cs → ∀ c ∈ cs, c.oneCell' = true
  | [], cs, h => by unfold Reps at h; subst h; simp
  | x :: r, cs, h => by
    unfold Reps at h
    obtain ⟨v, cs', rfl, h2, h3⟩ := h
    intro c hc
    rcases List.mem_append.1 hc with hc | hc
    · exact Rep.one x v h2 c hc
    · exact Reps.one r cs' h3 c hc
end

theorem Reps.append : ∀ {xs ys : List T} {cs ds : List Value}, Reps F w xs cs → Reps F w ys ds → Reps F w (xs ++ ys) (cs ++ ds)
  | [], ys, cs, ds, h1, h2 => by unfold Reps at h1; subst h1; exact h2
  | x :: r, ys, cs, ds, h1, h2 => by
    unfold Reps at h1
    obtain ⟨v, cs', rfl, h3, h4⟩ := h1
    show Reps F w (x :: (r ++ ys)) _
    unfold Reps
    exact ⟨v, cs' ++ ds, by simp, h3, Reps.append h4 h2⟩

/-- The part at a place. -/
theorem Reps.get : ∀ {xs : List T} {cs : List Value} {i : Nat} {x : T}, Reps F w xs cs → xs[i]? = some x →
    ∃ v, Rep F w x v ∧ (∀ j c, v.cells.toList[j]? = some c → cs[T.widths (xs.take i) + j]? = some c) ∧ cs.drop (T.widths (xs.take i)) = v.cells.toList ++ cs.drop (T.widths (xs.take (i + 1)))
  | [], cs, i, x, _, h => by simp at h
  | y :: r, cs, 0, x, h, hx => by
    simp at hx; subst hx
    unfold Reps at h
    obtain ⟨v, cs', rfl, h2, h3⟩ := h
    have hw := Rep.width y v h2
    refine ⟨v, h2, ?_, ?_⟩
    · intro j c hj
      simp only [List.take_zero, T.widths, Nat.zero_add]
      rw [List.getElem?_append_left (List.getElem?_eq_some_iff.1 hj).1]; exact hj
    · have : v.cells.toList.length = y.width := by simpa using hw
      simp [T.widths, ← this]
  | y :: r, cs, i + 1, x, h, hx => by
    unfold Reps at h
    obtain ⟨v, cs', rfl, h2, h3⟩ := h
    have hw := Rep.width y v h2
    have hl : v.cells.toList.length = y.width := by simpa using hw
    obtain ⟨u, hu, hu2, hu3⟩ := Reps.get (i := i) (x := x) h3 (by simpa using hx)
    refine ⟨u, hu, ?_, ?_⟩
    · intro j c hj
      have := hu2 j c hj
      simp only [List.take_succ_cons, T.widths]
      rw [List.getElem?_append_right (by omega), hl, show y.width + T.widths (List.take i r) + j - y.width = T.widths (List.take i r) + j by omega]
      exact this
    · simp only [List.take_succ_cons, T.widths]
      rw [drop_app hl, drop_app hl]
      exact hu3

theorem widths_const {s : Nat} : ∀ {xs : List T}, (∀ y ∈ xs, y.width = s) → T.widths xs = xs.length * s
  | [], _ => by simp [T.widths]
  | x :: r, h => by
    have := widths_const (s := s) (xs := r) fun y hy => h y (by simp [hy])
    simp [T.widths, this, h x (by simp), Nat.add_mul]; omega
theorem widths_take_const {s i : Nat} {xs : List T} (h : ∀ y ∈ xs, y.width = s) (hi : i ≤ xs.length) : T.widths (xs.take i) = i * s := by
  rw [widths_const (s := s) fun y hy => h y (List.mem_of_mem_take hy), List.length_take, Nat.min_eq_left hi]
theorem widths_append : ∀ (xs ys : List T), T.widths (xs ++ ys) = T.widths xs + T.widths ys
  | [], ys => by simp [T.widths]
  | x :: r, ys => by simp [T.widths, widths_append r ys]; omega
theorem widths_take_succ {xs : List T} {i : Nat} {x : T} (h : xs[i]? = some x) : T.widths (xs.take (i + 1)) = T.widths (xs.take i) + x.width := by
  rw [take_snoc h, widths_append]; simp [T.widths]

/-- The parts taken on their own. -/
theorem Reps.split : ∀ {xs : List T} {cs : List Value} (i : Nat), Reps F w xs cs → Reps F w (xs.take i) (cs.take (T.widths (xs.take i))) ∧ Reps F w (xs.drop i) (cs.drop (T.widths (xs.take i)))
  | xs, cs, 0, h => by simp [T.widths]; exact ⟨by unfold Reps; rfl, h⟩
  | [], cs, i + 1, h => by unfold Reps at h; subst h; simp; unfold Reps; rfl
  | x :: r, cs, i + 1, h => by
    unfold Reps at h
    obtain ⟨v, cs', rfl, h2, h3⟩ := h
    have hw := Rep.width x v h2
    have hl : v.cells.toList.length = x.width := by simpa using hw
    obtain ⟨h4, h5⟩ := Reps.split i h3
    simp only [List.take_succ_cons, List.drop_succ_cons, T.widths]
    rw [take_app hl, drop_app hl]
    refine ⟨?_, h5⟩
    unfold Reps
    exact ⟨v, _, rfl, h2, h4⟩

/-- One part replaced by another one of its width. -/
theorem Reps.set {xs : List T} {cs : List Value} {i : Nat} {x y : T} {u : Value} (h : Reps F w xs cs) (hx : xs[i]? = some x) (hy : Rep F w y u) (hw : y.width = x.width) :
    Reps F w (xs.set i y) (cs.take (T.widths (xs.take i)) ++ (u.cells.toList ++ cs.drop (T.widths (xs.take i) + x.width))) := by
  have h1 := (Reps.split i h).1
  have h2 := (Reps.split (i + 1) h).2
  rw [widths_take_succ hx] at h2
  have hlt := (List.getElem?_eq_some_iff.1 hx).1
  rw [List.set_eq_take_append_cons_drop, if_pos hlt]
  refine Reps.append h1 ?_
  unfold Reps
  exact ⟨u, _, rfl, hy, h2⟩
end
end Go.Proofs.Ytgjfkklemelejaa.Sy
