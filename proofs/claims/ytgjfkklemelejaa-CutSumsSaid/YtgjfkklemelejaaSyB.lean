/- Symbolic states: what the slots hold and what the call's own memory holds, and what it means that a frame and a world are as such a state says. Definitions and their first laws. No condition. -/
import Derived.Test.YtgjfkklemelejaaSyA
namespace Go.Proofs.Ytgjfkklemelejaa.Sy
open Go.RowKit
set_option linter.unusedVariables false
set_option linter.unusedSimpArgs false

/-- The block of a slice or a pointer. -/
def hblk : Value → Option Nat
  | .slice (some a) _ _ => some a.block
  | .pointer (some a) => some a.block
  | _ => none

mutual
def S.width : S → Nat
  | .t x => x.width
  | .ag fs => S.widths fs
  | _ => 1
def S.widths : List S → Nat
  | [] => 0
  | x :: r => x.width + S.widths r
end
mutual
def S.free (l : Nat) : S → Bool
  | .own k => k != l
  | .pt k _ _ => k != l
  | .ag fs => S.frees l fs
  | .tup fs => S.frees l fs
  | .fn _ fs => S.frees l fs
  | .fb _ fs => S.frees l fs
  | _ => true
def S.frees (l : Nat) : List S → Bool
  | [] => true
  | x :: r => x.free l && S.frees l r
end
def Blk.free (l : Nat) : Blk → Bool
  | .list _ _ _ => true
  | .box _ c => c.free l

/-- Which blocks never change, and where the call's own memory lies. -/
structure Gh where
  F : Nat → Prop
  β : Nat → Value

mutual
def RepS (G : Gh) (w : World) : S → Value → Prop
  | .dead, _ => True
  | .t x, u => Rep G.F w x u
  | .rp x, u => ∃ b off v, u = .pointer (some ⟨b, off, none⟩) ∧ G.F b ∧ Rep G.F w x v ∧ ∀ j c, v.cells.toList[j]? = some c → w.cell? ⟨b, off + j, none⟩ = some c
  | .own l, u => u = G.β l ∧ ∃ x n cap, u = .slice x n cap
  | .pt l _ off, u => ∃ b, hblk (G.β l) = some b ∧ u = .pointer (some ⟨b, off, none⟩)
  | .ag fs, u => ∃ cells : List Value, u = .agg cells.toArray ∧ RepSs G w fs cells
  | .tup fs, u => ∃ us : List Value, u = .tuple us.toArray ∧ RepPs G w fs us
  | .fn f fs, u => ∃ us : List Value, u = .func (.func f) #[] us.toArray ∧ RepPs G w fs us
  | .fb f fs, u => ∃ us : List Value, u = .func (.func f) us.toArray #[] ∧ RepPs G w fs us
def RepSs (G : Gh) (w : World) : List S → List Value → Prop
  | [], cs => cs = []
  | x :: r, cs => ∃ v cs', cs = v.cells.toList ++ cs' ∧ v.cells.size = x.width ∧ (∀ c ∈ v.cells.toList, c.oneCell' = true) ∧ RepS G w x v ∧ RepSs G w r cs'
def RepPs (G : Gh) (w : World) : List S → List Value → Prop
  | [], us => us = []
  | x :: r, us => ∃ v us', us = v :: us' ∧ RepS G w x v ∧ RepPs G w r us'
end

section
variable {G G' : Gh} {w w' : World} {nw : List Nat}
structure Keep (G : Gh) (w : World) (G' : Gh) (w' : World) (nw : List Nat) : Prop where
  fsub : ∀ b, G.F b → G'.F b
  fcell : ∀ b o, G.F b → w'.cell? ⟨b, o, none⟩ = w.cell? ⟨b, o, none⟩
  same : ∀ l, l ∉ nw → G'.β l = G.β l

theorem Keep.refl (G : Gh) (w : World) : Keep G w G w [] := ⟨fun _ h => h, fun _ _ _ => rfl, fun _ _ => rfl⟩

mutual
theorem RepS.keep (K : Keep G w G' w' nw) : ∀ (s : S) (u : Value), (∀ l ∈ nw, s.free l = true) → RepS G w s u → RepS G' w' s u
  | .dead, u, _, h => by unfold RepS; trivial
  | .t x, u, _, h => by unfold RepS at *; exact Rep.mono K.fsub K.fcell x u h
  | .rp x, u, _, h => by
    unfold RepS at *
    obtain ⟨b, off, v, h1, h2, h3, h4⟩ := h
    exact ⟨b, off, v, h1, K.fsub b h2, Rep.mono K.fsub K.fcell x v h3, fun j c hj => (K.fcell b _ h2).trans (h4 j c hj)⟩
  | .own l, u, hf, h => by
    unfold RepS at *
    refine ⟨?_, h.2⟩
    rw [h.1, K.same l fun hl => ?_]
    have := hf l hl
    simp [S.free] at this
  | .pt l p off, u, hf, h => by
    unfold RepS at *
    obtain ⟨b, h1, h2⟩ := h
    refine ⟨b, ?_, h2⟩
    rw [K.same l fun hl => ?_, h1]
    have := hf l hl
    simp [S.free] at this
  | .ag fs, u, hf, h => by
    unfold RepS at *
    obtain ⟨cells, h1, h2⟩ := h
    exact ⟨cells, h1, RepSs.keep K fs cells (fun l hl => by have := hf l hl; simpa [S.free] using this) h2⟩
  | .tup fs, u, hf, h => by
    unfold RepS at *
    obtain ⟨cells, h1, h2⟩ := h
    exact ⟨cells, h1, RepPs.keep K fs cells (fun l hl => by have := hf l hl; simpa [S.free] using this) h2⟩
  | .fn f fs, u, hf, h => by
    unfold RepS at *
    obtain ⟨cells, h1, h2⟩ := h
    exact ⟨cells, h1, RepPs.keep K fs cells (fun l hl => by have := hf l hl; simpa [S.free] using this) h2⟩
  | .fb f fs, u, hf, h => by
    unfold RepS at *
    obtain ⟨cells, h1, h2⟩ := h
    exact ⟨cells, h1, RepPs.keep K fs cells (fun l hl => by have := hf l hl; simpa [S.free] using this) h2⟩
theorem RepSs.keep (K : Keep G w G' w' nw) : ∀ (fs : List S) (cs : List Value), (∀ l ∈ nw, S.frees l fs = true) → RepSs G w fs cs → RepSs G' w' fs cs
  | [], cs, _, h => by unfold RepSs at *; exact h
  | x :: r, cs, hf, h => by
    unfold RepSs at *
    obtain ⟨v, cs', h1, h2, h3, h4, h5⟩ := h
    have hf' : ∀ l ∈ nw, x.free l = true ∧ S.frees l r = true := fun l hl => by have := hf l hl; simpa [S.frees] using this
    exact ⟨v, cs', h1, h2, h3, RepS.keep K x v (fun l hl => (hf' l hl).1) h4, RepSs.keep K r cs' (fun l hl => (hf' l hl).2) h5⟩
theorem RepPs.keep (K : Keep G w G' w' nw) : ∀ (fs : List S) (cs : List Value), (∀ l ∈ nw, S.frees l fs = true) → RepPs G w fs cs → RepPs G' w' fs cs
  | [], cs, _, h => by unfold RepPs at *; exact h
  | x :: r, cs, hf, h => by
    unfold RepPs at *
    obtain ⟨v, cs', h1, h4, h5⟩ := h
    have hf' : ∀ l ∈ nw, x.free l = true ∧ S.frees l r = true := fun l hl => by have := hf l hl; simpa [S.frees] using this
    exact ⟨v, cs', h1, RepS.keep K x v (fun l hl => (hf' l hl).1) h4, RepPs.keep K r cs' (fun l hl => (hf' l hl).2) h5⟩
end
end

/-- What a block of the call's own holds. -/
def RepB (G : Gh) (w : World) : Blk → Value → Prop
  | .list e s xs, u => ∃ x cap cells, u = .slice x xs.length cap ∧ Reps G.F w xs cells ∧ (∀ y ∈ xs, y.width = s) ∧ w.ownsRow 0 e s u xs.length cells
  | .box e c, u => ∃ b v, u = .pointer (some ⟨b, 0, none⟩) ∧ RepS G w c v ∧ v.cells.size = c.width ∧ (∀ x ∈ v.cells.toList, x.oneCell' = true) ∧ w.heap[b]? = some (.cells v.cells e (0, 0))

/-- The call's own memory is as h says. -/
structure HeapOk (G : Gh) (w : World) (h : Nat → Option Blk) : Prop where
  rep : ∀ l b, h l = some b → RepB G w b (G.β l)
  sep : ∀ l b k, h l = some b → hblk (G.β l) = some k → ¬ G.F k
  inj : ∀ l l' b b' k, h l = some b → h l' = some b' → hblk (G.β l) = some k → hblk (G.β l') = some k → l = l'
  fb : ∀ b, G.F b → b < w.heap.size

theorem RepB.lt {G : Gh} {w : World} {b : Blk} {u : Value} {k : Nat} (h : RepB G w b u) (hk : hblk u = some k) : k < w.heap.size := by
  cases b with
  | list e s xs =>
    obtain ⟨x, cap, cells, rfl, _, _, h4⟩ := h
    rcases h4.2 with ⟨hv, _⟩ | ⟨g, cap', cur, hv, _, hh, _⟩
    · rw [hv] at hk; simp [hblk] at hk
    · rw [hv] at hk; simp [hblk] at hk; subst hk; exact lt_of_block hh
  | box e c =>
    obtain ⟨b, v, rfl, _, _, _, hh⟩ := h
    simp [hblk] at hk; subst hk; exact lt_of_block hh

/-- Where the call began: what was there and is not its own has not changed. -/
structure From (W : World) (G0 : Gh) (A : Nat → Prop) (G : Gh) (w : World) (h : Nat → Option Blk) : Prop where
  os : w.os = W.os
  tape : w.tape = W.tape
  output : w.output = W.output
  size : W.heap.size ≤ w.heap.size
  block : ∀ b, b < W.heap.size → ¬ A b → w.heap[b]? = W.heap[b]?
  own : ∀ l b k, h l = some b → hblk (G.β l) = some k → A k ∨ W.heap.size ≤ k
  fin : ∀ b, G0.F b → G.F b
  fout : ∀ b, G.F b → G0.F b ∨ A b ∨ W.heap.size ≤ b
  same : ∀ l, l < 100 → G.β l = G0.β l

/-- A frame and a world are as the symbolic state says. -/
structure SatG (N : Nat) (W : World) (G0 : Gh) (A : Nat → Prop) (G : Gh) (g : Nat → S) (h : Nat → Option Blk) (a : Act) (w : World) : Prop where
  size : a.tmps.size = N
  defers : a.defers = []
  slots : ∀ t, RepS G w (g t) (a.tmps.getD t undef)
  heap : HeapOk G w h
  frm : From W G0 A G w h
def SatF (N : Nat) (W : World) (G0 : Gh) (A : Nat → Prop) (g : Nat → S) (h : Nat → Option Blk) (a : Act) (w : World) : Prop := ∃ G, SatG N W G0 A G g h a w

/-- A step from G, w, h to G', w', h' that leaves what is not the call's own. -/
structure Ext (G : Gh) (w : World) (h : Nat → Option Blk) (G' : Gh) (w' : World) (h' : Nat → Option Blk) (nw : List Nat) : Prop where
  keep : Keep G w G' w' nw
  heap : HeapOk G' w' h'
  os : w'.os = w.os
  tape : w'.tape = w.tape
  output : w'.output = w.output
  size : w.heap.size ≤ w'.heap.size
  block : ∀ b, b < w.heap.size → (∀ l x, h l = some x → hblk (G.β l) ≠ some b) → w'.heap[b]? = w.heap[b]?
  own : ∀ l x k, h' l = some x → hblk (G'.β l) = some k → (∃ l0 x0, h l0 = some x0 ∧ hblk (G.β l0) = some k) ∨ w.heap.size ≤ k
  fnew : ∀ b, G'.F b → G.F b ∨ (∃ l0 x0, h l0 = some x0 ∧ hblk (G.β l0) = some b) ∨ w.heap.size ≤ b

theorem Ext.refl {G : Gh} {w : World} {h : Nat → Option Blk} (hh : HeapOk G w h) : Ext G w h G w h [] :=
  ⟨Keep.refl G w, hh, rfl, rfl, rfl, Nat.le_refl _, fun _ _ _ => rfl, fun l x k h1 h2 => .inl ⟨l, x, h1, h2⟩, fun b hb => .inl hb⟩

theorem From.ext {W : World} {G0 : Gh} {A : Nat → Prop} {G G' : Gh} {w w' : World} {h h' : Nat → Option Blk} {nw : List Nat} (f : From W G0 A G w h) (x : Ext G w h G' w' h' nw) (hn : ∀ l ∈ nw, 100 ≤ l) : From W G0 A G' w' h' := by
  refine ⟨x.os.trans f.os, x.tape.trans f.tape, x.output.trans f.output, Nat.le_trans f.size x.size, ?_, ?_, fun b hb => x.keep.fsub b (f.fin b hb), ?_, fun l hl => (x.keep.same l (fun hm => by have := hn l hm; omega)).trans (f.same l hl)⟩
  · intro b hb hA
    rw [x.block b (Nat.lt_of_lt_of_le hb f.size) ?_]
    · exact f.block b hb hA
    · intro l y hl hk
      rcases f.own l y b hl hk with h1 | h1
      · exact hA h1
      · omega
  · intro l y k hl hk
    rcases x.own l y k hl hk with ⟨l0, x0, h1, h2⟩ | h1
    · exact f.own l0 x0 k h1 h2
    · exact .inr (Nat.le_trans f.size h1)
  · intro b hb
    rcases x.fnew b hb with h1 | ⟨l0, x0, h1, h2⟩ | h1
    · exact f.fout b h1
    · rcases f.own l0 x0 b h1 h2 with h3 | h3
      · exact .inr (.inl h3)
      · exact .inr (.inr h3)
    · exact .inr (.inr (Nat.le_trans f.size h1))

def gput (g : Nat → S) (d : Option Tmp) (r : S) : Nat → S := match d with | some t => fun k => if k = t then r else g k | none => g

theorem getD_put {a : Act} {d : Option Tmp} {v : Value} {t : Nat} : (a.put d v).tmps.getD t undef = if d = some t ∧ t < a.tmps.size then v else a.tmps.getD t undef := by
  cases d with
  | none => simp [Act.put]
  | some k =>
    simp only [Act.put, Array.getD_eq_getD_getElem?, Array.getElem?_setIfInBounds, Option.some.injEq]
    by_cases e : k = t
    · subst e
      by_cases hl : k < a.tmps.size
      · simp [hl]
      · simp [hl]
    · simp [e]

/-- THE STEP: what an operation leaves is as the state behind it says. -/
theorem SatG.step {N : Nat} {W : World} {G0 : Gh} {A : Nat → Prop} {G G' : Gh} {g : Nat → S} {h h' : Nat → Option Blk} {a : Act} {w w' : World} {nw : List Nat} {d : Option Tmp} {r : S} {v : Value}
    (s : SatG N W G0 A G g h a w) (x : Ext G w h G' w' h' nw) (hn : ∀ l ∈ nw, 100 ≤ l) (hf : ∀ l ∈ nw, ∀ t, (g t).free l = true) (hr : RepS G' w' r v) (hd : ∀ t, d = some t → t < N) : SatG N W G0 A G' (gput g d r) h' (a.put d v) w' := by
  refine ⟨?_, ?_, ?_, x.heap, s.frm.ext x hn⟩
  · cases d <;> simp [Act.put, s.size]
  · cases d <;> simp [Act.put, s.defers]
  · intro t
    rw [getD_put]
    cases d with
    | none => simpa [gput] using RepS.keep x.keep (g t) _ (fun l hl => hf l hl t) (s.slots t)
    | some k =>
      by_cases e : t = k
      · subst e
        have := hd t rfl
        simp [gput, s.size, this]; exact hr
      · simp [gput, e, Ne.symm e]
        simpa using RepS.keep x.keep (g t) _ (fun l hl => hf l hl t) (s.slots t)
end Go.Proofs.Ytgjfkklemelejaa.Sy
