/- Steps of symbolic states: a new block, a store, an append, a slice given up. No condition. -/
import Derived.Test.YtgjfkklemelejaaSyB
namespace Go.Proofs.Ytgjfkklemelejaa.Sy
open Go.RowKit
set_option linter.unusedVariables false
set_option linter.unusedSimpArgs false

def hput (h : Nat → Option Blk) (l : Nat) (b : Option Blk) : Nat → Option Blk := fun k => if k = l then b else h k
def bput (β : Nat → Value) (l : Nat) (v : Value) : Nat → Value := fun k => if k = l then v else β k
theorem bput_same (β : Nat → Value) (l : Nat) (v : Value) : bput β l v l = v := by simp [bput]
theorem bput_other {β : Nat → Value} {l k : Nat} (v : Value) (hk : k ≠ l) : bput β l v k = β k := by simp [bput, hk]

theorem cell_block {w w' : World} {b o : Nat} (h : w'.heap[b]? = w.heap[b]?) : w'.cell? ⟨b, o, none⟩ = w.cell? ⟨b, o, none⟩ := World.cell?_of_block (w := w) h

/-- What the call's own memory holds stays where no block of it is written. -/
theorem RepB.keep {G G' : Gh} {w w' : World} {nw : List Nat} {row : Option Nat} (K : Keep G w G' w' nw) {b : Blk} {u : Value} (hf : ∀ l ∈ nw, b.free l = true) (hg : w.grownBy w' row) (hr : ∀ k, hblk u = some k → row ≠ some k)
    (h : RepB G w b u) : RepB G' w' b u := by
  cases b with
  | list e s xs =>
    obtain ⟨x, cap, cells, rfl, h2, h3, h4⟩ := h
    refine ⟨x, cap, cells, rfl, Reps.mono K.fsub K.fcell xs cells h2, h3, ?_⟩
    refine World.ownsRow.kept h4 hg ?_
    cases x with
    | none => exact .inl rfl
    | some a => exact .inr (fun e => hr a.block rfl e.symm)
  | box e c =>
    obtain ⟨b, v, rfl, h2, h3, h4, h5⟩ := h
    refine ⟨b, v, rfl, RepS.keep K c v (fun l hl => by have := hf l hl; simpa [Blk.free] using this) h2, h3, h4, ?_⟩
    rw [hg.block b (lt_of_block h5) (fun e => hr b rfl e.symm)]
    exact h5

theorem World.grownBy_alloc (w : World) (o : Obj) : w.grownBy (w.alloc o) none := ⟨rfl, rfl, rfl, by simp, fun k hk _ => Below.heap_alloc w o k hk⟩
theorem World.grownBy_drew (w : World) : w.grownBy w.drew none := ⟨rfl, rfl, rfl, Nat.le_refl _, fun _ _ _ => rfl⟩

/-- A draw changes nothing. -/
theorem SatG.drew {N : Nat} {W : World} {G0 : Gh} {A : Nat → Prop} {G : Gh} {g : Nat → S} {h : Nat → Option Blk} {a : Act} {w : World} (s : SatG N W G0 A G g h a w) : SatG N W G0 A G g h a w.drew := by
  have K : Keep G w G w.drew [] := ⟨fun _ h => h, fun _ _ _ => rfl, fun _ _ => rfl⟩
  refine ⟨s.size, s.defers, fun t => RepS.keep K _ _ (by simp) (s.slots t), ⟨fun l b hl => RepB.keep K (by simp) (World.grownBy_drew w) (by simp) (s.heap.rep l b hl), s.heap.sep, s.heap.inj, s.heap.fb⟩, ?_⟩
  exact ⟨s.frm.os, s.frm.tape, s.frm.output, s.frm.size, s.frm.block, s.frm.own, s.frm.fin, s.frm.fout, s.frm.same⟩

/-- Memory is made, or one block of the call's own (that of the label l0) is written or left; the label d stands for what is new, at v. The label l0 goes unless it is d. -/
theorem Ext.mk' {G : Gh} {w w' : World} {h : Nat → Option Blk} (hok : HeapOk G w h) (row : Option Nat) (hg : w.grownBy w' row) (l0 : Option Nat)
    (hl0 : ∀ l, l0 = some l → ∃ b0, h l = some b0)
    (hrow : ∀ k, row = some k → ∃ l, l0 = some l ∧ hblk (G.β l) = some k) (d : Nat) (v : Value) (blk : Blk)
    (hd : l0 = some d ∨ h d = none) (nw : List Nat) (hnw : nw = [d] ∨ (nw = [] ∧ v = G.β d)) (hfree : ∀ k ∈ nw, ∀ l b, h l = some b → b.free k = true) (hv : ∀ k, hblk v = some k → (∃ l, l0 = some l ∧ hblk (G.β l) = some k) ∨ (w.heap.size ≤ k))
    (hrep : RepB ⟨G.F, bput G.β d v⟩ w' blk v) :
    Ext G w h ⟨G.F, bput G.β d v⟩ w' (fun k => if k = d then some blk else if l0 = some k then none else h k) nw := by
  have hcell : ∀ b o, G.F b → w'.cell? ⟨b, o, none⟩ = w.cell? ⟨b, o, none⟩ := by
    intro b o hb
    refine cell_block (hg.block b (hok.fb b hb) ?_)
    intro e
    obtain ⟨l, h1, h2⟩ := hrow b e.symm
    obtain ⟨b0, h3⟩ := hl0 l h1
    exact hok.sep l b0 b h3 h2 hb
  have K : Keep G w ⟨G.F, bput G.β d v⟩ w' nw := by
    refine ⟨fun _ h => h, hcell, fun l hl => ?_⟩
    rcases hnw with rfl | ⟨rfl, rfl⟩
    · exact bput_other v (by simpa using hl)
    · simp only [bput]
      split
      · subst_vars; rfl
      · rfl
  have other : ∀ l x, (if l = d then some blk else if l0 = some l then none else h l) = some x → (l = d ∧ x = blk) ∨ (l ≠ d ∧ l0 ≠ some l ∧ h l = some x) := by
    intro l x hx
    split at hx
    · simp at hx; exact .inl ⟨‹_›, hx.symm⟩
    · split at hx
      · cases hx
      · exact .inr ⟨‹_›, ‹_›, hx⟩
  have cross : ∀ l x k, l ≠ d → l0 ≠ some l → h l = some x → hblk (G.β l) = some k → hblk v = some k → False := by
    intro l x k h1 h2 h3 h4 h5
    rcases hv k h5 with ⟨l', h6, h7⟩ | h6
    · obtain ⟨b0, h8⟩ := hl0 l' h6
      have := hok.inj l l' x b0 k h3 h8 h4 h7
      subst this
      exact h2 h6
    · have := (hok.rep l x h3).lt h4
      omega
  refine ⟨K, ⟨?_, ?_, ?_, ?_⟩, hg.os, hg.tape, hg.output, hg.size, ?_, ?_, ?_⟩
  · intro l x hx
    rcases other l x hx with ⟨rfl, rfl⟩ | ⟨h1, h2, h3⟩
    · simp only [bput_same]; exact hrep
    · simp only [bput_other v h1]
      refine RepB.keep K (fun k hk => hfree k hk l x h3) hg ?_ (hok.rep l x h3)
      intro k hk e
      obtain ⟨l', h4, h5⟩ := hrow k e
      obtain ⟨b0, h6⟩ := hl0 l' h4
      have := hok.inj l l' x b0 k h3 h6 hk h5
      subst this
      exact h2 h4
  · intro l x k hx hk
    rcases other l x hx with ⟨rfl, rfl⟩ | ⟨h1, h2, h3⟩
    · simp only [bput_same] at hk
      intro hF
      rcases hv k hk with ⟨l', h4, h5⟩ | h4
      · obtain ⟨b0, h6⟩ := hl0 l' h4
        exact hok.sep l' b0 k h6 h5 hF
      · have := hok.fb k hF; omega
    · simp only [bput_other v h1] at hk
      exact hok.sep l x k h3 hk
  · intro l l' x x' k hx hx' hk hk'
    rcases other l x hx with ⟨rfl, rfl⟩ | ⟨h1, h2, h3⟩ <;> rcases other l' x' hx' with ⟨rfl, rfl⟩ | ⟨h1', h2', h3'⟩
    · rfl
    · simp only [bput_same] at hk; simp only [bput_other v h1'] at hk'
      exact (cross l' x' k h1' h2' h3' hk' hk).elim
    · simp only [bput_same] at hk'; simp only [bput_other v h1] at hk
      exact (cross l x k h1 h2 h3 hk hk').elim
    · simp only [bput_other v h1] at hk; simp only [bput_other v h1'] at hk'
      exact hok.inj l l' x x' k h3 h3' hk hk'
  · intro b hb
    exact Nat.lt_of_lt_of_le (hok.fb b hb) hg.size
  · intro b hb hno
    refine hg.block b hb ?_
    intro e
    obtain ⟨l, h1, h2⟩ := hrow b e.symm
    obtain ⟨b0, h3⟩ := hl0 l h1
    exact hno l b0 h3 h2
  · intro l x k hx hk
    rcases other l x hx with ⟨rfl, rfl⟩ | ⟨h1, h2, h3⟩
    · simp only [bput_same] at hk
      rcases hv k hk with ⟨l', h4, h5⟩ | h4
      · obtain ⟨b0, h6⟩ := hl0 l' h4
        exact .inl ⟨l', b0, h6, h5⟩
      · exact .inr h4
    · simp only [bput_other v h1] at hk
      exact .inl ⟨l, x, h3, hk⟩
  · intro b hb; exact .inl hb

/-- The label l is given up: what it held never changes again. -/
theorem Ext.freeze {G : Gh} {w : World} {h : Nat → Option Blk} (hok : HeapOk G w h) {l : Nat} {b0 : Blk} (hl : h l = some b0) :
    Ext G w h ⟨fun b => G.F b ∨ hblk (G.β l) = some b, G.β⟩ w (hput h l none) [] := by
  have K : Keep G w ⟨fun b => G.F b ∨ hblk (G.β l) = some b, G.β⟩ w [] := ⟨fun _ h => .inl h, fun _ _ _ => rfl, fun _ _ => rfl⟩
  have other : ∀ k x, hput h l none k = some x → k ≠ l ∧ h k = some x := by
    intro k x hx
    unfold hput at hx
    split at hx
    · cases hx
    · exact ⟨‹_›, hx⟩
  refine ⟨K, ⟨?_, ?_, ?_, ?_⟩, rfl, rfl, rfl, Nat.le_refl _, fun _ _ _ => rfl, ?_, ?_⟩
  · intro k x hx
    exact RepB.keep (row := none) K (by simp) ⟨rfl, rfl, rfl, Nat.le_refl _, fun _ _ _ => rfl⟩ (by simp) (hok.rep k x (other k x hx).2)
  · intro k x j hx hj hF
    have h1 := other k x hx
    rcases hF with hF | hF
    · exact hok.sep k x j h1.2 hj hF
    · exact h1.1 (hok.inj k l x b0 j h1.2 hl hj hF)
  · intro k k' x x' j hx hx' hj hj'
    exact hok.inj k k' x x' j (other k x hx).2 (other k' x' hx').2 hj hj'
  · intro b hb
    rcases hb with hb | hb
    · exact hok.fb b hb
    · exact (hok.rep l b0 hl).lt hb
  · intro k x j hx hj
    exact .inl ⟨k, x, (other k x hx).2, hj⟩
  · intro b hb
    rcases hb with hb | hb
    · exact .inl hb
    · exact .inr (.inl ⟨l, b0, hl, hb⟩)

/-- A slice of the call's own, read. -/
theorem Seg.of_own {F : Nat → Prop} {w : World} {e s n cap : Nat} {x : Option Addr} {cells : List Value} (h : w.ownsRow 0 e s (.slice x n cap) n cells) (hF : ∀ b, hblk (.slice x n cap) = some b → F b) : Seg F w x n cap s cells := by
  have hl := h.1
  rcases h.2 with ⟨hv, hn⟩ | ⟨g, cap', cur, hv, hB, hh, hc, hm, hs, ht⟩
  · cases hv
    exact ⟨Nat.le_refl _, by unfold maxLen; omega, hl, fun _ => rfl, .inl rfl⟩
  · cases hv
    refine ⟨hc, hm, hl, (fun e => by cases e), .inr ⟨g, 0, rfl, hF g rfl, fun j u hu => ?_⟩⟩
    rw [Nat.zero_add, cell_of_row w g j cur e (0, 0) hh]
    rw [← ht, List.getElem?_take] at hu
    split at hu
    · simpa using hu
    · cases hu
theorem rep_of_list {G : Gh} {w : World} {e s : Nat} {xs : List T} {u : Value} (h : RepB G w (.list e s xs) u) {F : Nat → Prop} (hF : ∀ b, G.F b → F b) (hu : ∀ b, hblk u = some b → F b) : Rep F w (.sl s xs) u := by
  obtain ⟨x, cap, cells, rfl, h2, h3, h4⟩ := h
  unfold Rep
  exact ⟨x, cap, cells, rfl, Reps.mono hF (fun _ _ _ => rfl) xs cells h2, h3, Seg.of_own h4 hu⟩
end Go.Proofs.Ytgjfkklemelejaa.Sy
