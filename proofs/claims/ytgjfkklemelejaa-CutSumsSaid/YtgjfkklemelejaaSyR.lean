/- From a contract of a law to what its statement asks. No condition. -/
import Derived.Test.YtgjfkklemelejaaSyL
namespace Go.Proofs.Ytgjfkklemelejaa.Sy
open Go.RowKit
set_option linter.unusedVariables false
set_option linter.unusedSimpArgs false
/-- All that lies in the heap can be read; nothing is handed over. -/
def lawG (w : World) : Gh := ⟨fun b => b < w.heap.size, fun _ => .bool false⟩
theorem law_run {P : Program} {f : FuncId} {ss : List S} {us : List Value} {w : World} (h : FnOk P f ss [] (.t (.bool true)) []) (hr : RepPs (lawG w) w ss us) :
    Calls P f us.toArray w fun e w' => e = .returned (.bool true) ∧ Below w.heap.size w w' := by
  have hn : ∀ l x, lkB [] l = some x → False := fun l x hx => by simp [lkB] at hx
  have hh : HeapOk (lawG w) w (lkB []) := ⟨fun l b hb => (hn l b hb).elim, fun l b k hb => (hn l b hb).elim, fun l l' b b' k hb => (hn l b hb).elim, fun b hb => hb⟩
  refine Calls.mono (h (lawG w) w us hh hr) ?_
  rintro e w' ⟨v, G', rfl, hf, _, hv⟩
  unfold RepS at hv; unfold Rep at hv
  refine ⟨by rw [hv.1], ⟨hf.os, hf.tape, hf.output, hf.size, fun b hb => hf.block b hb ?_⟩⟩
  rintro ⟨l, x, hx, _⟩
  exact hn l x hx
theorem reps_ints {F : Nat → Prop} {w : World} (k : IntKind) : ∀ l : List Int, Reps F w (l.map fun z => T.lit (.int k z)) (ints k l)
  | [] => by unfold Reps; rfl
  | z :: r => by
    simp only [List.map_cons, Reps]
    refine ⟨.int k z, ints k r, by simp [ints, Value.cells], ?_, reps_ints k r⟩
    unfold Rep; exact ⟨rfl, rfl⟩
theorem rep_irow {w : World} {k : IntKind} {x : Option Addr} {n cap : Nat} {l : List Int} (h : IRow k w x n cap l) : RepS (lawG w) w (.t (.sl 1 (l.map fun z => T.lit (.int k z)))) (.slice x n cap) := by
  unfold RepS; unfold Rep
  refine ⟨x, cap, ints k l, ?_, reps_ints k l, ?_, ?_⟩
  · rw [List.length_map, h.length]
  · intro y hy
    obtain ⟨z, _, rfl⟩ := List.mem_map.1 hy
    simp [T.width]
  · rw [List.length_map, h.length]
    exact ⟨h.le, h.capLe, h.len, h.nil, h.cells⟩
theorem rep_lit {w : World} {v : Value} (h : v.oneCell' = true) : RepS (lawG w) w (.t (.lit v)) v := by
  unfold RepS; unfold Rep; exact ⟨rfl, h⟩
theorem reps_cons {G : Gh} {w : World} {s : S} {ss : List S} {v : Value} {us : List Value} (h : RepS G w s v) (h2 : RepPs G w ss us) : RepPs G w (s :: ss) (v :: us) := by
  unfold RepPs; exact ⟨v, us, rfl, h, h2⟩
theorem reps_nil {G : Gh} {w : World} : RepPs G w [] [] := by unfold RepPs; rfl
end Go.Proofs.Ytgjfkklemelejaa.Sy
