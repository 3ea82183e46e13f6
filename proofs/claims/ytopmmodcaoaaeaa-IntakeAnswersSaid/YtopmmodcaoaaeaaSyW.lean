/- Lists whose elements own slices: an element is opened, and shut again; a plain list becomes such a list. No condition. -/
import Derived.Test.YtopmmodcaoaaeaaSyR
namespace Go.Proofs.Ytopmmodcaoaaeaa.Sy
open Go.RowKit
set_option linter.unusedVariables false
set_option linter.unusedSimpArgs false
section
variable {N : Nat} {W : World} {G0 : Gh} {A : Nat → Prop} {G : Gh} {w : World} {g : Nat → S} {h : Nat → Option Blk} {a : Act}
/-- What a block of the call's own is said to hold, said otherwise. -/
theorem SatG.alter (hs : SatG N W G0 A G g h a w) {l : Nat} {b b' : Blk} (hl : h l = some b) (h1 : RepB G w b' (G.β l)) (h2 : Inn G w b' (G.β l) (G.φ l)) : SatG N W G0 A G g (hput h l (some b')) a w := by
  have other : ∀ k x, hput h l (some b') k = some x → (k = l ∧ x = b') ∨ (k ≠ l ∧ h k = some x) := by
    intro k x hx
    unfold hput at hx
    split at hx
    · exact .inl ⟨‹_›, (Option.some.inj hx).symm⟩
    · exact .inr ⟨‹_›, hx⟩
  have some' : ∀ k x, hput h l (some b') k = some x → ∃ y, h k = some y := by
    intro k x hx
    rcases other k x hx with ⟨rfl, _⟩ | ⟨_, h3⟩
    · exact ⟨b, hl⟩
    · exact ⟨x, h3⟩
  refine ⟨hs.size, hs.defers, hs.slots, ⟨?_, ?_, ?_, ?_, hs.heap.fb⟩, ⟨hs.frm.os, hs.frm.tape, hs.frm.output, hs.frm.size, hs.frm.block, ?_, hs.frm.fin, hs.frm.fout, hs.frm.same⟩⟩
  · intro k x hx
    rcases other k x hx with ⟨rfl, rfl⟩ | ⟨_, h3⟩
    · exact h1
    · exact hs.heap.rep k x h3
  · intro k x hx
    rcases other k x hx with ⟨rfl, rfl⟩ | ⟨_, h3⟩
    · exact h2
    · exact hs.heap.inn k x h3
  · intro k x j hx hj
    obtain ⟨y, hy⟩ := some' k x hx
    exact hs.heap.sep k y j hy hj
  · intro k k' x x' j hx hx' hj hj'
    obtain ⟨y, hy⟩ := some' k x hx
    obtain ⟨y', hy'⟩ := some' k' x' hx'
    exact hs.heap.inj k k' y y' j hy hy' hj hj'
  · intro k x j hx hj
    obtain ⟨y, hy⟩ := some' k x hx
    exact hs.frm.own k y j hy hj

/-- A tree said as an element that owns a slice: nothing but nil slices turn into slices of its own. -/
def relTU : T → U → Prop
  | .lit (.slice none 0 0), .ow _ _ [] => True
  | .agg xs, .fw fs _ _ [] => xs = fs ++ [.nil]
  | x, .t y => x = y
  | _, _ => False
theorem repU_of (x : T) (u : U) (v : Value) (h : relTU x u) (hr : Rep G.F w x v) : RepU G w u v none := by
  unfold relTU at h
  split at h
  · unfold Rep at hr
    rw [hr.1]
    exact ⟨⟨none, 0, [], rfl, by unfold Reps; rfl, by simp, World.ownsRow_nil _ _ _ _⟩, rfl⟩
  · rename_i xs fs e s
    subst h
    unfold Rep at hr
    obtain ⟨cells, rfl, h2⟩ := hr
    have h3 := Reps.split fs.length h2
    rw [List.take_left, List.drop_left] at h3
    obtain ⟨h4, h5⟩ := h3
    unfold Reps at h5
    obtain ⟨v', cs', h6, h7, h8⟩ := h5
    unfold Reps at h8
    subst h8
    unfold Rep at h7
    rw [h7.1] at h6
    refine ⟨_, .slice none 0 0, ?_, h4, ⟨none, 0, [], rfl, by unfold Reps; rfl, by simp, World.ownsRow_nil _ _ _ _⟩, rfl⟩
    have h9 : cells = cells.take (T.widths fs) ++ [.slice none 0 0] := by
      conv => lhs; rw [← List.take_append_drop (T.widths fs) cells, h6]
      rfl
    rw [← h9]
  · subst h
    exact ⟨hr, rfl⟩
  · exact h.elim
theorem RepU.frame {G' : Gh} (hF : ∀ b, G.F b → G'.F b) {u : U} {v : Value} {k : Option Nat} (h : RepU G w u v k) : RepU G' w u v k := h.mono hF

/-- A plain list becomes a list whose elements may own slices. -/
theorem SatG.toRows (hs : SatG N W G0 A G g h a w) {l e s : Nat} {xs : List T} {us : List U} (hl : h l = some (.list e s xs)) (hlen : us.length = xs.length) (hus : ∀ (i : Nat) (x : T) (u : U), xs[i]? = some x → us[i]? = some u → relTU x u) :
    SatG N W G0 A G g (hput h l (some (.rows e s us []))) a w := by
  obtain ⟨x, cap, cells, h1, h2, h3, h4⟩ := hs.heap.rep l _ hl
  have h5 := hs.heap.inn l _ hl
  refine hs.alter hl ⟨x, cap, cells, by rw [h1, hlen], by rw [hlen]; exact h4⟩ ⟨cells, fun _ => none, by rw [hlen]; exact h4, ?_, fun k => ⟨fun hk => (h5 k hk).elim, fun ⟨i, hi⟩ => by cases hi⟩, (fun i j k hk => by cases hk), (fun i k hk => by cases hk), fun i _ => rfl⟩
  intro i u hu
  have hi : i < xs.length := by rw [← hlen]; exact (List.getElem?_eq_some_iff.1 hu).1
  have hx := List.getElem?_eq_getElem hi
  obtain ⟨v, h6, h7, _⟩ := Reps.get h2 hx
  rw [widths_take_const h3 (Nat.le_of_lt hi)] at h7
  have hw : xs[i].width = s := h3 _ (List.getElem_mem hi)
  refine ⟨v, h7, by rw [Rep.width _ _ h6, hw], Rep.one _ _ h6, ?_⟩
  unfold RowOk
  simp only [lkE]
  exact repU_of _ u v (hus i _ u hx hu) h6

/-- What an open element holds. -/
def U.open (d : Nat) : U → S
  | .t x => .t x
  | .ow _ _ _ => .own d
  | .fw fs _ _ _ => .ag (fs.map S.t ++ [.own d])
/-- What it owns. -/
def U.blk : U → Option Blk
  | .t _ => none
  | .ow e s xs => some (.list e s xs)
  | .fw _ e s xs => some (.list e s xs)
theorem repSs_t : ∀ {fs : List T} {cs : List Value}, Reps G.F w fs cs → RepSs G w (fs.map S.t) cs
  | [], cs, h => by unfold Reps at h; simp only [List.map_nil]; unfold RepSs; exact h
  | x :: r, cs, h => by
    unfold Reps at h
    obtain ⟨v, cs', h1, h2, h3⟩ := h
    simp only [List.map_cons]
    unfold RepSs
    exact ⟨v, cs', h1, by simp only [S.width]; exact Rep.width _ _ h2, Rep.one _ _ h2, by unfold RepS; exact h2, repSs_t h3⟩
theorem sslice_cells {u : Value} {x : Option Addr} {n c : Nat} (h : u = .slice x n c) : u.cells = #[u] := by subst h; rfl

/-- An element is opened: what it owns gets a label of its own. -/
theorem SatG.openRow (hs : SatG N W G0 A G g h a w) {l i d e s : Nat} {us : List U} {ex : List (Nat × S)} {u : U} {b : Blk} (hl : h l = some (.rows e s us ex)) (hu : us[i]? = some u) (hex : lkE ex i = none) (hb : u.blk = some b)
    (hd : 100 ≤ d) (hf : Fresh g h d) : ∃ G', SatG N W G0 A G' g (hput (hput h l (some (.rows e s us (putE ex i (u.open d))))) d (some b)) a w := by
  obtain ⟨hd0, hgf, hhf⟩ := hf
  obtain ⟨cells, κ, h1, h2, h3, h4, h5, h6⟩ := hs.heap.inn l _ hl
  obtain ⟨x, cap, cells0, hβ, h7⟩ := hs.heap.rep l _ hl
  obtain ⟨v, g1, g2, g3, g4⟩ := h2 i u hu
  unfold RowOk at g4
  rw [hex] at g4
  simp only at g4
  have hdl : l ≠ d := by rintro rfl; rw [hd0] at hl; cases hl
  -- the slice that it owns
  obtain ⟨v', hvb, hvk, hopen⟩ : ∃ v', RepB G w b v' ∧ κ i = hblk v' ∧ ∀ G' : Gh, (∀ b, G.F b → G'.F b) → G'.β d = v' → RepS G' w (u.open d) v := by
    cases u with
    | t x => cases hb
    | ow e' s' xs =>
      cases hb
      refine ⟨v, g4.1, g4.2, fun G' _ hd' => ?_⟩
      obtain ⟨x', cap', cells', hv, _⟩ := g4.1
      unfold U.open RepS
      exact ⟨hd'.symm, _, _, _, hv⟩
    | fw fs e' s' xs =>
      cases hb
      obtain ⟨cs, v', rfl, k1, k2, k3⟩ := g4
      refine ⟨v', k2, k3, fun G' hF hd' => ?_⟩
      obtain ⟨x', cap', cells', hv, _⟩ := k2
      have hcv := sslice_cells hv
      unfold U.open RepS
      refine ⟨_, rfl, RepSs.append (repSs_t (Reps.mono hF (fun _ _ _ => rfl) fs cs k1)) ?_⟩
      unfold RepSs
      refine ⟨v', [], by rw [hcv]; rfl, by rw [hcv]; rfl, ?_, by unfold RepS; exact ⟨hd'.symm, _, _, _, hv⟩, by unfold RepSs; rfl⟩
      intro c hc
      rw [hcv] at hc
      simp at hc
      rw [hc, hv]; rfl
  have hbl : ∃ e' s' xs', b = .list e' s' xs' := by
    cases u with
    | t x => cases hb
    | ow e' s' xs => exact ⟨_, _, _, (Option.some.inj hb).symm⟩
    | fw fs e' s' xs => exact ⟨_, _, _, (Option.some.inj hb).symm⟩
  obtain ⟨e', s', xs', rfl⟩ := hbl
  let G' : Gh := ⟨G.F, bput G.β d v', pput (pput G.φ l (fun k => G.φ l k ∧ hblk v' ≠ some k)) d noF⟩
  have K : Keep G w G' w [d] := ⟨fun _ h => h, fun _ _ _ => rfl, fun k hk => bput_other v' (by simpa using hk)⟩
  have hβo : ∀ k, k ≠ d → G'.β k = G.β k := fun k hk => bput_other v' hk
  have hβd : G'.β d = v' := bput_same _ _ _
  have hφd : G'.φ d = noF := pput_same _ _ _
  have hφl : G'.φ l = fun k => G.φ l k ∧ hblk v' ≠ some k := by
    show pput (pput G.φ l _) d noF l = _
    rw [pput_other _ hdl, pput_same]
  have hφo : ∀ k, k ≠ d → k ≠ l → G'.φ k = G.φ k := fun k hk hk2 => by
    show pput (pput G.φ l _) d noF k = _
    rw [pput_other _ hk, pput_other _ hk2]
  have ft' : ∀ k j, k ≠ d → G'.ft k j → G.ft k j := by
    intro k j hk hj
    rcases hj with hj | hj
    · left; rw [hβo k hk] at hj; exact hj
    · right
      by_cases e1 : k = l
      · subst e1; rw [hφl] at hj; exact hj.1
      · rw [hφo k hk e1] at hj; exact hj
  have ftd : ∀ j, G'.ft d j → hblk v' = some j ∧ G.φ l j := by
    intro j hj
    rcases hj with hj | hj
    · rw [hβd] at hj
      exact ⟨hj, (h3 j).2 ⟨i, by rw [hvk]; exact hj⟩⟩
    · rw [hφd] at hj; exact hj.elim
  have ftl : ∀ j, hblk v' = some j → ¬ G'.ft l j := by
    intro j hj hl'
    rcases hl' with hl' | hl'
    · rw [hβo l hdl] at hl'
      exact h5 i j (by rw [hvk]; exact hj) hl'
    · rw [hφl] at hl'; exact hl'.2 hj
  have cases' : ∀ k x, hput (hput h l (some (.rows e s us (putE ex i (u.open d))))) d (some (.list e' s' xs')) k = some x → (k = d ∧ x = .list e' s' xs') ∨ (k ≠ d ∧ k = l ∧ x = .rows e s us (putE ex i (u.open d))) ∨ (k ≠ d ∧ k ≠ l ∧ h k = some x) := by
    intro k x hx
    simp only [hput] at hx
    split at hx
    · exact .inl ⟨‹_›, (Option.some.inj hx).symm⟩
    · split at hx
      · exact .inr (.inl ⟨‹_›, ‹_›, (Option.some.inj hx).symm⟩)
      · exact .inr (.inr ⟨‹_›, ‹_›, hx⟩)
  have old : ∀ k x, hput (hput h l (some (.rows e s us (putE ex i (u.open d))))) d (some (.list e' s' xs')) k = some x → k ≠ d → ∃ y, h k = some y := by
    intro k x hx hk
    rcases cases' k x hx with ⟨h8, _⟩ | ⟨_, rfl, _⟩ | ⟨_, _, h8⟩
    · exact (hk h8).elim
    · exact ⟨_, hl⟩
    · exact ⟨_, h8⟩
  refine ⟨G', hs.size, hs.defers, fun t => RepS.keep K (g t) _ (fun k hk => by simp at hk; subst hk; exact hgf t) (hs.slots t), ⟨?_, ?_, ?_, ?_, hs.heap.fb⟩, ?_⟩
  · intro k y hy
    rcases cases' k y hy with ⟨rfl, rfl⟩ | ⟨h8, rfl, rfl⟩ | ⟨h8, h9, h10⟩
    · rw [hβd]; exact RepB.keep2 K (fun _ _ => rfl) (fun _ _ => rfl) hvb
    · rw [hβo _ h8]; exact ⟨x, cap, cells0, hβ, h7⟩
    · rw [hβo k h8]; exact RepB.keep2 K (fun q hq => by simp at hq; subst hq; exact hhf k y h10) (fun _ _ => rfl) (hs.heap.rep k y h10)
  · intro k y hy
    rcases cases' k y hy with ⟨rfl, rfl⟩ | ⟨h8, rfl, rfl⟩ | ⟨h8, h9, h10⟩
    · rw [hφd]; exact fun _ h => h
    · rw [hβo _ h8, hφl]
      refine ⟨cells, fun j => if j = i then none else κ j, h1, ?_, ?_, ?_, ?_, ?_⟩
      · intro j x hx
        by_cases hj : j = i
        · subst hj
          rw [hu] at hx
          cases hx
          refine ⟨v, g1, g2, g3, ?_⟩
          unfold RowOk
          rw [lkE_put, if_pos rfl]
          refine ⟨hopen G' (fun _ h => h) hβd, ?_, by simp⟩
          have h11 := hopen G' (fun _ h => h) hβd
          have hso : (u.open d).solid = true := by cases u <;> rfl
          have := (RepS.lens h11 hso).1
          omega
        · obtain ⟨v1, k1, k2, k3, k4⟩ := h2 j x hx
          refine ⟨v1, k1, k2, k3, ?_⟩
          unfold RowOk at k4 ⊢
          rw [lkE_put, if_neg hj]
          simp only [if_neg hj]
          cases hc : lkE ex j with
          | some c =>
            rw [hc] at k4
            have := hhf k _ hl
            exact ⟨RepS.keep K c v1 (fun q hq => by simp at hq; subst hq; exact freesE_spec this hc) k4.1, k4.2⟩
          | none =>
            rw [hc] at k4
            exact k4.keep2 K (fun _ _ => rfl)
      · intro q
        refine ⟨fun ⟨hq1, hq2⟩ => ?_, fun ⟨j, hj⟩ => ?_⟩
        · obtain ⟨j, hj⟩ := (h3 q).1 hq1
          refine ⟨j, ?_⟩
          show (if j = i then none else κ j) = some q
          rw [if_neg]
          · exact hj
          · rintro rfl
            rw [hvk] at hj
            exact hq2 hj
        · dsimp only at hj
          by_cases e1 : j = i
          · rw [if_pos e1] at hj; cases hj
          · rw [if_neg e1] at hj
            refine ⟨(h3 q).2 ⟨j, hj⟩, fun hq => e1 (h4 j i q hj (by rw [hvk]; exact hq))⟩
      · intro j1 j2 q hq1 hq2
        dsimp only at hq1 hq2
        by_cases e1 : j1 = i
        · rw [if_pos e1] at hq1; cases hq1
        · by_cases e2 : j2 = i
          · rw [if_pos e2] at hq2; cases hq2
          · rw [if_neg e1] at hq1; rw [if_neg e2] at hq2
            exact h4 j1 j2 q hq1 hq2
      · intro j q hq
        dsimp only at hq
        by_cases e1 : j = i
        · rw [if_pos e1] at hq; cases hq
        · rw [if_neg e1] at hq; exact h5 j q hq
      · intro j hj
        show (if j = i then none else κ j) = none
        by_cases e1 : j = i
        · rw [if_pos e1]
        · rw [if_neg e1]; exact h6 j hj
    · rw [hβo k h8, hφo k h8 h9]
      exact Inn.keep2 K (fun q hq => by simp at hq; subst hq; exact hhf k y h10) (fun _ _ => rfl) (hs.heap.inn k y h10)
  · intro k y j hy hj
    by_cases hk : k = d
    · subst hk
      exact hs.heap.sep l _ j hl (.inr (ftd j hj).2)
    · obtain ⟨y0, h8⟩ := old k y hy hk
      exact hs.heap.sep k y0 j h8 (ft' k j hk hj)
  · intro k k' y y' j hy hy' hj hj'
    by_cases hk : k = d <;> by_cases hk' : k' = d
    · rw [hk, hk']
    · subst hk
      obtain ⟨y0, h8⟩ := old k' y' hy' hk'
      obtain ⟨h9, h10⟩ := ftd j hj
      have := hs.heap.inj l k' _ y0 j hl h8 (.inr h10) (ft' k' j hk' hj')
      subst this
      exact (ftl j h9 hj').elim
    · subst hk'
      obtain ⟨y0, h8⟩ := old k y hy hk
      obtain ⟨h9, h10⟩ := ftd j hj'
      have := hs.heap.inj l k _ y0 j hl h8 (.inr h10) (ft' k j hk hj)
      subst this
      exact (ftl j h9 hj).elim
    · obtain ⟨y0, h8⟩ := old k y hy hk
      obtain ⟨y0', h8'⟩ := old k' y' hy' hk'
      exact hs.heap.inj k k' y0 y0' j h8 h8' (ft' k j hk hj) (ft' k' j hk' hj')
  · refine ⟨hs.frm.os, hs.frm.tape, hs.frm.output, hs.frm.size, hs.frm.block, ?_, hs.frm.fin, hs.frm.fout, fun k hk => (hβo k (by omega)).trans (hs.frm.same k hk)⟩
    intro k y j hy hj
    by_cases hk : k = d
    · subst hk
      exact hs.frm.own l _ j hl (.inr (ftd j hj).2)
    · obtain ⟨y0, h8⟩ := old k y hy hk
      exact hs.frm.own k y0 j h8 (ft' k j hk hj)

/-- An open element that is a tree is shut. -/
theorem SatG.closeT (hs : SatG N W G0 A G g h a w) {l i e s : Nat} {us : List U} {ex : List (Nat × S)} {x : T} {u' : U} (hl : h l = some (.rows e s us ex)) (hex : lkE ex i = some (.t x)) (hrel : relTU x u') :
    SatG N W G0 A G g (hput h l (some (.rows e s (us.set i u') (delE i ex)))) a w := by
  obtain ⟨cells, κ, h1, h2, h3, h4, h5, h6⟩ := hs.heap.inn l _ hl
  obtain ⟨x0, cap, cells0, hβ, h7⟩ := hs.heap.rep l _ hl
  refine hs.alter hl ⟨x0, cap, cells0, by rw [List.length_set]; exact hβ, by rw [List.length_set]; exact h7⟩ ⟨cells, κ, by rw [List.length_set]; exact h1, ?_, h3, h4, h5, by rw [List.length_set]; exact h6⟩
  intro j y hy
  rw [List.getElem?_set] at hy
  by_cases hj : i = j
  · subst hj
    rw [if_pos rfl] at hy
    split at hy
    · rename_i hlt
      cases hy
      obtain ⟨v, g1, g2, g3, g4⟩ := h2 i _ (List.getElem?_eq_getElem hlt)
      unfold RowOk at g4
      rw [hex] at g4
      refine ⟨v, g1, g2, g3, ?_⟩
      unfold RowOk
      rw [lkE_del, if_pos rfl]
      have g5 := g4.1
      unfold RepS at g5
      rw [g4.2.2]
      exact repU_of x u' v hrel g5
    · cases hy
  · rw [if_neg hj] at hy
    obtain ⟨v, g1, g2, g3, g4⟩ := h2 j y hy
    refine ⟨v, g1, g2, g3, ?_⟩
    unfold RowOk at g4 ⊢
    rw [lkE_del, if_neg (fun e => hj e.symm)]
    exact g4

/-- An open element is shut: its slice is the list's own again. -/
theorem SatG.closeRow (hs : SatG N W G0 A G g h a w) {l i d e s e' s' : Nat} {us : List U} {ex : List (Nat × S)} {xs : List T} {u' : U} (hl : h l = some (.rows e s us ex)) (hd : h d = some (.list e' s' xs))
    (hex : lkE ex i = some (u'.open d)) (hb : u'.blk = some (.list e' s' xs)) : ∃ G', SatG N W G0 A G' g (hput (hput h l (some (.rows e s (us.set i u') (delE i ex)))) d none) a w := by
  obtain ⟨cells, κ, h1, h2, h3, h4, h5, h6⟩ := hs.heap.inn l _ hl
  obtain ⟨x0, cap, cells0, hβ, h7⟩ := hs.heap.rep l _ hl
  have hrd := hs.heap.rep d _ hd
  have hld : l ≠ d := by rintro rfl; rw [hl] at hd; cases hd
  by_cases hnlt : us.length ≤ i
  · -- no such element
    have e1 : us.set i u' = us := List.set_eq_of_length_le (by omega)
    let G' : Gh := ⟨G.F, G.β, G.φ⟩
    have cases' : ∀ k x, hput (hput h l (some (.rows e s (us.set i u') (delE i ex)))) d none k = some x → k ≠ d ∧ ((k = l ∧ x = .rows e s us (delE i ex)) ∨ (k ≠ l ∧ h k = some x)) := by
      intro k x hx
      simp only [hput, e1] at hx
      split at hx
      · cases hx
      · refine ⟨‹_›, ?_⟩
        split at hx
        · exact .inl ⟨‹_›, (Option.some.inj hx).symm⟩
        · exact .inr ⟨‹_›, hx⟩
    have old : ∀ k x, hput (hput h l (some (.rows e s (us.set i u') (delE i ex)))) d none k = some x → ∃ y, h k = some y := by
      intro k x hx
      rcases (cases' k x hx).2 with ⟨rfl, _⟩ | ⟨_, h8⟩
      · exact ⟨_, hl⟩
      · exact ⟨_, h8⟩
    refine ⟨G, hs.size, hs.defers, hs.slots, ⟨?_, ?_, ?_, ?_, hs.heap.fb⟩, ⟨hs.frm.os, hs.frm.tape, hs.frm.output, hs.frm.size, hs.frm.block, ?_, hs.frm.fin, hs.frm.fout, hs.frm.same⟩⟩
    · intro k x hx
      rcases (cases' k x hx).2 with ⟨rfl, rfl⟩ | ⟨_, h8⟩
      · exact ⟨x0, cap, cells0, hβ, h7⟩
      · exact hs.heap.rep k x h8
    · intro k x hx
      rcases (cases' k x hx).2 with ⟨rfl, rfl⟩ | ⟨_, h8⟩
      · refine ⟨cells, κ, h1, fun j y hy => ?_, h3, h4, h5, h6⟩
        have hj : j < us.length := (List.getElem?_eq_some_iff.1 hy).1
        obtain ⟨v, g1, g2, g3, g4⟩ := h2 j y hy
        refine ⟨v, g1, g2, g3, ?_⟩
        unfold RowOk at g4 ⊢
        rw [lkE_del, if_neg (by omega)]
        exact g4
      · exact hs.heap.inn k x h8
    · intro k x j hx hj
      obtain ⟨y, hy⟩ := old k x hx
      exact hs.heap.sep k y j hy hj
    · intro k k' x x' j hx hx' hj hj'
      obtain ⟨y, hy⟩ := old k x hx
      obtain ⟨y', hy'⟩ := old k' x' hx'
      exact hs.heap.inj k k' y y' j hy hy' hj hj'
    · intro k x j hx hj
      obtain ⟨y, hy⟩ := old k x hx
      exact hs.frm.own k y j hy hj
  have hlt : i < us.length := by omega
  obtain ⟨v, g1, g2, g3, g4⟩ := h2 i _ (List.getElem?_eq_getElem hlt)
  unfold RowOk at g4
  rw [hex] at g4
  obtain ⟨g5, g6, g7⟩ := g4
  have hru : RepU G w u' v (hblk (G.β d)) := by
    cases u' with
    | t x => cases hb
    | ow e1 s1 xs1 =>
      simp only [U.blk, Option.some.injEq, Blk.list.injEq] at hb
      obtain ⟨rfl, rfl, rfl⟩ := hb
      unfold U.open RepS at g5
      rw [g5.1]
      exact ⟨hrd, rfl⟩
    | fw fs e1 s1 xs1 =>
      simp only [U.blk, Option.some.injEq, Blk.list.injEq] at hb
      obtain ⟨rfl, rfl, rfl⟩ := hb
      unfold U.open RepS at g5
      obtain ⟨cs, rfl, k1⟩ := g5
      have : ∀ {fs : List T} {cs : List Value}, RepSs G w (fs.map S.t ++ [.own d]) cs → ∃ cs1 v', cs = cs1 ++ [v'] ∧ Reps G.F w fs cs1 ∧ v' = G.β d := by
        intro fs
        induction fs with
        | nil =>
          intro cs hc
          simp only [List.map_nil, List.nil_append] at hc
          unfold RepSs at hc
          obtain ⟨v1, cs', q1, _, _, q2, q3⟩ := hc
          unfold RepSs at q3
          subst q3
          unfold RepS at q2
          obtain ⟨q4, _, _, _, q5⟩ := q2
          exact ⟨[], v1, by rw [q1, sslice_cells q5]; rfl, by unfold Reps; rfl, q4⟩
        | cons f fs ih =>
          intro cs hc
          simp only [List.map_cons, List.cons_append] at hc
          unfold RepSs at hc
          obtain ⟨v1, cs', q1, _, _, q2, q3⟩ := hc
          obtain ⟨cs1, v', q4, q5, q6⟩ := ih q3
          refine ⟨v1.cells.toList ++ cs1, v', by rw [q1, q4, List.append_assoc], ?_, q6⟩
          unfold Reps
          unfold RepS at q2
          exact ⟨v1, cs1, rfl, q2, q5⟩
      obtain ⟨cs1, v', rfl, k2, rfl⟩ := this k1
      exact ⟨cs1, _, rfl, k2, hrd, rfl⟩
  let G' : Gh := ⟨G.F, G.β, pput G.φ l (fun k => G.φ l k ∨ hblk (G.β d) = some k)⟩
  have K : Keep G w G' w [] := ⟨fun _ h => h, fun _ _ _ => rfl, fun _ _ => rfl⟩
  have hφl : G'.φ l = fun k => G.φ l k ∨ hblk (G.β d) = some k := pput_same _ _ _
  have hφo : ∀ k, k ≠ l → G'.φ k = G.φ k := fun k hk => pput_other _ hk
  have ftl : ∀ j, G'.ft l j → G.ft l j ∨ G.ft d j := by
    intro j hj
    rcases hj with hj | hj
    · exact .inl (.inl hj)
    · rw [hφl] at hj
      rcases hj with hj | hj
      · exact .inl (.inr hj)
      · exact .inr (.inl hj)
  have fto : ∀ k j, k ≠ l → G'.ft k j → G.ft k j := by
    intro k j hk hj
    rcases hj with hj | hj
    · exact .inl hj
    · rw [hφo k hk] at hj; exact .inr hj
  have cases' : ∀ k x, hput (hput h l (some (.rows e s (us.set i u') (delE i ex)))) d none k = some x → k ≠ d ∧ ((k = l ∧ x = .rows e s (us.set i u') (delE i ex)) ∨ (k ≠ l ∧ h k = some x)) := by
    intro k x hx
    simp only [hput] at hx
    split at hx
    · cases hx
    · refine ⟨‹_›, ?_⟩
      split at hx
      · exact .inl ⟨‹_›, (Option.some.inj hx).symm⟩
      · exact .inr ⟨‹_›, hx⟩
  refine ⟨G', hs.size, hs.defers, fun t => RepS.keep K (g t) _ (by simp) (hs.slots t), ⟨?_, ?_, ?_, ?_, hs.heap.fb⟩, ?_⟩
  · intro k x hx
    rcases (cases' k x hx).2 with ⟨rfl, rfl⟩ | ⟨_, h8⟩
    · exact ⟨x0, cap, cells0, by rw [List.length_set]; exact hβ, by rw [List.length_set]; exact h7⟩
    · exact RepB.keep2 K (by simp) (fun _ _ => rfl) (hs.heap.rep k x h8)
  · intro k x hx
    rcases (cases' k x hx).2 with ⟨rfl, rfl⟩ | ⟨hk, h8⟩
    · rw [hφl]
      refine ⟨cells, fun j => if j = i then hblk (G.β d) else κ j, by rw [List.length_set]; exact h1, ?_, ?_, ?_, ?_, ?_⟩
      · intro j y hy
        rw [List.getElem?_set] at hy
        by_cases hj : i = j
        · subst hj
          rw [if_pos rfl, if_pos hlt] at hy
          cases hy
          refine ⟨v, g1, g2, g3, ?_⟩
          unfold RowOk
          rw [lkE_del, if_pos rfl]
          simp only [if_pos]
          exact hru.keep2 K (fun _ _ => rfl)
        · rw [if_neg hj] at hy
          obtain ⟨v1, k1, k2, k3, k4⟩ := h2 j y hy
          refine ⟨v1, k1, k2, k3, ?_⟩
          have hj' : ¬ j = i := fun e => hj e.symm
          unfold RowOk at k4 ⊢
          rw [lkE_del, if_neg hj']
          simp only [if_neg hj']
          cases hc : lkE ex j with
          | some c =>
            rw [hc] at k4
            exact ⟨RepS.keep K c v1 (by simp) k4.1, k4.2⟩
          | none =>
            rw [hc] at k4
            exact k4.keep2 K (fun _ _ => rfl)
      · intro q
        refine ⟨fun hq => ?_, fun ⟨j, hj⟩ => ?_⟩
        · rcases hq with hq | hq
          · obtain ⟨j, hj⟩ := (h3 q).1 hq
            refine ⟨j, ?_⟩
            show (if j = i then _ else κ j) = some q
            rw [if_neg]
            · exact hj
            · rintro rfl; rw [g7] at hj; cases hj
          · exact ⟨i, by show (if i = i then _ else κ i) = some q; rw [if_pos rfl]; exact hq⟩
        · dsimp only at hj
          by_cases e1 : j = i
          · rw [if_pos e1] at hj; exact .inr hj
          · rw [if_neg e1] at hj; exact .inl ((h3 q).2 ⟨j, hj⟩)
      · intro j1 j2 q hq1 hq2
        dsimp only at hq1 hq2
        by_cases e1 : j1 = i <;> by_cases e2 : j2 = i
        · rw [e1, e2]
        · rw [if_pos e1] at hq1; rw [if_neg e2] at hq2
          exact (hld (hs.heap.inj k d _ _ q hl hd (.inr ((h3 q).2 ⟨j2, hq2⟩)) (.inl hq1))).elim
        · rw [if_neg e1] at hq1; rw [if_pos e2] at hq2
          exact (hld (hs.heap.inj k d _ _ q hl hd (.inr ((h3 q).2 ⟨j1, hq1⟩)) (.inl hq2))).elim
        · rw [if_neg e1] at hq1; rw [if_neg e2] at hq2
          exact h4 j1 j2 q hq1 hq2
      · intro j q hq hlq
        dsimp only at hq
        by_cases e1 : j = i
        · rw [if_pos e1] at hq
          exact hld (hs.heap.inj k d _ _ q hl hd (.inl hlq) (.inl hq))
        · rw [if_neg e1] at hq; exact h5 j q hq hlq
      · intro j hj
        rw [List.length_set] at hj
        show (if j = i then _ else κ j) = none
        rw [if_neg (by omega)]
        exact h6 j hj
    · rw [hφo k hk]
      exact Inn.keep2 K (by simp) (fun _ _ => rfl) (hs.heap.inn k x h8)
  · intro k x j hx hj
    rcases (cases' k x hx).2 with ⟨rfl, rfl⟩ | ⟨hk, h8⟩
    · rcases ftl j hj with h9 | h9
      · exact hs.heap.sep k _ j hl h9
      · exact hs.heap.sep d _ j hd h9
    · exact hs.heap.sep k x j h8 (fto k j hk hj)
  · intro k k' x x' j hx hx' hj hj'
    obtain ⟨hkd, hx⟩ := cases' k x hx
    obtain ⟨hkd', hx'⟩ := cases' k' x' hx'
    rcases hx with ⟨rfl, rfl⟩ | ⟨hk, h8⟩ <;> rcases hx' with ⟨rfl, rfl⟩ | ⟨hk', h8'⟩
    · rfl
    · rcases ftl j hj with h9 | h9
      · exact hs.heap.inj k k' _ _ j hl h8' h9 (fto k' j hk' hj')
      · exact (hkd' (hs.heap.inj k' d _ _ j h8' hd (fto k' j hk' hj') h9)).elim
    · rcases ftl j hj' with h9 | h9
      · exact hs.heap.inj k k' _ _ j h8 hl (fto k j hk hj) h9
      · exact (hkd (hs.heap.inj k d _ _ j h8 hd (fto k j hk hj) h9)).elim
    · exact hs.heap.inj k k' _ _ j h8 h8' (fto k j hk hj) (fto k' j hk' hj')
  · refine ⟨hs.frm.os, hs.frm.tape, hs.frm.output, hs.frm.size, hs.frm.block, ?_, hs.frm.fin, hs.frm.fout, hs.frm.same⟩
    intro k x j hx hj
    rcases (cases' k x hx).2 with ⟨rfl, rfl⟩ | ⟨hk, h8⟩
    · rcases ftl j hj with h9 | h9
      · exact hs.frm.own k _ j hl h9
      · exact hs.frm.own d _ j hd h9
    · exact hs.frm.own k x j h8 (fto k j hk hj)
end

/-! ### The same for code -/
section
variable {N : Nat} {P : Program} {Q : Exit → St → Prop} {c : Code}
theorem lkB_put (l : Nat) (b : Blk) (h : List (Nat × Blk)) : lkB ((l, b) :: delB l h) = hput (lkB h) l (some b) := by
  funext k
  simp only [lkB, lkB_delB, hput]
  split <;> rfl
theorem lkB_drop (l : Nat) (h : List (Nat × Blk)) : lkB (delB l h) = hput (lkB h) l none := by
  funext k
  simp only [lkB_delB, hput]
/-- Where the code starts, a plain list becomes a list whose elements may own slices. -/
theorem CW.toRows {σ : St} (l : Nat) (us : List U) {e s : Nat} {xs : List T} (hl : lkB σ.h l = some (.list e s xs)) (hlen : us.length = xs.length) (hus : ∀ (i : Nat) (x : T) (u : U), xs[i]? = some x → us[i]? = some u → relTU x u)
    (h : CW N P c Q ⟨σ.g, (l, .rows e s us []) :: delB l σ.h⟩) : CW N P c Q σ := by
  intro hm hc W G0 A a w ⟨G, hs⟩
  refine h hm hc W G0 A a w ⟨G, ?_⟩
  rw [lkB_put]
  exact hs.toRows hl hlen hus
theorem CW.openRow {σ : St} (l i d : Nat) {e s : Nat} {us : List U} {ex : List (Nat × S)} {u : U} {b : Blk} (hl : lkB σ.h l = some (.rows e s us ex)) (hu : us[i]? = some u) (hex : lkE ex i = none) (hb : u.blk = some b)
    (hd : nwOk σ [d] = true) (h100 : 100 ≤ d) (h : CW N P c Q ⟨σ.g, (d, b) :: delB d ((l, .rows e s us (putE ex i (u.open d))) :: delB l σ.h)⟩) : CW N P c Q σ := by
  intro hm hc W G0 A a w ⟨G, hs⟩
  obtain ⟨G', hs'⟩ := hs.openRow hl hu hex hb h100 (nwOk_spec hd d (by simp))
  refine h hm hc W G0 A a w ⟨G', ?_⟩
  rw [lkB_put, lkB_put]
  exact hs'
theorem CW.closeT {σ : St} (l i : Nat) (u' : U) {e s : Nat} {us : List U} {ex : List (Nat × S)} {x : T} (hl : lkB σ.h l = some (.rows e s us ex)) (hex : lkE ex i = some (.t x)) (hrel : relTU x u')
    (h : CW N P c Q ⟨σ.g, (l, .rows e s (us.set i u') (delE i ex)) :: delB l σ.h⟩) : CW N P c Q σ := by
  intro hm hc W G0 A a w ⟨G, hs⟩
  refine h hm hc W G0 A a w ⟨G, ?_⟩
  rw [lkB_put]
  exact hs.closeT hl hex hrel
theorem CW.closeRow {σ : St} (l i d : Nat) (u' : U) {e s e' s' : Nat} {us : List U} {ex : List (Nat × S)} {xs : List T} (hl : lkB σ.h l = some (.rows e s us ex)) (hd : lkB σ.h d = some (.list e' s' xs))
    (hex : lkE ex i = some (u'.open d)) (hb : u'.blk = some (.list e' s' xs)) (h : CW N P c Q ⟨σ.g, delB d ((l, .rows e s (us.set i u') (delE i ex)) :: delB l σ.h)⟩) : CW N P c Q σ := by
  intro hm hc W G0 A a w ⟨G, hs⟩
  obtain ⟨G', hs'⟩ := hs.closeRow hl hd hex hb
  refine h hm hc W G0 A a w ⟨G', ?_⟩
  rw [lkB_drop, lkB_put]
  exact hs'
end
end Go.Proofs.Ytopmmodcaoaaeaa.Sy
namespace Go.Proofs.Ytopmmodcaoaaeaa.Sy
attribute [go_sem] U.open
end Go.Proofs.Ytopmmodcaoaaeaa.Sy
