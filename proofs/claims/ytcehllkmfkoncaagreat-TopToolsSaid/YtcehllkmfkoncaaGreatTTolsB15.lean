/- Several texts of this proof, one behind the other. No condition. -/
import Derived.Test.YtcehllkmfkoncaaGreatTTolsB14
import Derived.Test.YtcehllkmfkoncaaGreatFacts
import Derived.Shelf.RegionOpen
import Derived.RangeFuncBox
import Derived.Shelf.Abstract
import Derived.WalkKit
import Derived.OwnWalkIn
import Derived.TacticsInMore
import Derived.LoopNIn
import Derived.LoopIn
/- Symbolic execution: a range over a function, as a rule. No condition. -/
namespace Go.Proofs.YtcehllkmfkoncaaGreat.Sy
open Go.RowKit
set_option linter.unusedVariables false
set_option linter.unusedSimpArgs false

theorem putObj_get {w : World} {D : Nat} {o : Obj} {k : Nat} (hD : D < w.heap.size) : (w.putObj D o).heap[k]? = if k = D then some o else w.heap[k]? := by
  by_cases e : k = D
  · subst e; rw [if_pos rfl]; exact World.putObj_heap_same hD
  · rw [if_neg e]; exact World.putObj_heap_other e
theorem putObj_size (w : World) (D : Nat) (o : Obj) : (w.putObj D o).heap.size = w.heap.size := by simp [World.putObj]
theorem putObj_self {w : World} {D : Nat} {o o' : Obj} (h : w.heap[D]? = some o) : (w.putObj D o').putObj D o = w := by
  have hD := (Array.getElem?_eq_some_iff.1 h).1
  have : (w.putObj D o').putObj D o = { w with heap := ((w.putObj D o').putObj D o).heap } := rfl
  rw [this]
  have : ((w.putObj D o').putObj D o).heap = w.heap := by
    apply Array.ext_getElem?
    intro k
    rw [putObj_get (by rw [putObj_size]; exact hD), putObj_get hD]
    split
    · rename_i e; subst e; exact h.symm
    · rfl
  rw [this]
/-- A block that is no cells, turned at the beginning and now. -/
theorem SatG.both {N : Nat} {W : World} {G0 : Gh} {A : Nat → Prop} {G : Gh} {g : Nat → S} {h : Nat → Option Blk} {a : Act} {w : World} (s : SatG N W G0 A G g h a w) {l : Nat} {r : Loop} {o' : Obj} (hl : w.heap[l]? = some (Obj.loop r)) (ho : o'.isCells = false) (hW : l < W.heap.size) :
    SatG N (W.putObj l o') G0 A G g h a (w.putObj l o') := by
  have sm : Same w (w.putObj l o') := Same.putObj hl rfl ho
  have hlw := (Array.getElem?_eq_some_iff.1 hl).1
  refine ⟨s.size, ?_, fun t => RepS.keep (sm.keep s.heap.fb) _ _ (by simp) (s.slots t), s.heap.same sm, ⟨s.frm.os, s.frm.tape, s.frm.output, by rw [putObj_size, putObj_size]; exact s.frm.size, ?_, ?_, s.frm.fin, ?_, s.frm.same⟩⟩
  · obtain ⟨Ds, h1, h2, h3⟩ := s.defers
    refine ⟨Ds, h1, h2, fun D hD => ?_⟩
    obtain ⟨h4, h5⟩ := h3 D hD
    rw [putObj_size, putObj_get hlw, if_neg (by rintro rfl; rw [hl] at h4; cases h4)]
    exact ⟨h4, h5⟩
  · intro b hb hA
    rw [putObj_size] at hb
    rw [putObj_get hlw, putObj_get hW, s.frm.block b hb hA]
  · intro l' b k h1 h2; rw [putObj_size]; exact s.frm.own l' b k h1 h2
  · intro b hb; rw [putObj_size]; exact s.frm.fout b hb
theorem SatG.world {N : Nat} {W : World} {G0 : Gh} {A : Nat → Prop} {G : Gh} {g : Nat → S} {h : Nat → Option Blk} {a : Act} {w w' : World} (s : SatG N W G0 A G g h a w) (sm : SameW W w w') (hd : DefOk W a.defers w') : SatG N W G0 A G g h a w' :=
  ⟨s.size, hd, fun t => RepS.keep (sm.toSame.keep s.heap.fb) _ _ (by simp) (s.slots t), s.heap.same sm.toSame, s.frm.same' sm⟩

/-! ### One round, as a contract -/
/-- A round's run, out of whatever world; behind it the loop's record is as it was. -/
def RoundC (P : Program) (l : Nat) (assign body : Code) (us : List Value) (w : World) (R : Ending → World → Prop) : Prop :=
  ∀ r, w.heap[l]? = some (Obj.loop r) → assign.wpIn (Fence.wide.inRound l) 7 P (Exit.then (fun a1 w1 => KA l w w1 ∧ w1.heap[l]? = w.heap[l]? ∧ ∀ o' : Obj, o'.isCells = false → body.wpIn (Fence.wide.inRound l) 7 P (fun e _ w' => KA l w w' ∧ w'.heap[l]? = some o' ∧ match e with
      | .normal => R (.returned (.bool true)) (w'.putObj l (.loop r))
      | _ => False) a1 (w1.putObj l o')) (fun _ _ _ => False)) { tmps := us.toArray, defers := [] } w
theorem RoundC.mono {P : Program} {l : Nat} {assign body : Code} (us : List Value) (w : World) (R R' : Ending → World → Prop) (h : RoundC P l assign body us w R) (hR : ∀ e w', R e w' → R' e w') : RoundC P l assign body us w R' := by
  intro r hr
  refine wpIn_mono (h r hr) ?_
  rintro e a1 w1 hp
  cases e with
  | normal =>
    refine ⟨hp.1, hp.2.1, fun o' ho => wpIn_mono (hp.2.2 o' ho) ?_⟩
    rintro e a2 w2 ⟨h1, h3, h2⟩
    refine ⟨h1, h3, ?_⟩
    cases e with
    | normal => exact hR _ _ h2
    | _ => exact h2
  | _ => exact hp
/-- How a round ends: the caller's memory is as post says. -/
def EndQ (post : List (Nat × Blk)) (e : Exit) (τ : St) : Prop := match e with
  | .normal => ∃ ρ, rhoOk ρ = true ∧ wkH ρ (lkB τ.h) post
  | _ => False
def ThenB (N : Nat) (P : Program) (body : Code) (post : List (Nat × Blk)) (e : Exit) (τ : St) : Prop := match e with
  | .normal => nf N P [] body (EndQ post) τ
  | _ => False
theorem EndQ_normal (post : List (Nat × Blk)) (τ : St) : EndQ post .normal τ = ∃ ρ, rhoOk ρ = true ∧ wkH ρ (lkB τ.h) post := rfl
theorem ThenB_normal (N : Nat) (P : Program) (body : Code) (post : List (Nat × Blk)) (τ : St) : ThenB N P body post .normal τ = nf N P [] body (EndQ post) τ := rfl
theorem ka_of {W w : World} {G0 : Gh} {A : Nat → Prop} {G : Gh} {h : Nat → Option Blk} (l : Nat) (f : From W G0 A G w h) (hA : ∀ b, A b → ∃ cs e m, W.heap[b]? = some (Obj.cells cs e m)) : KA l W w := by
  intro k o _ ho hc
  rw [f.block k (Array.getElem?_eq_some_iff.1 ho).1, ho]
  intro hA'
  obtain ⟨cs, e, m, h2⟩ := hA k hA'
  rw [ho] at h2; cases h2; cases hc
theorem round_fn {N : Nat} {P : Program} {l : Nat} {assign body : Code} {gg : List (Nat × S)} {pre post : List (Nat × Blk)} (hm : P.follows .mixedOrders = true) (hok1 : okCode N assign = true) (hok2 : okCode N body = true) (hf1 : flatC assign = true) (hf2 : flatC body = true)
    (hkeys : gg.all (fun q => Nat.blt q.1 N) = true) (h : nf N P [] assign (ThenB N P body post) ⟨gg, pre⟩) : FnOkG (RoundC P l assign body) ((List.range N).map (lkS gg)) pre (.t (.lit (.bool true))) post := by
  intro G w us hh hr r hl
  have hlw := (Array.getElem?_eq_some_iff.1 hl).1
  have hlen := hr.length
  have hA : ∀ b, ownA G pre b → ∃ cs e m, w.heap[b]? = some (Obj.cells cs e m) := fun b ⟨l', x, h1, h2⟩ => hh.obj h1 h2
  have hs0 : SatG N w G (ownA G pre) G (lkS gg) (lkB pre) { tmps := us.toArray, defers := [] } w := by
    refine ⟨by simpa using hlen, DefOk.nil _ _, fun t => ?_, hh, ⟨rfl, rfl, rfl, Nat.le_refl _, fun _ _ _ => rfl, fun l b k h1 h2 => .inl ⟨l, b, h1, h2⟩, fun _ h => h, fun _ h => .inl h, fun _ _ => rfl⟩⟩
    by_cases ht : t < N
    · obtain ⟨u, h1, h2⟩ := RepPs.get (i := t) (s := lkS gg t) hr (by simp [ht])
      have : us.toArray.getD t undef = u := by
        rw [Array.getD_eq_getD_getElem?]; simp [h1]
      rw [this]; exact h2
    · have : lkS gg t = .dead := by
        have key : ∀ g : List (Nat × S), g.all (fun q => Nat.blt q.1 N) = true → lkS g t = .dead := by
          intro g
          induction g with
          | nil => intro _; rfl
          | cons q r ih =>
            intro hq
            simp only [List.all_cons, Bool.and_eq_true] at hq
            obtain ⟨k, s⟩ := q
            simp only [lkS]
            have hk : k < N := by have := hq.1; simp [Nat.blt] at this; omega
            rw [if_neg (by omega)]
            exact ih hq.2
        exact key gg hkeys
      rw [this]; unfold RepS; trivial
  refine wpIn_mono (nf_round hm l 7 assign _ _ hok1 hf1 h w G (ownA G pre) _ w ⟨G, hs0⟩) ?_
  rintro e a1 w1 ⟨τ, hq, G1, hs1⟩
  cases e with
  | normal =>
    have hl1 : w1.heap[l]? = some (Obj.loop r) := by
      rw [hs1.frm.block l hlw, hl]
      intro hA'
      obtain ⟨cs, e, m, h2⟩ := hA l hA'
      rw [hl] at h2; cases h2
    refine ⟨ka_of l hs1.frm hA, by rw [hl1, hl], fun o' ho => ?_⟩
    have hl1w := (Array.getElem?_eq_some_iff.1 hl1).1
    have hs2 := hs1.both hl1 ho hlw
    refine wpIn_mono (nf_round hm l 7 body _ _ hok2 hf2 hq (w.putObj l o') G (ownA G pre) a1 (w1.putObj l o') ⟨G1, hs2⟩) ?_
    rintro e a2 w2 ⟨τ2, hq2, G2, hs3⟩
    have hA2 : ∀ b, ownA G pre b → ∃ cs e m, (w.putObj l o').heap[b]? = some (Obj.cells cs e m) := by
      intro b hb
      obtain ⟨cs, e, m, h2⟩ := hA b hb
      refine ⟨cs, e, m, ?_⟩
      rw [putObj_get hlw, if_neg (by rintro rfl; rw [hl] at h2; cases h2)]
      exact h2
    have hblk : ∀ k, k < w.heap.size → ¬ ownA G pre k → w2.heap[k]? = (w.putObj l o').heap[k]? := fun k hk hk2 => hs3.frm.block k (by rw [putObj_size]; exact hk) hk2
    have hno : ∀ k, k < w.heap.size → ∀ o, (w.putObj l o').heap[k]? = some o → o.isCells = false → ¬ ownA G pre k := by
      intro k hk o h1 h2 h3
      obtain ⟨cs, e, m, h4⟩ := hA2 k h3
      rw [h1] at h4; cases h4; cases h2
    have hl2 : w2.heap[l]? = some o' := by
      have e1 : (w.putObj l o').heap[l]? = some o' := World.putObj_heap_same hlw
      rw [hblk l hlw (hno l hlw o' e1 ho)]; exact e1
    refine ⟨?_, hl2, ?_⟩
    · intro k o hkl h1 h2
      have hk := (Array.getElem?_eq_some_iff.1 h1).1
      have e1 : (w.putObj l o').heap[k]? = some o := by rw [putObj_get hlw, if_neg hkl]; exact h1
      rw [hblk k hk (hno k hk o e1 h2)]
      exact e1
    · cases e with
      | normal =>
        obtain ⟨ρ, h1, h2⟩ := hq2
        have hs4 := hs3.frm
        have sm : Same w2 (w2.putObj l (.loop r)) := Same.putObj hl2 ho rfl
        have hf : From w G (ownA G pre) G2 (w2.putObj l (.loop r)) (lkB τ2.h) := by
          refine ⟨hs4.os, hs4.tape, hs4.output, by rw [putObj_size]; have := hs4.size; rw [putObj_size] at this; exact this, ?_, ?_, hs4.fin, ?_, hs4.same⟩
          · intro b hb hAb
            rw [putObj_get (Array.getElem?_eq_some_iff.1 hl2).1]
            split
            · rename_i e; subst e; exact hl.symm
            · rename_i hne
              rw [hblk b hb hAb, putObj_get hlw, if_neg hne]
          · intro l' b k h3 h4; have := hs4.own l' b k h3 h4; rw [putObj_size] at this; exact this
          · intro b hb; have := hs4.fout b hb; rw [putObj_size] at this; exact this
        exact ⟨.bool true, wkGh ρ (lkB τ2.h) G2, rfl, wk_from h1 h2 hf, wk_heap h1 (hs3.heap.same sm) h2, by unfold RepS Rep; exact ⟨rfl, rfl⟩⟩
      | _ => exact hq2.elim
  | _ => exact hq.elim

/-! ### The rule -/
/-- What an iterator reads: memory that is as preI says, reached by what it has captured. -/
def RdI (preI : List (Nat × Blk)) (caps : List S) (lb : List Value) (F0 : Nat → Prop) (W : World) : Prop := ∃ G : Gh, G.F = F0 ∧ HeapOk G W (lkB preI) ∧ RepPs G W caps lb
def IterSy (P : Program) (gf : FuncId) (caps : List S) (preI : List (Nat × Blk)) (ys : List (List Value)) : Prop :=
  ∀ (lb : List Value) (F0 : Nat → Prop), IterOk P gf lb.toArray ys F0 (RdI preI caps lb F0) (fun W => ∃ F, RdI preI caps lb F W)
def psS (ps : List Tmp) (y : List Value) : List (Nat × S) := (ps.zip y).map fun q => (q.1, .t (.lit q.2))
def slotsR (gs : List (Nat × S)) (ρ : List (Nat × Nat)) (ps : List Tmp) : List (Nat × S) → Prop
  | [] => True
  | (t, s) :: r => ps.contains t = false ∧ lkS gs t = s.ren ρ ∧ slotsR gs ρ ps r
def allIn (ρ : List (Nat × Option Nat)) (h : List (Nat × Blk)) : Bool := h.all fun q => !offR q.1 ρ
theorem allIn_spec {ρ : List (Nat × Option Nat)} {h : List (Nat × Blk)} (hA : allIn ρ h = true) {l : Nat} {b : Blk} (hl : lkB h l = some b) : offR l ρ = false := by
  have := List.all_eq_true.1 hA (l, b) (lkB_mem hl)
  simpa using this
theorem slotsR_get {gs : List (Nat × S)} {ρ : List (Nat × Nat)} {ps : List Tmp} {t : Nat} : ∀ {g1 : List (Nat × S)}, slotsR gs ρ ps g1 → lkS g1 t = .dead ∨ lkS gs t = (lkS g1 t).ren ρ
  | [], _ => .inl rfl
  | (k, s) :: r, h => by
    simp only [lkS]
    split
    · rename_i e; subst e; exact .inr h.2.1
    · exact slotsR_get h.2.2
theorem zip_get {ps : List Tmp} : ∀ {zs : List (Tmp × Value)} {arr : Array Value} {g1 : List (Nat × S)} {t : Nat}, (zs.map (·.1)).Nodup → (∀ q ∈ zs, q.1 < arr.size) →
    (t ∉ zs.map (·.1) → lkS (zs.map (fun q => (q.1, S.t (.lit q.2))) ++ g1) t = lkS g1 t ∧ (zs.foldl (fun t (p, v) => t.setIfInBounds p v) arr).getD t undef = arr.getD t undef) ∧
    (∀ v, (t, v) ∈ zs → lkS (zs.map (fun q => (q.1, S.t (.lit q.2))) ++ g1) t = .t (.lit v) ∧ (zs.foldl (fun t (p, v) => t.setIfInBounds p v) arr).getD t undef = v) ∧
    (zs.foldl (fun t (p, v) => t.setIfInBounds p v) arr).size = arr.size
  | [], arr, g1, t, _, _ => ⟨fun _ => ⟨rfl, rfl⟩, fun v h => (by cases h), rfl⟩
  | (k, u) :: zs, arr, g1, t, hn, hs => by
    simp only [List.map_cons, List.nodup_cons] at hn
    have hk : k < arr.size := hs (k, u) (by simp)
    obtain ⟨h1, h2, h3⟩ := zip_get (ps := ps) (zs := zs) (arr := arr.setIfInBounds k u) (g1 := g1) (t := t) hn.2 (fun q hq => by simpa using hs q (by simp [hq]))
    simp only [List.map_cons, List.cons_append, List.foldl_cons, lkS]
    refine ⟨fun ht => ?_, fun v hv => ?_, by rw [h3]; simp⟩
    · simp only [List.mem_cons, not_or] at ht
      rw [if_neg ht.1]
      obtain ⟨h4, h5⟩ := h1 ht.2
      refine ⟨h4, ?_⟩
      rw [h5, Array.getD_eq_getD_getElem?, Array.getD_eq_getD_getElem?, Array.getElem?_setIfInBounds_ne (fun e => ht.1 e.symm)]
    · rcases List.mem_cons.1 hv with hv | hv
      · cases hv
        rw [if_pos rfl]
        refine ⟨rfl, ?_⟩
        rw [(h1 hn.1).2, Array.getD_eq_getD_getElem?]
        simp [hk]
      · have hne : t ≠ k := fun e => hn.1 (by rw [← e]; exact List.mem_map.2 ⟨(t, v), hv, rfl⟩)
        rw [if_neg hne]
        exact h2 v hv
theorem RepPs.ofFn {G : Gh} {w : World} {f : Nat → S} : ∀ {n k : Nat} {us : List Value}, us.length = n → (∀ i, i < n → RepS G w (f (k + i)) (us.getD i undef)) → RepPs G w ((List.range' k n).map f) us
  | 0, k, us, hl, _ => by
    have := List.length_eq_zero_iff.1 hl
    subst this
    simp only [List.range'_zero, List.map_nil]; unfold RepPs; rfl
  | n + 1, k, us, hl, h => by
    cases us with
    | nil => simp at hl
    | cons u us =>
      simp only [List.range'_succ, List.map_cons]
      unfold RepPs
      refine ⟨u, us, rfl, by simpa using h 0 (by omega), RepPs.ofFn (by simpa using hl) fun i hi => ?_⟩
      have := h (i + 1) (by omega)
      rw [show k + 1 + i = k + (i + 1) by omega]
      simpa using this
theorem argR_ren (ρ : List (Nat × Nat)) (h : Nat → Option Blk) (bor : List Nat) (s : S) : argR ρ h bor (s.ren ρ) s := by
  cases s with
  | t x => unfold S.ren argR; exact wkT_refl x
  | _ => unfold S.ren argR; simp [S.ren]
theorem argPs_ren (ρ : List (Nat × Nat)) (h : Nat → Option Blk) (bor : List Nat) (f : Nat → S) : ∀ l : List Nat, argPs ρ h bor (l.map fun t => (f t).ren ρ) (l.map f)
  | [] => by simp only [List.map_nil]; unfold argPs; trivial
  | t :: r => by
    simp only [List.map_cons]
    unfold argPs
    exact ⟨argR_ren ρ h bor (f t), argPs_ren ρ h bor f r⟩
theorem marks_inj : ∀ {a b : List Nat}, a.map (fun D => ({ target := .collected D, args := #[] } : Deferred)) = b.map (fun D => { target := .collected D, args := #[] }) → a = b
  | [], [], _ => rfl
  | [], _ :: _, h => by simp at h
  | _ :: _, [], h => by simp at h
  | x :: a, y :: b, h => by
    simp only [List.map_cons, List.cons.injEq, Deferred.mk.injEq, Target.collected.injEq] at h
    rw [h.1.1, marks_inj h.2]
/-- One round of the rule. -/
structure Round (N : Nat) (P : Program) (assign body : Code) (ps : List Tmp) (gs : List (Nat × S)) (h h' : List (Nat × Blk)) (y : List Value) (ρ : List (Nat × Nat)) (g1 : List (Nat × S)) (pre post : List (Nat × Blk)) (ρ2 : List (Nat × Option Nat)) : Prop where
  chk : callChk ρ [] pre post (.t (.lit (.bool true))) = true
  hpre : preR ρ (lkB h) pre
  slots : slotsR gs ρ ps g1
  keys : g1.all (fun q => Nat.blt q.1 N) = true
  fresh : nwOk ⟨gs, h⟩ (callE ρ [] [] pre post (.t (.lit (.bool true)))).nw = true
  run : nf N P [] assign (ThenB N P body post) ⟨psS ps y ++ g1, pre⟩
  wk : Wk ρ2 ⟨gs, updB (callE ρ [] [] pre post (.t (.lit (.bool true)))).u h⟩ ⟨gs, h'⟩
theorem nodupB_list : ∀ {l : List Tmp}, nodupB l = true → l.Nodup
  | [], _ => List.nodup_nil
  | t :: r, h => by
    simp only [nodupB, Bool.and_eq_true, Bool.not_eq_true', List.contains_eq_mem, decide_eq_false_iff_not] at h
    exact List.nodup_cons.2 ⟨h.1, nodupB_list h.2⟩
theorem CW.rangeF {N : Nat} {P : Program} {Q : Exit → St → Prop} {g : Operand} {ps : Array Tmp} {assign body : Code} {σ : St} (gs : List (Nat × S)) (hs : Nat → List (Nat × Blk)) (ρ0 : List (Nat × Option Nat)) {gf : FuncId} {caps : List S} (preI : List (Nat × Blk)) (ys : List (List Value)) (ρI : List (Nat × Option Nat))
    (hstart : Wk ρ0 σ ⟨gs, hs 0⟩) (hg : rdS (lkS gs) g = .fn gf caps) (he : entB P gf = true) (hok1 : okCode N assign = true) (hok2 : okCode N body = true) (hf1 : flatC assign = true) (hf2 : flatC body = true)
    (hpsN : nodupB ps.toList = true) (hpsl : ps.toList.all (fun t => Nat.blt t N) = true) (hps : ∀ y ∈ ys, y.length = ps.size) (hone : ∀ y ∈ ys, ∀ v ∈ y, v.oneCell' = true)
    (hit : IterSy P gf caps preI ys) (hrI : rhoOk ρI = true) (hI : ∀ k, k ≤ ys.length → wkH ρI (lkB (hs k)) preI ∧ wkPs ρI (lkB (hs k)) caps caps ∧ allIn ρI (hs k) = true)
    (round : ∀ k y, ys[k]? = some y → ∃ ρ g1 pre post ρ2, Round N P assign body ps.toList gs (hs k) (hs (k + 1)) y ρ g1 pre post ρ2)
    (done : Q .normal ⟨gs, hs ys.length⟩) : CW N P (.rangeFunc g ps assign body) Q σ := by
  intro hm _ W0 G0 A a w hsat
  obtain ⟨G, hsat⟩ := hsat.weak hstart
  have hgv := hsat.eval g
  rw [hg] at hgv
  unfold RepS at hgv
  obtain ⟨us, hgv, hcaps⟩ := hgv
  obtain ⟨Ds, hD1, hD2, hD3⟩ := hsat.defers
  have hDlt : ∀ D ∈ Ds, D < w.heap.size := fun D hD => (Array.getElem?_eq_some_iff.1 (hD3 D hD).1).1
  have defs : ∀ {W : World} (hW : DefOk W0 a.defers W), ∀ D ∈ Ds, W.heap[D]? = some (Obj.deferred (some [])) := by
    intro W hW D hD
    obtain ⟨Ds', h1, _, h3⟩ := hW
    rw [hD1] at h1
    have := marks_inj h1
    subst this
    exact (h3 D hD).1
  have mk : ∀ {W : World}, (∀ D ∈ Ds, W.heap[D]? = some (Obj.deferred (some []))) → DefOk W0 a.defers W := fun h => ⟨Ds, hD1, hD2, fun D hD => ⟨h D hD, (hD3 D hD).2⟩⟩
  have hW0 : W0.heap.size ≤ w.heap.size := hsat.frm.size
  let I : Nat → World → Prop := fun k W => k ≤ ys.length ∧ ∃ G', SatG N W0 G0 A G' (lkS gs) (lkB (hs k)) a W ∧ ∀ b, G.F b → G'.F b
  have hput : ∀ k W D o o', I k W → W.heap[D]? = some o → o.isCells = false → o'.isCells = false → w.heap.size ≤ D → I k (W.putObj D o') := by
    rintro k W D o o' ⟨hk, G', h1, h2⟩ hD ho ho' hDw
    refine ⟨hk, G', h1.world (SameW.putObj hD ho ho' (by omega)) (mk fun D' hD' => ?_), h2⟩
    have := hDlt D' hD'
    rw [World.putObj_heap_other (by omega)]
    exact defs h1.defers D' hD'
  have rd : ∀ k W G', k ≤ ys.length → SatG N W0 G0 A G' (lkS gs) (lkB (hs k)) a W → RdI preI caps us G'.F W := by
    intro k W G' hk h1
    obtain ⟨i1, i2, i3⟩ := hI k hk
    have h3 := h1.eval g
    rw [hg] at h3
    unfold RepS at h3
    obtain ⟨us', h4, h5⟩ := h3
    rw [hgv] at h4
    have e : us' = us := by simpa using h4.symm
    subst e
    refine ⟨wkGh ρI (lkB (hs k)) G', ?_, wk_heap hrI h1.heap i1, wkPs_spec h1.heap _ _ _ i2 h5⟩
    funext b
    refine propext ⟨fun h => ?_, fun h => .inl h⟩
    rcases h with h | ⟨l, x, h6, h7, _⟩
    · exact h
    · rw [allIn_spec i3 h6] at h7; cases h7
  refine wpIn_wide.1 (wpIn_range hgv (fun args w => run_callFunc he args w) (hit us G.F) hps I (fun _ _ => False) ?_ hput (fun _ _ _ h _ => h) (fun _ _ _ _ _ h _ _ _ _ => h) ?_ ?_ ⟨Nat.zero_le _, G, hsat, fun _ h => h⟩ ?_ ?_ (fun _ _ _ _ h _ => h.elim))
  · rintro k A' B ⟨hk, G', h1, h2⟩ hb
    refine ⟨hk, G', h1.world (SameW.below hb h1.frm.size) (mk fun D hD => ?_), h2⟩
    have h3 := defs h1.defers D hD
    rw [hb.block D (Array.getElem?_eq_some_iff.1 h3).1]; exact h3
  · rintro k A' ⟨hk, G', h1, h2⟩
    exact ⟨_, rd k A' G' hk h1⟩
  · intro B hb
    refine rd 0 B G (Nat.zero_le _) (hsat.world (SameW.below hb hW0) (mk fun D hD => ?_))
    rw [hb.block D (hDlt D hD)]; exact (hD3 D hD).1
  · rintro l k y A' hy ⟨hk, G', h1, h2⟩ hwl ⟨r, hr⟩
    have hkl : k < ys.length := (List.getElem?_eq_some_iff.1 hy).1
    have hym := List.mem_of_getElem? hy
    obtain ⟨ρ, g1, pre, post, ρ2, R⟩ := round k y hy
    have hlen := hps y hym
    have hzn : ((ps.toList.zip y).map (·.1)).Nodup := by
      have e : (ps.toList.zip y).map (·.1) = ps.toList := by
        rw [List.map_fst_zip]; simp [hlen]
      rw [e]; exact nodupB_list hpsN
    have hzs : ∀ q ∈ ps.toList.zip y, q.1 < a.tmps.size := by
      intro q hq
      have h3 := List.all_eq_true.1 hpsl q.1 (List.of_mem_zip hq).1
      rw [h1.size]
      exact (by simpa [Nat.blt] using h3 : q.1 + 1 ≤ N)
    have hfold : (ps.zip y.toArray).foldl (fun t (p, v) => t.setIfInBounds p v) a.tmps = (ps.toList.zip y).foldl (fun t (p, v) => t.setIfInBounds p v) a.tmps := by
      rw [← Array.foldl_toList]; simp
    have hkeys : (psS ps.toList y ++ g1).all (fun q => Nat.blt q.1 N) = true := by
      rw [List.all_append, Bool.and_eq_true]
      refine ⟨?_, R.keys⟩
      unfold psS
      rw [List.all_eq_true]
      intro q hq
      obtain ⟨z, hz, rfl⟩ := List.mem_map.1 hq
      exact List.all_eq_true.1 hpsl z.1 (List.of_mem_zip hz).1
    obtain ⟨hcall, hnw⟩ := CallOkG.fn (C := RoundC P l assign body) RoundC.mono (round_fn (l := l) hm hok1 hok2 hf1 hf2 hkeys R.run) ρ [] [] (h := lkB (hs k)) R.chk (argPs_ren ρ (lkB (hs k)) _ (lkS (psS ps.toList y ++ g1)) (List.range N)) R.hpre trivial (.inl rfl)
    have hz := fun t => zip_get (ps := ps.toList) (zs := ps.toList.zip y) (arr := a.tmps) (g1 := g1) (t := t) hzn hzs
    have hrep : RepPs G' A' ((List.range N).map fun t => (lkS (psS ps.toList y ++ g1) t).ren ρ) ((ps.toList.zip y).foldl (fun t (p, v) => t.setIfInBounds p v) a.tmps).toList := by
      rw [List.range_eq_range']
      refine RepPs.ofFn (by rw [Array.length_toList, (hz 0).2.2, h1.size]) fun t ht => ?_
      rw [Nat.zero_add]
      have e : ((ps.toList.zip y).foldl (fun t (p, v) => t.setIfInBounds p v) a.tmps).toList.getD t undef = ((ps.toList.zip y).foldl (fun t (p, v) => t.setIfInBounds p v) a.tmps).getD t undef := by
        rw [Array.getD_eq_getD_getElem?, List.getD_eq_getElem?_getD, Array.getElem?_toList]
      rw [e]
      by_cases htm : t ∈ (ps.toList.zip y).map (·.1)
      · obtain ⟨⟨t', v⟩, hv, rfl⟩ := List.mem_map.1 htm
        obtain ⟨h4, h5⟩ := (hz t').2.1 v hv
        show RepS G' A' ((lkS (psS ps.toList y ++ g1) t').ren ρ) _
        rw [show lkS (psS ps.toList y ++ g1) t' = .t (.lit v) from h4]
        rw [h5]
        unfold S.ren RepS Rep
        exact ⟨rfl, hone y hym v (List.of_mem_zip hv).2⟩
      · obtain ⟨h4, h5⟩ := (hz t).1 htm
        show RepS G' A' ((lkS (psS ps.toList y ++ g1) t).ren ρ) _
        rw [show lkS (psS ps.toList y ++ g1) t = lkS g1 t from h4, h5]
        rcases slotsR_get (t := t) R.slots with h6 | h6
        · rw [h6]; unfold S.ren RepS; trivial
        · rw [← h6]; exact h1.slots t
    have hfr := nwOk_spec R.fresh
    have hC := hcall G' (lkB (hs k)) A' _ h1.heap hrep (fun _ _ => rfl) (fun l hl => ⟨(hfr l hl).1, (hfr l hl).2.2⟩) r hr
    rw [hfold]
    rw [Array.toArray_toList] at hC
    refine wpIn_mono hC ?_
    rintro e a1 w1 hp
    cases e with
    | normal =>
      refine ⟨hp.1, hp.2.1, fun o' ho => wpIn_mono (hp.2.2 o' ho) ?_⟩
      rintro e a2 w2 ⟨k1, k2, hp2⟩
      cases e with
      | normal =>
        obtain ⟨v, G1, _, hx, _⟩ := hp2
        have s1 : SatG N W0 G0 A G1 (lkS gs) (hupd (callE ρ [] [] pre post (.t (.lit (.bool true)))).u (lkB (hs k))) a (w2.putObj l (.loop r)) :=
          ⟨h1.size, hx.defs h1.heap h1.defers, fun t => RepS.keep hx.keep _ _ (fun l hl => (hfr l hl).2.1 t) (h1.slots t), hx.heap, h1.frm.ext hx hnw⟩
        have s2 : Sat N W0 G0 A ⟨gs, updB (callE ρ [] [] pre post (.t (.lit (.bool true)))).u (hs k)⟩ a (w2.putObj l (.loop r)) := by
          refine ⟨G1, ?_⟩
          have e : lkB (updB (callE ρ [] [] pre post (.t (.lit (.bool true)))).u (hs k)) = hupd (callE ρ [] [] pre post (.t (.lit (.bool true)))).u (lkB (hs k)) := by funext j; rw [lkB_updB]
          show SatG N W0 G0 A G1 (lkS gs) (lkB (updB _ (hs k))) a _
          rw [e]; exact s1
        have hw := R.wk
        obtain ⟨q1, q2, q3⟩ := hw
        have s3 : SatG N W0 G0 A (wkGh ρ2 (lkB (updB (callE ρ [] [] pre post (.t (.lit (.bool true)))).u (hs k))) G1) (lkS gs) (lkB (hs (k + 1))) a (w2.putObj l (.loop r)) := by
          have e : lkB (updB (callE ρ [] [] pre post (.t (.lit (.bool true)))).u (hs k)) = hupd (callE ρ [] [] pre post (.t (.lit (.bool true)))).u (lkB (hs k)) := by funext j; rw [lkB_updB]
          have s1' := s1
          rw [← e] at s1'
          exact ⟨s1.size, s1.defers, fun t => wkS_spec s1'.heap _ _ _ (wkG_get t q2) (s1.slots t), wk_heap q1 s1'.heap q3, wk_from q1 q3 s1'.frm⟩
        have hl2 : w2.heap[l]? = some o' := k2
        have hl2w := (Array.getElem?_eq_some_iff.1 hl2).1
        have i1 : I (k + 1) (w2.putObj l (.loop r)) := ⟨hkl, _, s3, fun b hb => .inl (hx.keep.fsub b (h2 b hb))⟩
        have i2 := hput (k + 1) _ l (.loop r) o' i1 (World.putObj_heap_same hl2w) rfl ho hwl
        rw [putObj_self hl2] at i2
        refine ⟨k1, k2, fun b o hb => ?_, i2⟩
        rw [← hx.keep.fcell b o (h2 b hb)]
        exact (cell_putObj hl2 ho rfl b o).symm
      | _ => exact hp2.elim
    | _ => exact hp.elim
  · rintro D W hD ⟨hk, G', h1, h2⟩ hWD
    refine ⟨_, done, G', ⟨h1.size, ?_, h1.slots, h1.heap, h1.frm⟩⟩
    refine ⟨D :: Ds, by simp [hD1], List.nodup_cons.2 ⟨fun hm => ?_, hD2⟩, fun D' hD' => ?_⟩
    · have := hDlt D hm; omega
    · rcases List.mem_cons.1 hD' with rfl | hD'
      · exact ⟨hWD, by omega⟩
      · exact ⟨defs h1.defers D' hD', (hD3 D' hD').2⟩
end Go.Proofs.YtcehllkmfkoncaaGreat.Sy
/- The iterators over the ports and the segments of a node. No condition. -/
namespace Go.Proofs.YtcehllkmfkoncaaGreat
open Go.RowKit Sy
set_option linter.unusedVariables false
set_option linter.unusedSimpArgs false
attribute [local go_sem] Oper.semAt_some

/-- A port: its name, its node, its pressure. -/
abbrev Prt := List Nat × Int × Int
def absI (r : Int) : Int := max r (-r)
/-- What is given from place k on. -/
def prtYs (node : Int) (inn : Bool) : Nat → List Prt → List Int → List (Nat × Int)
  | k, p :: ps, r :: rs => if p.2.1 = node ∧ r ≠ 0 ∧ decide (r > 0) = inn then (k, absI r) :: prtYs node inn (k + 1) ps rs else prtYs node inn (k + 1) ps rs
  | _, _, _ => []
def encY (y : Nat × Int) : List Value := [.int .i64 y.1, .int .i64 y.2]
structure PrtRd (b1 b2 b3 : Nat) (node : Int) (inn : Bool) (rates : List Int) (A : World) (xb : Nat) (rb ro rc : Nat) : Prop where
  c1 : A.cell? ⟨b1, 0, none⟩ = some (.pointer (some ⟨xb, 0, none⟩))
  c2 : A.cell? ⟨b2, 0, none⟩ = some (.int .i64 node)
  c3 : A.cell? ⟨b3, 0, none⟩ = some (.bool inn)
  c7 : A.cell? ⟨xb, 7, none⟩ = some (.slice (some ⟨rb, ro, none⟩) rates.length rc)
  le : rates.length ≤ rc
  rs : ∀ i r, rates[i]? = some r → A.cell? ⟨rb, ro + i, none⟩ = some (.int .i64 r)
/-- The ports lie at pb. -/
def PrtAt (pb po : Nat) (ports : List Prt) (A : World) : Prop := ∀ i p, ports[i]? = some p → A.cell? ⟨pb, po + i * 3, none⟩ = some (.string (str p.1)) ∧ A.cell? ⟨pb, po + i * 3 + 1, none⟩ = some (.int .i64 p.2.1) ∧ A.cell? ⟨pb, po + i * 3 + 2, none⟩ = some (.int .i64 p.2.2)
theorem cell_more {A : World} (o2 : Obj) {b o : Nat} {v : Value} (h : A.cell? ⟨b, o, none⟩ = some v) : (A.alloc o2).cell? ⟨b, o, none⟩ = some v := by
  rw [cell_block (Below.heap_alloc A _ b ?_)]
  · exact h
  · obtain ⟨oo, h1, _⟩ := cells_of_cell h
    exact (Array.getElem?_eq_some_iff.1 h1).1
theorem PrtAt.more {pb po : Nat} {ports : List Prt} {A : World} (h : PrtAt pb po ports A) (o2 : Obj) : PrtAt pb po ports (A.alloc o2) := fun i p hp => by
  obtain ⟨h1, h2, h3⟩ := h i p hp
  exact ⟨cell_more o2 h1, cell_more o2 h2, cell_more o2 h3⟩
theorem PrtAt.keep {pb po : Nat} {ports : List Prt} {A B : World} (h : PrtAt pb po ports A) {F0 : Nat → Prop} (hF : F0 pb) (hk : ∀ b o, F0 b → B.cell? ⟨b, o, none⟩ = A.cell? ⟨b, o, none⟩) : PrtAt pb po ports B := fun i p hp => by
  obtain ⟨h1, h2, h3⟩ := h i p hp
  exact ⟨(hk pb _ hF).trans h1, (hk pb _ hF).trans h2, (hk pb _ hF).trans h3⟩
set_option maxRecDepth 100000 in
set_option maxHeartbeats 4000000 in
theorem ports1_in (l : Nat) (b1 b2 b3 : Nat) (node : Int) (inn : Bool) (ports : List Prt) (rates : List Int) (hlen : rates.length = ports.length) (hl2 : ports.length ≤ 1000) (hrate : ∀ r ∈ rates, -1000000000 ≤ r ∧ r ≤ 1000000000) (F0 : Nat → Prop)
    (J : Nat → World → Prop) (Jx : World → Prop) (W : World) (hJ : ∀ k A B, J k A → Below A.heap.size A B → J k B) (hJx : ∀ A B, Jx A → Below A.heap.size A B → Jx B)
    (hRd : ∀ k A, J k A → ∃ xb rb ro rc, PrtRd b1 b2 b3 node inn rates A xb rb ro rc)
    (hY : ∀ k y A, (prtYs node inn 0 ports rates)[k]? = some y → J k A → YieldAt Fence.wide 7 Tryz.prog l (encY y).toArray A fun e B => (∀ b o, F0 b → B.cell? ⟨b, o, none⟩ = A.cell? ⟨b, o, none⟩) ∧ ((e = .returned (.bool true) ∧ J (k + 1) B) ∨ (e = .returned (.bool false) ∧ Jx B)))
    (h0 : J 0 W) (xb pb po pc : Nat) (g1 : W.cell? ⟨b1, 0, none⟩ = some (.pointer (some ⟨xb, 0, none⟩))) (g2 : W.cell? ⟨xb, 2, none⟩ = some (.slice (some ⟨pb, po, none⟩) ports.length pc)) (g3 : ports.length ≤ pc) (g4 : F0 pb)
    (g5 : PrtAt pb po ports W) :
    CallsIn Fence.wide 8 Tryz.prog 149 #[.func (.yield l) #[] #[], .pointer (some ⟨b1, 0, none⟩), .pointer (some ⟨b2, 0, none⟩), .pointer (some ⟨b3, 0, none⟩)] W fun e B => (∃ v, e = .returned v) ∧ (J (prtYs node inn 0 ports rates).length B ∨ Jx B) := by
  obtain ⟨ys, hys⟩ : ∃ ys, prtYs node inn 0 ports rates = ys := ⟨_, rfl⟩
  rw [hys] at hY ⊢
  have hn : (8 : Nat) - 1 = 7 := rfl
  refine callsIn_of_wp Tryz.func149 rfl trivial ?_ rfl
  simp only [Tryz.ntmps149, List.size_toArray, List.length_cons, List.length_nil, Nat.reduceAdd, Nat.reduceSub, Array.replicate_succ, Array.replicate_zero, List.push_toArray, List.append_toArray, List.nil_append, List.cons_append]
  gi_wp2
  gi_loopw [14] (fun i wr => ∃ (k kk : Nat), k ≤ ports.length ∧ i = .int .i64 k ∧ ys.drop kk = prtYs node inn k (ports.drop k) (rates.drop k) ∧ kk ≤ ys.length ∧ J kk wr ∧ PrtAt pb po ports wr)
    (fun i _ => ports.length - (intOf i).toNat)
  case atStart => exact ⟨0, 0, Nat.zero_le _, rfl, by simpa using hys.symm, Nat.zero_le _, h0, g5⟩
  case round =>
    obtain ⟨k, kk, hk, rfl, hdr, hkk, hJk, hF⟩ := hrel
    obtain ⟨xb', rb, ro, rc, R⟩ := hRd kk wr hJk
    have c1 := R.c1
    have c2 := R.c2
    have c3 := R.c3
    have c7 := R.c7
    have hle := R.le
    by_cases hlt : k < ports.length
    · obtain ⟨⟨nm, nd, pr⟩, hp⟩ := has_get hlt
      obtain ⟨r, hr⟩ : ∃ r, rates[k]? = some r := has_get (by omega)
      have q1 := R.rs k r hr
      obtain ⟨p1, p2, p3⟩ := hF k _ hp
      dsimp only at p1 p2 p3
      have hd1 : ports.drop k = (nm, nd, pr) :: ports.drop (k + 1) := drop_get hp
      have hd2 : rates.drop k = r :: rates.drop (k + 1) := drop_get hr
      rw [hd1, hd2] at hdr
      obtain ⟨o2, ho2⟩ : ∃ o2 : Obj, o2 = .cells #[.string (str nm), .int .i64 nd, .int .i64 pr] 80 := ⟨_, rfl⟩
      have n1 : (wr.alloc o2).cell? ⟨wr.heap.size, 1, none⟩ = some (.int .i64 nd) := by
        have := World.alloc_heap_new wr o2
        rw [ho2] at this ⊢
        rw [cell_of_row _ _ 1 _ _ (0, 0) this]; rfl
      have a1 := cell_more o2 c1
      have a2 := cell_more o2 c2
      have a3 := cell_more o2 c3
      have a7 := cell_more o2 c7
      have aq := cell_more o2 q1
      have hF2 := hF.more o2
      have hb2 : Below wr.heap.size wr (wr.alloc o2) := (Below.refl _ wr).alloc (Nat.le_refl _) _
      have hJ2 := hJ kk _ _ hJk hb2
      rw [ho2] at a1 a2 a3 a7 aq n1 hF2 hJ2
      have hrb := hrate r (List.mem_of_getElem? hr)
      have hng : IntKind.i64.wrap (0 - r) = - r := by rw [IntKind.wrap_i64]; omega
      have hng2 : IntKind.i64.wrap (-r) = - r := by rw [IntKind.wrap_i64]; omega
      by_cases hnd : nd = node
      · subst hnd
        by_cases hr0 : r = 0
        · subst hr0
          gi_wp2
          go_roundw
          case rel => exact ⟨k + 1, kk, by omega, by simp, by simpa [prtYs] using hdr, hkk, hJ2, hF2⟩
          case measure => simp [intOf]; omega
        · by_cases hsg : 0 < r
          · have hx1 : ¬ r < -r := by omega
            cases inn with
            | true =>
              have hab : absI r = r := by unfold absI; omega
              have hdr2 : ys.drop kk = (k, r) :: prtYs nd true (k + 1) (ports.drop (k + 1)) (rates.drop (k + 1)) := by rw [hdr]; simp only [prtYs]; rw [if_pos (by simp [hr0, hsg]), hab]
              have hyk : ys[kk]? = some (k, r) := by
                have := congrArg (fun l => l[0]?) hdr2
                simpa using this
              have hkl : kk < ys.length := (List.getElem?_eq_some_iff.1 hyk).1
              obtain ⟨fn, tmps, assign, body, hy, hR⟩ := hY kk _ _ hyk hJ2
              unfold encY at hy
              dsimp only at hy
              gi_wp2
              refine hR.mono ?_
              rintro e W3 ⟨hk3, ⟨rfl, hJ3⟩ | ⟨rfl, hJx3⟩⟩
              · gi_wp2
                go_roundw
                case rel => exact ⟨k + 1, kk + 1, by omega, by simp, by rw [← List.drop_drop, hdr2]; rfl, hkl, hJ3, hF2.keep g4 hk3⟩
                case measure => simp [intOf]; omega
              · gi_wp2
                refine bodyPost_ret (results_none rfl _ _ _) rfl ?_
                exact ⟨⟨_, rfl⟩, .inr hJx3⟩
            | false =>
              gi_wp2
              go_roundw
              case rel => exact ⟨k + 1, kk, by omega, by simp, by rw [hdr]; simp only [prtYs]; rw [if_neg (by simp; try omega)], hkk, hJ2, hF2⟩
              case measure => simp [intOf]; omega
          · have hx1 : r < -r := by omega
            cases inn with
            | true =>
              gi_wp2
              go_roundw
              case rel => exact ⟨k + 1, kk, by omega, by simp, by rw [hdr]; simp only [prtYs]; rw [if_neg (by simp; try omega)], hkk, hJ2, hF2⟩
              case measure => simp [intOf]; omega
            | false =>
              have hab : absI r = (-r) := by unfold absI; omega
              have hdr2 : ys.drop kk = (k, (-r)) :: prtYs nd false (k + 1) (ports.drop (k + 1)) (rates.drop (k + 1)) := by rw [hdr]; simp only [prtYs]; rw [if_pos (by simp [hr0, hsg]), hab]
              have hyk : ys[kk]? = some (k, (-r)) := by
                have := congrArg (fun l => l[0]?) hdr2
                simpa using this
              have hkl : kk < ys.length := (List.getElem?_eq_some_iff.1 hyk).1
              obtain ⟨fn, tmps, assign, body, hy, hR⟩ := hY kk _ _ hyk hJ2
              unfold encY at hy
              dsimp only at hy
              gi_wp2
              refine hR.mono ?_
              rintro e W3 ⟨hk3, ⟨rfl, hJ3⟩ | ⟨rfl, hJx3⟩⟩
              · gi_wp2
                go_roundw
                case rel => exact ⟨k + 1, kk + 1, by omega, by simp, by rw [← List.drop_drop, hdr2]; rfl, hkl, hJ3, hF2.keep g4 hk3⟩
                case measure => simp [intOf]; omega
              · gi_wp2
                refine bodyPost_ret (results_none rfl _ _ _) rfl ?_
                exact ⟨⟨_, rfl⟩, .inr hJx3⟩
      · gi_wp2
        go_roundw
        case rel => exact ⟨k + 1, kk, by omega, by simp, by simpa [prtYs, hnd] using hdr, hkk, hJ2, hF2⟩
        case measure => simp [intOf]; omega
    · obtain rfl : k = ports.length := by omega
      have hkl : kk = ys.length := by
        rw [List.drop_length] at hdr
        have := congrArg List.length hdr
        simp [prtYs] at this
        omega
      gi_wp2
      go_end0
      exact ⟨⟨_, rfl⟩, .inl (by rw [← hkl]; exact hJk)⟩
end Go.Proofs.YtcehllkmfkoncaaGreat
/- flow.Ends as a contract. No condition. -/
namespace Go.Proofs.YtcehllkmfkoncaaGreat
open Go.RowKit Sy
open Go.IntWalk renaming iteOmega → iO, toNatUp → tN
set_option linter.unusedVariables false
set_option linter.unusedSimpArgs false
def endA (a b r : Int) : Int := if r < 0 then b else a
def endB (a b r : Int) : Int := if r < 0 then a else b
set_option maxRecDepth 100000 in
theorem ends_fn (nm v7 : Value) (h1 : nm.oneCell' = true) (h7 : v7.oneCell' = true) (a b c d e r : Int) : FnOk Tryz.prog 148 [.t (.agg [.lit nm, .int a, .int b, .int c, .int d, .int e, .lit v7]), .t (.int r)] [] (.tup [.t (.int (endA a b r)), .t (.int (endB a b r))]) [] := by
  refine FnOk.intro fact_mixed Tryz.func148 rfl Tryz.ntmps148 (by rfl) (by simp) ?_
  by_cases hr : r < 0
  · have e1 : endA a b r = b := if_pos hr
    have e2 : endB a b r = a := if_pos hr
    repeat (first | (refine nf1_sound rfl ?_; simp [go_sem, ↓iO, iO, tN]; (repeat (refine anI ?_)); try (refine ⟨dcK, ?_⟩)) | ((first | refine itePos (by omega) ?_ | refine iteNeg (by omega) ?_); try simp [go_sem, ↓iO, iO, tN]) | (refine ⟨dcK, ?_⟩))
    first | rw [RetQ_ret] | rw [RetQ_normal]
    refine ⟨[], ?_⟩
    simp [go_sem, ↓iO, iO, tN, e1, e2]
  · have e1 : endA a b r = a := if_neg hr
    have e2 : endB a b r = b := if_neg hr
    repeat (first | (refine nf1_sound rfl ?_; simp [go_sem, ↓iO, iO, tN]; (repeat (refine anI ?_)); try (refine ⟨dcK, ?_⟩)) | ((first | refine itePos (by omega) ?_ | refine iteNeg (by omega) ?_); try simp [go_sem, ↓iO, iO, tN]) | (refine ⟨dcK, ?_⟩))
    first | rw [RetQ_ret] | rw [RetQ_normal]
    refine ⟨[], ?_⟩
    simp [go_sem, ↓iO, iO, tN, e1, e2]
/-- A contract, at the level of calls: nothing that lay is turned. -/
theorem fn_calls {P : Program} {f : FuncId} {ss : List S} {r : S} {us : List Value} {w : World} (h : FnOk P f ss [] r []) (hr : RepPs (lawG w) w ss us) :
    Calls P f us.toArray w fun e w' => ∃ v G', e = .returned v ∧ Below w.heap.size w w' ∧ RepS G' w' r v := by
  refine (h (lawG w) w us ⟨fun l b h => by simp [lkB] at h, fun l b h => by simp [lkB] at h, fun l b k h => by simp [lkB] at h, fun l l' b b' k h => by simp [lkB] at h, fun b h => h⟩ hr).mono ?_
  rintro e w' ⟨v, G', rfl, h1, _, h3⟩
  exact ⟨v, G', rfl, ⟨h1.os, h1.tape, h1.output, h1.size, fun k hk => h1.block k hk (fun ⟨l, x, h4, _⟩ => by simp [lkB] at h4)⟩, h3⟩
theorem ends_call (nm v7 : Value) (h1 : nm.oneCell' = true) (h7 : v7.oneCell' = true) (a b c d e r : Int) (w : World) :
    Calls Tryz.prog 148 #[.agg #[nm, .int .i64 a, .int .i64 b, .int .i64 c, .int .i64 d, .int .i64 e, v7], .int .i64 r] w fun e w' => e = .returned (.tuple #[.int .i64 (endA a b r), .int .i64 (endB a b r)]) ∧ Below w.heap.size w w' := by
  refine (fn_calls (us := [_, _]) (ends_fn nm v7 h1 h7 a b c d e r) ?_).mono ?_
  · refine reps_cons ?_ (reps_cons (rep_lit rfl) reps_nil)
    unfold RepS Rep
    refine ⟨[nm, .int .i64 a, .int .i64 b, .int .i64 c, .int .i64 d, .int .i64 e, v7], rfl, ?_⟩
    have one : ∀ {F : Nat → Prop} {w : World} {v : Value} {xs : List T} {cs : List Value}, v.oneCell' = true → Reps F w xs cs → Reps F w (.lit v :: xs) (v :: cs) := fun {F w v xs cs} hv hx => by
      show Reps _ _ (.lit v :: xs) _
      unfold Reps Rep
      exact ⟨v, cs, by rw [cells_one hv]; rfl, ⟨rfl, hv⟩, hx⟩
    exact one h1 (one rfl (one rfl (one rfl (one rfl (one rfl (one h7 (by unfold Reps; rfl)))))))
  · rintro e' w' ⟨v, G', rfl, hb, hr⟩
    unfold RepS at hr
    obtain ⟨us, rfl, hr⟩ := hr
    unfold RepPs at hr
    obtain ⟨v1, r1, rfl, k1, hr⟩ := hr
    unfold RepPs at hr
    obtain ⟨v2, r2, rfl, k2, hr⟩ := hr
    unfold RepPs at hr
    subst hr
    unfold RepS Rep at k1 k2
    rw [k1.1, k2.1]
    exact ⟨rfl, hb⟩
end Go.Proofs.YtcehllkmfkoncaaGreat
/- The iterator over the segments of a node. Printed by a program (gen_avseg.py). No condition. -/
namespace Go.Proofs.YtcehllkmfkoncaaGreat
open Go.RowKit Sy
set_option linter.unusedVariables false
set_option linter.unusedSimpArgs false
attribute [local go_sem] Oper.semAt_some
/-- A segment: its name, from, to, capacity, resistance, wave; its points are a value. -/
structure SegV where
  nm : List Nat
  fr : Int
  to : Int
  cp : Int
  rs : Int
  wv : Int
/-- The node that is looked at. -/
def tgt (inn : Bool) (a b r : Int) : Int := if inn then endB a b r else endA a b r
def segYs (node : Int) (inn : Bool) : Nat → List SegV → List Int → List (Nat × Int)
  | k, p :: ps, r :: rs => if r ≠ 0 ∧ tgt inn p.fr p.to r = node then (k, absI r) :: segYs node inn (k + 1) ps rs else segYs node inn (k + 1) ps rs
  | _, _, _ => []
def SegAt (pb po : Nat) (segs : List SegV) (A : World) : Prop := ∀ i p, segs[i]? = some p → A.cell? ⟨pb, po + i * 7, none⟩ = some (.string (str p.nm)) ∧ A.cell? ⟨pb, po + i * 7 + 1, none⟩ = some (.int .i64 p.fr) ∧ A.cell? ⟨pb, po + i * 7 + 2, none⟩ = some (.int .i64 p.to) ∧
  A.cell? ⟨pb, po + i * 7 + 3, none⟩ = some (.int .i64 p.cp) ∧ A.cell? ⟨pb, po + i * 7 + 4, none⟩ = some (.int .i64 p.rs) ∧ A.cell? ⟨pb, po + i * 7 + 5, none⟩ = some (.int .i64 p.wv) ∧ ∃ x n c, A.cell? ⟨pb, po + i * 7 + 6, none⟩ = some (.slice x n c)
theorem cell_bel {A B : World} {b o : Nat} {v : Value} (h : A.cell? ⟨b, o, none⟩ = some v) (hb : Below A.heap.size A B) : B.cell? ⟨b, o, none⟩ = some v := by
  rw [cell_block (hb.block b ?_)]
  · exact h
  · obtain ⟨oo, h1, _⟩ := cells_of_cell h
    exact (Array.getElem?_eq_some_iff.1 h1).1
theorem SegAt.bel {pb po : Nat} {segs : List SegV} {A B : World} (h : SegAt pb po segs A) (hb : Below A.heap.size A B) : SegAt pb po segs B := fun i p hp => by
  obtain ⟨h1, h2, h3, h4, h5, h6, x7, n7, c7, h8⟩ := h i p hp
  exact ⟨cell_bel h1 hb, cell_bel h2 hb, cell_bel h3 hb, cell_bel h4 hb, cell_bel h5 hb, cell_bel h6 hb, x7, n7, c7, cell_bel h8 hb⟩
theorem SegAt.keep {pb po : Nat} {segs : List SegV} {A B : World} (h : SegAt pb po segs A) {F0 : Nat → Prop} (hF : F0 pb) (hk : ∀ b o, F0 b → B.cell? ⟨b, o, none⟩ = A.cell? ⟨b, o, none⟩) : SegAt pb po segs B := fun i p hp => by
  obtain ⟨h1, h2, h3, h4, h5, h6, x7, n7, c7, h8⟩ := h i p hp
  exact ⟨(hk pb _ hF).trans h1, (hk pb _ hF).trans h2, (hk pb _ hF).trans h3, (hk pb _ hF).trans h4, (hk pb _ hF).trans h5, (hk pb _ hF).trans h6, x7, n7, c7, (hk pb _ hF).trans h8⟩
structure SegRd (b1 b2 b3 : Nat) (node : Int) (inn : Bool) (rates : List Int) (A : World) (xb : Nat) (rb ro rc : Nat) : Prop where
  c1 : A.cell? ⟨b1, 0, none⟩ = some (.pointer (some ⟨xb, 0, none⟩))
  c2 : A.cell? ⟨b2, 0, none⟩ = some (.bool inn)
  c3 : A.cell? ⟨b3, 0, none⟩ = some (.int .i64 node)
  c7 : A.cell? ⟨xb, 6, none⟩ = some (.slice (some ⟨rb, ro, none⟩) rates.length rc)
  le : rates.length ≤ rc
  rs : ∀ i r, rates[i]? = some r → A.cell? ⟨rb, ro + i, none⟩ = some (.int .i64 r)
set_option maxRecDepth 100000 in
set_option maxHeartbeats 8000000 in
theorem segs1_in (l : Nat) (b1 b2 b3 : Nat) (node : Int) (inn : Bool) (segs : List SegV) (rates : List Int) (hlen : rates.length = segs.length) (hl2 : segs.length ≤ 1000) (hrate : ∀ r ∈ rates, -1000000000 ≤ r ∧ r ≤ 1000000000) (F0 : Nat → Prop)
    (J : Nat → World → Prop) (Jx : World → Prop) (W : World) (hJ : ∀ k A B, J k A → Below A.heap.size A B → J k B) (hJx : ∀ A B, Jx A → Below A.heap.size A B → Jx B)
    (hRd : ∀ k A, J k A → ∃ xb rb ro rc, SegRd b1 b2 b3 node inn rates A xb rb ro rc)
    (hY : ∀ k y A, (segYs node inn 0 segs rates)[k]? = some y → J k A → YieldAt Fence.wide 7 Tryz.prog l (encY y).toArray A fun e B => (∀ b o, F0 b → B.cell? ⟨b, o, none⟩ = A.cell? ⟨b, o, none⟩) ∧ ((e = .returned (.bool true) ∧ J (k + 1) B) ∨ (e = .returned (.bool false) ∧ Jx B)))
    (h0 : J 0 W) (xb pb po pc : Nat) (g1 : W.cell? ⟨b1, 0, none⟩ = some (.pointer (some ⟨xb, 0, none⟩))) (g2 : W.cell? ⟨xb, 1, none⟩ = some (.slice (some ⟨pb, po, none⟩) segs.length pc)) (g3 : segs.length ≤ pc) (g4 : F0 pb)
    (g5 : SegAt pb po segs W) :
    CallsIn Fence.wide 8 Tryz.prog 150 #[.func (.yield l) #[] #[], .pointer (some ⟨b1, 0, none⟩), .pointer (some ⟨b2, 0, none⟩), .pointer (some ⟨b3, 0, none⟩)] W fun e B => (∃ v, e = .returned v) ∧ (J (segYs node inn 0 segs rates).length B ∨ Jx B) := by
  obtain ⟨ys, hys⟩ : ∃ ys, segYs node inn 0 segs rates = ys := ⟨_, rfl⟩
  rw [hys] at hY ⊢
  refine callsIn_of_wp Tryz.func150 rfl trivial ?_ rfl
  simp only [Tryz.ntmps150, List.size_toArray, List.length_cons, List.length_nil, Nat.reduceAdd, Nat.reduceSub, Array.replicate_succ, Array.replicate_zero, List.push_toArray, List.append_toArray, List.nil_append, List.cons_append]
  gi_wp2
  gi_loopw [16] (fun i wr => ∃ (k kk : Nat), k ≤ segs.length ∧ i = .int .i64 k ∧ ys.drop kk = segYs node inn k (segs.drop k) (rates.drop k) ∧ kk ≤ ys.length ∧ J kk wr ∧ SegAt pb po segs wr)
    (fun i _ => segs.length - (intOf i).toNat)
  case atStart => exact ⟨0, 0, Nat.zero_le _, rfl, by simpa using hys.symm, Nat.zero_le _, h0, g5⟩
  case round =>
    obtain ⟨k, kk, hk, rfl, hdr, hkk, hJk, hF⟩ := hrel
    obtain ⟨xb', rb, ro, rc, R⟩ := hRd kk wr hJk
    have c1 := R.c1
    have c2 := R.c2
    have c3 := R.c3
    have c7 := R.c7
    have hle := R.le
    by_cases hlt : k < segs.length
    · obtain ⟨⟨nm, fr, to, cp, rs, wv⟩, hp⟩ := has_get hlt
      obtain ⟨r, hr⟩ : ∃ r, rates[k]? = some r := has_get (by omega)
      have q1 := R.rs k r hr
      obtain ⟨p1, p2, p3, p4, p5, p6, x7, n7, k7, p7⟩ := hF k _ hp
      dsimp only at p1 p2 p3 p4 p5 p6 p7
      have hd1 : segs.drop k = ⟨nm, fr, to, cp, rs, wv⟩ :: segs.drop (k + 1) := drop_get hp
      have hd2 : rates.drop k = r :: rates.drop (k + 1) := drop_get hr
      rw [hd1, hd2] at hdr
      obtain ⟨o2, ho2⟩ : ∃ o2 : Obj, o2 = .cells #[.string (str nm), .int .i64 fr, .int .i64 to, .int .i64 cp, .int .i64 rs, .int .i64 wv, .slice x7 n7 k7] 47 := ⟨_, rfl⟩
      have hb2 : Below wr.heap.size wr (wr.alloc o2) := (Below.refl _ wr).alloc (Nat.le_refl _) _
      have nb := World.alloc_heap_new wr o2
      have a1 := cell_bel c1 hb2
      have a2 := cell_bel c2 hb2
      have a3 := cell_bel c3 hb2
      have a7 := cell_bel c7 hb2
      have aq := cell_bel q1 hb2
      have hF2 := hF.bel hb2
      have hJ2 := hJ kk _ _ hJk hb2
      rw [ho2] at a1 a2 a3 a7 aq hF2 hJ2 nb
      obtain ⟨ea, hea⟩ : ∃ ea, endA fr to r = ea := ⟨_, rfl⟩
      obtain ⟨eb, heb⟩ : ∃ eb, endB fr to r = eb := ⟨_, rfl⟩
      have hcall := ends_call (.string (str nm)) (.slice x7 n7 k7) rfl rfl fr to cp rs wv r
      rw [hea, heb] at hcall
      have hrb := hrate r (List.mem_of_getElem? hr)
      have hng : IntKind.i64.wrap (0 - r) = - r := by rw [IntKind.wrap_i64]; omega
      have hng2 : IntKind.i64.wrap (-r) = - r := by rw [IntKind.wrap_i64]; omega
      by_cases hr0 : r = 0
      · subst hr0
        gi_wp2_with (refine ⟨trivial, ?_⟩; gi_at_call 148; refine (callsIn_wide.2 (hcall _)).mono ?_; rintro e w3 ⟨rfl, hbel⟩; have a1 := cell_bel a1 hbel; have a2 := cell_bel a2 hbel; have a3 := cell_bel a3 hbel; have hF3 := hF2.bel hbel; have hJ3 := hJ kk _ _ hJ2 hbel)
        go_roundw
        case rel => exact ⟨k + 1, kk, by omega, by simp, by rw [hdr]; simp only [segYs]; rw [if_neg (by simp [tgt, hea, heb])], hkk, hJ3, hF3⟩
        case measure => simp [intOf]; omega
      · by_cases hsg : 0 < r
        · have hx1 : ¬ r < -r := by omega
          cases inn with
          | true =>
            by_cases hnd : eb = node
            · subst hnd
              have hab : absI r = r := by unfold absI; omega
              have hdr2 : ys.drop kk = (k, r) :: segYs eb true (k + 1) (segs.drop (k + 1)) (rates.drop (k + 1)) := by rw [hdr]; simp only [segYs]; rw [if_pos (by simp [tgt, hea, heb, hr0]), hab]
              have hyk : ys[kk]? = some (k, r) := by
                have := congrArg (fun l => l[0]?) hdr2
                simpa using this
              have hkl : kk < ys.length := (List.getElem?_eq_some_iff.1 hyk).1
              gi_wp2_with (refine ⟨trivial, ?_⟩; gi_at_call 148; refine (callsIn_wide.2 (hcall _)).mono ?_; rintro e w3 ⟨rfl, hbel⟩; have a1 := cell_bel a1 hbel; have a2 := cell_bel a2 hbel; have a3 := cell_bel a3 hbel; have hF3 := hF2.bel hbel; have hJ3 := hJ kk _ _ hJ2 hbel; obtain ⟨fn, tmps, assign, body, hy, hR⟩ := hY kk _ _ hyk hJ3; unfold encY at hy; dsimp only at hy)
              refine hR.mono ?_
              rintro e W3 ⟨hk3, ⟨rfl, hJ4⟩ | ⟨rfl, hJx3⟩⟩
              · gi_wp2
                go_roundw
                case rel => exact ⟨k + 1, kk + 1, by omega, by simp, by rw [← List.drop_drop, hdr2]; rfl, hkl, hJ4, hF3.keep g4 hk3⟩
                case measure => simp [intOf]; omega
              · gi_wp2
                refine bodyPost_ret (results_none rfl _ _ _) rfl ?_
                exact ⟨⟨_, rfl⟩, .inr hJx3⟩
            · have hnx : (eb != node) = true := by simp [hnd]
              gi_wp2_with (refine ⟨trivial, ?_⟩; gi_at_call 148; refine (callsIn_wide.2 (hcall _)).mono ?_; rintro e w3 ⟨rfl, hbel⟩; have a1 := cell_bel a1 hbel; have a2 := cell_bel a2 hbel; have a3 := cell_bel a3 hbel; have hF3 := hF2.bel hbel; have hJ3 := hJ kk _ _ hJ2 hbel)
              go_roundw
              case rel => exact ⟨k + 1, kk, by omega, by simp, by rw [hdr]; simp only [segYs]; rw [if_neg (by simp [tgt, hea, heb, hnd])], hkk, hJ3, hF3⟩
              case measure => simp [intOf]; omega
          | false =>
            by_cases hnd : ea = node
            · subst hnd
              have hab : absI r = r := by unfold absI; omega
              have hdr2 : ys.drop kk = (k, r) :: segYs ea false (k + 1) (segs.drop (k + 1)) (rates.drop (k + 1)) := by rw [hdr]; simp only [segYs]; rw [if_pos (by simp [tgt, hea, heb, hr0]), hab]
              have hyk : ys[kk]? = some (k, r) := by
                have := congrArg (fun l => l[0]?) hdr2
                simpa using this
              have hkl : kk < ys.length := (List.getElem?_eq_some_iff.1 hyk).1
              gi_wp2_with (refine ⟨trivial, ?_⟩; gi_at_call 148; refine (callsIn_wide.2 (hcall _)).mono ?_; rintro e w3 ⟨rfl, hbel⟩; have a1 := cell_bel a1 hbel; have a2 := cell_bel a2 hbel; have a3 := cell_bel a3 hbel; have hF3 := hF2.bel hbel; have hJ3 := hJ kk _ _ hJ2 hbel; obtain ⟨fn, tmps, assign, body, hy, hR⟩ := hY kk _ _ hyk hJ3; unfold encY at hy; dsimp only at hy)
              refine hR.mono ?_
              rintro e W3 ⟨hk3, ⟨rfl, hJ4⟩ | ⟨rfl, hJx3⟩⟩
              · gi_wp2
                go_roundw
                case rel => exact ⟨k + 1, kk + 1, by omega, by simp, by rw [← List.drop_drop, hdr2]; rfl, hkl, hJ4, hF3.keep g4 hk3⟩
                case measure => simp [intOf]; omega
              · gi_wp2
                refine bodyPost_ret (results_none rfl _ _ _) rfl ?_
                exact ⟨⟨_, rfl⟩, .inr hJx3⟩
            · have hnx : (ea != node) = true := by simp [hnd]
              gi_wp2_with (refine ⟨trivial, ?_⟩; gi_at_call 148; refine (callsIn_wide.2 (hcall _)).mono ?_; rintro e w3 ⟨rfl, hbel⟩; have a1 := cell_bel a1 hbel; have a2 := cell_bel a2 hbel; have a3 := cell_bel a3 hbel; have hF3 := hF2.bel hbel; have hJ3 := hJ kk _ _ hJ2 hbel)
              go_roundw
              case rel => exact ⟨k + 1, kk, by omega, by simp, by rw [hdr]; simp only [segYs]; rw [if_neg (by simp [tgt, hea, heb, hnd])], hkk, hJ3, hF3⟩
              case measure => simp [intOf]; omega
        · have hx1 : r < -r := by omega
          cases inn with
          | true =>
            by_cases hnd : eb = node
            · subst hnd
              have hab : absI r = (-r) := by unfold absI; omega
              have hdr2 : ys.drop kk = (k, (-r)) :: segYs eb true (k + 1) (segs.drop (k + 1)) (rates.drop (k + 1)) := by rw [hdr]; simp only [segYs]; rw [if_pos (by simp [tgt, hea, heb, hr0]), hab]
              have hyk : ys[kk]? = some (k, (-r)) := by
                have := congrArg (fun l => l[0]?) hdr2
                simpa using this
              have hkl : kk < ys.length := (List.getElem?_eq_some_iff.1 hyk).1
              gi_wp2_with (refine ⟨trivial, ?_⟩; gi_at_call 148; refine (callsIn_wide.2 (hcall _)).mono ?_; rintro e w3 ⟨rfl, hbel⟩; have a1 := cell_bel a1 hbel; have a2 := cell_bel a2 hbel; have a3 := cell_bel a3 hbel; have hF3 := hF2.bel hbel; have hJ3 := hJ kk _ _ hJ2 hbel; obtain ⟨fn, tmps, assign, body, hy, hR⟩ := hY kk _ _ hyk hJ3; unfold encY at hy; dsimp only at hy)
              refine hR.mono ?_
              rintro e W3 ⟨hk3, ⟨rfl, hJ4⟩ | ⟨rfl, hJx3⟩⟩
              · gi_wp2
                go_roundw
                case rel => exact ⟨k + 1, kk + 1, by omega, by simp, by rw [← List.drop_drop, hdr2]; rfl, hkl, hJ4, hF3.keep g4 hk3⟩
                case measure => simp [intOf]; omega
              · gi_wp2
                refine bodyPost_ret (results_none rfl _ _ _) rfl ?_
                exact ⟨⟨_, rfl⟩, .inr hJx3⟩
            · have hnx : (eb != node) = true := by simp [hnd]
              gi_wp2_with (refine ⟨trivial, ?_⟩; gi_at_call 148; refine (callsIn_wide.2 (hcall _)).mono ?_; rintro e w3 ⟨rfl, hbel⟩; have a1 := cell_bel a1 hbel; have a2 := cell_bel a2 hbel; have a3 := cell_bel a3 hbel; have hF3 := hF2.bel hbel; have hJ3 := hJ kk _ _ hJ2 hbel)
              go_roundw
              case rel => exact ⟨k + 1, kk, by omega, by simp, by rw [hdr]; simp only [segYs]; rw [if_neg (by simp [tgt, hea, heb, hnd])], hkk, hJ3, hF3⟩
              case measure => simp [intOf]; omega
          | false =>
            by_cases hnd : ea = node
            · subst hnd
              have hab : absI r = (-r) := by unfold absI; omega
              have hdr2 : ys.drop kk = (k, (-r)) :: segYs ea false (k + 1) (segs.drop (k + 1)) (rates.drop (k + 1)) := by rw [hdr]; simp only [segYs]; rw [if_pos (by simp [tgt, hea, heb, hr0]), hab]
              have hyk : ys[kk]? = some (k, (-r)) := by
                have := congrArg (fun l => l[0]?) hdr2
                simpa using this
              have hkl : kk < ys.length := (List.getElem?_eq_some_iff.1 hyk).1
              gi_wp2_with (refine ⟨trivial, ?_⟩; gi_at_call 148; refine (callsIn_wide.2 (hcall _)).mono ?_; rintro e w3 ⟨rfl, hbel⟩; have a1 := cell_bel a1 hbel; have a2 := cell_bel a2 hbel; have a3 := cell_bel a3 hbel; have hF3 := hF2.bel hbel; have hJ3 := hJ kk _ _ hJ2 hbel; obtain ⟨fn, tmps, assign, body, hy, hR⟩ := hY kk _ _ hyk hJ3; unfold encY at hy; dsimp only at hy)
              refine hR.mono ?_
              rintro e W3 ⟨hk3, ⟨rfl, hJ4⟩ | ⟨rfl, hJx3⟩⟩
              · gi_wp2
                go_roundw
                case rel => exact ⟨k + 1, kk + 1, by omega, by simp, by rw [← List.drop_drop, hdr2]; rfl, hkl, hJ4, hF3.keep g4 hk3⟩
                case measure => simp [intOf]; omega
              · gi_wp2
                refine bodyPost_ret (results_none rfl _ _ _) rfl ?_
                exact ⟨⟨_, rfl⟩, .inr hJx3⟩
            · have hnx : (ea != node) = true := by simp [hnd]
              gi_wp2_with (refine ⟨trivial, ?_⟩; gi_at_call 148; refine (callsIn_wide.2 (hcall _)).mono ?_; rintro e w3 ⟨rfl, hbel⟩; have a1 := cell_bel a1 hbel; have a2 := cell_bel a2 hbel; have a3 := cell_bel a3 hbel; have hF3 := hF2.bel hbel; have hJ3 := hJ kk _ _ hJ2 hbel)
              go_roundw
              case rel => exact ⟨k + 1, kk, by omega, by simp, by rw [hdr]; simp only [segYs]; rw [if_neg (by simp [tgt, hea, heb, hnd])], hkk, hJ3, hF3⟩
              case measure => simp [intOf]; omega
    · obtain rfl : k = segs.length := by omega
      have hkl : kk = ys.length := by
        rw [List.drop_length] at hdr
        have := congrArg List.length hdr
        simp [segYs] at this
        omega
      gi_wp2
      go_end0
      exact ⟨⟨_, rfl⟩, .inl (by rw [← hkl]; exact hJk)⟩
end Go.Proofs.YtcehllkmfkoncaaGreat
