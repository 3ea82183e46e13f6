/- What an operation does to a symbolic state, and that it does so. No condition. -/
import Derived.Test.YtgjfkklemelejaaSyD
import Derived.Maps.AppendAt
namespace Go.Proofs.Ytgjfkklemelejaa.Sy
open Go.RowKit
set_option linter.unusedVariables false
set_option linter.unusedSimpArgs false

/-- What an operation does: its result, what becomes of the call's own memory, which labels it looks at, which it makes. -/
structure Eff where
  r : S
  u : List (Nat × Option Blk)
  fp : List Nat
  nw : List Nat

def hupd : List (Nat × Option Blk) → (Nat → Option Blk) → (Nat → Option Blk)
  | [], h => h
  | (l, b) :: r, h => hput (hupd r h) l b

def cS : Value → S
  | .agg cs => if cs.toList.all (·.oneCell') then .t (.agg (cs.toList.map .lit)) else .dead
  | .tuple _ => .dead
  | v => .t (.lit v)
def rdS (g : Nat → S) : Operand → S
  | .tmp t => g t
  | .const v => cS v
  | .global n => .t (.lit (.pointer (some ⟨n, 0, none⟩)))
  | .func f => .fn f []

theorem reps_lits {F : Nat → Prop} {w : World} : ∀ {cs : List Value}, (∀ c ∈ cs, c.oneCell' = true) → Reps F w (cs.map .lit) cs
  | [], _ => by simp only [List.map_nil]; unfold Reps; rfl
  | c :: r, h => by
    simp only [List.map_cons]
    unfold Reps
    refine ⟨c, r, by rw [cells_one (h c (by simp))]; rfl, ?_, reps_lits fun x hx => h x (by simp [hx])⟩
    unfold Rep
    exact ⟨rfl, h c (by simp)⟩
theorem rep_cS {G : Gh} {w : World} (v : Value) : RepS G w (cS v) v := by
  cases v with
  | agg cs =>
    simp only [cS]
    split
    · rename_i h
      unfold RepS
      unfold Rep
      refine ⟨cs.toList, by simp, reps_lits fun c hc => ?_⟩
      rw [List.all_eq_true] at h
      exact h c hc
    · unfold RepS; trivial
  | tuple _ => simp only [cS]; unfold RepS; trivial
  | _ => simp only [cS]; unfold RepS; unfold Rep; exact ⟨rfl, rfl⟩
theorem SatG.eval {N : Nat} {W : World} {G0 : Gh} {A : Nat → Prop} {G : Gh} {g : Nat → S} {h : Nat → Option Blk} {a : Act} {w : World} (s : SatG N W G0 A G g h a w) (x : Operand) : RepS G w (rdS g x) (a.eval x) := by
  cases x with
  | tmp t => exact s.slots t
  | const v => exact rep_cS v
  | global n => simp only [rdS]; unfold RepS; unfold Rep; exact ⟨rfl, rfl⟩
  | func f => simp only [rdS]; unfold RepS; exact ⟨[], rfl, by unfold RepPs; rfl⟩

/-- An operation does what E says, wherever what it looks at is as it is here. -/
def Does (N : Nat) (P : Program) (o : Oper) (R : Operand → S) (h : Nat → Option Blk) (E : Eff) : Prop :=
  ∀ (W : World) (G0 : Gh) (A : Nat → Prop) (G : Gh) (g : Nat → S) (h' : Nat → Option Blk) (a : Act) (w : World) (Q : Exit → Act → World → Prop) (K : Act → World → Prop),
    SatG N W G0 A G g h' a w → (∀ x ∈ o.op.operands.toList, rdS g x = R x) → (∀ l ∈ E.fp, h' l = h l) →
    (∀ l ∈ E.nw, h' l = none ∧ (∀ t, (g t).free l = true) ∧ ∀ k b, h' k = some b → b.free l = true) →
    (∀ v G' w', Ext G w h' G' w' (hupd E.u h') E.nw → RepS G' w' E.r v → K (a.put o.dst v) w') → o.wp P a w K Q

section
variable {N : Nat} {P : Program} {o : Oper} {R : Operand → S} {h : Nat → Option Blk}

theorem exec_v {s : Sem Value} {w w' : World} {v : Value} (hs : s.run P w = .ok v w') : (do pure (Next.value (← s)) : Sem Next).run P w = .ok (.value v) w' := by
  simp [hs]
theorem wp_of_run {a : Act} {w w' : World} {v : Value} {K : Act → World → Prop} {Q : Exit → Act → World → Prop} (hr : (execOp a.eval o).run P w = .ok (.value v) w') (hK : K (a.put o.dst v) w') : o.wp P a w K Q := by
  unfold Oper.wp; rw [hr]; exact hK

/-- An operation that makes and writes nothing. -/
theorem does_pure {r : S} {fp : List Nat} (H : ∀ (G : Gh) (h' : Nat → Option Blk) (a : Act) (w : World), HeapOk G w h' → (∀ x ∈ o.op.operands.toList, RepS G w (R x) (a.eval x)) → (∀ l ∈ fp, h' l = h l) →
    ∃ v, (execOp a.eval o).run P w = .ok (.value v) w ∧ RepS G w r v) : Does N P o R h ⟨r, [], fp, []⟩ := by
  intro W G0 A G g h' a w Q K hs hop hfp _ hK
  obtain ⟨v, h1, h2⟩ := H G h' a w hs.heap (fun x hx => by rw [← hop x hx]; exact hs.eval x) hfp
  exact wp_of_run h1 (hK v G w (Ext.refl hs.heap) h2)

/-! ### The types' facts -/
def szB (P : Program) (t : TypeId) : Option Nat := (P.info? t).map (·.size)
def byB (P : Program) (t : TypeId) : Option Nat := (P.info? t).map (·.bytes)
def aggO (P : Program) (t : TypeId) : Option Bool := (P.underlying t).map fun | .struct _ | .array _ _ => true | _ => false
def fldB (P : Program) (t : TypeId) (f : Nat) : Option (Nat × TypeId) := match P.underlying t with
  | some (.struct fs) => (fs[f]?).map fun x => (x.offset, x.type)
  | _ => none
def elemB (P : Program) (t : TypeId) : Option TypeId := match P.underlying t with | some (.slice e) => some e | _ => none
def arrB (P : Program) (t : TypeId) : Option (Nat × TypeId) := match P.underlying t with | some (.array n e) => some (n, e) | _ => none
def intB (P : Program) (t : TypeId) : Option IntKind := match P.underlying t with | some (.int k) => some k | _ => none
def S.isAg : S → Bool
  | .ag _ => true
  | .t (.agg _) => true
  | _ => false
/-- It has the form of the type's values. -/
def okLd (P : Program) (t : TypeId) (s : S) : Prop := szB P t = some s.width ∧ aggO P t = some s.isAg

theorem run_szB {t n : Nat} (hz : szB P t = some n) (w : World) : (sizeOf t).run P w = .ok n w := by
  obtain ⟨i, hi, hn⟩ := Option.map_eq_some_iff.1 hz
  simp [sizeOf, typeInfo, hi, hn]
theorem run_aggO {t : TypeId} {b : Bool} (hz : aggO P t = some b) (w : World) : (isAgg t).run P w = .ok b w := by
  obtain ⟨d, hd, hb⟩ := Option.map_eq_some_iff.1 hz
  simp only [isAgg, Sem.run_bind, run_underlying hd, Result.andThen_ok]
  cases d <;> simp_all
theorem und_elem {t e : TypeId} (hz : elemB P t = some e) : P.underlying t = some (.slice e) := by
  unfold elemB at hz; split at hz <;> simp_all
theorem und_arr {t e : TypeId} {n : Nat} (hz : arrB P t = some (n, e)) : P.underlying t = some (.array n e) := by
  unfold arrB at hz; split at hz <;> simp_all
theorem und_int {t : TypeId} {k : IntKind} (hz : intB P t = some k) : P.underlying t = some (.int k) := by
  unfold intB at hz; split at hz <;> simp_all
theorem und_fld {t : TypeId} {f : Nat} {q : Nat × TypeId} (hz : fldB P t f = some q) : ∃ fs fd, P.underlying t = some (.struct fs) ∧ fs[f]? = some fd ∧ fd.offset = q.1 ∧ fd.type = q.2 := by
  unfold fldB at hz
  split at hz
  · rename_i fs hf
    obtain ⟨fd, h1, h2⟩ := Option.map_eq_some_iff.1 hz
    exact ⟨fs, fd, hf, h1, by rw [← h2], by rw [← h2]⟩
  · cases hz

theorem ag_of_isAg {G : Gh} {w : World} {s : S} {v : Value} (hs : RepS G w s v) (hi : s.isAg = true) : v = .agg v.cells := by
  cases s with
  | ag fs => unfold RepS at hs; obtain ⟨c, rfl, _⟩ := hs; rfl
  | t x =>
    cases x with
    | agg fs => unfold RepS at hs; unfold Rep at hs; obtain ⟨c, rfl, _⟩ := hs; rfl
    | _ => simp [S.isAg] at hi
  | _ => simp [S.isAg] at hi
theorem one_of_isAg {G : Gh} {w : World} {s : S} {v : Value} (hs : RepS G w s v) (hi : s.isAg = false) (hso : s.solid = true) : v.oneCell' = true ∧ v.cells = #[v] := by
  have key : v.oneCell' = true := by
    cases s with
    | ag fs => simp [S.isAg] at hi
    | t x =>
      cases x with
      | agg fs => simp [S.isAg] at hi
      | lit u => unfold RepS at hs; unfold Rep at hs; rw [hs.1]; exact hs.2
      | sl _ _ => unfold RepS at hs; unfold Rep at hs; obtain ⟨_, _, _, rfl, _⟩ := hs; rfl
    | rp _ => unfold RepS at hs; obtain ⟨_, _, _, rfl, _⟩ := hs; rfl
    | own _ => unfold RepS at hs; obtain ⟨_, _, _, _, rfl⟩ := hs; rfl
    | pt _ _ _ => unfold RepS at hs; obtain ⟨_, _, rfl⟩ := hs; rfl
    | fn _ _ => unfold RepS at hs; obtain ⟨_, rfl, _⟩ := hs; rfl
    | fb _ _ => unfold RepS at hs; obtain ⟨_, rfl, _⟩ := hs; rfl
    | dead => simp [S.solid] at hso
    | tup _ => simp [S.solid] at hso
  exact ⟨key, cells_one key⟩

theorem addr_add (b o n : Nat) : (⟨b, o, none⟩ : Addr).add n = ⟨b, o + n, none⟩ := by
  unfold Addr.add; split <;> simp_all

/-- A load. -/
theorem run_load_any {G : Gh} {w : World} {t : TypeId} {s : S} {v : Value} {b off : Nat} (hs : RepS G w s v) (hso : s.solid = true) (hok : okLd P t s) (hc : ∀ j c, v.cells.toList[j]? = some c → w.cell? ⟨b, off + j, none⟩ = some c) :
    (Instr.loadAt t (.pointer (some ⟨b, off, none⟩))).run P w = .ok v w := by
  obtain ⟨h1, h2⟩ := hok
  simp only [Instr.loadAt, Instr.sureAddr, Sem.run_bind, Sem.run_pure, Result.andThen_ok, loadVar, run_aggO h2]
  have hw := (RepS.lens hs hso).1
  cases hi : s.isAg with
  | true =>
    have hv := ag_of_isAg hs hi
    have hl := run_loadCells_list (P := P) w ⟨b, off, none⟩ v.cells.toList (fun j c hj => by rw [addr_add]; exact hc j c hj)
    rw [Array.length_toList, hw] at hl
    simp [run_szB h1, hl]
    exact hv.symm
  | false =>
    have hv := one_of_isAg hs hi hso
    have := hc 0 v (by rw [hv.2]; rfl)
    simp [load, Sem.run, this] at this ⊢

theorem does_move {x : Operand} (ho : o.op = .move x) : Does N P o R h ⟨R x, [], [], []⟩ :=
  does_pure fun G h' a w hh hop _ => ⟨a.eval x, by simp [execOp, ho], hop x (by simp [ho, Op.operands])⟩
theorem does_assign {x : Operand} (ho : o.op = .assign x) : Does N P o R h ⟨R x, [], [], []⟩ :=
  does_pure fun G h' a w hh hop _ => ⟨a.eval x, by simp [execOp, ho], hop x (by simp [ho, Op.operands])⟩
theorem does_pick {c x y : Operand} {b : Bool} (ho : o.op = .pick c x y) (hc : R c = .t (.lit (.bool b))) : Does N P o R h ⟨if b = true then R x else R y, [], [], []⟩ :=
  does_pure fun G h' a w hh hop _ => by
    have h1 := hop c (by simp [ho, Op.operands])
    have h2 := hop x (by simp [ho, Op.operands])
    have h3 := hop y (by simp [ho, Op.operands])
    rw [hc] at h1
    unfold RepS at h1; unfold Rep at h1
    cases b
    · exact ⟨a.eval y, by simp [execOp, ho, h1.1, asBool], by simpa using h3⟩
    · exact ⟨a.eval x, by simp [execOp, ho, h1.1, asBool], by simpa using h2⟩

theorem does_load_rp {t : TypeId} {x : Operand} {y : T} (ho : o.op = .load t x) (hx : R x = .rp y) (hok : okLd P t (.t y)) : Does N P o R h ⟨.t y, [], [], []⟩ :=
  does_pure fun G h' a w hh hop _ => by
    have h1 := hop x (by simp [ho, Op.operands])
    rw [hx] at h1
    unfold RepS at h1
    obtain ⟨b, off, v, h2, h3, h4, h5⟩ := h1
    have h6 : RepS G w (.t y) v := by unfold RepS; exact h4
    refine ⟨v, ?_, h6⟩
    unfold execOp
    simp only [ho]
    exact exec_v (by rw [h2]; exact run_load_any h6 rfl hok h5)

/-! ### Blocks of the call's own -/
def Blk.at : Blk → List Nat → Option (Nat × S)
  | .box _ c, p => S.at c p
  | .list _ s xs, i :: p => match xs[i]? with
    | some y => match T.at y p with
      | some (o, z) => some (i * s + o, .t z)
      | none => none
    | none => none
  | .list _ _ _, [] => none
def Blk.set : Blk → List Nat → S → Option Blk
  | .box e c, p, v => match S.set c p v with
    | some c' => some (.box e c')
    | none => none
  | .list e s xs, i :: p, .t v => match xs[i]? with
    | some y => match T.set y p v with
      | some y' => some (.list e s (xs.set i y'))
      | none => none
    | none => none
  | _, _, _ => none

theorem own_cells {w : World} {e s n cap : Nat} {x : Option Addr} {cells : List Value} (h : w.ownsRow 0 e s (.slice x n cap) n cells) {b : Nat} (hb : hblk (.slice x n cap) = some b) :
    x = some ⟨b, 0, none⟩ ∧ ∃ cur, w.heap[b]? = some (.cells cur e (0, 0)) ∧ n ≤ cap ∧ cap ≤ maxLen ∧ cur.size = cap * s ∧ cur.toList.take (n * s) = cells := by
  rcases h.2 with ⟨hv, hn⟩ | ⟨g, cap', cur, hv, hB, hh, hc, hm, hs, ht⟩
  · simp only [Value.slice.injEq] at hv; rw [hv.1] at hb; simp [hblk] at hb
  · simp only [Value.slice.injEq] at hv
    obtain ⟨h1, _, h3⟩ := hv
    subst h1 h3
    simp [hblk] at hb
    subst hb
    exact ⟨rfl, cur, hh, hc, hm, hs, ht⟩

theorem take_get {cur : Array Value} {m j : Nat} {cells : List Value} {c : Value} (ht : cur.toList.take m = cells) (hj : cells[j]? = some c) : cur[j]? = some c := by
  rw [← ht, List.getElem?_take] at hj
  split at hj
  · simpa using hj
  · cases hj

theorem RepB.at_spec {G : Gh} {w : World} {blk : Blk} {u : Value} {p : List Nat} {off b : Nat} {y : S} (hr : RepB G w blk u) (ha : blk.at p = some (off, y)) (hb : hblk u = some b) :
    ∃ v, RepS G w y v ∧ v.cells.size = y.width ∧ (∀ c ∈ v.cells.toList, c.oneCell' = true) ∧ ∀ j c, v.cells.toList[j]? = some c → w.cell? ⟨b, off + j, none⟩ = some c := by
  cases blk with
  | box e c =>
    obtain ⟨b', v, rfl, h2, h3, h4, h5⟩ := hr
    simp [hblk] at hb
    subst hb
    simp only [Blk.at] at ha
    obtain ⟨x, h6, h7, h8, h9, h10⟩ := S.at_spec h2 h3 h4 ha
    refine ⟨x, h6, h7, h8, fun j c hj => ?_⟩
    rw [cell_of_row w b' _ v.cells e (0, 0) h5]
    have := h10 j c hj
    simpa using this
  | list e s xs =>
    obtain ⟨x, cap, cells, rfl, h2, h3, h4⟩ := hr
    obtain ⟨rfl, cur, h5, _, _, _, h6⟩ := own_cells h4 hb
    cases p with
    | nil => simp [Blk.at] at ha
    | cons i p =>
      simp only [Blk.at] at ha
      cases hi : xs[i]? with
      | none => rw [hi] at ha; simp at ha
      | some f =>
        rw [hi] at ha
        simp only at ha
        cases hf : T.at f p with
        | none => rw [hf] at ha; simp at ha
        | some q =>
          rw [hf] at ha
          obtain ⟨o', z⟩ := q
          simp at ha
          obtain ⟨rfl, rfl⟩ := ha
          obtain ⟨f1, h7, h8, _⟩ := Reps.get h2 hi
          obtain ⟨v, h9, h10, h11⟩ := T.at_spec h7 hf
          refine ⟨v, by unfold RepS; exact h9, Rep.width _ _ h9, Rep.one _ _ h9, fun j c hj => ?_⟩
          have h12 := h8 _ _ (h11 j c hj)
          rw [widths_take_const h3 (Nat.le_of_lt (List.getElem?_eq_some_iff.1 hi).1)] at h12
          rw [cell_of_row w b _ cur e (0, 0) h5]
          have := take_get h6 h12
          rw [Nat.add_assoc]; exact this

theorem does_load_pt {t : TypeId} {x : Operand} {l off : Nat} {p : List Nat} {blk : Blk} {y : S} (ho : o.op = .load t x) (hx : R x = .pt l p off) (hl : h l = some blk) (hp : blk.at p = some (off, y)) (hso : y.solid = true) (hok : okLd P t y) :
    Does N P o R h ⟨y, [], [l], []⟩ :=
  does_pure fun G h' a w hh hop hfp => by
    have h1 := hop x (by simp [ho, Op.operands])
    rw [hx] at h1
    unfold RepS at h1
    obtain ⟨b, h2, h3⟩ := h1
    have h4 := hh.rep l blk (by rw [hfp l (by simp)]; exact hl)
    obtain ⟨v, h5, h6, h7, h8⟩ := RepB.at_spec h4 hp h2
    refine ⟨v, ?_, h5⟩
    unfold execOp
    simp only [ho]
    exact exec_v (by rw [h3]; exact run_load_any h5 hso hok h8)

theorem grownBy_setRow (w : World) (b : Nat) (cs : Array Value) : w.grownBy (w.setRow b cs) (some b) :=
  ⟨rfl, rfl, rfl, by simp, fun k _ hk => setRow_other w b k _ (fun e => hk (by simp [e]))⟩

/-- What a block holds behind a store. -/
theorem RepB.set_spec {G : Gh} {w : World} {blk blk' : Blk} {u : Value} {p : List Nat} {off b : Nat} {y z : S} {v : Value} (hr : RepB G w blk u) (ha : blk.at p = some (off, y)) (hs : blk.set p z = some blk') (hb : hblk u = some b)
    (hz : RepS G w z v) (hzw : v.cells.size = z.width) (hz1 : ∀ c ∈ v.cells.toList, c.oneCell' = true) (hw : z.width = y.width) (hFb : ¬ G.F b) (hlt : ∀ b, G.F b → b < w.heap.size) :
    ∃ cur t cs', w.heap[b]? = some (.cells cur t (0, 0)) ∧ cs' = splice cur.toList off v.cells.toList ∧ off + v.cells.size ≤ cur.size ∧ RepB G (w.setRow b cs'.toArray) blk' u := by
  have K : ∀ cs : Array Value, Keep G w G (w.setRow b cs) [] := fun cs => ⟨fun _ h => h, fun b' o hb' => cell_block ((grownBy_setRow w b cs).block b' (hlt b' hb') (fun e => by simp at e; subst e; exact hFb hb')), fun _ _ => rfl⟩
  cases blk with
  | box e c =>
    obtain ⟨b', v0, rfl, h2, h3, h4, h5⟩ := hr
    simp [hblk] at hb
    subst hb
    simp only [Blk.at] at ha
    simp only [Blk.set] at hs
    cases hc : S.set c p z with
    | none => rw [hc] at hs; simp at hs
    | some c' =>
      rw [hc] at hs
      simp at hs
      subst hs
      obtain ⟨v', h6, h7, h8, h9, h10⟩ := S.set_spec h2 h3 h4 ha hz hzw hz1 hw hc
      obtain ⟨_, _, _, _, hle, _⟩ := S.at_spec h2 h3 h4 ha
      refine ⟨v0.cells, e, _, h5, rfl, by omega, b', v', rfl, RepS.keep (K _) c' v' (by simp) h6, h9, h10, ?_⟩
      rw [setRow_heap w b' v0.cells _ e (0, 0) h5, ← h7]
  | list e s xs =>
    obtain ⟨x, cap, cells, rfl, h2, h3, h4⟩ := hr
    obtain ⟨rfl, cur, h5, hnc, hcm, hcs, h6⟩ := own_cells h4 hb
    cases p with
    | nil => simp [Blk.at] at ha
    | cons i p =>
      simp only [Blk.at] at ha
      cases z with
      | t z =>
        simp only [Blk.set] at hs
        cases hi : xs[i]? with
        | none => rw [hi] at ha; simp at ha
        | some f =>
          rw [hi] at ha hs
          simp only at ha hs
          cases hf : T.at f p with
          | none => rw [hf] at ha; simp at ha
          | some q =>
            rw [hf] at ha
            cases hst : T.set f p z with
            | none => rw [hst] at hs; simp at hs
            | some f' =>
              rw [hst] at hs
              obtain ⟨o', y'⟩ := q
              simp at ha hs
              obtain ⟨rfl, rfl⟩ := ha
              subst hs
              have hlt' := (List.getElem?_eq_some_iff.1 hi).1
              obtain ⟨f1, h7, h8, h8'⟩ := Reps.get h2 hi
              unfold RepS at hz
              obtain ⟨v', h9, h10, h11⟩ := T.set_spec h7 hf hz hw hst
              obtain ⟨_, _, hle, _⟩ := T.at_spec h7 hf
              have hset := Reps.set h2 hi h9 h11
              have hcl := Reps.widths _ _ h2
              have hfs : f.width = s := h3 f (List.mem_of_getElem? hi)
              have htk : T.widths (xs.take i) = i * s := widths_take_const h3 (Nat.le_of_lt hlt')
              have htot : T.widths xs = xs.length * s := widths_const h3
              have his : i * s + s ≤ xs.length * s := by
                have := Nat.mul_le_mul_right s (Nat.succ_le_of_lt hlt')
                rw [Nat.succ_mul] at this; exact this
              have hncs : xs.length * s ≤ cap * s := Nat.mul_le_mul_right _ hnc
              have hf1 := Rep.width _ _ h7
              have hzw' : v.cells.toList.length = z.width := by rw [Array.length_toList]; exact hzw
              have hyw : z.width = y'.width := hw
              have hzw2 : v.cells.size = z.width := hzw
              have hdec : cells = cells.take (i * s) ++ (f1.cells.toList ++ cells.drop (i * s + s)) := by
                rw [← htk, show T.widths (xs.take i) + s = T.widths (xs.take (i + 1)) by rw [widths_take_succ hi, hfs], ← h8', List.take_append_drop]
              have hnew : cells.take (i * s) ++ (v'.cells.toList ++ cells.drop (i * s + s)) = splice cells (i * s + o') v.cells.toList := by
                rw [h10]
                conv => rhs; rw [hdec]
                rw [splice_mid (by rw [List.length_take]; omega) (by simp only [Array.length_toList]; omega)]
              rw [htk, hfs, hnew] at hset
              refine ⟨cur, e, _, h5, rfl, by omega, some ⟨b, 0, none⟩, cap, _, by rw [List.length_set], Reps.mono (fun _ h => h) (K _).fcell _ _ hset, ?_, ?_⟩
              · intro q hq
                rcases List.mem_or_eq_of_mem_set hq with hq | rfl
                · exact h3 q hq
                · rw [h11, hfs]
              · rw [List.length_set]
                refine ⟨by rw [splice_length (by omega)]; exact h4.1, .inr ⟨b, cap, (splice cur.toList (i * s + o') v.cells.toList).toArray, rfl, Nat.zero_le _, setRow_heap w b cur (splice cur.toList (i * s + o') v.cells.toList).toArray e (0, 0) h5, hnc, hcm, ?_, ?_⟩⟩
                · simp only [List.size_toArray]
                  have hcl3 : cur.toList.length = cap * s := by rw [Array.length_toList, hcs]
                  rw [splice_length (by rw [Array.length_toList]; omega), hcl3]
                · have hcur : cur.toList = cells ++ cur.toList.drop (xs.length * s) := by rw [← h6, List.take_append_drop]
                  have hcl2 : cells.length = xs.length * s := by omega
                  conv => lhs; rw [hcur]
                  have := splice_mid (a := []) (m := cells) (b := cur.toList.drop (xs.length * s)) (us := v.cells.toList) (o := i * s + o') (k := 0) rfl (by omega)
                  simp only [List.nil_append, Nat.zero_add] at this
                  simp only [this]
                  rw [List.take_left' (by rw [splice_length (by omega), hcl2])]
      | _ => simp [Blk.set] at hs
end
end Go.Proofs.Ytgjfkklemelejaa.Sy
