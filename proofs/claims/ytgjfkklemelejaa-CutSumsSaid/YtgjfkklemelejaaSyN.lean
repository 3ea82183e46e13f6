/- More operations: parts of slices, struct literals, comparisons of structs, checks of pointers. No condition. -/
import Derived.Test.YtgjfkklemelejaaSyG
namespace Go.Proofs.Ytgjfkklemelejaa.Sy
open Go.RowKit
set_option linter.unusedVariables false
set_option linter.unusedSimpArgs false

def boolB (P : Program) (t : TypeId) : Bool := match P.underlying t with | some .bool => true | _ => false
theorem und_bool {P : Program} {t : TypeId} (hz : boolB P t = true) : P.underlying t = some .bool := by
  unfold boolB at hz; split at hz <;> simp_all
def fldsB (P : Program) (t : TypeId) : Option (List (Nat × TypeId)) := match P.underlying t with
  | some (.struct fs) => if fs.toList.all (fun f => f.name != "_") then some (fs.toList.map fun f => (f.offset, f.type)) else none
  | _ => none
def plB (P : Program) (t : TypeId) : Option (List (Nat × Nat)) := match P.underlying t with
  | some (.struct fs) => fs.toList.mapM fun f => (P.info? f.type).map fun i => (f.offset, i.size)
  | _ => none

section
variable {N : Nat} {P : Program} {o : Oper} {R : Operand → S} {h : Nat → Option Blk}

theorem does_nilCheck_pt {x : Operand} {l off : Nat} {p : List Nat} (ho : o.op = .nilCheck x) (hx : R x = .pt l p off) : Does N P o R h ⟨R x, [], [], []⟩ :=
  does_pure fun G h' a w hh hop _ => by
    have h1 := hop x (by simp [ho, Op.operands])
    refine ⟨a.eval x, ?_, h1⟩
    rw [hx] at h1
    unfold RepS at h1
    obtain ⟨b, h2, h3⟩ := h1
    unfold execOp
    simp [ho, h3]
theorem does_nilCheck_rp {x : Operand} {y : T} (ho : o.op = .nilCheck x) (hx : R x = .rp y) : Does N P o R h ⟨R x, [], [], []⟩ :=
  does_pure fun G h' a w hh hop _ => by
    have h1 := hop x (by simp [ho, Op.operands])
    refine ⟨a.eval x, ?_, h1⟩
    rw [hx] at h1
    unfold RepS at h1
    obtain ⟨b, off, v, h3, _⟩ := h1
    unfold execOp
    simp [ho, h3]

/-! ### Parts of slices -/
theorem rep_sliced {F : Nat → Prop} {w : World} {s l h n cap : Nat} {xs : List T} {a : Option Addr} (hr : Rep F w (.sl s xs) (.slice a n cap)) (hlh : l ≤ h) (hh : h ≤ xs.length) :
    Rep F w (.sl s ((xs.take h).drop l)) (.slice (if cap = l then a else a.map (·.add (l * s))) (h - l) (cap - l)) := by
  unfold Rep at hr ⊢
  obtain ⟨x, cap', cells, h1, h2, h3, h4⟩ := hr
  simp only [Value.slice.injEq] at h1
  obtain ⟨rfl, rfl, rfl⟩ := h1
  have hcl := Reps.widths _ _ h2
  rw [widths_const h3] at hcl
  have hlen : ((xs.take h).drop l).length = h - l := by simp; omega
  have hr1 := (Reps.split h h2).1
  have h3' : ∀ y ∈ xs.take h, y.width = s := fun y hy => h3 y (List.mem_of_mem_take hy)
  have hr2 := (Reps.split l hr1).2
  rw [widths_take_const h3' (by simp; omega), widths_take_const h3 hh] at hr2
  have hlh' := Nat.mul_le_mul_right s hlh
  have hh' := Nat.mul_le_mul_right s hh
  refine ⟨_, cap - l, _, by rw [hlen], hr2, fun y hy => h3' y (List.mem_of_mem_drop hy), ?_⟩
  have hle := h4.le
  refine ⟨by rw [hlen]; omega, by have := h4.capLe; omega, ?_, ?_, ?_⟩
  · rw [hlen, List.length_drop, List.length_take, hcl, Nat.min_eq_left hh', Nat.sub_mul]
  · intro e
    split at e
    · omega
    · have hx : a = none := by simpa using e
      have := h4.nil hx
      omega
  · rw [hlen]
    by_cases h0 : h - l = 0
    · exact .inl h0
    · right
      rcases h4.cells with h5 | ⟨b, off, hx, hF, hc⟩
      · omega
      · refine ⟨b, off + l * s, ?_, hF, ?_⟩
        · rw [if_neg (by omega), hx]
          simp [addr_add]
        · intro j u hu
          rw [List.getElem?_drop, List.getElem?_take] at hu
          split at hu
          · have := hc _ _ hu
            rw [Nat.add_assoc]; exact this
          · cases hu

def bndI (R : Operand → S) (d : Int) : Option Operand → Option Int
  | none => some d
  | some x => match R x with
    | .t (.lit (.int _ n)) => some n
    | _ => none
theorem run_sliceAt_any {G : Gh} {ev : Operand → Value} {w : World} {t e : TypeId} {s n cap : Nat} {a : Option Addr} {lo hi : Option Operand} {l hb : Int} (he : elemB P t = some e) (hs : szB P e = some s)
    (hop : ∀ x, lo = some x ∨ hi = some x → RepS G w (R x) (ev x)) (hlo : bndI R 0 lo = some l) (hhi : bndI R n hi = some hb) (h0 : 0 ≤ l) (h1 : l ≤ hb) (h2 : hb ≤ n) (hc : n ≤ cap) :
    (Instr.sliceAt t (.slice a n cap) (lo.map ev) (hi.map ev) none).run P w = .ok (.slice (if cap = l.toNat then a else a.map (·.add (l.toNat * s))) (hb.toNat - l.toNat) (cap - l.toNat)) w := by
  have hv : ∀ (q : Option Operand) (dd m : Int), (∀ x, q = some x → RepS G w (R x) (ev x)) → bndI R dd q = some m → (q = none ∧ m = dd) ∨ ∃ x k, q = some x ∧ ev x = .int k m := by
    intro q dd m hq hm
    cases q with
    | none => simp [bndI] at hm; exact .inl ⟨rfl, hm.symm⟩
    | some x =>
      simp only [bndI] at hm
      split at hm
      · rename_i k n hx
        simp at hm
        subst hm
        have := hq x rfl
        rw [hx] at this
        unfold RepS at this; unfold Rep at this
        exact .inr ⟨x, k, rfl, this.1⟩
      · cases hm
  have hz := run_szB (P := P) hs w
  have hlt : l.toNat ≤ cap := by omega
  have e1 : ∀ k, (Instr.sliceBound (.int k hb) cap .sliceAcap).run P w = .ok hb.toNat w := by
    intro k
    simp [Instr.sliceBound, asIntOf, show (0 : Int) ≤ hb by omega, show hb ≤ (cap : Int) by omega]
  have e2 : ∀ k, (Instr.sliceBound (.int k l) hb.toNat .sliceB).run P w = .ok l.toNat w := by
    intro k
    simp [Instr.sliceBound, asIntOf, h0, show l ≤ ((hb.toNat : Nat) : Int) by omega]
    try (intro hq; exact absurd hq (by omega))
  rcases hv lo 0 l (fun x hx => hop x (.inl hx)) hlo with ⟨rfl, rfl⟩ | ⟨x, k, rfl, hx⟩ <;> rcases hv hi n hb (fun x hx => hop x (.inr hx)) hhi with ⟨rfl, rfl⟩ | ⟨y, k', rfl, hy⟩
  · simp [Instr.sliceAt, Instr.slice, run_underlying (und_elem he), Instr.sliceBounds, hz]
  · simp [Instr.sliceAt, Instr.slice, run_underlying (und_elem he), Instr.sliceBounds, hz, hy, e1]
  · have e2' : (Instr.sliceBound (.int k l) n .sliceB).run P w = .ok l.toNat w := by have := e2 k; simpa using this
    simp [Instr.sliceAt, Instr.slice, run_underlying (und_elem he), Instr.sliceBounds, hz, hx, e2']
  · simp [Instr.sliceAt, Instr.slice, run_underlying (und_elem he), Instr.sliceBounds, hz, hx, hy, e1, e2]

theorem does_slice {t e : TypeId} {x : Operand} {lo hi : Option Operand} {s : Nat} {l hb : Int} {xs : List T} (ho : o.op = .slice t x lo hi none) (he : elemB P t = some e) (hs : szB P e = some s) (hx : R x = .t (.sl s xs))
    (hlo : bndI R 0 lo = some l) (hhi : bndI R xs.length hi = some hb) (h0 : 0 ≤ l) (h1 : l ≤ hb) (h2 : hb ≤ xs.length) : Does N P o R h ⟨.t (.sl s ((xs.take hb.toNat).drop l.toNat)), [], [], []⟩ :=
  does_pure fun G h' a w hh hop _ => by
    have h3 := hop x (by simp [ho, Op.operands])
    rw [hx] at h3
    unfold RepS at h3
    have h3' := h3
    unfold Rep at h3'
    obtain ⟨ad, cap, cells, h4, _, _, h5⟩ := h3'
    rw [h4] at h3
    refine ⟨_, ?_, by unfold RepS; exact rep_sliced (l := l.toNat) (h := hb.toNat) h3 (by omega) (by omega)⟩
    unfold execOp
    simp only [ho, h4]
    exact exec_v (run_sliceAt_any (R := R) (G := G) he hs (fun y hy => hop y (by simp [ho, Op.operands]; rcases hy with hy | hy <;> simp [hy])) hlo hhi h0 h1 h2 h5.le)
theorem does_slice_own {t e e' : TypeId} {x : Operand} {lo hi : Option Operand} {s k : Nat} {l hb : Int} {xs : List T} (ho : o.op = .slice t x lo hi none) (he : elemB P t = some e) (hs : szB P e = some s) (hx : R x = .own k) (hk : h k = some (.list e' s xs))
    (hlo : bndI R 0 lo = some l) (hhi : bndI R xs.length hi = some hb) (h0 : 0 ≤ l) (h1 : l ≤ hb) (h2 : hb ≤ xs.length) : Does N P o R h ⟨.t (.sl s ((xs.take hb.toNat).drop l.toNat)), [(k, none)], [k], []⟩ := by
  intro W G0 A G g h' a w Q K hsat hop hfp _ hK
  have h3 := hsat.eval x
  rw [hop x (by simp [ho, Op.operands]), hx] at h3
  unfold RepS at h3
  have hk' : h' k = some (.list e' s xs) := by rw [hfp k (by simp)]; exact hk
  have hrep := hsat.heap.rep k _ hk'
  have hx := Ext.freeze hsat.heap hk'
  have h4 : Rep (fun b => G.F b ∨ hblk (G.β k) = some b) w (.sl s xs) (G.β k) := rep_of_list hrep (fun b hb => .inl hb) (fun b hb => .inr hb)
  have h4' := h4
  unfold Rep at h4'
  obtain ⟨ad, cap, cells, h5b, _, _, h6⟩ := h4'
  have h5 : a.eval x = .slice ad xs.length cap := by rw [h3.1, h5b]
  have h7 : Rep (fun b => G.F b ∨ hblk (G.β k) = some b) w (.sl s xs) (.slice ad xs.length cap) := by rw [← h5b]; exact h4
  refine wp_of_run (v := .slice (if cap = l.toNat then ad else ad.map (·.add (l.toNat * s))) (hb.toNat - l.toNat) (cap - l.toNat)) (w' := w) ?_ (hK _ _ w hx ?_)
  · unfold execOp
    simp only [ho, h5]
    exact exec_v (run_sliceAt_any (R := R) (G := G) he hs (fun y hy => by
      rw [← hop y (by simp [ho, Op.operands]; rcases hy with hy | hy <;> simp [hy])]
      exact hsat.eval y) hlo hhi h0 h1 h2 h6.le)
  · unfold RepS
    exact rep_sliced h7 (by omega) (by omega)

/-! ### Struct literals -/
def bldS (pls : List (Nat × Nat)) (R : Operand → S) : List (Nat × Operand) → List S → Option (List S)
  | [], fs => some fs
  | (i, x) :: r, fs => match fs[i]?, pls[i]? with
    | some f, some (off, sz) => if off = S.widths (fs.take i) ∧ sz = f.width ∧ (R x).solid = true ∧ (R x).width = f.width then bldS pls R r (fs.set i (R x)) else none
    | _, _ => none
def allT : List S → Option (List T)
  | [] => some []
  | .t x :: r => match allT r with
    | some xs => some (x :: xs)
    | none => none
  | _ :: _ => none
def clp (fs : List S) : S := match allT fs with
  | some xs => .t (.agg xs)
  | none => .ag fs
theorem allT_spec : ∀ {fs : List S} {xs : List T}, allT fs = some xs → fs = xs.map S.t
  | [], xs, e => by simp [allT] at e; subst e; rfl
  | s :: r, xs, e => by
    cases s <;> simp only [allT] at e <;> try (cases e)
    split at e
    · rename_i x xs' hx
      simp at e
      subst e
      rw [allT_spec hx]; rfl
    · cases e
theorem reps_of_t {G : Gh} {w : World} : ∀ {ys : List T} {cs : List Value}, RepSs G w (ys.map S.t) cs → Reps G.F w ys cs
  | [], cs, h => by simp only [List.map_nil] at h; unfold RepSs at h; unfold Reps; exact h
  | y :: ys, cs, h => by
    simp only [List.map_cons] at h
    unfold RepSs at h
    obtain ⟨v, cs', h4, _, _, h5, h6⟩ := h
    unfold Reps
    unfold RepS at h5
    exact ⟨v, cs', h4, h5, reps_of_t h6⟩
theorem rep_clp {G : Gh} {w : World} {fs : List S} {cells : List Value} (hr : RepSs G w fs cells) : RepS G w (clp fs) (.agg cells.toArray) := by
  unfold clp
  split
  · rename_i xs hx
    rw [allT_spec hx] at hr
    unfold RepS; unfold Rep
    exact ⟨cells, rfl, reps_of_t hr⟩
  · unfold RepS
    exact ⟨cells, rfl, hr⟩
theorem foldl_splice {cells : Array Value} {vs : List Value} {off : Nat} (h : off + vs.length ≤ cells.size) :
    ((vs.zipIdx 0).foldl (fun cs (x : Value × Nat) => cs.setIfInBounds (off + x.2) x.1) cells).toList = splice cells.toList off vs := by
  obtain ⟨h1, h2⟩ := Great.foldl_set off vs 0 cells
  apply List.ext_getElem?
  intro k
  have h3 := h2 k
  simp only [Nat.add_zero] at h3
  rw [Array.getElem?_toList, h3]
  unfold splice
  by_cases hk1 : k < off
  · rw [if_neg (by omega), List.getElem?_append_left (by simp; omega), List.getElem?_take, if_pos hk1]
    simp
  · by_cases hk2 : k < off + vs.length
    · rw [if_pos (by omega), List.getElem?_append_right (by simp; omega)]
      rw [List.getElem?_append_left (by simp; omega)]
      simp [Nat.min_eq_left (show off ≤ cells.size by omega)]
    · rw [if_neg (by omega), List.getElem?_append_right (by simp; omega), List.getElem?_append_right (by simp; omega), List.getElem?_drop]
      simp only [List.length_take, Array.length_toList, Nat.min_eq_left (show off ≤ cells.size by omega)]
      rw [show off + vs.length + (k - off - vs.length) = k by omega]
      simp
theorem fill_spec {G : Gh} {w : World} {ev : Operand → Value} {pls : List (Nat × Nat)} : ∀ {parts : List (Nat × Operand)} {fs fs' : List S} {cells : Array Value}, RepSs G w fs cells.toList → (∀ q ∈ parts, RepS G w (R q.2) (ev q.2)) → bldS pls R parts fs = some fs' →
    ∃ cells', Instr.fill (fun i => pls[i]?) cells (parts.map fun q => (q.1, ev q.2)) = some cells' ∧ RepSs G w fs' cells'.toList
  | [], fs, fs', cells, hr, _, e => by
    simp [bldS] at e
    subst e
    exact ⟨cells, rfl, hr⟩
  | (i, x) :: r, fs, fs', cells, hr, hp, e => by
    simp only [bldS] at e
    split at e
    · rename_i f off sz hf hpl
      split at e
      · rename_i hc
        obtain ⟨h1, h2, h3, h4⟩ := hc
        have hx := hp (i, x) (by simp)
        have hlx := RepS.lens hx h3
        have hset := RepSs.set hr hf hx hlx.1 hlx.2 h4
        have hlen := (RepSs.lens hr).1
        have h8 := swidths_take_succ hf
        have h9 := swidths_split fs (i + 1)
        have hfit : off + (ev x).cells.toList.length ≤ cells.size := by
          simp only [Array.length_toList] at *
          omega
        have hsp := foldl_splice hfit
        have hin : RepSs G w (fs.set i (R x)) (((ev x).cells.toList.zipIdx 0).foldl (fun cs (y : Value × Nat) => cs.setIfInBounds (off + y.2) y.1) cells).toList := by
          rw [hsp]
          unfold splice
          rw [h1, Array.length_toList, hlx.1, h4]
          exact hset
        obtain ⟨cells', h5, h6⟩ := fill_spec (ev := ev) hin (fun q hq => hp q (by simp [hq])) e
        refine ⟨cells', ?_, h6⟩
        simp only [List.map_cons]
        unfold Instr.fill
        simp only [hpl]
        have hsz : (ev x).cells.size = sz := by rw [hlx.1, h4, h2]
        rw [if_neg (by simp only [Array.length_toList, hsz] at hfit; simp [hsz]; omega)]
        rw [← h5]
        congr 1
        rw [← Array.foldl_toList, Array.toList_zipIdx]
      · cases e
    · cases e
/-- A function that has captured nothing is a value. -/
def fnT : S → S
  | .fn f [] => .t (.lit (.func (.func f) #[] #[]))
  | .fn f (c :: cs) => .fn f (c :: cs)
  | .fb f cs => .fb f cs
  | .t x => .t x
  | .own l => .own l
  | .pt l p o => .pt l p o
  | .rp x => .rp x
  | .ag fs => .ag fs
  | .tup fs => .tup fs
  | .dead => .dead
theorem rep_fnT {G : Gh} {w : World} {s : S} {u : Value} (h : RepS G w s u) : RepS G w (fnT s) u := by
  cases s with
  | fn f cs =>
    cases cs with
    | nil =>
      unfold RepS at h
      obtain ⟨us, rfl, h2⟩ := h
      unfold RepPs at h2
      subst h2
      unfold fnT RepS Rep
      exact ⟨rfl, rfl⟩
    | cons c cs => exact h
  | _ => exact h
theorem does_build {t : TypeId} {parts : Array (Nat × Operand)} {zs : List T} {pls : List (Nat × Nat)} {fs : List S} (ho : o.op = .build t parts) (hz : zeroOf P t = some (.agg zs)) (hpl : plB P t = some pls) (hb : bldS pls (fun x => fnT (R x)) parts.toList (zs.map S.t) = some fs) :
    Does N P o R h ⟨clp fs, [], [], []⟩ :=
  does_pure fun G h' a w hh hop _ => by
    obtain ⟨v, u, h1, h2, h3⟩ := zeroOf_spec hz G.F w
    unfold Rep at h2
    obtain ⟨cs, rfl, h4⟩ := h2
    have h5 : RepSs G w (zs.map S.t) v.cells.toList := by rw [h3]; exact RepSs.of_t h4
    obtain ⟨cells', h6, h7⟩ := fill_spec (R := fun x => fnT (R x)) (ev := a.eval) h5 (fun q hq => rep_fnT (hop q.2 (by simp [ho, Op.operands]; exact ⟨q.1, by simpa using hq⟩))) hb
    refine ⟨.agg cells', ?_, by have := rep_clp h7; simpa using this⟩
    unfold plB at hpl
    split at hpl
    · rename_i fields hu
      have hpm := run_places (P := P) w _ _ hpl
      have hparts : (parts.map fun (i, x) => (i, a.eval x)).toList = parts.toList.map fun q => (q.1, a.eval q.2) := by rw [Array.toList_map]
      unfold execOp
      simp only [ho]
      refine exec_v ?_
      simp [Instr.build, h1, run_underlying hu, Array.mapM_eq_mapM_toList, hpm, hparts, h6]
    · cases hpl

theorem fill_mono {g g' : Nat → Option (Nat × Nat)} (hg : ∀ i v, g i = some v → g' i = some v) : ∀ {parts : List (Nat × Value)} {cells c : Array Value}, Instr.fill g cells parts = some c → Instr.fill g' cells parts = some c
  | [], cells, c, h => by unfold Instr.fill at *; exact h
  | (i, v) :: r, cells, c, h => by
    unfold Instr.fill at *
    cases hi : g i with
    | none => simp [hi] at h
    | some q =>
      rw [hi] at h
      rw [hg i q hi]
      dsimp only at h ⊢
      split at h
      · cases h
      · rename_i hc
        rw [if_neg hc]
        exact fill_mono hg h
/-- The places of an array's elements. -/
def plA (n s : Nat) : List (Nat × Nat) := (List.range n).map fun i => (i * s, s)
theorem does_build_arr {t e : TypeId} {n s : Nat} {parts : Array (Nat × Operand)} {zs : List T} {fs : List S} (ho : o.op = .build t parts) (hz : zeroOf P t = some (.agg zs)) (ha : arrB P t = some (n, e)) (hs : szB P e = some s) (hb : bldS (plA n s) (fun x => fnT (R x)) parts.toList (zs.map S.t) = some fs) :
    Does N P o R h ⟨clp fs, [], [], []⟩ :=
  does_pure fun G h' a w hh hop _ => by
    obtain ⟨v, u, h1, h2, h3⟩ := zeroOf_spec hz G.F w
    unfold Rep at h2
    obtain ⟨cs, rfl, h4⟩ := h2
    have h5 : RepSs G w (zs.map S.t) v.cells.toList := by rw [h3]; exact RepSs.of_t h4
    obtain ⟨cells', h6, h7⟩ := fill_spec (R := fun x => fnT (R x)) (ev := a.eval) h5 (fun q hq => rep_fnT (hop q.2 (by simp [ho, Op.operands]; exact ⟨q.1, by simpa using hq⟩))) hb
    have h8 := fill_mono (g' := fun i => some (i * s, s)) (fun i v hv => by
      unfold plA at hv
      rw [List.getElem?_map] at hv
      cases hr : (List.range n)[i]? with
      | none => rw [hr] at hv; cases hv
      | some j =>
        rw [hr] at hv
        obtain ⟨hlt, he⟩ := List.getElem?_eq_some_iff.1 hr
        simp at he
        subst he
        simpa using hv) h6
    refine ⟨.agg cells', ?_, by have := rep_clp h7; simpa using this⟩
    have hparts : (parts.map fun (i, x) => (i, a.eval x)).toList = parts.toList.map fun q => (q.1, a.eval q.2) := by rw [Array.toList_map]
    unfold execOp
    simp only [ho]
    refine exec_v ?_
    simp [Instr.build, h1, run_underlying (und_arr ha), run_szB hs, hparts, h8]

/-! ### Comparisons -/
def eqV (P : Program) (t : TypeId) (x y : T) : Option Bool := match x, y with
  | .lit (.int k a), .lit (.int k' b) => if k = k' ∧ (intB P t).isSome = true then some (decide (a = b)) else none
  | .lit (.bool a), .lit (.bool b) => if boolB P t = true then some (a == b) else none
  | .lit (.string a), .lit (.string b) => if strB P t = true then some (a.toList == b.toList) else none
  | _, _ => none
def eqFs (P : Program) : List (Nat × TypeId) → Nat → List T → List T → Option Bool
  | [], _, [], [] => some true
  | (off, ft) :: r, k, x :: xs, y :: ys => if off = k then match eqV P ft x y with
      | some b => match eqFs P r (k + 1) xs ys with
        | some c => some (b && c)
        | none => none
      | none => none
    else none
  | _, _, _, _ => none
theorem eqV_spec {t : TypeId} {x y : T} {b : Bool} (hz : eqV P t x y = some b) : ∃ u v, x = .lit u ∧ y = .lit v ∧ aggO P t = some false ∧ ∀ d w, (Op.equalIn (d + 1) t u v).run P w = .ok b w := by
  unfold eqV at hz
  split at hz
  · split at hz
    · rename_i k a k' b' hc
      obtain ⟨rfl, h2⟩ := hc
      obtain ⟨k2, hk2⟩ := Option.isSome_iff_exists.1 h2
      simp at hz
      subst hz
      refine ⟨_, _, rfl, rfl, by simp [aggO, und_int hk2], fun d w => ?_⟩
      rw [run_equalIn_int w d t _ k2 _ _ (und_int hk2)]
      congr 1
    · cases hz
  · split at hz
    · rename_i a b' hc
      simp at hz
      subst hz
      exact ⟨_, _, rfl, rfl, by simp [aggO, und_bool hc], fun d w => run_equalIn_bool' w d t _ _ (und_bool hc)⟩
    · cases hz
  · split at hz
    · rename_i a b' hc
      simp at hz
      subst hz
      exact ⟨_, _, rfl, rfl, by simp [aggO, und_str hc], fun d w => run_equalIn_string w d t _ _ (und_str hc)⟩
    · cases hz
  · cases hz
theorem eqFs_spec {w : World} {F : Nat → Prop} {xa ya : Array Value} : ∀ {fs : List Field} {k : Nat} {xs ys : List T} {b : Bool}, (∀ f ∈ fs, f.name ≠ "_") → eqFs P (fs.map fun f => (f.offset, f.type)) k xs ys = some b →
    (∃ cs, xa.toList.drop k = cs ∧ Reps F w xs cs) → (∃ cs, ya.toList.drop k = cs ∧ Reps F w ys cs) → ∀ d, (Op.eqFields (d + 1) xa ya fs).run P w = .ok b w
  | [], k, xs, ys, b, _, e, _, _, d => by
    cases xs <;> cases ys <;> simp [eqFs] at e
    subst e
    simp [Op.eqFields]
  | f :: fs, k, xs, ys, b, hn, e, hx, hy, d => by
    cases xs with
    | nil => simp [eqFs] at e
    | cons x xs =>
      cases ys with
      | nil => simp [eqFs] at e
      | cons y ys =>
        simp only [List.map_cons, eqFs] at e
        split at e
        · rename_i hk
          split at e
          · rename_i b1 h1
            split at e
            · rename_i c h2
              simp at e
              obtain ⟨u, v, rfl, rfl, h3, h4⟩ := eqV_spec h1
              obtain ⟨cs, h5, h6⟩ := hx
              obtain ⟨ds, h7, h8⟩ := hy
              unfold Reps at h6 h8
              obtain ⟨u', cs', h9, h10, h11⟩ := h6
              obtain ⟨v', ds', h12, h13, h14⟩ := h8
              unfold Rep at h10 h13
              obtain ⟨rfl, h10⟩ := h10
              obtain ⟨rfl, h13⟩ := h13
              have hcu := cells_one h10
              have hcv := cells_one h13
              rw [hcu] at h9
              rw [hcv] at h12
              have ha := run_aggO (P := P) h3 w
              have hxa : xa[f.offset]? = some u' := by
                rw [hk, ← Array.getElem?_toList, ← Nat.add_zero k, ← List.getElem?_drop, h5, h9]; rfl
              have hya : ya[f.offset]? = some v' := by
                rw [hk, ← Array.getElem?_toList, ← Nat.add_zero k, ← List.getElem?_drop, h7, h12]; rfl
              have hp1 : (part f.type xa f.offset).run P w = .ok u' w := by simp [part, ha, hxa]
              have hp2 : (part f.type ya f.offset).run P w = .ok v' w := by simp [part, ha, hya]
              have ih := eqFs_spec (xa := xa) (ya := ya) (F := F) (fun g hg => hn g (by simp [hg])) h2 ⟨cs', by rw [← List.drop_drop, h5, h9]; rfl, h11⟩ ⟨ds', by rw [← List.drop_drop, h7, h12]; rfl, h14⟩ d
              simp only [Op.eqFields]
              rw [if_pos (hn f (by simp))]
              simp only [Sem.run_bind, hp1, hp2, Result.andThen_ok, h4]
              cases b1
              · simp [← e]
              · simp [ih, ← e]
            · cases e
          · cases e
        · cases e
theorem does_eq_agg {op : BinOp} {t t' : TypeId} {x y : Operand} {xs ys : List T} {fl : List (Nat × TypeId)} {b : Bool} (ho : o.op = .binOp op t x y t') (hop' : op = .eql ∨ op = .neq) (hx : R x = .t (.agg xs)) (hy : R y = .t (.agg ys)) (hf : fldsB P t = some fl)
    (h1 : P.stoodInHeld t = false) (h2 : P.eqGuardType P.depth t = false) (hb : eqFs P fl 0 xs ys = some b) : Does N P o R h ⟨.t (.lit (.bool (if op = .eql then b else !b))), [], [], []⟩ :=
  does_pure fun G h' a w hh hop _ => by
    have h3 := hop x (by simp [ho, Op.operands])
    have h4 := hop y (by simp [ho, Op.operands])
    rw [hx] at h3
    rw [hy] at h4
    unfold RepS at h3 h4; unfold Rep at h3 h4
    obtain ⟨cs, h5, h6⟩ := h3
    obtain ⟨ds, h7, h8⟩ := h4
    unfold fldsB at hf
    split at hf
    · rename_i fs hu
      split at hf
      · rename_i hall
        simp at hf
        subst hf
        have hne : ∀ f ∈ fs.toList, f.name ≠ "_" := by
          intro f hf
          have := List.all_eq_true.1 hall f hf
          simpa using this
        have hfo : P.underlying t = some (.struct (P.fieldsOf t)) := by unfold Program.fieldsOf; rw [hu]
        have hfs : P.fieldsOf t = fs := by unfold Program.fieldsOf; rw [hu]
        have hrun : (Op.equalIn 10000 t (.agg cs.toArray) (.agg ds.toArray)).run P w = .ok b w := by
          rw [run_equalIn_agg w 9999 t _ _ hfo h1, hfs]
          exact eqFs_spec (F := G.F) hne hb ⟨cs, by simp, h6⟩ ⟨ds, by simp, h8⟩ 9998
        refine ⟨.bool (if op = .eql then b else !b), ?_, by unfold RepS; unfold Rep; exact ⟨rfl, rfl⟩⟩
        unfold execOp
        simp only [ho, h5, h7]
        refine exec_v ?_
        have hg := run_eqGuard_agg (P := P) w op t x y cs.toArray ds.toArray h2
        rcases hop' with rfl | rfl
        · simp [hg, run_eql_struct, hrun]
        · simp [hg, run_neq_struct, hrun]
      · cases hf
    · cases hf
theorem does_eq_bool {op : BinOp} {t t' : TypeId} {x y : Operand} {p q : Bool} (ho : o.op = .binOp op t x y t') (hop' : op = .eql ∨ op = .neq) (hx : R x = .t (.lit (.bool p))) (hy : R y = .t (.lit (.bool q))) (hb : boolB P t = true) :
    Does N P o R h ⟨.t (.lit (.bool (if op = .eql then p == q else !(p == q)))), [], [], []⟩ :=
  does_pure fun G h' a w hh hop _ => by
    have h3 := hop x (by simp [ho, Op.operands])
    have h4 := hop y (by simp [ho, Op.operands])
    rw [hx] at h3
    rw [hy] at h4
    unfold RepS at h3 h4; unfold Rep at h3 h4
    refine ⟨.bool (if op = .eql then p == q else !(p == q)), ?_, by unfold RepS; unfold Rep; exact ⟨rfl, rfl⟩⟩
    unfold execOp
    simp only [ho, h3.1, h4.1]
    refine exec_v ?_
    rcases hop' with rfl | rfl
    · simp [eqGuard, run_eql_bool w t p q (und_bool hb)]
    · simp [eqGuard, run_neq_bool w t p q (und_bool hb)]
end
end Go.Proofs.Ytgjfkklemelejaa.Sy
