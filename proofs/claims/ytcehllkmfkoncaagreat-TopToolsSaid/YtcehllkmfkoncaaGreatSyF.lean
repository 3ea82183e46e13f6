/- More operations: stores, new variables, addresses, arithmetic, literals, append. No condition. -/
import Derived.Test.YtcehllkmfkoncaaGreatSyE
import Derived.Great.BuildSlice
namespace Go.Proofs.YtcehllkmfkoncaaGreat.Sy
open Go.RowKit
set_option linter.unusedVariables false
set_option linter.unusedSimpArgs false

section
variable {N : Nat} {P : Program} {o : Oper} {R : Operand → S} {h : Nat → Option Blk}

theorem bput_self (β : Nat → Value) (l : Nat) : bput β l (β l) = β := by
  funext k; unfold bput; split
  · subst_vars; rfl
  · rfl
theorem newGh_self (G : Gh) (l : Nat) : newGh G l (G.β l) (G.φ l) = G := by
  have h1 : pput G.φ l (G.φ l) = G.φ := by
    funext k
    by_cases h : k = l
    · subst h; exact pput_same _ _ _
    · exact pput_other _ h
  unfold newGh
  rw [bput_self, h1]
theorem hput_eq_one (h : Nat → Option Blk) (d : Nat) (b : Blk) (l0 : Option Nat) (hl : l0 = some d ∨ l0 = none) : (fun k => if k = d then some b else if l0 = some k then none else h k) = hupd [(d, some b)] h := by
  funext k
  simp only [hupd, hput]
  split
  · rfl
  · rename_i hk
    rcases hl with rfl | rfl
    · rw [if_neg (by intro e; simp at e; exact hk e.symm)]
    · rw [if_neg (by simp)]
theorem hput_eq_two (h : Nat → Option Blk) (d l : Nat) (b : Blk) : (fun k => if k = d then some b else if some l = some k then none else h k) = hupd [(d, some b), (l, none)] h := by
  funext k
  simp only [hupd, hput, Option.some.injEq]
  split
  · rfl
  · by_cases e : k = l
    · subst e; simp
    · rw [if_neg (fun h => e h.symm), if_neg e]

theorem does_store {t : TypeId} {x y : Operand} {l off : Nat} {p : List Nat} {blk blk' : Blk} {z : S} (ho : o.op = .store t x y) (hx : R x = .pt l p off) (hl : h l = some blk) (hp : blk.at p = some (off, z))
    (hset : blk.set p (R y) = some blk') (hso : (R y).solid = true) (hw : (R y).width = z.width) (hsz : szB P t = some (R y).width) : Does N P o R h ⟨.dead, [(l, some blk')], [l], []⟩ := by
  intro W G0 A G g h' a w Q K hs hop hfp _ hK
  have h1 := hs.eval x
  rw [hop x (by simp [ho, Op.operands]), hx] at h1
  unfold RepS at h1
  obtain ⟨b, hb, hxv⟩ := h1
  have h2 := hs.eval y
  rw [hop y (by simp [ho, Op.operands])] at h2
  have hl' : h' l = some blk := by rw [hfp l (by simp)]; exact hl
  have hrep := hs.heap.rep l blk hl'
  have hlen := RepS.lens h2 hso
  have hnF := hs.heap.sep l blk b hl' (.inl hb)
  obtain ⟨cur, ty, cs', hcur, hcs, hfit, hnew, hnewi⟩ := RepB.set_spec hrep (hs.heap.inn l blk hl') hp hset hb h2 hlen.1 hlen.2 hw hnF hs.heap.fb
  have hrun : (execOp a.eval o).run P w = .ok .skip (w.setRow b cs'.toArray) := by
    unfold execOp
    simp only [ho, hxv]
    have hst := run_storeCells_at (P := P) b off ty (a.eval y).cells.toList 0 cur w hcur (by simpa using hfit) hlen.2
    simp only [Nat.add_zero] at hst
    have hcs2 : cs' = cur.toList.take off ++ (a.eval y).cells.toList ++ cur.toList.drop (off + (a.eval y).cells.toList.length) := by rw [hcs, splice, List.append_assoc]
    rw [← hcs2] at hst
    simp [Instr.storeAt, Instr.sureAddr, storeVar, run_szB hsz, hlen.1, hst]
  unfold Oper.wp
  rw [hrun]
  show K (a.put o.dst undef) _
  have hx := Ext.mkG hs.heap (some b) (grownBy_setRow w b cs'.toArray) (some l) (fun k hk => ⟨blk, by cases hk; exact hl'⟩) (fun k hk => ⟨l, rfl, by cases hk; exact .inl hb⟩) l (G.β l) blk' (G.φ l) (.inl rfl) [] (.inr ⟨rfl, rfl⟩) (by simp) (fun k hk => .inl ⟨l, rfl, hk⟩) (by rw [newGh_self]; exact hnew) (by rw [newGh_self]; exact hnewi)
  rw [hput_eq_one h' l blk' (some l) (.inl rfl)] at hx
  exact hK undef _ _ hx (by unfold RepS; trivial)

/-- A new block. -/
theorem does_new {d : Nat} {r : S} {blk : Blk} (H : ∀ (G : Gh) (a : Act) (w : World), (∀ x ∈ o.op.operands.toList, RepS G w (R x) (a.eval x)) → (∀ b, G.F b → b < w.heap.size) →
      ∃ cs e v, (execOp a.eval o).run P w = .ok (.value v) (w.alloc (.cells cs e)) ∧ hblk v = some w.heap.size ∧
        ∀ G' : Gh, G'.F = G.F → G'.β d = v → (∀ s u, s.free d = true → RepS G w s u → RepS G' (w.alloc (.cells cs e)) s u) → RepB G' (w.alloc (.cells cs e)) blk v ∧ RepS G' (w.alloc (.cells cs e)) r v) (hpl : blk.plain = true := by rfl) :
    Does N P o R h ⟨r, [(d, some blk)], [], [d]⟩ := by
  intro W G0 A G g h' a w Q K hs hop _ hnw hK
  obtain ⟨hd, hfg, hfh⟩ := hnw d (by simp)
  obtain ⟨cs, e, v, h1, h2, h3⟩ := H G a w (fun x hx => by rw [← hop x hx]; exact hs.eval x) hs.heap.fb
  have K0 : Keep G w (newGh G d v noF) (w.alloc (.cells cs e)) [d] := ⟨fun _ h => h, fun b o hb => cell_block (Below.heap_alloc w _ b (hs.heap.fb b hb)), fun l hl => bput_other v (by simpa using hl)⟩
  obtain ⟨h4, h5⟩ := h3 (newGh G d v noF) rfl (bput_same _ _ _) (fun s u hf hr => RepS.keep K0 s u (fun l hl => by simp at hl; subst hl; exact hf) hr)
  have hx := Ext.mk' hs.heap none (World.grownBy_alloc w (.cells cs e)) none (by simp) (by simp) d v blk (.inr hd) [d] (.inl rfl) (fun k hk l b hl => by simp at hk; subst hk; exact hfh l b hl) (fun k hk => .inr (by rw [h2] at hk; cases hk; exact Nat.le_refl _)) h4 (Inn.plain hpl)
  rw [hput_eq_one h' d blk none (.inr rfl)] at hx
  exact wp_of_run h1 (hK v _ _ hx h5)

/-! ### New variables -/
mutual
def shapeT (P : Program) : Nat → TypeId → List Value → Option (T × List Value)
  | 0, _, _ => none
  | n + 1, t, cs => match P.underlying t with
    | some (.struct fs) => match shapeF P n (fs.toList.map (·.type)) cs with
      | some (xs, r) => some (.agg xs, r)
      | none => none
    | some (.array k e) => match shapeF P n (List.replicate k e) cs with
      | some (xs, r) => some (.agg xs, r)
      | none => none
    | some _ => match cs with
      | c :: r => if c.oneCell' then some (.lit c, r) else none
      | [] => none
    | none => none
def shapeF (P : Program) : Nat → List TypeId → List Value → Option (List T × List Value)
  | 0, _, _ => none
  | _ + 1, [], cs => some ([], cs)
  | n + 1, t :: ts, cs => match shapeT P n t cs with
    | some (x, r) => match shapeF P n ts r with
      | some (xs, r') => some (x :: xs, r')
      | none => none
    | none => none
end
mutual
theorem shapeT_spec {F : Nat → Prop} {w : World} : ∀ {n : Nat} {t : TypeId} {cs r : List Value} {x : T}, shapeT P n t cs = some (x, r) → ∃ u, Rep F w x u ∧ cs = u.cells.toList ++ r
  | 0, t, cs, r, x, e => by simp [shapeT] at e
  | n + 1, t, cs, r, x, e => by
    unfold shapeT at e
    split at e
    · split at e
      · rename_i h1
        simp at e
        obtain ⟨rfl, rfl⟩ := e
        obtain ⟨us, h2, h3⟩ := shapeF_spec (F := F) (w := w) h1
        exact ⟨.agg us.toArray, by unfold Rep; exact ⟨us, rfl, h2⟩, h3⟩
      · cases e
    · split at e
      · rename_i h1
        simp at e
        obtain ⟨rfl, rfl⟩ := e
        obtain ⟨us, h2, h3⟩ := shapeF_spec (F := F) (w := w) h1
        exact ⟨.agg us.toArray, by unfold Rep; exact ⟨us, rfl, h2⟩, h3⟩
      · cases e
    · split at e
      · split at e
        · rename_i h1
          simp at e
          obtain ⟨rfl, rfl⟩ := e
          exact ⟨_, by unfold Rep; exact ⟨rfl, h1⟩, by rw [cells_one h1]; rfl⟩
        · cases e
      · cases e
    · cases e
theorem shapeF_spec {F : Nat → Prop} {w : World} : ∀ {n : Nat} {ts : List TypeId} {cs r : List Value} {xs : List T}, shapeF P n ts cs = some (xs, r) → ∃ us, Reps F w xs us ∧ cs = us ++ r
  | 0, ts, cs, r, xs, e => by simp [shapeF] at e
  | n + 1, [], cs, r, xs, e => by
    simp [shapeF] at e
    obtain ⟨rfl, rfl⟩ := e
    exact ⟨[], by unfold Reps; rfl, rfl⟩
  | n + 1, t :: ts, cs, r, xs, e => by
    unfold shapeF at e
    split at e
    · rename_i h1
      split at e
      · rename_i h2
        simp at e
        obtain ⟨rfl, rfl⟩ := e
        obtain ⟨u, h3, rfl⟩ := shapeT_spec (F := F) (w := w) h1
        obtain ⟨us, h4, rfl⟩ := shapeF_spec (F := F) (w := w) h2
        exact ⟨u.cells.toList ++ us, by unfold Reps; exact ⟨u, us, rfl, h3, h4⟩, by simp⟩
      · cases e
    · cases e
end
/-- The zero of a type, as a tree. -/
def zeroOf (P : Program) (t : TypeId) : Option T := match (P.info? t).bind (·.zero) with
  | some v => match shapeT P 600 t v.cells.toList with
    | some (x, []) => some x
    | _ => none
  | none => none
theorem zeroOf_spec {t : TypeId} {z : T} (hz : zeroOf P t = some z) (F : Nat → Prop) (w : World) : ∃ v u, (zeroValue t).run P w = .ok v w ∧ Rep F w z u ∧ v.cells = u.cells := by
  unfold zeroOf at hz
  split at hz
  · rename_i v hv
    obtain ⟨i, hi, hzz⟩ := Option.bind_eq_some_iff.1 hv
    split at hz
    · rename_i hx
      simp at hz
      subst hz
      obtain ⟨u, h1, h2⟩ := shapeT_spec (F := F) (w := w) hx
      refine ⟨v, u, by simp [zeroValue, typeInfo, hi, hzz], h1, ?_⟩
      rw [← Array.toList_inj]
      simpa using h2
    · cases hz
  · cases hz

theorem does_alloc {e : TypeId} {d : Nat} {z : T} (ho : o.op = .alloc e) (hz : zeroOf P e = some z) : Does N P o R h ⟨.pt d [] 0, [(d, some (.box e (.t z)))], [], [d]⟩ :=
  does_new fun G a w _ _ => by
    obtain ⟨v, u, h1, h2, h3⟩ := zeroOf_spec hz G.F w
    refine ⟨v.cells, e, .pointer (some ⟨w.heap.size, 0, none⟩), ?_, rfl, fun G' hF hd hk => ?_⟩
    · unfold execOp
      simp only [ho]
      exact exec_v (by simp [Instr.alloc, h1, newVar, newRow])
    · have h4 : RepS G w (.t z) u := by unfold RepS; exact h2
      refine ⟨⟨w.heap.size, u, rfl, hk (.t z) u rfl h4, Rep.width _ _ h2, Rep.one _ _ h2, by rw [← h3]; exact heap_alloc_new w _⟩, ?_⟩
      unfold RepS
      exact ⟨w.heap.size, by rw [hd]; rfl, rfl⟩
theorem does_box {e : TypeId} {d : Nat} {x : Operand} (ho : o.op = .box e x) (hso : (R x).solid = true) (hf : (R x).free d = true) : Does N P o R h ⟨.pt d [] 0, [(d, some (.box e (R x)))], [], [d]⟩ :=
  does_new fun G a w hop _ => by
    have h2 := hop x (by simp [ho, Op.operands])
    have h3 := RepS.lens h2 hso
    refine ⟨(a.eval x).cells, e, .pointer (some ⟨w.heap.size, 0, none⟩), ?_, rfl, fun G' hF hd hk => ?_⟩
    · unfold execOp
      simp only [ho]
      exact exec_v (by simp [Instr.box, newVar, newRow])
    · refine ⟨⟨w.heap.size, a.eval x, rfl, hk _ _ hf h2, h3.1, h3.2, heap_alloc_new w _⟩, ?_⟩
      unfold RepS
      exact ⟨w.heap.size, by rw [hd]; rfl, rfl⟩

/-! ### Addresses and parts -/
theorem run_fieldPlace {b off : Nat} {fd : Field} {n : Nat} (hn : szB P fd.type = some (n + 1)) (w : World) : (fieldPlace ⟨b, off, none⟩ fd).run P w = .ok ⟨b, off + fd.offset, none⟩ w := by
  simp [fieldPlace, run_szB hn, addr_add]
theorem run_fieldAt {s : TypeId} {b off f : Nat} {q : Nat × TypeId} {n : Nat} (hf : fldB P s f = some q) (hn : szB P q.2 = some (n + 1)) (w : World) :
    (Instr.fieldAt s (.pointer (some ⟨b, off, none⟩)) f).run P w = .ok (.pointer (some ⟨b, off + q.1, none⟩)) w := by
  obtain ⟨fs, fd, h1, h2, h3, h4⟩ := und_fld hf
  have := run_fieldPlace (P := P) (b := b) (off := off) (fd := fd) (n := n) (by rw [h4]; exact hn) w
  simp [Instr.fieldAt, run_underlying h1, h2, Instr.sureAddr, this, h3]
theorem does_fieldAddr_pt {t : TypeId} {x : Operand} {f l off : Nat} {p : List Nat} {q : Nat × TypeId} {n : Nat} (ho : o.op = .fieldAddr t x f) (hx : R x = .pt l p off) (hf : fldB P t f = some q) (hn : szB P q.2 = some (n + 1)) :
    Does N P o R h ⟨.pt l (p ++ [f]) (off + q.1), [], [], []⟩ :=
  does_pure fun G h' a w hh hop _ => by
    have h1 := hop x (by simp [ho, Op.operands])
    rw [hx] at h1
    unfold RepS at h1
    obtain ⟨b, h2, h3⟩ := h1
    refine ⟨.pointer (some ⟨b, off + q.1, none⟩), ?_, by unfold RepS; exact ⟨b, h2, rfl⟩⟩
    unfold execOp
    simp only [ho, h3]
    exact exec_v (run_fieldAt hf hn w)
theorem does_fieldAddr_rp {t : TypeId} {x : Operand} {f : Nat} {xs : List T} {y : T} {q : Nat × TypeId} {n : Nat} (ho : o.op = .fieldAddr t x f) (hx : R x = .rp (.agg xs)) (hy : xs[f]? = some y) (hf : fldB P t f = some q) (hq : T.widths (xs.take f) = q.1) (hn : szB P q.2 = some (n + 1)) :
    Does N P o R h ⟨.rp y, [], [], []⟩ :=
  does_pure fun G h' a w hh hop _ => by
    have h1 := hop x (by simp [ho, Op.operands])
    rw [hx] at h1
    unfold RepS at h1
    obtain ⟨b, off, v, h2, h3, h4, h5⟩ := h1
    unfold Rep at h4
    obtain ⟨cells, rfl, h6⟩ := h4
    obtain ⟨v', h7, h8, _⟩ := Reps.get h6 hy
    refine ⟨.pointer (some ⟨b, off + q.1, none⟩), ?_, ?_⟩
    · unfold execOp
      simp only [ho, h2]
      exact exec_v (run_fieldAt hf hn w)
    · unfold RepS
      refine ⟨b, off + q.1, v', rfl, h3, h7, fun j c hj => ?_⟩
      rw [← hq, Nat.add_assoc]
      exact h5 _ _ (h8 j c hj)

theorem run_indexAt {t e : TypeId} {k : IntKind} {n : Int} {b off len cap s : Nat} (he : elemB P t = some e) (hs : szB P e = some s) (h0 : 0 ≤ n) (h1 : n < len) (w : World) :
    (Instr.indexAt t (.slice (some ⟨b, off, none⟩) len cap) (.int k n)).run P w = .ok (.pointer (some ⟨b, off + n.toNat * s, none⟩)) w := by
  simp [Instr.indexAt, asIntOf, run_underlying (und_elem he), h0, h1, run_szB hs, addr_add]

theorem does_index_sl {t e : TypeId} {x i : Operand} {s : Nat} {k : IntKind} {n : Int} {xs : List T} {y : T} (ho : o.op = .indexAddr t x i) (hx : R x = .t (.sl s xs)) (hi : R i = .t (.lit (.int k n))) (he : elemB P t = some e) (hs : szB P e = some s)
    (h0 : 0 ≤ n) (hy : xs[n.toNat]? = some y) : Does N P o R h ⟨.rp y, [], [], []⟩ :=
  does_pure fun G h' a w hh hop _ => by
    have h1 := hop x (by simp [ho, Op.operands])
    have h2 := hop i (by simp [ho, Op.operands])
    rw [hx] at h1
    rw [hi] at h2
    unfold RepS at h1 h2
    unfold Rep at h1 h2
    obtain ⟨ad, cap, cells, h3, h4, h5, h6⟩ := h1
    have hlt := (List.getElem?_eq_some_iff.1 hy).1
    rcases h6.cells with h7 | ⟨b, off, rfl, hF, h7⟩
    · omega
    · obtain ⟨v, h8, h9, _⟩ := Reps.get h4 hy
      refine ⟨.pointer (some ⟨b, off + n.toNat * s, none⟩), ?_, ?_⟩
      · unfold execOp
        simp only [ho, h3, h2.1]
        exact exec_v (run_indexAt he hs h0 (by omega) w)
      · unfold RepS
        refine ⟨b, _, v, rfl, hF, h8, fun j c hj => ?_⟩
        have := h9 j c hj
        rw [widths_take_const h5 (Nat.le_of_lt hlt)] at this
        rw [Nat.add_assoc]
        exact h7 _ _ this
theorem does_index_own {t e e' : TypeId} {x i : Operand} {l s : Nat} {k : IntKind} {n : Int} {xs : List T} (ho : o.op = .indexAddr t x i) (hx : R x = .own l) (hl : h l = some (.list e' s xs)) (hi : R i = .t (.lit (.int k n))) (he : elemB P t = some e) (hs : szB P e = some s)
    (h0 : 0 ≤ n) (h1 : n < xs.length) : Does N P o R h ⟨.pt l [n.toNat] (n.toNat * s), [], [l], []⟩ :=
  does_pure fun G h' a w hh hop hfp => by
    have h2 := hop x (by simp [ho, Op.operands])
    have h3 := hop i (by simp [ho, Op.operands])
    rw [hx] at h2
    rw [hi] at h3
    unfold RepS at h2 h3
    unfold Rep at h3
    have h4 := hh.rep l _ (by rw [hfp l (by simp)]; exact hl)
    obtain ⟨ad, cap, cells, h5, h6, h7, h8⟩ := h4
    rw [h5] at h8
    rcases h8.2 with ⟨hv, hn⟩ | ⟨g, cap', cur, hv, hB, hh', hc, hm, hs', ht⟩
    · omega
    · simp only [Value.slice.injEq] at hv
      obtain ⟨rfl, _, rfl⟩ := hv
      refine ⟨.pointer (some ⟨g, n.toNat * s, none⟩), ?_, ?_⟩
      · unfold execOp
        simp only [ho, h2.1, h5, h3.1]
        have := run_indexAt (P := P) (b := g) (off := 0) (cap := cap) (k := k) he hs h0 h1 w
        rw [Nat.zero_add] at this
        exact exec_v this
      · unfold RepS
        exact ⟨g, by rw [h5]; rfl, rfl⟩

theorem does_index_rows {t e e' : TypeId} {x i : Operand} {l s : Nat} {k : IntKind} {n : Int} {us : List U} {ex : List (Nat × S)} (ho : o.op = .indexAddr t x i) (hx : R x = .own l) (hl : h l = some (.rows e' s us ex)) (hi : R i = .t (.lit (.int k n))) (he : elemB P t = some e) (hs : szB P e = some s)
    (h0 : 0 ≤ n) (h1 : n < us.length) : Does N P o R h ⟨.pt l [n.toNat] (n.toNat * s), [], [l], []⟩ :=
  does_pure fun G h' a w hh hop hfp => by
    have h2 := hop x (by simp [ho, Op.operands])
    have h3 := hop i (by simp [ho, Op.operands])
    rw [hx] at h2
    rw [hi] at h3
    unfold RepS at h2 h3
    unfold Rep at h3
    have h4 := hh.rep l _ (by rw [hfp l (by simp)]; exact hl)
    obtain ⟨ad, cap, cells, h5, h8⟩ := h4
    rw [h5] at h8
    rcases h8.2 with ⟨hv, hn⟩ | ⟨g, cap', cur, hv, hB, hh', hc, hm, hs', ht⟩
    · omega
    · simp only [Value.slice.injEq] at hv
      obtain ⟨rfl, _, rfl⟩ := hv
      refine ⟨.pointer (some ⟨g, n.toNat * s, none⟩), ?_, ?_⟩
      · unfold execOp
        simp only [ho, h2.1, h5, h3.1]
        have := run_indexAt (P := P) (b := g) (off := 0) (cap := cap) (k := k) he hs h0 h1 w
        rw [Nat.zero_add] at this
        exact exec_v this
      · unfold RepS
        exact ⟨g, by rw [h5]; rfl, rfl⟩

theorem run_indexAt_arr {t e : TypeId} {k : IntKind} {m : Int} {b off n s : Nat} (ha : arrB P t = some (n, e)) (hs : szB P e = some s) (h0 : 0 ≤ m) (h1 : m < n) (w : World) :
    (Instr.indexAt t (.pointer (some ⟨b, off, none⟩)) (.int k m)).run P w = .ok (.pointer (some ⟨b, off + m.toNat * s, none⟩)) w := by
  simp [Instr.indexAt, asIntOf, run_underlying (und_arr ha), Instr.sureAddr, h0, h1, run_szB hs, addr_add]
theorem does_index_arr {t e : TypeId} {x i : Operand} {l off n s : Nat} {p : List Nat} {k : IntKind} {m : Int} (ho : o.op = .indexAddr t x i) (hx : R x = .pt l p off) (hi : R i = .t (.lit (.int k m))) (ha : arrB P t = some (n, e)) (hs : szB P e = some s)
    (h0 : 0 ≤ m) (h1 : m < n) : Does N P o R h ⟨.pt l (p ++ [m.toNat]) (off + m.toNat * s), [], [], []⟩ :=
  does_pure fun G h' a w hh hop _ => by
    have h2 := hop x (by simp [ho, Op.operands])
    have h3 := hop i (by simp [ho, Op.operands])
    rw [hx] at h2
    rw [hi] at h3
    unfold RepS at h2 h3
    unfold Rep at h3
    obtain ⟨b, h4, h5⟩ := h2
    refine ⟨.pointer (some ⟨b, off + m.toNat * s, none⟩), ?_, by unfold RepS; exact ⟨b, h4, rfl⟩⟩
    unfold execOp
    simp only [ho, h5, h3.1]
    exact exec_v (run_indexAt_arr ha hs h0 h1 w)

/-! ### Numbers, truth values, strings -/
def BinOk (P : Program) (op : BinOp) (t : TypeId) (a b v : Value) : Prop :=
  v.oneCell' = true ∧ ∀ (w : World) (x y : Operand), (do eqGuard op t x y a b; binOp op t a b : Sem Value).run P w = .ok v w
theorem does_bin {op : BinOp} {t t' : TypeId} {x y : Operand} {a b v : Value} (ho : o.op = .binOp op t x y t') (hx : R x = .t (.lit a)) (hy : R y = .t (.lit b)) (hv : BinOk P op t a b v) : Does N P o R h ⟨.t (.lit v), [], [], []⟩ :=
  does_pure fun G h' ac w hh hop _ => by
    have h1 := hop x (by simp [ho, Op.operands])
    have h2 := hop y (by simp [ho, Op.operands])
    rw [hx] at h1
    rw [hy] at h2
    unfold RepS at h1 h2
    unfold Rep at h1 h2
    refine ⟨v, ?_, by unfold RepS; unfold Rep; exact ⟨rfl, hv.1⟩⟩
    unfold execOp
    simp only [ho, h1.1, h2.1]
    exact exec_v (hv.2 w x y)

def inR : IntKind → Int → Prop
  | .i8, n => -128 ≤ n ∧ n ≤ 127
  | .i16, n => -32768 ≤ n ∧ n ≤ 32767
  | .i32, n => -2147483648 ≤ n ∧ n ≤ 2147483647
  | .i64, n => -9223372036854775808 ≤ n ∧ n ≤ 9223372036854775807
  | .u8, n => 0 ≤ n ∧ n ≤ 255
  | .u16, n => 0 ≤ n ∧ n ≤ 65535
  | .u32, n => 0 ≤ n ∧ n ≤ 4294967295
  | .u64, n => 0 ≤ n ∧ n ≤ 18446744073709551615
instance (k : IntKind) (n : Int) : Decidable (inR k n) := by cases k <;> (unfold inR; infer_instance)
theorem wrap_in {k : IntKind} {n : Int} (h : inR k n) : k.wrap n = n := by
  cases k
  · exact IntWalk.i8_in n h
  · exact IntWalk.i16_in n h
  · exact IntWalk.i32_in n h
  · exact IntWalk.i64_in n h
  · exact IntWalk.u8_in n h
  · exact IntWalk.u16_in n h
  · exact IntWalk.u32_in n h
  · exact IntWalk.u64_in n h

/-- A sum, a difference, a product. (An int must not leave its range.) -/
def arK (k : IntKind) (e : Int) (K : Value → Prop) : Prop := match k with
  | .i64 => if -9223372036854775808 ≤ e ∧ e ≤ 9223372036854775807 then K (.int .i64 e) else False
  | k => if inR k e then K (.int k e) else K (.int k (k.wrap e))
theorem arK_spec {k : IntKind} {e : Int} {K : Value → Prop} (h : arK k e K) : K (.int k (k.wrap e)) := by
  unfold arK at h
  split at h
  · split at h
    · rename_i hr
      rw [IntWalk.i64_in e hr]; exact h
    · exact h.elim
  · split at h
    · rename_i hr
      rw [wrap_in hr]; exact h
    · exact h
/-- How many bits a number has. -/
def kB : IntKind → Int
  | .i8 => 8
  | .i16 => 16
  | .i32 => 32
  | .i64 => 64
  | .u8 => 8
  | .u16 => 16
  | .u32 => 32
  | .u64 => 64
/-- All bits of a kind. -/
def kX : IntKind → Int
  | .u8 => 255
  | .u16 => 65535
  | .u32 => 4294967295
  | .u64 => 18446744073709551615
  | _ => -1
theorem kX_eq (k : IntKind) : kX k = if k.signed then -1 else k.max := by cases k <;> rfl
theorem kB_bits (k : IntKind) : kB k = k.bits := by cases k <;> rfl
/-- What two numbers, truth values or strings give. -/
def binV (op : BinOp) (a b : Value) (K : Value → Prop) : Prop :=
  match op, a, b with
  | .add, .int k x, .int k' y => k = k' ∧ arK k (x + y) K
  | .sub, .int k x, .int k' y => k = k' ∧ arK k (x - y) K
  | .mul, .int k x, .int k' y => k = k' ∧ arK k (x * y) K
  | .quo, .int k x, .int k' y => k = k' ∧ (if 0 ≤ x ∧ 1 ≤ y then (if inR k x then K (.int k (x / y)) else False) else if y = 0 then False else arK k (x.tdiv y) K)
  | .rem, .int k x, .int k' y => k = k' ∧ (if 0 ≤ x ∧ 1 ≤ y then K (.int k (x % y)) else if y = 0 then False else K (.int k (x.tmod y)))
  | .lss, .int k x, .int k' y => k = k' ∧ K (.bool (decide (x < y)))
  | .leq, .int k x, .int k' y => k = k' ∧ K (.bool (decide (x ≤ y)))
  | .gtr, .int k x, .int k' y => k = k' ∧ K (.bool (decide (y < x)))
  | .geq, .int k x, .int k' y => k = k' ∧ K (.bool (decide (y ≤ x)))
  | .eql, .int k x, .int k' y => k = k' ∧ K (.bool (decide (x = y)))
  | .neq, .int k x, .int k' y => k = k' ∧ K (.bool (decide (x ≠ y)))
  | .eql, .string x, .string y => K (.bool (x.toList == y.toList))
  | .neq, .string x, .string y => K (.bool (!(x.toList == y.toList)))
  | .add, .string x, .string y => if x.size + y.size ≤ 9223372036854775807 then K (.string (x ++ y)) else False
  | .shl, .int k x, .int _ y => if 0 ≤ y ∧ y ≤ kB k then arK k (x * 2 ^ y.toNat) K else False
  | .shr, .int k x, .int _ y => if 0 ≤ y ∧ y ≤ kB k then K (.int k (x / 2 ^ y.toNat)) else False
  | .and, .int k x, .int k' y => k = k' ∧ K (.int k (bits .and k x y))
  | .or, .int k x, .int k' y => k = k' ∧ K (.int k (bits .or k x y))
  | .xor, .int k x, .int k' y => k = k' ∧ K (.int k (bits .xor k x y))
  | _, _, _ => False
theorem wrap_quo {k : IntKind} {x y : Int} (h : 0 ≤ x ∧ 1 ≤ y ∧ inR k x) : k.wrap (x.tdiv y) = x / y := by
  obtain ⟨h0, h1, h2⟩ := h
  rw [Int.tdiv_eq_ediv_of_nonneg h0]
  have h3 := IntWalk.tdiv_le x y h0 h1
  refine wrap_in ?_
  cases k <;> simp only [inR] at * <;> omega
theorem binV_spec {op : BinOp} {t : TypeId} {a b : Value} {K : Value → Prop} (h : binV op a b K) : ∃ v, BinOk P op t a b v ∧ K v := by
  have ok : ∀ {v : Value}, v.oneCell' = true → (∀ w x y, (do eqGuard op t x y a b; binOp op t a b : Sem Value).run P w = .ok v w) → K v → ∃ v, BinOk P op t a b v ∧ K v := fun h1 h2 h3 => ⟨_, ⟨h1, h2⟩, h3⟩
  unfold binV at h
  split at h
  · obtain ⟨rfl, h⟩ := h
    exact ok rfl (fun w x y => by simp [eqGuard, binOp, Op.intArith]) (arK_spec h)
  · obtain ⟨rfl, h⟩ := h
    exact ok rfl (fun w x y => by simp [eqGuard, binOp, Op.intArith]) (arK_spec h)
  · obtain ⟨rfl, h⟩ := h
    exact ok rfl (fun w x y => by simp [eqGuard, binOp, Op.intArith]) (arK_spec h)
  · obtain ⟨rfl, h⟩ := h
    split at h
    · rename_i hr
      split at h
      · rename_i hi
        exact ok rfl (fun w x y => by simp [eqGuard, binOp, Op.intDiv, wrap_quo ⟨hr.1, hr.2, hi⟩]; intro e; exfalso; omega) h
      · exact h.elim
    · split at h
      · exact h.elim
      · rename_i hn
        exact ok rfl (fun w x y => by simp [eqGuard, binOp, Op.intDiv, hn]) (arK_spec h)
  · obtain ⟨rfl, h⟩ := h
    split at h
    · rename_i hr
      exact ok rfl (fun w x y => by simp [eqGuard, binOp, Op.intDiv, Int.tmod_eq_emod_of_nonneg hr.1]; intro e; exfalso; omega) h
    · split at h
      · exact h.elim
      · rename_i hn
        exact ok rfl (fun w x y => by simp [eqGuard, binOp, Op.intDiv, hn]) h
  · obtain ⟨rfl, h⟩ := h
    exact ok rfl (fun w x y => by simp [eqGuard, binOp, Op.intCmp]) h
  · obtain ⟨rfl, h⟩ := h
    exact ok rfl (fun w x y => by simp [eqGuard, binOp, Op.intCmp]) h
  · obtain ⟨rfl, h⟩ := h
    exact ok rfl (fun w x y => by simp [eqGuard, binOp, Op.intCmp]) h
  · obtain ⟨rfl, h⟩ := h
    exact ok rfl (fun w x y => by simp [eqGuard, binOp, Op.intCmp]) h
  · obtain ⟨rfl, h⟩ := h
    exact ok rfl (fun w x y => by simp [eqGuard, binOp, Op.intCmp]; exact Bool.beq_eq_decide_eq _ _) h
  · obtain ⟨rfl, h⟩ := h
    exact ok rfl (fun w x y => by simp [eqGuard, binOp, Op.intCmp]; rfl) h
  · exact ok rfl (fun w x y => by simp [eqGuard, binOp, Op.stringOp]) h
  · exact ok rfl (fun w x y => by simp [eqGuard, binOp, Op.stringOp]) h
  · split at h
    · rename_i hr
      exact ok rfl (fun w x y => by simp [eqGuard, binOp, Op.stringOp, show IntKind.i64.max = 9223372036854775807 from by decide]; omega) h
    · exact h.elim
  · rename_i k x yk y
    split at h
    · rename_i hr
      exact ok rfl (fun w _ _ => by simp [eqGuard, binOp, shift_shl k yk x y hr.1 (by have := hr.2; rw [kB_bits] at this; exact this)]) (arK_spec h)
    · exact h.elim
  · rename_i k x yk y
    split at h
    · rename_i hr
      exact ok rfl (fun w _ _ => by simp [eqGuard, binOp, shift_shr k yk x y hr.1 (by have := hr.2; rw [kB_bits] at this; exact this)]) h
    · exact h.elim
  · obtain ⟨rfl, h⟩ := h
    exact ok rfl (fun w x y => by simp [eqGuard, binOp, intBits_and]) h
  · obtain ⟨rfl, h⟩ := h
    exact ok rfl (fun w x y => by simp [eqGuard, binOp, intBits_or]) h
  · obtain ⟨rfl, h⟩ := h
    exact ok rfl (fun w x y => by simp [eqGuard, binOp, intBits_xor]) h
  · exact h.elim
end
end Go.Proofs.YtcehllkmfkoncaaGreat.Sy
