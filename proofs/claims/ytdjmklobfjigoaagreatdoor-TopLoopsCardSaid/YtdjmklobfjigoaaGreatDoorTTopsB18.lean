/- Several texts of this proof, one behind the other. No condition. -/
import Derived.Test.YtdjmklobfjigoaaGreatDoorTTopsB17
import Derived.WalkKit
import Derived.TacticsInMore
import Derived.OwnWalkIn
import Derived.Lib.ConvBytes
import Derived.Lib.Atoi
import Derived.Lib.ItoaWalk
import Derived.Lib.Hide
import Derived.Laws.Strings3
import Derived.BigCall
import Derived.BigGuard
import Derived.Test.YtdjmklobfjigoaaGreatDoorTTopsB12
import Derived.Test.YtdjmklobfjigoaaGreatDoorTTopsB11
import Derived.Test.YtdjmklobfjigoaaGreatDoorTTopsB14
set_option maxRecDepth 100000
set_option maxHeartbeats 16000000
set_option linter.unusedVariables false
set_option linter.unusedSimpArgs false
namespace Go.Proofs.YtdjmklobfjigoaaGreatDoor
open Go.RowKit Go.MapKept Sy
open Go.IntWalk renaming iteOmega → iO, toNatUp → tN
attribute [local go_sem] Oper.semAt_some
noncomputable def lineC : Code := (Tryz.f54.body).getD .skip
noncomputable def lineRest : Code := match lineC with
  | .seq _ (.seq _ r) => r
  | _ => .skip
theorem run_store_new {P : Program} {t : TypeId} {n0 : Array Value} {F : Value} {k b : Nat} (u : World) (hb : u.heap[b]? = some (.cells n0 t (0, 0))) (hsz : szB P t = some k) (hn : n0.size = k) (hF : F.cells.size = k) (h1 : ∀ c ∈ F.cells.toList, c.oneCell' = true) :
    (Instr.storeAt t (.pointer (some ⟨b, 0, none⟩)) F).run P u = .ok () (u.setRow b F.cells) := by
  have hst := run_storeCells_at P b 0 t F.cells.toList 0 n0 u hb (by simp; omega) h1
  have e : (n0.toList.take 0 ++ F.cells.toList ++ n0.toList.drop (0 + F.cells.toList.length)).toArray = F.cells := by
    rw [List.drop_of_length_le (by simp; omega)]; simp
  simp only [Nat.add_zero] at hst
  rw [e] at hst
  simp [Instr.storeAt, Instr.sureAddr, storeVar, run_szB hsz, hF, hst]
theorem exec_look {P : Program} {ρ : Operand → Value} {dst : Option Tmp} {x y : Operand} {vx vy v' : Value} {t ty : TypeId} {pos : String} {after : Array Edge} {guard : Option (Nat × Bool)} {w w' : World} (h1 : ρ x = vx) (h2 : ρ y = vy) (h : (Instr.lookup t vx vy true).run P w = .ok v' w') :
    Sem.run P (execOp ρ ⟨dst, Op.lookup t x y true, ty, pos, after, guard⟩) w = .ok (.value v') w' := by
  subst h1 h2
  unfold execOp
  exact exec_v h
theorem exec_stor {P : Program} {ρ : Operand → Value} {dst : Option Tmp} {x y : Operand} {vx vy : Value} {t ty : TypeId} {pos : String} {after : Array Edge} {guard : Option (Nat × Bool)} {w w' : World} (h1 : ρ x = vx) (h2 : ρ y = vy) (h : (Instr.storeAt t vx vy).run P w = .ok () w') :
    Sem.run P (execOp ρ ⟨dst, Op.store t x y, ty, pos, after, guard⟩) w = .ok .skip w' := by
  subst h1 h2
  unfold execOp
  simp [h]
theorem line_cw (k : List Nat) (a b c : Int) (f : FuncId) (i : Nat) (hK : ∀ p, Instr.findNow .string (.string (str k)) (formsE p).toList 0 = some (some (i, frm p a b c f))) (ws : List T) (pre : List (Nat × Blk)) (hpre : (pre.all fun q => q.1 != 105 && q.2.free 105) = true) (r : S) (post : List (Nat × Blk))
    (h : CW Tryz.f54.ntmps Tryz.prog lineRest (RetQ Tryz.prog Tryz.f54.results.toList r post) ⟨[(6, .t (.bool true)), (5, .pt 105 [] 0), (0, .pt 0 [] 0), (1, .t (.sl 1 (.lit (.string (str k)) :: ws)))], (105, .box 131 (.ag [.t (.int a), .t (.int b), .t (.int c), .fb f [.pt 0 [] 0]])) :: pre⟩) :
    FnOk Tryz.prog 54 [.pt 0 [] 0, .t (.sl 1 (.lit (.string (str k)) :: ws))] pre r post := by
  refine FnOk.intro fact_mixed Tryz.func54 rfl Tryz.ntmps54 (by rfl) (by simp) ?_
  iterate 1 (refine nf1_sound rfl ?_; simp [go_sem, ↓iO, iO, tN]; (repeat (refine anI ?_)); try (refine ⟨dcK, ?_⟩))
  refine CW.seq ?_
  intro hm hc W G0 A a w hs
  clear hc
  obtain ⟨G, hs⟩ := hs
  have s0 := hs.slots 0
  have s1 := hs.slots 1
  simp [go_sem] at s0 s1
  unfold RepS at s0 s1
  unfold Rep at s1
  obtain ⟨bl, hbl, h0⟩ := s0
  obtain ⟨x, cap, cells, h1, h2, h3, h4⟩ := s1
  unfold Reps Rep at h2
  obtain ⟨v, cs, rfl, ⟨rfl, _⟩, h5⟩ := h2
  obtain ⟨b1, off, rfl, hb1, hc1⟩ : ∃ b off, x = some ⟨b, off, none⟩ ∧ G.F b ∧ ∀ j u, ((Value.string (str k)).cells.toList ++ cs)[j]? = some u → w.cell? ⟨b, off + j, none⟩ = some u := by
    rcases h4.cells with h6 | h6
    · simp at h6
    · exact h6
  have hcell : w.cell? ⟨b1, off, none⟩ = some (.string (str k)) := hc1 0 _ rfl
  refine wp_mono (Q := onlyR _) ?_ (fun e a w h => onlyR_imp h)
  generalize hQ0 : onlyR _ = Q0
  have hpan : ∀ (d : Option Tmp) (v : Value) (c : List PanicEntry) (a : Act) (w : World), Q0 (.panic c) (a.put d v) w → Q0 (.panic c) a w := fun d v c a w h => by rw [← hQ0] at h; exact h.elim
  refine wp_region_any hm ?_
  change wpAny _ _ _ _ _ _ _ (World.drew _)
  have hsz := hs.size
  obtain ⟨at', ad⟩ := a
  dsimp only at h0 h1 hsz ⊢
  have g0 : at'[0]'(by omega) = .pointer (some ⟨bl, 0, none⟩) := by
    rw [Array.getElem?_eq_getElem (by omega)] at h0; exact h0
  have g1 : at'[1]'(by omega) = .slice (some ⟨b1, off, none⟩) (ws.length + 1) cap := by
    rw [Array.getElem?_eq_getElem (by omega)] at h1; exact h1
  obtain ⟨MM, hMM⟩ : ∃ MM, Obj.map (formsE (.pointer (some ⟨bl, 0, none⟩))) 6 = MM := ⟨_, rfl⟩
  obtain ⟨ZZ, hZZ⟩ : ∃ ZZ : Obj, Obj.cells #[.int .i64 0, .int .i64 0, .int .i64 0, .nilFunc] 131 (0, 0) = ZZ := ⟨_, rfl⟩
  have hlt : b1 < w.heap.size := hs.heap.fb b1 hb1
  obtain ⟨w0, hw0⟩ : ∃ w0, World.drew w = w0 := ⟨_, rfl⟩
  have hs0 : w0.heap.size = w.heap.size := by rw [← hw0]; rfl
  have hcell0 : w0.cell? ⟨b1, off, none⟩ = some (.string (str k)) := by rw [← hw0]; exact hcell
  have hcell1 : (w0.alloc MM).cell? ⟨b1, off, none⟩ = some (.string (str k)) := (cell_block (Below.heap_alloc _ _ _ (by rw [hs0]; exact hlt))).trans hcell0
  have hcell9 : (w0.alloc ZZ).cell? ⟨b1, off, none⟩ = some (.string (str k)) := (cell_block (Below.heap_alloc _ _ _ (by rw [hs0]; exact hlt))).trans hcell0
  have look1 := run_lookS und_mp und_st (w0.alloc MM) w0.heap.size _ 6 (by rw [← hMM]; exact World.alloc_heap_new w0 _) (str k) i _ (hK (.pointer (some ⟨bl, 0, none⟩)))
  have look19 := run_lookS und_mp und_st ((w0.alloc MM).alloc ZZ) w0.heap.size _ 6 (by rw [← hMM]; exact (Below.heap_alloc _ _ _ (by simp)).trans (World.alloc_heap_new w0 _)) (str k) i _ (hK (.pointer (some ⟨bl, 0, none⟩)))
  have look91 := run_lookS und_mp und_st ((w0.alloc ZZ).alloc MM) (w0.alloc ZZ).heap.size _ 6 (by rw [← hMM]; exact World.alloc_heap_new (w0.alloc ZZ) _) (str k) i _ (hK (.pointer (some ⟨bl, 0, none⟩)))
  have hcell19 : ((w0.alloc MM).alloc ZZ).cell? ⟨b1, off, none⟩ = some (.string (str k)) := (cell_block (Below.heap_alloc _ _ _ (by simp; omega))).trans hcell1
  have hcell91 : ((w0.alloc ZZ).alloc MM).cell? ⟨b1, off, none⟩ = some (.string (str k)) := (cell_block (Below.heap_alloc _ _ _ (by simp; omega))).trans hcell9
  have hFs : (frm (.pointer (some ⟨bl, 0, none⟩)) a b c f).cells.size = 4 := rfl
  have hF1 : ∀ u ∈ (frm (.pointer (some ⟨bl, 0, none⟩)) a b c f).cells.toList, u.oneCell' = true := by simp [frm, Value.cells, Value.oneCell']
  have hZ1 : ((w0.alloc MM).alloc ZZ).heap[(w0.alloc MM).heap.size]? = some (.cells #[.int .i64 0, .int .i64 0, .int .i64 0, .nilFunc] 131 (0, 0)) := by rw [hZZ]; exact World.alloc_heap_new _ _
  have hZ2 : ((w0.alloc ZZ).alloc MM).heap[w0.heap.size]? = some (.cells #[.int .i64 0, .int .i64 0, .int .i64 0, .nilFunc] 131 (0, 0)) := by rw [hZZ]; exact (Below.heap_alloc _ _ _ (by simp)).trans (World.alloc_heap_new _ _)
  obtain ⟨fin19, hfin19⟩ : ∃ u, ((w0.alloc MM).alloc ZZ).setRow (w0.alloc MM).heap.size (frm (.pointer (some ⟨bl, 0, none⟩)) a b c f).cells = u := ⟨_, rfl⟩
  obtain ⟨fin91, hfin91⟩ : ∃ u, ((w0.alloc ZZ).alloc MM).setRow w0.heap.size (frm (.pointer (some ⟨bl, 0, none⟩)) a b c f).cells = u := ⟨_, rfl⟩
  have store19 := run_store_new (P := Tryz.prog) (t := 131) _ hZ1 (by kernel_rfl : szB Tryz.prog 131 = some 4) rfl hFs hF1
  have store91 := run_store_new (P := Tryz.prog) (t := 131) _ hZ2 (by kernel_rfl : szB Tryz.prog 131 = some 4) rfl hFs hF1
  rw [hfin19] at store19
  rw [hfin91] at store91
  have hbl0 : Below w.heap.size w w0 := by rw [← hw0]; exact (Below.refl _ w).drew
  have fin : ∀ (bx : Nat) (wf : World), Below w.heap.size w wf → w.heap.size ≤ bx → wf.heap[bx]? = some (.cells (frm (.pointer (some ⟨bl, 0, none⟩)) a b c f).cells 131 (0, 0)) → ∀ at2 : Array Value, at2.size = 113 → at2[0]?.getD undef = .pointer (some ⟨bl, 0, none⟩) → at2[1]?.getD undef = .slice (some ⟨b1, off, none⟩) (ws.length + 1) cap → at2[5]?.getD undef = .pointer (some ⟨bx, 0, none⟩) → at2[6]?.getD undef = .bool true → Q0 .normal ⟨at2, ad⟩ wf := by
    intro bx wf hB hbx hh at2 hz q0 q1 q5 q6
    rw [← hQ0]
    have hpl : ∀ (q : Nat) (b : Blk), lkB pre q = some b → q ≠ 105 ∧ b.free 105 = true := by
      intro q b hq
      have := List.all_eq_true.1 hpre (q, b) (lkB_mem hq)
      simpa using this
    have hx := Ext.mk' hs.heap none ⟨hB.os, hB.tape, hB.output, hB.size, fun k hk _ => hB.block k hk⟩ none (by simp) (by simp) 105 (.pointer (some ⟨bx, 0, none⟩)) (.box 131 (.ag [.t (.int a), .t (.int b), .t (.int c), .fb f [.pt 0 [] 0]])) (.inr (by
        cases hq : lkB pre 105 with
        | none => rfl
        | some b => exact absurd rfl (hpl 105 b hq).1)) [105] (.inl rfl) (fun q hq l b' hl => by simp at hq; subst hq; exact (hpl l b' hl).2) (fun q hq => by simp [hblk] at hq; subst hq; exact .inr hbx)
      ⟨bx, frm (.pointer (some ⟨bl, 0, none⟩)) a b c f, rfl, by
        unfold RepS
        refine ⟨[.int .i64 a, .int .i64 b, .int .i64 c, .func (.func f) #[.pointer (some ⟨bl, 0, none⟩)] #[]], rfl, ?_⟩
        unfold RepSs
        refine ⟨.int .i64 a, _, rfl, rfl, by simp [Value.cells, Value.oneCell'], by unfold RepS Rep; exact ⟨rfl, rfl⟩, ?_⟩
        unfold RepSs
        refine ⟨.int .i64 b, _, rfl, rfl, by simp [Value.cells, Value.oneCell'], by unfold RepS Rep; exact ⟨rfl, rfl⟩, ?_⟩
        unfold RepSs
        refine ⟨.int .i64 c, _, rfl, rfl, by simp [Value.cells, Value.oneCell'], by unfold RepS Rep; exact ⟨rfl, rfl⟩, ?_⟩
        unfold RepSs
        refine ⟨.func (.func f) #[.pointer (some ⟨bl, 0, none⟩)] #[], [], rfl, rfl, by simp [Value.cells, Value.oneCell'], ?_, by unfold RepSs; rfl⟩
        unfold RepS
        refine ⟨[.pointer (some ⟨bl, 0, none⟩)], rfl, ?_⟩
        unfold RepPs
        refine ⟨_, [], rfl, ?_, by unfold RepPs; rfl⟩
        unfold RepS
        exact ⟨bl, by simp only [newGh]; rw [bput_other _ (by decide)]; exact hbl, rfl⟩, rfl, hF1, hh⟩ (Inn.plain rfl)
    refine ⟨⟨[(6, .t (.bool true)), (5, .pt 105 [] 0), (0, .pt 0 [] 0), (1, .t (.sl 1 (.lit (.string (str k)) :: ws)))], (105, .box 131 (.ag [.t (.int a), .t (.int b), .t (.int c), .fb f [.pt 0 [] 0]])) :: pre⟩, h, newGh G 105 (.pointer (some ⟨bx, 0, none⟩)) noF, ?_⟩
    have hhe : (fun q => if q = 105 then some (Blk.box 131 (.ag [.t (.int a), .t (.int b), .t (.int c), .fb f [.pt 0 [] 0]])) else if (none : Option Nat) = some q then none else lkB pre q) = lkB ((105, .box 131 (.ag [.t (.int a), .t (.int b), .t (.int c), .fb f [.pt 0 [] 0]])) :: pre) := by
      funext q
      simp [lkB]
    rw [hhe] at hx
    refine ⟨hz, hx.defs hs.heap hs.defers, ?_, hx.heap, hs.frm.ext hx (by simp)⟩
    intro t
    have k0 := RepS.keep hx.keep _ _ (by simp [lkS, S.free]) (hs.slots 0)
    have k1 := RepS.keep hx.keep _ _ (by simp [lkS, S.free]) (hs.slots 1)
    simp only [Array.getD_eq_getD_getElem?]
    by_cases t6 : t = 6
    · subst t6
      rw [q6]
      simp [lkS]
      unfold RepS Rep; exact ⟨rfl, rfl⟩
    by_cases t5 : t = 5
    · subst t5
      rw [q5]
      simp [lkS]
      unfold RepS
      exact ⟨bx, by simp [newGh, bput_same, hblk], rfl⟩
    by_cases t0 : t = 0
    · subst t0
      rw [q0]
      simp [lkS] at k0 ⊢
      simpa [h0] using k0
    by_cases t1 : t = 1
    · subst t1
      rw [q1]
      simp [lkS] at k1 ⊢
      simpa [h1] using k1
    simp [lkS, t6, t5, t0, t1]
    unfold RepS; trivial
  have hBm : Below w.heap.size w (w0.alloc MM) := hbl0.alloc (by omega) _
  have hBz : Below w.heap.size w (w0.alloc ZZ) := hbl0.alloc (by omega) _
  have fin_mz := fin (w0.alloc MM).heap.size fin19 (by
      rw [← hfin19]
      exact (hBm.alloc (by simp; omega) _).grown (grownBy_setRow _ _ _) (by simp; omega) (fun q hq => by cases hq; simp; omega)) (by simp; omega) (by rw [← hfin19]; exact setRow_heap _ _ _ _ _ _ hZ1)
  have fin_zm := fin w0.heap.size fin91 (by
      rw [← hfin91]
      exact (hBz.alloc (by simp; omega) _).grown (grownBy_setRow _ _ _) (by simp; omega) (fun q hq => by cases hq; omega)) (by omega) (by rw [← hfin91]; exact setRow_heap _ _ _ _ _ _ hZ2)
  rw [hw0]
  refine wpAny_take (i := 0) (v := .pointer (some ⟨bl, 0, none⟩)) rfl (by kernel_rfl) (by kernel_rfl) (by kernel_rfl) (hpan _ _) (Or.inl ⟨by rfl, by intro w; simp [go_sem, hsz, g0, g1]⟩) ?_
  refine wpAny_take (i := 2) (v := .slice (some ⟨b1, off, none⟩) (ws.length + 1) cap) rfl (by kernel_rfl) (by kernel_rfl) (by kernel_rfl) (hpan _ _) (Or.inl ⟨by rfl, by intro w; simp [go_sem, hsz, g0, g1]⟩) ?_
  refine wpAny_take (i := 3) (v := .pointer (some ⟨b1, off, none⟩)) rfl (by kernel_rfl) (by kernel_rfl) (by kernel_rfl) (hpan _ _) (Or.inl ⟨by rfl, by intro w; simp [go_sem, hsz, g0, g1]⟩) ?_
  refine wpAny_three (i := 1) (j := 4) (k := 9) (by kernel_rfl) ?_ ?_ ?_
  · refine wpOp_enter (args := #[.pointer (some ⟨bl, 0, none⟩)]) (w' := w0) rfl (by rfl) (by simp [go_sem, hsz, g0, g1]) (forms_raw _ _) ?_
    rintro e w2 ⟨rfl, rfl⟩
    refine ⟨_, rfl, ?_⟩
    rw [hMM]
    refine wpAny_two (i := 4) (j := 9) (by kernel_rfl) ?_ ?_
    · refine wpOp_value (v := .string (str k)) (w' := (w0.alloc MM)) rfl (by rfl) (by simp [go_sem, hsz, g0, g1, hcell1]) ?_
      refine wpAny_two (i := 5) (j := 9) (by kernel_rfl) ?_ ?_
      · refine wpOp_value (v := .tuple #[(frm (.pointer (some ⟨bl, 0, none⟩)) a b c f), .bool true]) (w' := (w0.alloc MM)) rfl (by rfl) (exec_look (by simp [go_sem, hsz]) (by simp [go_sem, hsz]) look1) ?_
        refine wpAny_take (i := 6) (v := .tuple #[(frm (.pointer (some ⟨bl, 0, none⟩)) a b c f), .bool true]) rfl (by kernel_rfl) (by kernel_rfl) (by kernel_rfl) (hpan _ _) (Or.inl ⟨by rfl, by intro w; simp [go_sem, hsz, g0, g1]⟩) ?_
        refine wpAny_take (i := 7) (v := (frm (.pointer (some ⟨bl, 0, none⟩)) a b c f)) rfl (by kernel_rfl) (by kernel_rfl) (by kernel_rfl) (hpan _ _) (Or.inl ⟨by rfl, by intro w; simp [go_sem, hsz, g0, g1]⟩) ?_
        refine wpAny_take (i := 8) (v := .bool true) rfl (by kernel_rfl) (by kernel_rfl) (by kernel_rfl) (hpan _ _) (Or.inl ⟨by rfl, by intro w; simp [go_sem, hsz, g0, g1]⟩) ?_
        refine wpAny_one (i := 9) (by kernel_rfl) ?_
        refine wpOp_value (v := .pointer (some ⟨((w0.alloc MM)).heap.size, 0, none⟩)) (w' := (w0.alloc MM).alloc ZZ) rfl (by rfl) (by rw [← hZZ]; simp [go_sem, hsz]) ?_
        refine wpAny_one (i := 10) (by kernel_rfl) ?_
        refine wpOp_skip (w' := fin19) rfl (by rfl) (exec_stor (by simp [go_sem, hsz]) (by simp [go_sem, hsz]) store19) ?_
        refine wpAny_one (i := 11) (by kernel_rfl) ?_
        refine wpOp_value (v := .bool true) (w' := fin19) rfl (by rfl) (by simp [go_sem, hsz]) ?_
        exact wpAny_done (by kernel_rfl) (fin_mz _ (by simp [go_sem, hsz]) (by simp [go_sem, hsz, g0]) (by simp [go_sem, hsz, g1]) (by simp [go_sem, hsz]) (by simp [go_sem, hsz])) _
      · refine wpOp_value (v := .pointer (some ⟨((w0.alloc MM)).heap.size, 0, none⟩)) (w' := (w0.alloc MM).alloc ZZ) rfl (by rfl) (by rw [← hZZ]; simp [go_sem, hsz]) ?_
        refine wpAny_one (i := 5) (by kernel_rfl) ?_
        refine wpOp_value (v := .tuple #[(frm (.pointer (some ⟨bl, 0, none⟩)) a b c f), .bool true]) (w' := ((w0.alloc MM).alloc ZZ)) rfl (by rfl) (exec_look (by simp [go_sem, hsz]) (by simp [go_sem, hsz]) look19) ?_
        refine wpAny_take (i := 6) (v := .tuple #[(frm (.pointer (some ⟨bl, 0, none⟩)) a b c f), .bool true]) rfl (by kernel_rfl) (by kernel_rfl) (by kernel_rfl) (hpan _ _) (Or.inl ⟨by rfl, by intro w; simp [go_sem, hsz, g0, g1]⟩) ?_
        refine wpAny_take (i := 7) (v := (frm (.pointer (some ⟨bl, 0, none⟩)) a b c f)) rfl (by kernel_rfl) (by kernel_rfl) (by kernel_rfl) (hpan _ _) (Or.inl ⟨by rfl, by intro w; simp [go_sem, hsz, g0, g1]⟩) ?_
        refine wpAny_take (i := 8) (v := .bool true) rfl (by kernel_rfl) (by kernel_rfl) (by kernel_rfl) (hpan _ _) (Or.inl ⟨by rfl, by intro w; simp [go_sem, hsz, g0, g1]⟩) ?_
        refine wpAny_one (i := 10) (by kernel_rfl) ?_
        refine wpOp_skip (w' := fin19) rfl (by rfl) (exec_stor (by simp [go_sem, hsz]) (by simp [go_sem, hsz]) store19) ?_
        refine wpAny_one (i := 11) (by kernel_rfl) ?_
        refine wpOp_value (v := .bool true) (w' := fin19) rfl (by rfl) (by simp [go_sem, hsz]) ?_
        exact wpAny_done (by kernel_rfl) (fin_mz _ (by simp [go_sem, hsz]) (by simp [go_sem, hsz, g0]) (by simp [go_sem, hsz, g1]) (by simp [go_sem, hsz]) (by simp [go_sem, hsz])) _
    · refine wpOp_value (v := .pointer (some ⟨((w0.alloc MM)).heap.size, 0, none⟩)) (w' := (w0.alloc MM).alloc ZZ) rfl (by rfl) (by rw [← hZZ]; simp [go_sem, hsz]) ?_
      refine wpAny_one (i := 4) (by kernel_rfl) ?_
      refine wpOp_value (v := .string (str k)) (w' := ((w0.alloc MM).alloc ZZ)) rfl (by rfl) (by simp [go_sem, hsz, g0, g1, hcell19]) ?_
      refine wpAny_one (i := 5) (by kernel_rfl) ?_
      refine wpOp_value (v := .tuple #[(frm (.pointer (some ⟨bl, 0, none⟩)) a b c f), .bool true]) (w' := ((w0.alloc MM).alloc ZZ)) rfl (by rfl) (exec_look (by simp [go_sem, hsz]) (by simp [go_sem, hsz]) look19) ?_
      refine wpAny_take (i := 6) (v := .tuple #[(frm (.pointer (some ⟨bl, 0, none⟩)) a b c f), .bool true]) rfl (by kernel_rfl) (by kernel_rfl) (by kernel_rfl) (hpan _ _) (Or.inl ⟨by rfl, by intro w; simp [go_sem, hsz, g0, g1]⟩) ?_
      refine wpAny_take (i := 7) (v := (frm (.pointer (some ⟨bl, 0, none⟩)) a b c f)) rfl (by kernel_rfl) (by kernel_rfl) (by kernel_rfl) (hpan _ _) (Or.inl ⟨by rfl, by intro w; simp [go_sem, hsz, g0, g1]⟩) ?_
      refine wpAny_take (i := 8) (v := .bool true) rfl (by kernel_rfl) (by kernel_rfl) (by kernel_rfl) (hpan _ _) (Or.inl ⟨by rfl, by intro w; simp [go_sem, hsz, g0, g1]⟩) ?_
      refine wpAny_one (i := 10) (by kernel_rfl) ?_
      refine wpOp_skip (w' := fin19) rfl (by rfl) (exec_stor (by simp [go_sem, hsz]) (by simp [go_sem, hsz]) store19) ?_
      refine wpAny_one (i := 11) (by kernel_rfl) ?_
      refine wpOp_value (v := .bool true) (w' := fin19) rfl (by rfl) (by simp [go_sem, hsz]) ?_
      exact wpAny_done (by kernel_rfl) (fin_mz _ (by simp [go_sem, hsz]) (by simp [go_sem, hsz, g0]) (by simp [go_sem, hsz, g1]) (by simp [go_sem, hsz]) (by simp [go_sem, hsz])) _
  · refine wpOp_value (v := .string (str k)) (w' := w0) rfl (by rfl) (by simp [go_sem, hsz, g0, g1, hcell0]) ?_
    refine wpAny_two (i := 1) (j := 9) (by kernel_rfl) ?_ ?_
    · refine wpOp_enter (args := #[.pointer (some ⟨bl, 0, none⟩)]) (w' := w0) rfl (by rfl) (by simp [go_sem, hsz, g0, g1]) (forms_raw _ _) ?_
      rintro e w2 ⟨rfl, rfl⟩
      refine ⟨_, rfl, ?_⟩
      rw [hMM]
      refine wpAny_two (i := 5) (j := 9) (by kernel_rfl) ?_ ?_
      · refine wpOp_value (v := .tuple #[(frm (.pointer (some ⟨bl, 0, none⟩)) a b c f), .bool true]) (w' := (w0.alloc MM)) rfl (by rfl) (exec_look (by simp [go_sem, hsz]) (by simp [go_sem, hsz]) look1) ?_
        refine wpAny_take (i := 6) (v := .tuple #[(frm (.pointer (some ⟨bl, 0, none⟩)) a b c f), .bool true]) rfl (by kernel_rfl) (by kernel_rfl) (by kernel_rfl) (hpan _ _) (Or.inl ⟨by rfl, by intro w; simp [go_sem, hsz, g0, g1]⟩) ?_
        refine wpAny_take (i := 7) (v := (frm (.pointer (some ⟨bl, 0, none⟩)) a b c f)) rfl (by kernel_rfl) (by kernel_rfl) (by kernel_rfl) (hpan _ _) (Or.inl ⟨by rfl, by intro w; simp [go_sem, hsz, g0, g1]⟩) ?_
        refine wpAny_take (i := 8) (v := .bool true) rfl (by kernel_rfl) (by kernel_rfl) (by kernel_rfl) (hpan _ _) (Or.inl ⟨by rfl, by intro w; simp [go_sem, hsz, g0, g1]⟩) ?_
        refine wpAny_one (i := 9) (by kernel_rfl) ?_
        refine wpOp_value (v := .pointer (some ⟨((w0.alloc MM)).heap.size, 0, none⟩)) (w' := (w0.alloc MM).alloc ZZ) rfl (by rfl) (by rw [← hZZ]; simp [go_sem, hsz]) ?_
        refine wpAny_one (i := 10) (by kernel_rfl) ?_
        refine wpOp_skip (w' := fin19) rfl (by rfl) (exec_stor (by simp [go_sem, hsz]) (by simp [go_sem, hsz]) store19) ?_
        refine wpAny_one (i := 11) (by kernel_rfl) ?_
        refine wpOp_value (v := .bool true) (w' := fin19) rfl (by rfl) (by simp [go_sem, hsz]) ?_
        exact wpAny_done (by kernel_rfl) (fin_mz _ (by simp [go_sem, hsz]) (by simp [go_sem, hsz, g0]) (by simp [go_sem, hsz, g1]) (by simp [go_sem, hsz]) (by simp [go_sem, hsz])) _
      · refine wpOp_value (v := .pointer (some ⟨((w0.alloc MM)).heap.size, 0, none⟩)) (w' := (w0.alloc MM).alloc ZZ) rfl (by rfl) (by rw [← hZZ]; simp [go_sem, hsz]) ?_
        refine wpAny_one (i := 5) (by kernel_rfl) ?_
        refine wpOp_value (v := .tuple #[(frm (.pointer (some ⟨bl, 0, none⟩)) a b c f), .bool true]) (w' := ((w0.alloc MM).alloc ZZ)) rfl (by rfl) (exec_look (by simp [go_sem, hsz]) (by simp [go_sem, hsz]) look19) ?_
        refine wpAny_take (i := 6) (v := .tuple #[(frm (.pointer (some ⟨bl, 0, none⟩)) a b c f), .bool true]) rfl (by kernel_rfl) (by kernel_rfl) (by kernel_rfl) (hpan _ _) (Or.inl ⟨by rfl, by intro w; simp [go_sem, hsz, g0, g1]⟩) ?_
        refine wpAny_take (i := 7) (v := (frm (.pointer (some ⟨bl, 0, none⟩)) a b c f)) rfl (by kernel_rfl) (by kernel_rfl) (by kernel_rfl) (hpan _ _) (Or.inl ⟨by rfl, by intro w; simp [go_sem, hsz, g0, g1]⟩) ?_
        refine wpAny_take (i := 8) (v := .bool true) rfl (by kernel_rfl) (by kernel_rfl) (by kernel_rfl) (hpan _ _) (Or.inl ⟨by rfl, by intro w; simp [go_sem, hsz, g0, g1]⟩) ?_
        refine wpAny_one (i := 10) (by kernel_rfl) ?_
        refine wpOp_skip (w' := fin19) rfl (by rfl) (exec_stor (by simp [go_sem, hsz]) (by simp [go_sem, hsz]) store19) ?_
        refine wpAny_one (i := 11) (by kernel_rfl) ?_
        refine wpOp_value (v := .bool true) (w' := fin19) rfl (by rfl) (by simp [go_sem, hsz]) ?_
        exact wpAny_done (by kernel_rfl) (fin_mz _ (by simp [go_sem, hsz]) (by simp [go_sem, hsz, g0]) (by simp [go_sem, hsz, g1]) (by simp [go_sem, hsz]) (by simp [go_sem, hsz])) _
    · refine wpOp_value (v := .pointer (some ⟨(w0).heap.size, 0, none⟩)) (w' := w0.alloc ZZ) rfl (by rfl) (by rw [← hZZ]; simp [go_sem, hsz]) ?_
      refine wpAny_one (i := 1) (by kernel_rfl) ?_
      refine wpOp_enter (args := #[.pointer (some ⟨bl, 0, none⟩)]) (w' := (w0.alloc ZZ)) rfl (by rfl) (by simp [go_sem, hsz, g0, g1]) (forms_raw _ _) ?_
      rintro e w2 ⟨rfl, rfl⟩
      refine ⟨_, rfl, ?_⟩
      rw [hMM]
      refine wpAny_one (i := 5) (by kernel_rfl) ?_
      refine wpOp_value (v := .tuple #[(frm (.pointer (some ⟨bl, 0, none⟩)) a b c f), .bool true]) (w' := ((w0.alloc ZZ).alloc MM)) rfl (by rfl) (exec_look (by simp [go_sem, hsz]) (by simp [go_sem, hsz]) look91) ?_
      refine wpAny_take (i := 6) (v := .tuple #[(frm (.pointer (some ⟨bl, 0, none⟩)) a b c f), .bool true]) rfl (by kernel_rfl) (by kernel_rfl) (by kernel_rfl) (hpan _ _) (Or.inl ⟨by rfl, by intro w; simp [go_sem, hsz, g0, g1]⟩) ?_
      refine wpAny_take (i := 7) (v := (frm (.pointer (some ⟨bl, 0, none⟩)) a b c f)) rfl (by kernel_rfl) (by kernel_rfl) (by kernel_rfl) (hpan _ _) (Or.inl ⟨by rfl, by intro w; simp [go_sem, hsz, g0, g1]⟩) ?_
      refine wpAny_take (i := 8) (v := .bool true) rfl (by kernel_rfl) (by kernel_rfl) (by kernel_rfl) (hpan _ _) (Or.inl ⟨by rfl, by intro w; simp [go_sem, hsz, g0, g1]⟩) ?_
      refine wpAny_one (i := 10) (by kernel_rfl) ?_
      refine wpOp_skip (w' := fin91) rfl (by rfl) (exec_stor (by simp [go_sem, hsz]) (by simp [go_sem, hsz]) store91) ?_
      refine wpAny_one (i := 11) (by kernel_rfl) ?_
      refine wpOp_value (v := .bool true) (w' := fin91) rfl (by rfl) (by simp [go_sem, hsz]) ?_
      exact wpAny_done (by kernel_rfl) (fin_zm _ (by simp [go_sem, hsz]) (by simp [go_sem, hsz, g0]) (by simp [go_sem, hsz, g1]) (by simp [go_sem, hsz]) (by simp [go_sem, hsz])) _
  · refine wpOp_value (v := .pointer (some ⟨(w0).heap.size, 0, none⟩)) (w' := w0.alloc ZZ) rfl (by rfl) (by rw [← hZZ]; simp [go_sem, hsz]) ?_
    refine wpAny_two (i := 1) (j := 4) (by kernel_rfl) ?_ ?_
    · refine wpOp_enter (args := #[.pointer (some ⟨bl, 0, none⟩)]) (w' := (w0.alloc ZZ)) rfl (by rfl) (by simp [go_sem, hsz, g0, g1]) (forms_raw _ _) ?_
      rintro e w2 ⟨rfl, rfl⟩
      refine ⟨_, rfl, ?_⟩
      rw [hMM]
      refine wpAny_one (i := 4) (by kernel_rfl) ?_
      refine wpOp_value (v := .string (str k)) (w' := ((w0.alloc ZZ).alloc MM)) rfl (by rfl) (by simp [go_sem, hsz, g0, g1, hcell91]) ?_
      refine wpAny_one (i := 5) (by kernel_rfl) ?_
      refine wpOp_value (v := .tuple #[(frm (.pointer (some ⟨bl, 0, none⟩)) a b c f), .bool true]) (w' := ((w0.alloc ZZ).alloc MM)) rfl (by rfl) (exec_look (by simp [go_sem, hsz]) (by simp [go_sem, hsz]) look91) ?_
      refine wpAny_take (i := 6) (v := .tuple #[(frm (.pointer (some ⟨bl, 0, none⟩)) a b c f), .bool true]) rfl (by kernel_rfl) (by kernel_rfl) (by kernel_rfl) (hpan _ _) (Or.inl ⟨by rfl, by intro w; simp [go_sem, hsz, g0, g1]⟩) ?_
      refine wpAny_take (i := 7) (v := (frm (.pointer (some ⟨bl, 0, none⟩)) a b c f)) rfl (by kernel_rfl) (by kernel_rfl) (by kernel_rfl) (hpan _ _) (Or.inl ⟨by rfl, by intro w; simp [go_sem, hsz, g0, g1]⟩) ?_
      refine wpAny_take (i := 8) (v := .bool true) rfl (by kernel_rfl) (by kernel_rfl) (by kernel_rfl) (hpan _ _) (Or.inl ⟨by rfl, by intro w; simp [go_sem, hsz, g0, g1]⟩) ?_
      refine wpAny_one (i := 10) (by kernel_rfl) ?_
      refine wpOp_skip (w' := fin91) rfl (by rfl) (exec_stor (by simp [go_sem, hsz]) (by simp [go_sem, hsz]) store91) ?_
      refine wpAny_one (i := 11) (by kernel_rfl) ?_
      refine wpOp_value (v := .bool true) (w' := fin91) rfl (by rfl) (by simp [go_sem, hsz]) ?_
      exact wpAny_done (by kernel_rfl) (fin_zm _ (by simp [go_sem, hsz]) (by simp [go_sem, hsz, g0]) (by simp [go_sem, hsz, g1]) (by simp [go_sem, hsz]) (by simp [go_sem, hsz])) _
    · refine wpOp_value (v := .string (str k)) (w' := (w0.alloc ZZ)) rfl (by rfl) (by simp [go_sem, hsz, g0, g1, hcell9]) ?_
      refine wpAny_one (i := 1) (by kernel_rfl) ?_
      refine wpOp_enter (args := #[.pointer (some ⟨bl, 0, none⟩)]) (w' := (w0.alloc ZZ)) rfl (by rfl) (by simp [go_sem, hsz, g0, g1]) (forms_raw _ _) ?_
      rintro e w2 ⟨rfl, rfl⟩
      refine ⟨_, rfl, ?_⟩
      rw [hMM]
      refine wpAny_one (i := 5) (by kernel_rfl) ?_
      refine wpOp_value (v := .tuple #[(frm (.pointer (some ⟨bl, 0, none⟩)) a b c f), .bool true]) (w' := ((w0.alloc ZZ).alloc MM)) rfl (by rfl) (exec_look (by simp [go_sem, hsz]) (by simp [go_sem, hsz]) look91) ?_
      refine wpAny_take (i := 6) (v := .tuple #[(frm (.pointer (some ⟨bl, 0, none⟩)) a b c f), .bool true]) rfl (by kernel_rfl) (by kernel_rfl) (by kernel_rfl) (hpan _ _) (Or.inl ⟨by rfl, by intro w; simp [go_sem, hsz, g0, g1]⟩) ?_
      refine wpAny_take (i := 7) (v := (frm (.pointer (some ⟨bl, 0, none⟩)) a b c f)) rfl (by kernel_rfl) (by kernel_rfl) (by kernel_rfl) (hpan _ _) (Or.inl ⟨by rfl, by intro w; simp [go_sem, hsz, g0, g1]⟩) ?_
      refine wpAny_take (i := 8) (v := .bool true) rfl (by kernel_rfl) (by kernel_rfl) (by kernel_rfl) (hpan _ _) (Or.inl ⟨by rfl, by intro w; simp [go_sem, hsz, g0, g1]⟩) ?_
      refine wpAny_one (i := 10) (by kernel_rfl) ?_
      refine wpOp_skip (w' := fin91) rfl (by rfl) (exec_stor (by simp [go_sem, hsz]) (by simp [go_sem, hsz]) store91) ?_
      refine wpAny_one (i := 11) (by kernel_rfl) ?_
      refine wpOp_value (v := .bool true) (w' := fin91) rfl (by rfl) (by simp [go_sem, hsz]) ?_
      exact wpAny_done (by kernel_rfl) (fin_zm _ (by simp [go_sem, hsz]) (by simp [go_sem, hsz, g0]) (by simp [go_sem, hsz, g1]) (by simp [go_sem, hsz]) (by simp [go_sem, hsz])) _
end Go.Proofs.YtdjmklobfjigoaaGreatDoor
namespace Go.Proofs.YtdjmklobfjigoaaGreatDoor
open Go.RowKit Sy
theorem und_bs : Tryz.prog.underlying 82 = some (.slice 5) := by kernel_rfl
theorem und_u8 : Tryz.prog.underlying 5 = some (.int .u8) := by kernel_rfl
theorem und_sg : Tryz.prog.underlying 9 = some .string := by kernel_rfl
theorem atoi_raw (s : ByteArray) (m : Nat) (b0 : UInt8) (hl : s.size ≤ 18) (hpos : 0 < s.size) (hs0 : s[0]'hpos = b0) (hn45 : b0 ≠ 45) (hn43 : b0 ≠ 43) (hm : Lib.decFrom 0 s.data.toList = some m) (w : World) :
    Calls Tryz.prog 129 #[.string s] w fun e w' => e = .returned (.tuple #[.int .i64 m, .nilIface]) ∧ w' = Lib.bytesWorld w 5 s := by
  have h45 : ((b0.toNat : Int) == 45) = false := beq_eq_false_iff_ne.2 fun e => hn45 (UInt8.toNat_inj.1 (by show b0.toNat = 45; omega))
  have h43 : ((b0.toNat : Int) == 43) = false := beq_eq_false_iff_ne.2 fun e => hn43 (UInt8.toNat_inj.1 (by show b0.toNat = 43; omega))
  clear hn45 hn43
  have hcv := Lib.run_convert_string_bytes (P := Tryz.prog) w 9 82 5 s (u := .string) und_sg und_bs und_u8
  have hB : ∀ j, j < s.size → (Lib.bytesWorld w 5 s).cell? ⟨w.heap.size, j, none⟩ = some (.int .u8 (s.data.toList.getD j 0).toNat) := fun j hj => Lib.bytesWorld_cell w 5 s j hj
  obtain ⟨W1, hW1⟩ : ∃ W1, W1 = Lib.bytesWorld w 5 s := ⟨_, rfl⟩
  rw [← hW1] at hcv hB
  have HW := Lib.hid hW1
  have HB := Lib.hid hB
  have hm18 := Lib.decFrom_lt18 hm (by rw [← Lib.size_eq]; omega)
  have HM := Lib.hid hm
  clear hW1 hB hm
  go_enter Tryz.func129, Tryz.ntmps129
  go_wp2
  go_loop [49, 6] (fun vi vn => ∃ (k acc : Nat), k ≤ s.size ∧ vi = .int .i64 k ∧ vn = .int .i64 acc ∧ Hid (Lib.decFrom 0 (s.data.toList.take k) = some acc)) (fun vi _ => s.size - (RowKit.intOf vi).toNat)
  case atStart => exact ⟨0, 0, Nat.zero_le _, rfl, rfl, rfl⟩
  case round =>
    obtain ⟨k, acc, hk, rfl, rfl, hacc⟩ := hrel
    by_cases hkn : k < s.size
    · obtain ⟨x, hx⟩ : ∃ x, x = s.data.toList.getD k 0 := ⟨_, rfl⟩
      have hxk : s.data.toList[k]? = some x := by
        rw [hx, List.getD, List.getElem?_eq_getElem (by rw [← Lib.size_eq]; exact hkn)]
        rfl
      have hc1 : W1.cell? ⟨w.heap.size, k, none⟩ = some (.int .u8 x.toNat) := by rw [hx]; exact HB.out k hkn
      obtain ⟨dv, hdv⟩ := Lib.digit_of_decFrom _ 0 m HM.out k x hxk
      obtain ⟨h48, h57, hde⟩ := Lib.digitVal_eq hdv
      have hlt := Lib.decFrom_take_lt hacc.out (by omega)
      have Hxk := Lib.hid hxk
      have Hdv := Lib.hid hdv
      clear hx hxk hdv
      go_wp2
      go_round
      case rel => exact ⟨k + 1, acc * 10 + dv, by omega, by go_num, by first | go_num | (congr 1; omega), Lib.decFrom_take _ k 0 acc x dv hacc.out Hxk.out Hdv.out⟩
      case measure => simp [RowKit.intOf]; omega
    · have hke : k = s.size := by omega
      subst hke
      have hfin : acc = m := by
        have h1 := hacc.out
        rw [List.take_of_length_le (by rw [← Lib.size_eq]; exact Nat.le_refl _), HM.out] at h1
        exact (Option.some.inj h1).symm
      subst hfin
      go_wp2
      go_ret2
      exact ⟨rfl, HW.out⟩
theorem same_bytes (w : World) (e : TypeId) (s : ByteArray) : Same w (Lib.bytesWorld w e s) :=
  ⟨fun b o hb => Lib.bytesWorld_old w e s ⟨b, o, none⟩ hb, fun k cs t m hk => Lib.bytesWorld_at_old w e s k (Array.getElem?_eq_some_iff.1 hk).1, by rw [Lib.bytesWorld_size]; omega⟩
theorem satoi_fn (s : ByteArray) (m : Nat) (b0 : UInt8) (hl : s.size ≤ 18) (hpos : 0 < s.size) (hs0 : s[0]'hpos = b0) (hn45 : b0 ≠ 45) (hn43 : b0 ≠ 43) (hm : Lib.decFrom 0 s.data.toList = some m) :
    FnOk Tryz.prog 119 [.t (.lit (.string s))] [] (.tup [.t (.int m), .t (.lit .nilIface)]) [] := by
  intro G w us hh hr
  unfold RepPs at hr
  obtain ⟨u1, r1, rfl, h1, hr⟩ := hr
  unfold RepPs at hr
  subst hr
  unfold RepS Rep at h1
  obtain ⟨rfl, _⟩ := h1
  have key : Calls Tryz.prog 119 #[.string s] w fun e w' => e = .returned (.tuple #[.int .i64 m, .nilIface]) ∧ w' = Lib.bytesWorld w 5 s := by
    go_enter Tryz.func119, Tryz.ntmps119
    go_wp2_with (go_at_call 129; refine (atoi_raw s m b0 hl hpos hs0 hn45 hn43 hm _).mono ?_; rintro e w' ⟨rfl, rfl⟩)
    go_ret2
    exact ⟨rfl, rfl⟩
  refine key.mono ?_
  rintro e w' ⟨rfl, rfl⟩
  have hS := same_bytes w 5 s
  refine ⟨_, G, rfl, ⟨rfl, rfl, rfl, hS.size, fun b hb _ => Lib.bytesWorld_at_old w _ s b hb, fun l b k h => by simp [lkB] at h, fun _ h => h, fun _ h => .inl h, fun _ _ => rfl⟩, hh.same hS, ?_⟩
  unfold RepS
  refine ⟨[.int .i64 m, .nilIface], rfl, ?_⟩
  unfold RepPs
  refine ⟨_, _, rfl, by unfold RepS Rep; exact ⟨rfl, rfl⟩, ?_⟩
  unfold RepPs
  refine ⟨_, _, rfl, by unfold RepS Rep; exact ⟨rfl, rfl⟩, ?_⟩
  unfold RepPs; rfl
def ixQ (c : Nat) : List UInt8 → Nat → Option Nat
  | [], _ => none
  | b :: l, k => bif Nat.beq b.toNat c then some k else ixQ c l (k + 1)
theorem ixQ_spec (c : UInt8) : ∀ (l : List UInt8) (k : Nat), Lib.indexByte l c = match ixQ c.toNat l k with
    | some i => (i : Int) - k
    | none => -1
  | [], k => rfl
  | b :: l, k => by
    have ih := ixQ_spec c l (k + 1)
    have hb : (b == c) = Nat.beq b.toNat c.toNat := by
      rw [Bool.eq_iff_iff]
      simp [UInt8.toNat_inj]
    unfold Lib.indexByte
    unfold ixQ
    rw [hb]
    cases hc : Nat.beq b.toNat c.toNat with
    | true => simp
    | false =>
      simp only [cond_false, Bool.false_eq_true, if_false]
      rw [ih]
      cases hq : ixQ c.toNat l (k + 1) with
      | none => simp
      | some i =>
        have : k + 1 ≤ i := by
          have gen : ∀ (l : List UInt8) (m i : Nat), ixQ c.toNat l m = some i → m ≤ i := by
            intro l
            induction l with
            | nil => intro m i h; simp [ixQ] at h
            | cons x r ih =>
              intro m i h
              unfold ixQ at h
              cases hx : Nat.beq x.toNat c.toNat <;> rw [hx] at h <;> simp only [cond_true, cond_false] at h
              · have := ih _ _ h; omega
              · cases h; omega
          exact gen _ _ _ hq
        dsimp only
        have e1 : ((k + 1 : Nat) : Int) = (k : Int) + 1 := rfl
        have e2 : ¬ (((i : Int) - ((k : Int) + 1)) == -1) = true := by simp; omega
        rw [e1, if_neg e2]
        show (i : Int) - ((k : Int) + 1) + 1 = (i : Int) - k
        exact (by intro x y; omega : ∀ x y : Int, x - (y + 1) + 1 = x - y) i k
def cntQ (c : Nat) : List UInt8 → Nat
  | [] => 0
  | b :: l => bif Nat.beq b.toNat c then cntQ c l + 1 else cntQ c l
theorem cntQ_spec (c : UInt8) : ∀ l : List UInt8, Lib.countByte l c = cntQ c.toNat l
  | [] => rfl
  | b :: l => by
    have ih := cntQ_spec c l
    unfold Lib.countByte at *
    have hb : (b == c) = Nat.beq b.toNat c.toNat := by
      rw [Bool.eq_iff_iff]
      simp [UInt8.toNat_inj]
    rw [List.count_cons, ih, hb]
    rw [cntQ]
    cases Nat.beq b.toNat c.toNat <;> simp
abbrev KnT := FuncId → List S → List (Nat × Blk) → Option (S × List (Nat × Blk))
def KnOk (kn : KnT) : Prop := ∀ f ss pre r post, kn f ss pre = some (r, post) → FnOk Tryz.prog f ss pre r post
def knIx (ss : List S) (pre : List (Nat × Blk)) : Option (S × List (Nat × Blk)) := match ss, pre with
  | [.t (.lit (.string s)), .t (.lit (.int .u8 (.ofNat c)))], [] => bif Nat.ble c 255 then (match ixQ c s.data.toList 0 with
    | some i => some (.t (.int (i : Nat)), [])
    | none => some (.t (.int (-1)), [])) else none
  | _, _ => none
theorem knIx_ok {ss : List S} {pre : List (Nat × Blk)} {r : S} {post : List (Nat × Blk)} (h : knIx ss pre = some (r, post)) : FnOk Tryz.prog 131 ss pre r post := by
  unfold knIx at h
  split at h
  · rename_i s c
    cases hc : Nat.ble c 255 <;> rw [hc] at h <;> simp only [cond_true, cond_false] at h
    · cases h
    have hc := Nat.le_of_ble_eq_true hc
    have f1 := sib_fn s (.ofNat c)
    have e : (Int.ofNat c).toNat.toUInt8.toNat = c := by simp; omega
    have e2 := ixQ_spec (Int.ofNat c).toNat.toUInt8 s.data.toList 0
    rw [e] at e2
    split at h
    · rename_i i hi
      cases h
      rw [hi] at e2
      simp at e2
      simp only [Int.ofNat_eq_natCast, Int.toNat_natCast] at f1
      rw [e2] at f1
      exact f1
    · rename_i hi
      cases h
      rw [hi] at e2
      simp at e2
      simp only [Int.ofNat_eq_natCast, Int.toNat_natCast] at f1
      rw [e2] at f1
      exact f1
  · cases h
def knCt (ss : List S) (pre : List (Nat × Blk)) : Option (S × List (Nat × Blk)) := match ss, pre with
  | [.t (.lit (.string s)), .t (.lit (.string ⟨⟨[c]⟩⟩))], [] => some (.t (.int (cntQ c.toNat s.data.toList : Nat)), [])
  | _, _ => none
theorem knCt_ok {ss : List S} {pre : List (Nat × Blk)} {r : S} {post : List (Nat × Blk)} (h : knCt ss pre = some (r, post)) : FnOk Tryz.prog 72 ss pre r post := by
  unfold knCt at h
  split at h
  · rename_i s c
    cases h
    have f1 := scount_fn s c
    rw [cntQ_spec] at f1
    exact f1
  · cases h
def knAt (ss : List S) (pre : List (Nat × Blk)) : Option (S × List (Nat × Blk)) := match ss, pre with
  | [.t (.lit (.string ⟨⟨b :: r⟩⟩))], [] => bif Nat.ble r.length 17 && !(Nat.beq b.toNat 45) && !(Nat.beq b.toNat 43) then (match Lib.decFrom 0 (b :: r) with
    | some m => some (.tup [.t (.int (m : Nat)), .t (.lit .nilIface)], [])
    | none => none) else none
  | _, _ => none
theorem knAt_ok {ss : List S} {pre : List (Nat × Blk)} {r : S} {post : List (Nat × Blk)} (h : knAt ss pre = some (r, post)) : FnOk Tryz.prog 119 ss pre r post := by
  unfold knAt at h
  split at h
  · rename_i b l
    cases hc : (Nat.ble l.length 17 && !(Nat.beq b.toNat 45) && !(Nat.beq b.toNat 43)) <;> rw [hc] at h <;> simp only [cond_true, cond_false] at h
    · cases h
    simp only [Bool.and_eq_true, Bool.not_eq_true'] at hc
    obtain ⟨⟨h1, h2⟩, h3⟩ := hc
    have h1 := Nat.le_of_ble_eq_true h1
    split at h
    · rename_i m hm
      cases h
      refine satoi_fn ⟨⟨b :: l⟩⟩ m b (by show l.length + 1 ≤ 18; omega) (by show 0 < l.length + 1; omega) rfl (fun e => ?_) (fun e => ?_) hm
      · subst e; simp at h2
      · subst e; simp at h3
    · cases h
  · cases h
def knS (kn : KnT) : KnT := fun f ss pre => bif Nat.beq f 131 then knIx ss pre else bif Nat.beq f 72 then knCt ss pre else bif Nat.beq f 119 then knAt ss pre else kn f ss pre
theorem knS_ok {kn : KnT} (h : KnOk kn) : KnOk (knS kn) := by
  intro f ss pre r post e
  unfold knS at e
  cases h1 : Nat.beq f 131 <;> rw [h1] at e <;> simp only [cond_true, cond_false] at e
  · cases h2 : Nat.beq f 72 <;> rw [h2] at e <;> simp only [cond_true, cond_false] at e
    · cases h3 : Nat.beq f 119 <;> rw [h3] at e <;> simp only [cond_true, cond_false] at e
      · exact h f ss pre r post e
      · rw [Nat.eq_of_beq_eq_true h3]; exact knAt_ok e
    · rw [Nat.eq_of_beq_eq_true h2]; exact knCt_ok e
  · rw [Nat.eq_of_beq_eq_true h1]; exact knIx_ok e
def formOf (k : List Nat) : Option (Nat × Int × Int × Int × FuncId) :=
  if k = [110, 101, 116, 119, 111, 114, 107] then some (0, 1, 2, 0, 112)
  else if k = [110, 111, 100, 101] then some (1, 2, 1, 1, 113)
  else if k = [115, 101, 103, 109, 101, 110, 116] then some (2, 3, 6, 3, 114)
  else if k = [112, 111, 105, 110, 116] then some (3, 3, 3, 0, 115)
  else if k = [112, 111, 114, 116] then some (4, 4, 3, 2, 116)
  else none
theorem formOf_ok {k : List Nat} {i : Nat} {a b c : Int} {f : FuncId} (h : formOf k = some (i, a, b, c, f)) : ∀ p, Instr.findNow .string (.string (str k)) (formsE p).toList 0 = some (some (i, frm p a b c f)) := by
  intro p
  unfold formOf at h
  split at h
  · rename_i e; subst e; cases h; kernel_rfl
  split at h
  · rename_i e; subst e; cases h; kernel_rfl
  split at h
  · rename_i e; subst e; cases h; kernel_rfl
  split at h
  · rename_i e; subst e; cases h; kernel_rfl
  split at h
  · rename_i e; subst e; cases h; kernel_rfl
  · cases h
noncomputable def knLine (kn : KnT) (fz : List FuncId) (fuel n : Nat) (ss : List S) (pre : List (Nat × Blk)) : Option (S × List (Nat × Blk)) := match ss with
  | [.pt 0 [] 0, .t (.sl 1 (.lit (.string kb) :: ws))] => match formOf (kb.data.toList.map fun c => c.toNat) with
    | some (i, a, b, c, f) => bif pre.all fun q => q.1 != 105 && q.2.free 105 then
        (match evC Tryz.prog (callC (evF Tryz.prog kn fz fuel n)) fuel lineRest ⟨[(6, .t (.bool true)), (5, .pt 105 [] 0), (0, .pt 0 [] 0), (1, .t (.sl 1 (.lit (.string kb) :: ws)))], (105, .box 131 (.ag [.t (.int a), .t (.int b), .t (.int c), .fb f [.pt 0 [] 0]])) :: pre⟩ with
        | some (.ret, σ) => finX Tryz.prog false Tryz.f54.results.toList σ
        | _ => none)
      else none
    | none => none
  | _ => none
theorem knLine_ok {kn : KnT} (hk : KnOk kn) {fz : List FuncId} {fuel n : Nat} {ss : List S} {pre : List (Nat × Blk)} {r : S} {post : List (Nat × Blk)} (h : knLine kn fz fuel n ss pre = some (r, post)) : FnOk Tryz.prog 54 ss pre r post := by
  unfold knLine at h
  split at h
  · rename_i kb ws
    split at h
    · rename_i i a b c f hf
      cases hp : (pre.all fun q => q.1 != 105 && q.2.free 105) <;> rw [hp] at h <;> simp only [cond_true, cond_false] at h
      · cases h
      have hs : str (kb.data.toList.map fun c => c.toNat) = kb := by
        obtain ⟨⟨l⟩⟩ := kb
        simp [str, Function.comp_def]
      split at h
      · rename_i σ hσ
        have := line_cw (kb.data.toList.map fun c => c.toNat) a b c f i (formOf_ok hf) ws pre hp r post
        rw [hs] at this
        exact this (evC_sound (fun σ => callC_spec (evF_spec (fz := fz) (fuel := fuel) fact_mixed hk n) σ) lineRest _ _ .ret _ hσ (finX_spec h))
      · cases h
    · cases h
  · cases h
end Go.Proofs.YtdjmklobfjigoaaGreatDoor
namespace Go.Proofs.YtdjmklobfjigoaaGreatDoor
open Go.RowKit Sy
open Go.IntWalk renaming iteOmega → iO, toNatUp → tN
abbrev segF : List T := [.lit (.string (str [115])), .int 0, .int 1, .int 10, .int 0, .int 0]
abbrev ptT (a h l : Int) : T := .agg [.int a, .int h, .int l]
abbrev segR (pts : List T) : Blk := .rows 38 7 [.fw segF 35 3 pts] []
abbrev rdP (last : List Nat) : Blk := .box 106 (.ag [.ag [.t (.sl 1 [.lit (.string (str [97])), .lit (.string (str [98]))]), .own 2, .t (.lit (.slice none 0 0)), .t (.lit (.slice none 0 0)), .t (.int 0), .t (.int 0)], .t (.int 3), .t (.lit (.string (str last)))])
theorem point_fn (ws : List T) (last : List Nat) (pts : List T) (hp : pts.length ≤ 5) (hw : ∀ y ∈ pts, y.width = 3) (a h l : Int) :
    FnOk Tryz.prog 115 [.pt 0 [] 0, .t (.sl 1 ws), .t (.sl 1 [.int a, .int h, .int l])] [(0, rdP last), (2, segR pts)] (.t (.int 0)) [(0, rdP last), (2, segR (pts ++ [ptT a h l]))] := by
  refine FnOk.intro fact_mixed Tryz.func115 rfl Tryz.ntmps115 (by rfl) (by simp) ?_
  iterate 2 (refine nf1_sound rfl ?_; simp [go_sem, ↓iO, iO, tN]; (repeat (refine anI ?_)); try (refine ⟨dcK, ?_⟩))
  refine CW.openRow 2 0 555 (us := [.fw segF 35 3 pts]) (ex := []) (u := .fw segF 35 3 pts) (b := .list 35 3 pts) (by rfl) (by rfl) (by rfl) (by rfl) (by kernel_rfl) (by omega) ?_
  simp [go_sem, ↓iO, iO, tN]
  iterate 1 (refine nf1_sound rfl ?_; simp [go_sem, ↓iO, iO, tN, hp]; (repeat (refine anI ?_)); try (refine ⟨dcK, ?_⟩))
  refine CW.closeRow 2 0 137 (.fw segF 35 3 (pts ++ [ptT a h l])) (us := [.fw segF 35 3 pts]) (e := 38) (s := 7) (e' := 35) (s' := 3) (xs := pts ++ [ptT a h l])
    (ex := [(0, .ag [.t (.lit (.string (str [115]))), .t (.int 0), .t (.int 1), .t (.int 10), .t (.int 0), .t (.int 0), .own 137])]) (by rfl) (by rfl) (by rfl) (by rfl) ?_
  simp [go_sem, ↓iO, iO, tN]
  repeat (first | (refine nf1_sound rfl ?_; simp [go_sem, ↓iO, iO, tN]) | refine anI ?_ | refine ⟨dcK, ?_⟩ | ((first | refine iP ?_ | refine iN ?_); try simp [go_sem, ↓iO, iO, tN]))
  first | rw [RetQ_ret] | rw [RetQ_normal]
  refine ⟨[(0, some 0), (2, some 2)], ?_⟩
  simp [go_sem, ↓iO, iO, tN]
abbrev lnP (s1 s2 s3 : List Nat) : T := .sl 1 [.lit (.string (str [112, 111, 105, 110, 116])), .lit (.string (str s1)), .lit (.string (str s2)), .lit (.string (str s3))]
def numsP (a h l : Int) : Nat → List Int
  | 0 => []
  | 1 => [a]
  | 2 => [a, h]
  | _ => [a, h, l]
abbrev NumC (s : List Nat) (n : Int) : Prop := FnOk Tryz.prog 78 [.t (.lit (.string (str s)))] [] (.tup [.t (.int n), .t (.int 0)]) []
theorem pline_fn (s1 s2 s3 : List Nat) (a h l : Int) (c1 : NumC s1 a) (c2 : NumC s2 h) (c3 : NumC s3 l) (pts : List T) (hp : pts.length ≤ 5) (hw : ∀ y ∈ pts, y.width = 3) :
    FnOk Tryz.prog 54 [.pt 0 [] 0, .t (lnP s1 s2 s3)] [(0, rdP [115, 101, 103, 109, 101, 110, 116]), (2, segR pts)] (.t (.int 0)) [(0, rdP [112, 111, 105, 110, 116]), (2, segR (pts ++ [ptT a h l]))] := by
  refine line_cw [112, 111, 105, 110, 116] 3 3 0 115 3 (fun p => by kernel_rfl) _ _ (by rfl) _ _ ?_
  have cp := point_fn [] [112, 111, 105, 110, 116] pts hp hw a h l
  have hq1 : (str [112, 111, 105, 110, 116]).toList = [112, 111, 105, 110, 116] := by kernel_rfl
  have hq2 : (str [115, 101, 103, 109, 101, 110, 116]).toList = [115, 101, 103, 109, 101, 110, 116] := by kernel_rfl
  have hq3 : ¬ (str [112, 111, 105, 110, 116]).toList = [115, 101, 103, 109, 101, 110, 116] := by rw [hq1]; decide
  unfold lineRest lineC
  simp only [Tryz.f54, Option.getD]
  repeat (first | (refine nf1_sound rfl ?_; simp [go_sem, ↓iO, iO, tN]) | refine anI ?_ | refine ⟨dcK, ?_⟩ | ((first | refine iP ?_ | refine iN ?_); try simp [go_sem, ↓iO, iO, tN]))
  refine nf1_sound' _ _ _ ?_; simp only [nf1]
  refine CW.loop (ι := Nat) (fun k => ⟨[(0, .pt 0 [] 0), (1, .t (lnP s1 s2 s3)), (5, .pt 505 [] 0), (7, .own 507), (36, .t (.sl 1 [.lit (.string (str s1)), .lit (.string (str s2)), .lit (.string (str s3))])), (37, .t (.int 3)), (38, .t (.int k))], [(0, rdP [115, 101, 103, 109, 101, 110, 116]), (2, segR pts), (505, .box 131 (.ag [.t (.int 3), .t (.int 3), .t (.int 0), .fb 115 [.pt 0 [] 0]])), (507, .list 3 1 ((numsP a h l k).map encI))]⟩) (fun k => k ≤ 3) (fun k => 3 - k) 0 [(0, some 0), (2, some 2), (505, some 105), (507, none)] (by omega) ?_ ?_
  · simp [go_sem, ↓iO, iO, tN, numsP]
  intro k hk
  have h4 : k = 0 ∨ k = 1 ∨ k = 2 ∨ k = 3 := by omega
  rcases h4 with rfl | rfl | rfl | rfl
  · repeat (first | (refine nf1_sound rfl ?_; simp [go_sem, ↓iO, iO, tN, numsP]) | refine anI ?_ | refine ⟨dcK, ?_⟩ | ((first | refine iP ?_ | refine iN ?_); try simp [go_sem, ↓iO, iO, tN, numsP]))
    refine CallK.fn (c1) [] [] [] (by kernel_rfl) ?_ ?_ ?_ (Or.inl rfl) ?_ <;> simp [go_sem, ↓iO, iO, tN]
    repeat (refine anI ?_)
    try (refine ⟨dcK, ?_⟩)
    repeat (first | (refine nf1_sound rfl ?_; simp [go_sem, ↓iO, iO, tN, numsP]) | refine anI ?_ | refine ⟨dcK, ?_⟩ | ((first | refine iP ?_ | refine iN ?_); try simp [go_sem, ↓iO, iO, tN, numsP]))
    rw [RoundQ_normal]; refine ⟨1, [(0, some 0), (2, some 2), (505, some 505), (507, some 152)], ?_, ?_, ?_⟩
    · omega
    · omega
    simp [go_sem, ↓iO, iO, tN, numsP]
  · repeat (first | (refine nf1_sound rfl ?_; simp [go_sem, ↓iO, iO, tN, numsP]) | refine anI ?_ | refine ⟨dcK, ?_⟩ | ((first | refine iP ?_ | refine iN ?_); try simp [go_sem, ↓iO, iO, tN, numsP]))
    refine CallK.fn (c2) [] [] [] (by kernel_rfl) ?_ ?_ ?_ (Or.inl rfl) ?_ <;> simp [go_sem, ↓iO, iO, tN]
    repeat (refine anI ?_)
    try (refine ⟨dcK, ?_⟩)
    repeat (first | (refine nf1_sound rfl ?_; simp [go_sem, ↓iO, iO, tN, numsP]) | refine anI ?_ | refine ⟨dcK, ?_⟩ | ((first | refine iP ?_ | refine iN ?_); try simp [go_sem, ↓iO, iO, tN, numsP]))
    rw [RoundQ_normal]; refine ⟨2, [(0, some 0), (2, some 2), (505, some 505), (507, some 152)], ?_, ?_, ?_⟩
    · omega
    · omega
    simp [go_sem, ↓iO, iO, tN, numsP]
  · repeat (first | (refine nf1_sound rfl ?_; simp [go_sem, ↓iO, iO, tN, numsP]) | refine anI ?_ | refine ⟨dcK, ?_⟩ | ((first | refine iP ?_ | refine iN ?_); try simp [go_sem, ↓iO, iO, tN, numsP]))
    refine CallK.fn (c3) [] [] [] (by kernel_rfl) ?_ ?_ ?_ (Or.inl rfl) ?_ <;> simp [go_sem, ↓iO, iO, tN]
    repeat (refine anI ?_)
    try (refine ⟨dcK, ?_⟩)
    repeat (first | (refine nf1_sound rfl ?_; simp [go_sem, ↓iO, iO, tN, numsP]) | refine anI ?_ | refine ⟨dcK, ?_⟩ | ((first | refine iP ?_ | refine iN ?_); try simp [go_sem, ↓iO, iO, tN, numsP]))
    rw [RoundQ_normal]; refine ⟨3, [(0, some 0), (2, some 2), (505, some 505), (507, some 152)], ?_, ?_, ?_⟩
    · omega
    · omega
    simp [go_sem, ↓iO, iO, tN, numsP]
  · repeat (first | (refine nf1_sound rfl ?_; simp [go_sem, ↓iO, iO, tN, numsP, hq1, hq2, hq3]) | refine anI ?_ | refine ⟨dcK, ?_⟩ | ((first | refine iP ?_ | refine iN ?_); try simp [go_sem, ↓iO, iO, tN, numsP, hq1, hq2, hq3]))
    refine CallK.fn (cp) [(0, 0), (2, 2)] [] [507] (by kernel_rfl) ?_ ?_ ?_ (Or.inl rfl) ?_ <;> simp [go_sem, ↓iO, iO, tN, numsP]
    repeat (refine anI ?_)
    try (refine ⟨dcK, ?_⟩)
    repeat (first | (refine nf1_sound rfl ?_; simp [go_sem, ↓iO, iO, tN]) | refine anI ?_ | refine ⟨dcK, ?_⟩ | ((first | refine iP ?_ | refine iN ?_); try simp [go_sem, ↓iO, iO, tN]))
    first | rw [RetQ_ret] | rw [RetQ_normal]
    refine ⟨[(0, some 0), (2, some 2)], ?_⟩
    simp [go_sem, ↓iO, iO, tN]
theorem pline2_fn (s1 s2 s3 : List Nat) (a h l : Int) (c1 : NumC s1 a) (c2 : NumC s2 h) (c3 : NumC s3 l) (pts : List T) (hp : pts.length ≤ 5) (hw : ∀ y ∈ pts, y.width = 3) :
    FnOk Tryz.prog 54 [.pt 0 [] 0, .t (lnP s1 s2 s3)] [(0, rdP [112, 111, 105, 110, 116]), (2, segR pts)] (.t (.int 0)) [(0, rdP [112, 111, 105, 110, 116]), (2, segR (pts ++ [ptT a h l]))] := by
  refine line_cw [112, 111, 105, 110, 116] 3 3 0 115 3 (fun p => by kernel_rfl) _ _ (by rfl) _ _ ?_
  have cp := point_fn [] [112, 111, 105, 110, 116] pts hp hw a h l
  have hq1 : (str [112, 111, 105, 110, 116]).toList = [112, 111, 105, 110, 116] := by kernel_rfl
  have hq2 : (str [115, 101, 103, 109, 101, 110, 116]).toList = [115, 101, 103, 109, 101, 110, 116] := by kernel_rfl
  have hq3 : ¬ (str [112, 111, 105, 110, 116]).toList = [115, 101, 103, 109, 101, 110, 116] := by rw [hq1]; decide
  unfold lineRest lineC
  simp only [Tryz.f54, Option.getD]
  repeat (first | (refine nf1_sound rfl ?_; simp [go_sem, ↓iO, iO, tN]) | refine anI ?_ | refine ⟨dcK, ?_⟩ | ((first | refine iP ?_ | refine iN ?_); try simp [go_sem, ↓iO, iO, tN]))
  refine nf1_sound' _ _ _ ?_; simp only [nf1]
  refine CW.loop (ι := Nat) (fun k => ⟨[(0, .pt 0 [] 0), (1, .t (lnP s1 s2 s3)), (5, .pt 505 [] 0), (7, .own 507), (36, .t (.sl 1 [.lit (.string (str s1)), .lit (.string (str s2)), .lit (.string (str s3))])), (37, .t (.int 3)), (38, .t (.int k))], [(0, rdP [112, 111, 105, 110, 116]), (2, segR pts), (505, .box 131 (.ag [.t (.int 3), .t (.int 3), .t (.int 0), .fb 115 [.pt 0 [] 0]])), (507, .list 3 1 ((numsP a h l k).map encI))]⟩) (fun k => k ≤ 3) (fun k => 3 - k) 0 [(0, some 0), (2, some 2), (505, some 105), (507, none)] (by omega) ?_ ?_
  · simp [go_sem, ↓iO, iO, tN, numsP]
  intro k hk
  have h4 : k = 0 ∨ k = 1 ∨ k = 2 ∨ k = 3 := by omega
  rcases h4 with rfl | rfl | rfl | rfl
  · repeat (first | (refine nf1_sound rfl ?_; simp [go_sem, ↓iO, iO, tN, numsP]) | refine anI ?_ | refine ⟨dcK, ?_⟩ | ((first | refine iP ?_ | refine iN ?_); try simp [go_sem, ↓iO, iO, tN, numsP]))
    refine CallK.fn (c1) [] [] [] (by kernel_rfl) ?_ ?_ ?_ (Or.inl rfl) ?_ <;> simp [go_sem, ↓iO, iO, tN]
    repeat (refine anI ?_)
    try (refine ⟨dcK, ?_⟩)
    repeat (first | (refine nf1_sound rfl ?_; simp [go_sem, ↓iO, iO, tN, numsP]) | refine anI ?_ | refine ⟨dcK, ?_⟩ | ((first | refine iP ?_ | refine iN ?_); try simp [go_sem, ↓iO, iO, tN, numsP]))
    rw [RoundQ_normal]; refine ⟨1, [(0, some 0), (2, some 2), (505, some 505), (507, some 152)], ?_, ?_, ?_⟩
    · omega
    · omega
    simp [go_sem, ↓iO, iO, tN, numsP]
  · repeat (first | (refine nf1_sound rfl ?_; simp [go_sem, ↓iO, iO, tN, numsP]) | refine anI ?_ | refine ⟨dcK, ?_⟩ | ((first | refine iP ?_ | refine iN ?_); try simp [go_sem, ↓iO, iO, tN, numsP]))
    refine CallK.fn (c2) [] [] [] (by kernel_rfl) ?_ ?_ ?_ (Or.inl rfl) ?_ <;> simp [go_sem, ↓iO, iO, tN]
    repeat (refine anI ?_)
    try (refine ⟨dcK, ?_⟩)
    repeat (first | (refine nf1_sound rfl ?_; simp [go_sem, ↓iO, iO, tN, numsP]) | refine anI ?_ | refine ⟨dcK, ?_⟩ | ((first | refine iP ?_ | refine iN ?_); try simp [go_sem, ↓iO, iO, tN, numsP]))
    rw [RoundQ_normal]; refine ⟨2, [(0, some 0), (2, some 2), (505, some 505), (507, some 152)], ?_, ?_, ?_⟩
    · omega
    · omega
    simp [go_sem, ↓iO, iO, tN, numsP]
  · repeat (first | (refine nf1_sound rfl ?_; simp [go_sem, ↓iO, iO, tN, numsP]) | refine anI ?_ | refine ⟨dcK, ?_⟩ | ((first | refine iP ?_ | refine iN ?_); try simp [go_sem, ↓iO, iO, tN, numsP]))
    refine CallK.fn (c3) [] [] [] (by kernel_rfl) ?_ ?_ ?_ (Or.inl rfl) ?_ <;> simp [go_sem, ↓iO, iO, tN]
    repeat (refine anI ?_)
    try (refine ⟨dcK, ?_⟩)
    repeat (first | (refine nf1_sound rfl ?_; simp [go_sem, ↓iO, iO, tN, numsP]) | refine anI ?_ | refine ⟨dcK, ?_⟩ | ((first | refine iP ?_ | refine iN ?_); try simp [go_sem, ↓iO, iO, tN, numsP]))
    rw [RoundQ_normal]; refine ⟨3, [(0, some 0), (2, some 2), (505, some 505), (507, some 152)], ?_, ?_, ?_⟩
    · omega
    · omega
    simp [go_sem, ↓iO, iO, tN, numsP]
  · repeat (first | (refine nf1_sound rfl ?_; simp [go_sem, ↓iO, iO, tN, numsP, hq1, hq2, hq3]) | refine anI ?_ | refine ⟨dcK, ?_⟩ | ((first | refine iP ?_ | refine iN ?_); try simp [go_sem, ↓iO, iO, tN, numsP, hq1, hq2, hq3]))
    refine CallK.fn (cp) [(0, 0), (2, 2)] [] [507] (by kernel_rfl) ?_ ?_ ?_ (Or.inl rfl) ?_ <;> simp [go_sem, ↓iO, iO, tN, numsP]
    repeat (refine anI ?_)
    try (refine ⟨dcK, ?_⟩)
    repeat (first | (refine nf1_sound rfl ?_; simp [go_sem, ↓iO, iO, tN]) | refine anI ?_ | refine ⟨dcK, ?_⟩ | ((first | refine iP ?_ | refine iN ?_); try simp [go_sem, ↓iO, iO, tN]))
    first | rw [RetQ_ret] | rw [RetQ_normal]
    refine ⟨[(0, some 0), (2, some 2)], ?_⟩
    simp [go_sem, ↓iO, iO, tN]
set_option maxRecDepth 100000
abbrev txtR : T := .lit (.string (str [110, 101, 116, 119, 111, 114, 107, 32, 48, 32, 48, 10, 110, 111, 100, 101, 32, 97, 10, 110, 111, 100, 101, 32, 98, 10, 115, 101, 103, 109, 101, 110, 116, 32, 115, 32, 97, 32, 98, 32, 49, 48, 32, 48, 32, 48, 10, 112, 111, 105, 110, 116, 32, 48, 32, 48, 32, 57, 48, 48, 48, 48, 48, 10, 112, 111, 105, 110, 116, 32, 49, 48, 32, 48, 32, 57, 48, 48, 48, 48, 48, 10, 112, 111, 114, 116, 32, 105, 110, 32, 97, 32, 51, 48, 48, 48, 48, 48, 10, 112, 111, 114, 116, 32, 111, 117, 116, 32, 98, 32, 48, 10]))
abbrev linesR : List T := [.sl 1 [.lit (.string (str [110, 101, 116, 119, 111, 114, 107])), .lit (.string (str [48])), .lit (.string (str [48]))], .sl 1 [.lit (.string (str [110, 111, 100, 101])), .lit (.string (str [97]))], .sl 1 [.lit (.string (str [110, 111, 100, 101])), .lit (.string (str [98]))], .sl 1 [.lit (.string (str [115, 101, 103, 109, 101, 110, 116])), .lit (.string (str [115])), .lit (.string (str [97])), .lit (.string (str [98])), .lit (.string (str [49, 48])), .lit (.string (str [48])), .lit (.string (str [48]))], .sl 1 [.lit (.string (str [112, 111, 105, 110, 116])), .lit (.string (str [48])), .lit (.string (str [48])), .lit (.string (str [57, 48, 48, 48, 48, 48]))], .sl 1 [.lit (.string (str [112, 111, 105, 110, 116])), .lit (.string (str [49, 48])), .lit (.string (str [48])), .lit (.string (str [57, 48, 48, 48, 48, 48]))], .sl 1 [.lit (.string (str [112, 111, 114, 116])), .lit (.string (str [105, 110])), .lit (.string (str [97])), .lit (.string (str [51, 48, 48, 48, 48, 48]))], .sl 1 [.lit (.string (str [112, 111, 114, 116])), .lit (.string (str [111, 117, 116])), .lit (.string (str [98])), .lit (.string (str [48]))]]
abbrev netR : T := .agg [.sl 1 [.lit (.string (str [97])), .lit (.string (str [98]))], .sl 7 [.agg [.lit (.string (str [115])), .int 0, .int 1, .int 10, .int 0, .int 0, .sl 3 [.agg [.int 0, .int 0, .int 900000], .agg [.int 10, .int 0, .int 900000]]]], .sl 3 [.agg [.lit (.string (str [105, 110])), .int 0, .int 300000], .agg [.lit (.string (str [111, 117, 116])), .int 1, .int 0]], .lit (.slice none 0 0), .int 0, .int 0]
theorem split_fn : FnOk Tryz.prog 53 [.t txtR] [] (.tup [.own 500, .t (.int 0)]) [(500, .list 26 1 linesR)] := evF_spec fact_mixed (knS_ok noKn_ok) 20 _ _ _ _ _ (by kernel_rfl : evF Tryz.prog (knS noKn) [] 200 20 53 [.t txtR] [] = some (.tup [.own 500, .t (.int 0)], [(500, .list 26 1 linesR)]))
theorem ln1_fn : FnOk Tryz.prog 54 [.pt 0 [] 0, .t (.sl 1 [.lit (.string (str [110, 101, 116, 119, 111, 114, 107])), .lit (.string (str [48])), .lit (.string (str [48]))])] [(0, .box 106 (.t (.agg [.agg [.lit (.slice none 0 0), .lit (.slice none 0 0), .lit (.slice none 0 0), .lit (.slice none 0 0), .int 0, .int 0], .int 0, .lit (.string (str []))])))] (.t (.int 0)) [(0, .box 106 (.t (.agg [.agg [.lit (.slice none 0 0), .lit (.slice none 0 0), .lit (.slice none 0 0), .lit (.slice none 0 0), .int 0, .int 0], .int 1, .lit (.string (str [110, 101, 116, 119, 111, 114, 107]))])))] := knLine_ok (kn := knS noKn) (fz := []) (fuel := 200) (n := 20) (knS_ok noKn_ok) (by kernel_rfl)
theorem ln2_fn : FnOk Tryz.prog 54 [.pt 0 [] 0, .t (.sl 1 [.lit (.string (str [110, 111, 100, 101])), .lit (.string (str [97]))])] [(0, .box 106 (.t (.agg [.agg [.lit (.slice none 0 0), .lit (.slice none 0 0), .lit (.slice none 0 0), .lit (.slice none 0 0), .int 0, .int 0], .int 1, .lit (.string (str [110, 101, 116, 119, 111, 114, 107]))])))] (.t (.int 0)) [(0, .box 106 (.ag [.ag [.own 1000, .t (.lit (.slice none 0 0)), .t (.lit (.slice none 0 0)), .t (.lit (.slice none 0 0)), .t (.int 0), .t (.int 0)], .t (.int 2), .t (.lit (.string (str [110, 111, 100, 101])))])), (1000, .list 9 1 [.lit (.string (str [97]))])] := knLine_ok (kn := knS noKn) (fz := []) (fuel := 200) (n := 20) (knS_ok noKn_ok) (by kernel_rfl)
theorem ln3_fn : FnOk Tryz.prog 54 [.pt 0 [] 0, .t (.sl 1 [.lit (.string (str [110, 111, 100, 101])), .lit (.string (str [98]))])] [(0, .box 106 (.ag [.ag [.own 1, .t (.lit (.slice none 0 0)), .t (.lit (.slice none 0 0)), .t (.lit (.slice none 0 0)), .t (.int 0), .t (.int 0)], .t (.int 2), .t (.lit (.string (str [110, 111, 100, 101])))])), (1, .list 9 1 [.lit (.string (str [97]))])] (.t (.int 0)) [(0, .box 106 (.ag [.ag [.own 1000, .t (.lit (.slice none 0 0)), .t (.lit (.slice none 0 0)), .t (.lit (.slice none 0 0)), .t (.int 0), .t (.int 0)], .t (.int 2), .t (.lit (.string (str [110, 111, 100, 101])))])), (1000, .list 9 1 [.lit (.string (str [97])), .lit (.string (str [98]))])] := knLine_ok (kn := knS noKn) (fz := []) (fuel := 200) (n := 20) (knS_ok noKn_ok) (by kernel_rfl)
theorem ln4_fn : FnOk Tryz.prog 54 [.pt 0 [] 0, .t (.sl 1 [.lit (.string (str [115, 101, 103, 109, 101, 110, 116])), .lit (.string (str [115])), .lit (.string (str [97])), .lit (.string (str [98])), .lit (.string (str [49, 48])), .lit (.string (str [48])), .lit (.string (str [48]))])] [(0, .box 106 (.t (.agg [.agg [.sl 1 [.lit (.string (str [97])), .lit (.string (str [98]))], .lit (.slice none 0 0), .lit (.slice none 0 0), .lit (.slice none 0 0), .int 0, .int 0], .int 2, .lit (.string (str [110, 111, 100, 101]))])))] (.t (.int 0)) [(0, .box 106 (.ag [.ag [.t (.sl 1 [.lit (.string (str [97])), .lit (.string (str [98]))]), .own 1000, .t (.lit (.slice none 0 0)), .t (.lit (.slice none 0 0)), .t (.int 0), .t (.int 0)], .t (.int 3), .t (.lit (.string (str [115, 101, 103, 109, 101, 110, 116])))])), (1000, .list 38 7 [.agg [.lit (.string (str [115])), .int 0, .int 1, .int 10, .int 0, .int 0, .lit (.slice none 0 0)]])] := knLine_ok (kn := knS noKn) (fz := []) (fuel := 200) (n := 20) (knS_ok noKn_ok) (by kernel_rfl)
theorem ln7_fn : FnOk Tryz.prog 54 [.pt 0 [] 0, .t (.sl 1 [.lit (.string (str [112, 111, 114, 116])), .lit (.string (str [105, 110])), .lit (.string (str [97])), .lit (.string (str [51, 48, 48, 48, 48, 48]))])] [(0, .box 106 (.t (.agg [.agg [.sl 1 [.lit (.string (str [97])), .lit (.string (str [98]))], .sl 7 [.agg [.lit (.string (str [115])), .int 0, .int 1, .int 10, .int 0, .int 0, .sl 3 [.agg [.int 0, .int 0, .int 900000], .agg [.int 10, .int 0, .int 900000]]]], .lit (.slice none 0 0), .lit (.slice none 0 0), .int 0, .int 0], .int 3, .lit (.string (str [112, 111, 105, 110, 116]))])))] (.t (.int 0)) [(0, .box 106 (.ag [.ag [.t (.sl 1 [.lit (.string (str [97])), .lit (.string (str [98]))]), .t (.sl 7 [.agg [.lit (.string (str [115])), .int 0, .int 1, .int 10, .int 0, .int 0, .sl 3 [.agg [.int 0, .int 0, .int 900000], .agg [.int 10, .int 0, .int 900000]]]]), .own 1000, .t (.lit (.slice none 0 0)), .t (.int 0), .t (.int 0)], .t (.int 4), .t (.lit (.string (str [112, 111, 114, 116])))])), (1000, .list 28 3 [.agg [.lit (.string (str [105, 110])), .int 0, .int 300000]])] := knLine_ok (kn := knS noKn) (fz := []) (fuel := 200) (n := 20) (knS_ok noKn_ok) (by kernel_rfl)
theorem ln8_fn : FnOk Tryz.prog 54 [.pt 0 [] 0, .t (.sl 1 [.lit (.string (str [112, 111, 114, 116])), .lit (.string (str [111, 117, 116])), .lit (.string (str [98])), .lit (.string (str [48]))])] [(0, .box 106 (.ag [.ag [.t (.sl 1 [.lit (.string (str [97])), .lit (.string (str [98]))]), .t (.sl 7 [.agg [.lit (.string (str [115])), .int 0, .int 1, .int 10, .int 0, .int 0, .sl 3 [.agg [.int 0, .int 0, .int 900000], .agg [.int 10, .int 0, .int 900000]]]]), .own 1, .t (.lit (.slice none 0 0)), .t (.int 0), .t (.int 0)], .t (.int 4), .t (.lit (.string (str [112, 111, 114, 116])))])), (1, .list 28 3 [.agg [.lit (.string (str [105, 110])), .int 0, .int 300000]])] (.t (.int 0)) [(0, .box 106 (.ag [.ag [.t (.sl 1 [.lit (.string (str [97])), .lit (.string (str [98]))]), .t (.sl 7 [.agg [.lit (.string (str [115])), .int 0, .int 1, .int 10, .int 0, .int 0, .sl 3 [.agg [.int 0, .int 0, .int 900000], .agg [.int 10, .int 0, .int 900000]]]]), .own 1000, .t (.lit (.slice none 0 0)), .t (.int 0), .t (.int 0)], .t (.int 4), .t (.lit (.string (str [112, 111, 114, 116])))])), (1000, .list 28 3 [.agg [.lit (.string (str [105, 110])), .int 0, .int 300000], .agg [.lit (.string (str [111, 117, 116])), .int 1, .int 0]])] := knLine_ok (kn := knS noKn) (fz := []) (fuel := 200) (n := 20) (knS_ok noKn_ok) (by kernel_rfl)
theorem num0_fn : NumC [48] 0 := evF_spec fact_mixed (knS_ok noKn_ok) 20 _ _ _ _ _ (by kernel_rfl : evF Tryz.prog (knS noKn) [] 200 20 78 [.t (.lit (.string (str [48])))] [] = some (.tup [.t (.int 0), .t (.int 0)], []))
theorem num10_fn : NumC [49, 48] 10 := evF_spec fact_mixed (knS_ok noKn_ok) 20 _ _ _ _ _ (by kernel_rfl : evF Tryz.prog (knS noKn) [] 200 20 78 [.t (.lit (.string (str [49, 48])))] [] = some (.tup [.t (.int 10), .t (.int 0)], []))
theorem num900000_fn : NumC [57, 48, 48, 48, 48, 48] 900000 := evF_spec fact_mixed (knS_ok noKn_ok) 20 _ _ _ _ _ (by kernel_rfl : evF Tryz.prog (knS noKn) [] 200 20 78 [.t (.lit (.string (str [57, 48, 48, 48, 48, 48])))] [] = some (.tup [.t (.int 900000), .t (.int 0)], []))
theorem chkR_fn : FnOk Tryz.prog 45 [.t netR] [] (.t (.int 0)) [] := evF_spec fact_mixed (knS_ok noKn_ok) 20 _ _ _ _ _ (by kernel_rfl : evF Tryz.prog (knS noKn) [56] 200 20 45 [.t netR] [] = some (.t (.int 0), []))
def rdH : Nat → List (Nat × Blk)
  | 0 => [(507, .box 106 (.t (.agg [.agg [.lit (.slice none 0 0), .lit (.slice none 0 0), .lit (.slice none 0 0), .lit (.slice none 0 0), .int 0, .int 0], .int 0, .lit (.string (str []))])))]
  | 1 => [(507, .box 106 (.t (.agg [.agg [.lit (.slice none 0 0), .lit (.slice none 0 0), .lit (.slice none 0 0), .lit (.slice none 0 0), .int 0, .int 0], .int 1, .lit (.string (str [110, 101, 116, 119, 111, 114, 107]))])))]
  | 2 => [(507, .box 106 (.ag [.ag [.own 508, .t (.lit (.slice none 0 0)), .t (.lit (.slice none 0 0)), .t (.lit (.slice none 0 0)), .t (.int 0), .t (.int 0)], .t (.int 2), .t (.lit (.string (str [110, 111, 100, 101])))])), (508, .list 9 1 [.lit (.string (str [97]))])]
  | 3 => [(507, .box 106 (.t (.agg [.agg [.sl 1 [.lit (.string (str [97])), .lit (.string (str [98]))], .lit (.slice none 0 0), .lit (.slice none 0 0), .lit (.slice none 0 0), .int 0, .int 0], .int 2, .lit (.string (str [110, 111, 100, 101]))])))]
  | 4 => [(507, .box 106 (.ag [.ag [.t (.sl 1 [.lit (.string (str [97])), .lit (.string (str [98]))]), .own 508, .t (.lit (.slice none 0 0)), .t (.lit (.slice none 0 0)), .t (.int 0), .t (.int 0)], .t (.int 3), .t (.lit (.string (str [115, 101, 103, 109, 101, 110, 116])))])), (508, .list 38 7 [.agg [.lit (.string (str [115])), .int 0, .int 1, .int 10, .int 0, .int 0, .lit (.slice none 0 0)]])]
  | 5 => [(507, .box 106 (.ag [.ag [.t (.sl 1 [.lit (.string (str [97])), .lit (.string (str [98]))]), .own 508, .t (.lit (.slice none 0 0)), .t (.lit (.slice none 0 0)), .t (.int 0), .t (.int 0)], .t (.int 3), .t (.lit (.string (str [112, 111, 105, 110, 116])))])), (508, segR [.agg [.int 0, .int 0, .int 900000]])]
  | 6 => [(507, .box 106 (.t (.agg [.agg [.sl 1 [.lit (.string (str [97])), .lit (.string (str [98]))], .sl 7 [.agg [.lit (.string (str [115])), .int 0, .int 1, .int 10, .int 0, .int 0, .sl 3 [.agg [.int 0, .int 0, .int 900000], .agg [.int 10, .int 0, .int 900000]]]], .lit (.slice none 0 0), .lit (.slice none 0 0), .int 0, .int 0], .int 3, .lit (.string (str [112, 111, 105, 110, 116]))])))]
  | 7 => [(507, .box 106 (.ag [.ag [.t (.sl 1 [.lit (.string (str [97])), .lit (.string (str [98]))]), .t (.sl 7 [.agg [.lit (.string (str [115])), .int 0, .int 1, .int 10, .int 0, .int 0, .sl 3 [.agg [.int 0, .int 0, .int 900000], .agg [.int 10, .int 0, .int 900000]]]]), .own 508, .t (.lit (.slice none 0 0)), .t (.int 0), .t (.int 0)], .t (.int 4), .t (.lit (.string (str [112, 111, 114, 116])))])), (508, .list 28 3 [.agg [.lit (.string (str [105, 110])), .int 0, .int 300000]])]
  | _ => [(507, .box 106 (.t (.agg [.agg [.sl 1 [.lit (.string (str [97])), .lit (.string (str [98]))], .sl 7 [.agg [.lit (.string (str [115])), .int 0, .int 1, .int 10, .int 0, .int 0, .sl 3 [.agg [.int 0, .int 0, .int 900000], .agg [.int 10, .int 0, .int 900000]]]], .sl 3 [.agg [.lit (.string (str [105, 110])), .int 0, .int 300000], .agg [.lit (.string (str [111, 117, 116])), .int 1, .int 0]], .lit (.slice none 0 0), .int 0, .int 0], .int 4, .lit (.string (str [112, 111, 114, 116]))])))]
theorem parse_fn : FnOk Tryz.prog 33 [.t txtR] [] (.tup [.t netR, .t (.int 0), .t (.int 0)]) [] := by
  have cs := split_fn
  have cc := chkR_fn
  refine FnOk.intro fact_mixed Tryz.func33 rfl Tryz.ntmps33 (by rfl) (by simp) ?_
  repeat (first | (refine nf1_sound rfl ?_; simp [go_sem, ↓iO, iO, tN]) | refine anI ?_ | refine ⟨dcK, ?_⟩ | ((first | refine iP ?_ | refine iN ?_); try simp [go_sem, ↓iO, iO, tN]))
  refine CallK.fn (cs) [(500, 600)] [] [] (by kernel_rfl) ?_ ?_ ?_ (Or.inl rfl) ?_ <;> simp [go_sem, ↓iO, iO, tN]
  repeat (refine anI ?_)
  try (refine ⟨dcK, ?_⟩)
  repeat (first | (refine nf1_sound rfl ?_; simp [go_sem, ↓iO, iO, tN]) | refine anI ?_ | refine ⟨dcK, ?_⟩ | ((first | refine iP ?_ | refine iN ?_); try simp [go_sem, ↓iO, iO, tN]))
  refine nf1_sound' _ _ _ ?_; simp only [nf1]
  refine CW.loop (ι := Nat) (fun k => ⟨[(2, .pt 502 [] 0), (7, .pt 507 [] 0), (23, .t (.sl 1 linesR)), (24, .t (.int 8)), (25, .t (.int k))], (502, .box 33 (.t (.agg [.lit (.slice none 0 0), .lit (.slice none 0 0), .lit (.slice none 0 0), .lit (.slice none 0 0), .int 0, .int 0]))) :: rdH k⟩) (fun k => k ≤ 8) (fun k => 8 - k) 0 [(502, some 102), (507, some 122)] (by omega) ?_ ?_
  · simp [go_sem, ↓iO, iO, tN, rdH]
    rfl
  intro k hk
  have h9 : k = 0 ∨ k = 1 ∨ k = 2 ∨ k = 3 ∨ k = 4 ∨ k = 5 ∨ k = 6 ∨ k = 7 ∨ k = 8 := by omega
  rcases h9 with rfl | rfl | rfl | rfl | rfl | rfl | rfl | rfl | rfl
  · have cl := ln1_fn
    repeat (first | (refine nf1_sound rfl ?_; simp [go_sem, ↓iO, iO, tN, rdH]) | refine anI ?_ | refine ⟨dcK, ?_⟩ | ((first | refine iP ?_ | refine iN ?_); try simp [go_sem, ↓iO, iO, tN, rdH]))
    refine CallK.fn (cl) [(0, 507)] [] [] (by kernel_rfl) ?_ ?_ ?_ (Or.inl rfl) ?_ <;> simp [go_sem, ↓iO, iO, tN]
    repeat (refine anI ?_)
    try (refine ⟨dcK, ?_⟩)
    repeat (first | (refine nf1_sound rfl ?_; simp [go_sem, ↓iO, iO, tN]) | refine anI ?_ | refine ⟨dcK, ?_⟩ | ((first | refine iP ?_ | refine iN ?_); try simp [go_sem, ↓iO, iO, tN]))
    rw [RoundQ_normal]; refine ⟨1, [(502, some 502), (507, some 507)], ?_, ?_, ?_⟩
    · omega
    · omega
    simp [go_sem, ↓iO, iO, tN, rdH]
  · have cl := ln2_fn
    repeat (first | (refine nf1_sound rfl ?_; simp [go_sem, ↓iO, iO, tN, rdH]) | refine anI ?_ | refine ⟨dcK, ?_⟩ | ((first | refine iP ?_ | refine iN ?_); try simp [go_sem, ↓iO, iO, tN, rdH]))
    refine CallK.fn (cl) [(0, 507), (1000, 610)] [] [] (by kernel_rfl) ?_ ?_ ?_ (Or.inl rfl) ?_ <;> simp [go_sem, ↓iO, iO, tN]
    repeat (refine anI ?_)
    try (refine ⟨dcK, ?_⟩)
    repeat (first | (refine nf1_sound rfl ?_; simp [go_sem, ↓iO, iO, tN]) | refine anI ?_ | refine ⟨dcK, ?_⟩ | ((first | refine iP ?_ | refine iN ?_); try simp [go_sem, ↓iO, iO, tN]))
    rw [RoundQ_normal]; refine ⟨2, [(502, some 502), (507, some 507), (508, some 610)], ?_, ?_, ?_⟩
    · omega
    · omega
    simp [go_sem, ↓iO, iO, tN, rdH]
  · have cl := ln3_fn
    repeat (first | (refine nf1_sound rfl ?_; simp [go_sem, ↓iO, iO, tN, rdH]) | refine anI ?_ | refine ⟨dcK, ?_⟩ | ((first | refine iP ?_ | refine iN ?_); try simp [go_sem, ↓iO, iO, tN, rdH]))
    refine CallK.fn (cl) [(0, 507), (1, 508), (1000, 610)] [] [] (by kernel_rfl) ?_ ?_ ?_ (Or.inl rfl) ?_ <;> simp [go_sem, ↓iO, iO, tN]
    repeat (refine anI ?_)
    try (refine ⟨dcK, ?_⟩)
    repeat (first | (refine nf1_sound rfl ?_; simp [go_sem, ↓iO, iO, tN]) | refine anI ?_ | refine ⟨dcK, ?_⟩ | ((first | refine iP ?_ | refine iN ?_); try simp [go_sem, ↓iO, iO, tN]))
    rw [RoundQ_normal]; refine ⟨3, [(502, some 502), (507, some 507)], ?_, ?_, ?_⟩
    · omega
    · omega
    simp [go_sem, ↓iO, iO, tN, rdH]
  · have cl := ln4_fn
    repeat (first | (refine nf1_sound rfl ?_; simp [go_sem, ↓iO, iO, tN, rdH]) | refine anI ?_ | refine ⟨dcK, ?_⟩ | ((first | refine iP ?_ | refine iN ?_); try simp [go_sem, ↓iO, iO, tN, rdH]))
    refine CallK.fn (cl) [(0, 507), (1000, 610)] [] [] (by kernel_rfl) ?_ ?_ ?_ (Or.inl rfl) ?_ <;> simp [go_sem, ↓iO, iO, tN]
    repeat (refine anI ?_)
    try (refine ⟨dcK, ?_⟩)
    repeat (first | (refine nf1_sound rfl ?_; simp [go_sem, ↓iO, iO, tN]) | refine anI ?_ | refine ⟨dcK, ?_⟩ | ((first | refine iP ?_ | refine iN ?_); try simp [go_sem, ↓iO, iO, tN]))
    rw [RoundQ_normal]; refine ⟨4, [(502, some 502), (507, some 507), (508, some 610)], ?_, ?_, ?_⟩
    · omega
    · omega
    simp [go_sem, ↓iO, iO, tN, rdH]
  · have cl := pline_fn [48] [48] [57, 48, 48, 48, 48, 48] 0 0 900000 num0_fn num0_fn num900000_fn [] (by simp) (by simp)
    refine CW.toRows 508 [.fw segF 35 3 []] (e := 38) (s := 7) (xs := [.agg [.lit (.string (str [115])), .int 0, .int 1, .int 10, .int 0, .int 0, .lit (.slice none 0 0)]]) (by rfl) (by rfl) (fun i x u h1 h2 => ?_) ?_
    · match i, h1, h2 with
      | 0, h1, h2 => cases h1; cases h2; unfold relTU; rfl
      | i + 1, h1, h2 => cases h1
    simp [go_sem, ↓iO, iO, tN, rdH]
    repeat (first | (refine nf1_sound rfl ?_; simp [go_sem, ↓iO, iO, tN, rdH]) | refine anI ?_ | refine ⟨dcK, ?_⟩ | ((first | refine iP ?_ | refine iN ?_); try simp [go_sem, ↓iO, iO, tN, rdH]))
    refine CallK.fn (cl) [(0, 507), (2, 508)] [] [] (by kernel_rfl) ?_ ?_ ?_ (Or.inl rfl) ?_ <;> simp [go_sem, ↓iO, iO, tN]
    repeat (refine anI ?_)
    try (refine ⟨dcK, ?_⟩)
    repeat (first | (refine nf1_sound rfl ?_; simp [go_sem, ↓iO, iO, tN]) | refine anI ?_ | refine ⟨dcK, ?_⟩ | ((first | refine iP ?_ | refine iN ?_); try simp [go_sem, ↓iO, iO, tN]))
    rw [RoundQ_normal]; refine ⟨5, [(502, some 502), (507, some 507), (508, some 508)], ?_, ?_, ?_⟩
    · omega
    · omega
    simp [go_sem, ↓iO, iO, tN, rdH]
  · have cl := pline2_fn [49, 48] [48] [57, 48, 48, 48, 48, 48] 10 0 900000 num10_fn num0_fn num900000_fn [.agg [.int 0, .int 0, .int 900000]] (by simp) (by simp [T.width, T.widths])
    repeat (first | (refine nf1_sound rfl ?_; simp [go_sem, ↓iO, iO, tN, rdH]) | refine anI ?_ | refine ⟨dcK, ?_⟩ | ((first | refine iP ?_ | refine iN ?_); try simp [go_sem, ↓iO, iO, tN, rdH]))
    refine CallK.fn (cl) [(0, 507), (2, 508)] [] [] (by kernel_rfl) ?_ ?_ ?_ (Or.inl rfl) ?_ <;> simp [go_sem, ↓iO, iO, tN]
    repeat (refine anI ?_)
    try (refine ⟨dcK, ?_⟩)
    repeat (first | (refine nf1_sound rfl ?_; simp [go_sem, ↓iO, iO, tN]) | refine anI ?_ | refine ⟨dcK, ?_⟩ | ((first | refine iP ?_ | refine iN ?_); try simp [go_sem, ↓iO, iO, tN]))
    rw [RoundQ_normal]; refine ⟨6, [(502, some 502), (507, some 507)], ?_, ?_, ?_⟩
    · omega
    · omega
    simp [go_sem, ↓iO, iO, tN, rdH]
  · have cl := ln7_fn
    repeat (first | (refine nf1_sound rfl ?_; simp [go_sem, ↓iO, iO, tN, rdH]) | refine anI ?_ | refine ⟨dcK, ?_⟩ | ((first | refine iP ?_ | refine iN ?_); try simp [go_sem, ↓iO, iO, tN, rdH]))
    refine CallK.fn (cl) [(0, 507), (1000, 610)] [] [] (by kernel_rfl) ?_ ?_ ?_ (Or.inl rfl) ?_ <;> simp [go_sem, ↓iO, iO, tN]
    repeat (refine anI ?_)
    try (refine ⟨dcK, ?_⟩)
    repeat (first | (refine nf1_sound rfl ?_; simp [go_sem, ↓iO, iO, tN]) | refine anI ?_ | refine ⟨dcK, ?_⟩ | ((first | refine iP ?_ | refine iN ?_); try simp [go_sem, ↓iO, iO, tN]))
    rw [RoundQ_normal]; refine ⟨7, [(502, some 502), (507, some 507), (508, some 610)], ?_, ?_, ?_⟩
    · omega
    · omega
    simp [go_sem, ↓iO, iO, tN, rdH]
  · have cl := ln8_fn
    repeat (first | (refine nf1_sound rfl ?_; simp [go_sem, ↓iO, iO, tN, rdH]) | refine anI ?_ | refine ⟨dcK, ?_⟩ | ((first | refine iP ?_ | refine iN ?_); try simp [go_sem, ↓iO, iO, tN, rdH]))
    refine CallK.fn (cl) [(0, 507), (1, 508), (1000, 610)] [] [] (by kernel_rfl) ?_ ?_ ?_ (Or.inl rfl) ?_ <;> simp [go_sem, ↓iO, iO, tN]
    repeat (refine anI ?_)
    try (refine ⟨dcK, ?_⟩)
    repeat (first | (refine nf1_sound rfl ?_; simp [go_sem, ↓iO, iO, tN]) | refine anI ?_ | refine ⟨dcK, ?_⟩ | ((first | refine iP ?_ | refine iN ?_); try simp [go_sem, ↓iO, iO, tN]))
    rw [RoundQ_normal]; refine ⟨8, [(502, some 502), (507, some 507)], ?_, ?_, ?_⟩
    · omega
    · omega
    simp [go_sem, ↓iO, iO, tN, rdH]
  · repeat (first | (refine nf1_sound rfl ?_; simp [go_sem, ↓iO, iO, tN, rdH]) | refine anI ?_ | refine ⟨dcK, ?_⟩ | ((first | refine iP ?_ | refine iN ?_); try simp [go_sem, ↓iO, iO, tN, rdH]))
    refine CallK.fn (cc) [] [] [] (by kernel_rfl) ?_ ?_ ?_ (Or.inl rfl) ?_ <;> simp [go_sem, ↓iO, iO, tN]
    repeat (refine anI ?_)
    try (refine ⟨dcK, ?_⟩)
    repeat (first | (refine nf1_sound rfl ?_; simp [go_sem, ↓iO, iO, tN]) | refine anI ?_ | refine ⟨dcK, ?_⟩ | ((first | refine iP ?_ | refine iN ?_); try simp [go_sem, ↓iO, iO, tN]))
    first | rw [RetQ_ret] | rw [RetQ_normal]
    refine ⟨[], ?_⟩
    simp [go_sem, ↓iO, iO, tN]
set_option maxRecDepth 100000
abbrev dR : LineD := { nodes := .sl 1 [.lit (.string (str [97])), .lit (.string (str [98]))], segs := [(⟨[115], 0, 1, 10, 0, 0⟩, [(0, 0, 900000), (10, 0, 900000)])], ports := [([105, 110], 0, 300000), ([111, 117, 116], 1, 0)], stat := .lit (.slice none 0 0), vap := .int 0, stl := .int 0, rates := [4], prates := [4, -4], pumps := .lit (.slice none 0 0), feeds := [2, 0] }
abbrev plR4 : T := .agg [.sl 1 [.int 4], .sl 1 [.int 4, .int (-4)], .lit (.slice none 0 0)]
theorem dR_ok : LineOk dR := ⟨rfl, rfl, rfl, rfl, rfl, rfl, rfl, rfl, by simp, by simp, by simp, by simp, by simp, by simp, by simp⟩
theorem ordR_fn : FnOk Tryz.prog 48 [.t (.agg dR.net), .t (.agg dR.plan)] [] (.tup [.t (.sl 1 (([0, 1] : List Int).map encI)), .t (.int 0)]) [] := evF_spec fact_mixed (knS_ok noKn_ok) 20 _ _ _ _ _ (by kernel_rfl : evF Tryz.prog (knS noKn) [56, 65] 200 20 48 [.t netR, .t plR4] [] = some (.tup [.t (.sl 1 [.int 0, .int 1]), .t (.int 0)], []))
def fR : Nat → Fi
  | 0 => [some [(1, 10)]]
  | 1 => [some [(2, 4), (1, 6)]]
  | 2 => [some [(2, 8), (1, 2)]]
  | _ => [some [(2, 10)]]
def gR : Nat → Fi
  | 0 => []
  | 1 => [some [(1, 4)]]
  | 2 => [some [(1, 4)]]
  | _ => [some [(1, 2), (2, 2)]]
def oR : Nat → Fi
  | 0 => []
  | 1 => [none, some [(1, 4)]]
  | 2 => [none, some [(1, 4)]]
  | _ => [none, some [(1, 2), (2, 2)]]
theorem tickR {f n o : List (Int × Int)} (hf : Pc.Vd f) (hl : f.length ≤ 10) (ho : Pc.Vd o) (hov : Pc.vol o = 4) (h : Pc.shift f [(2, 4)] false = (n, o)) : TickC dR [0, 1] [some f] [some n] [some o.reverse] [none, some o.reverse] := by
  intro gi oo
  have hp := push_at hf (vd_one (b := 2) (r := 4) (by omega) (by omega) (by omega)) (by simp; omega) h
  have hrv := vd_rev ho
  have h0 : NodeC dR _ 0 [some f] [none] [none, none] _ _ _ := node_seg dR dR_ok (.sl 1 (([0, 1] : List Int).map encI)) rfl [some f] [none] [none, none] 0 rfl rfl rfl [(2, 4)] rfl (by simp [dR, segYs, tgt, endA, endB]) (vd_one (by omega) (by omega) (by omega)) (by simp) 0 4 rfl rfl (by omega) (by omega) rfl f n o rfl hf hp
  have h1 : NodeC dR _ 1 [some n] [some o.reverse] [none, none] _ _ _ := node_prt dR dR_ok (.sl 1 (([0, 1] : List Int).map encI)) rfl [some n] [some o.reverse] [none, none] 1 rfl rfl rfl o.reverse (by unfold comesV; simp [dR, prtYs, segYs, prtPc, gvAt, tgt, endA, endB, absI]) (by
    intro z hz p hp
    have hz2 : z = (0, 4) := by simpa [dR, segYs, tgt, endA, endB, absI, show max (4 : Int) (-4) = 4 by decide] using hz
    subst hz2
    have : p ∈ o.reverse := hp
    have := hrv.each p this
    omega) hrv (fun e => by have h5 := vol_rev o; rw [e, hov] at h5; simp [Pc.vol] at h5) 1 4 rfl rfl (by omega) (by omega) (by rw [vol_rev, hov])
  exact tick_fn dR dR_ok [0, 1] (by simp) gi oo
    (fun k => match k with | 0 => [some f] | _ + 1 => [some n]) (fun k => match k with | 0 => [none] | _ + 1 => [some o.reverse]) (fun k => match k with | 0 => [none, none] | 1 => [none, none] | _ + 2 => [none, some o.reverse]) rfl rfl
    (fun k node hk => by
      match k, hk with
      | 0, hk => simp at hk; subst hk; exact h0
      | 1, hk => simp at hk; subst hk; exact h1
      | k + 2, hk => simp at hk)
theorem vdR (l : List (Int × Int)) (h : (l.all fun p => decide (0 ≤ p.1 ∧ p.1 < 1000 ∧ 0 < p.2)) = true) (hl : l.length ≤ 2) (hv : Pc.vol l ≤ 1000) (hn : ∀ p q, l = [p, q] → p.1 ≠ q.1) : Pc.Vd l := by
  match l, hl with
  | [], _ => exact Pc.vd_of_canon trivial (by simp) (by simp) (by simp [Pc.vol])
  | [p], _ =>
    simp at h
    exact Pc.vd_of_canon ⟨by omega, by simp, trivial⟩ (fun x hx => by simp at hx; subst hx; omega) (by simp) (by omega)
  | [p, q], _ =>
    simp at h
    exact Pc.vd_of_canon ⟨by omega, by simpa using hn p q rfl, by omega, by simp, trivial⟩ (fun x hx => by simp at hx; rcases hx with rfl | rfl <;> omega) (by simp) (by omega)
theorem oR_ok (k i : Nat) (hk : k < 3) : Pc.Sane (allV oR (k + 1) i) ∧ (Pc.join (allV oR (k + 1) i)).length ≤ 200 := by
  have h : (allV oR (k + 1) i).length ≤ 4 ∧ ∀ p ∈ allV oR (k + 1) i, p = (1, 4) ∨ p = (1, 2) ∨ p = (2, 2) := by
    match k, i, hk with
    | 0, 0, _ => simp [allV, oR]
    | 0, 1, _ => simp [allV, oR]
    | 0, i + 2, _ => simp [allV, oR]
    | 1, 0, _ => simp [allV, oR]
    | 1, 1, _ => simp [allV, oR]
    | 1, i + 2, _ => simp [allV, oR]
    | 2, 0, _ => simp [allV, oR]
    | 2, 1, _ => simp [allV, oR]
    | 2, i + 2, _ => simp [allV, oR]
    | k + 3, _, hk => omega
  refine ⟨⟨by omega, fun p hp => ?_⟩, ?_⟩
  · rcases h.2 p hp with rfl | rfl | rfl <;> simp
  · have := Pc.join_length (allV oR (k + 1) i); omega
theorem arunR_fn : FnOk Tryz.prog 16 [.t netR, .t (.sl 1 [.sl 2 [.agg [.int 1, .int 10]]]), .t plR4, .t (.sl 1 [.int 2, .int 0]), .t (.int 3)] [] (.tup [.own 1000, .t (.sl 1 [.sl 2 [], .sl 2 [.agg [.int 1, .int 10], .agg [.int 2, .int 2]]]), .t (.int 0)]) [(1000, .list 41 1 [.sl 2 [.agg [.int 2, .int 10]]])] :=
  arun_fn dR dR_ok chkR_fn [[(1, 10)]] ⟨rfl, fun g hg => by simp at hg; subst hg; exact vdR _ (by decide) (by simp) (by decide) (by simp), fun i g s hi hs => by
      match i, hi, hs with
      | 0, hi, hs => simp at hi; simp [dR] at hs; subst hi; subst hs; rfl
      | i + 1, hi, hs => simp at hi⟩ [0, 1] ordR_fn (fun x hx => by simp [dR] at hx; omega) 3 (by omega) fR gR oR rfl rfl rfl (fun k => by match k with | 0 => rfl | 1 => rfl | k + 2 => rfl)
    (fun k hk => by
      match k, hk with
      | 0, _ => exact tickR (o := [(1, 4)]) (vdR _ (by decide) (by simp) (by decide) (by simp)) (by simp) (vdR _ (by decide) (by simp) (by decide) (by simp)) rfl (by decide)
      | 1, _ => exact tickR (o := [(1, 4)]) (vdR _ (by decide) (by simp) (by decide) (by simp)) (by simp) (vdR _ (by decide) (by simp) (by decide) (by simp)) rfl (by decide)
      | 2, _ => exact tickR (o := [(2, 2), (1, 2)]) (vdR _ (by decide) (by simp) (by decide) (by simp)) (by simp) (vdR _ (by decide) (by simp) (by decide) (by simp)) rfl (by decide)
      | k + 3, hk => omega)
    (fun k i hk => (oR_ok k i hk).1) (fun k i p hk hp => by
      match k, i, hp with
      | 0, 0, hp => simp [oR] at hp
      | 0, 1, hp => simp [oR] at hp; subst hp; simp
      | 0, i + 2, hp => simp [oR] at hp
      | 1, 0, hp => simp [oR] at hp
      | 1, 1, hp => simp [oR] at hp; subst hp; simp
      | 1, i + 2, hp => simp [oR] at hp
      | k + 2, 0, hp => simp [oR] at hp
      | k + 2, 1, hp => simp [oR] at hp; rcases hp with rfl | rfl <;> simp
      | k + 2, i + 2, hp => simp [oR] at hp) (fun k i hk => (oR_ok k i hk).2)
theorem sameR_fn : FnOk Tryz.prog 17 [.t (.sl 2 [.agg [.int 1, .int 10], .agg [.int 2, .int 2]]), .t (.sl 2 [.agg [.int 1, .int 10], .agg [.int 2, .int 2]])] [] (.t (.bool true)) [] := evF_spec fact_mixed noKn_ok 20 _ _ _ _ _ (by kernel_rfl : evF Tryz.prog noKn [] 200 20 17 [.t (.sl 2 [.agg [.int 1, .int 10], .agg [.int 2, .int 2]]), .t (.sl 2 [.agg [.int 1, .int 10], .agg [.int 2, .int 2]])] [] = some (.t (.bool true), []))
theorem batR_fn : FnOk Tryz.prog 18 [.t (.sl 2 [.agg [.int 2, .int 10]]), .t (.int 2)] [] (.t (.int 10)) [] := evF_spec fact_mixed noKn_ok 20 _ _ _ _ _ (by kernel_rfl : evF Tryz.prog noKn [] 200 20 18 [.t (.sl 2 [.agg [.int 2, .int 10]]), .t (.int 2)] [] = some (.t (.int 10), []))
theorem running_fn : FnOk Tryz.prog 13 [] [] (.t (.bool true)) [] := by
  have c1 := parse_fn
  have c2 := arunR_fn
  have c3 := batR_fn
  have c4 := sameR_fn
  refine FnOk.intro fact_mixed Tryz.func13 rfl Tryz.ntmps13 (by rfl) (by simp) ?_
  repeat (first | (refine nf1_sound rfl ?_; simp [go_sem, ↓iO, iO, tN]) | refine anI ?_ | refine ⟨dcK, ?_⟩ | ((first | refine iP ?_ | refine iN ?_); try simp [go_sem, ↓iO, iO, tN]))
  refine CallK.fn (c1) [] [] [] (by kernel_rfl) ?_ ?_ ?_ (Or.inl rfl) ?_ <;> simp [go_sem, ↓iO, iO, tN]
  repeat (refine anI ?_)
  try (refine ⟨dcK, ?_⟩)
  · kernel_rfl
  repeat (first | (refine nf1_sound rfl ?_; simp [go_sem, ↓iO, iO, tN]) | refine anI ?_ | refine ⟨dcK, ?_⟩ | ((first | refine iP ?_ | refine iN ?_); try simp [go_sem, ↓iO, iO, tN]))
  refine CallK.fn (c2) [(1000, 600)] [] [116, 117, 118, 120] (by kernel_rfl) ?_ ?_ ?_ (Or.inl rfl) ?_ <;> simp [go_sem, ↓iO, iO, tN]
  repeat (refine anI ?_)
  try (refine ⟨dcK, ?_⟩)
  repeat (first | (refine nf1_sound rfl ?_; simp [go_sem, ↓iO, iO, tN]) | refine anI ?_ | refine ⟨dcK, ?_⟩ | ((first | refine iP ?_ | refine iN ?_); try simp [go_sem, ↓iO, iO, tN]))
  refine CallK.fn (c3) [] [] [] (by kernel_rfl) ?_ ?_ ?_ (Or.inl rfl) ?_ <;> simp [go_sem, ↓iO, iO, tN]
  repeat (refine anI ?_)
  try (refine ⟨dcK, ?_⟩)
  repeat (first | (refine nf1_sound rfl ?_; simp [go_sem, ↓iO, iO, tN]) | refine anI ?_ | refine ⟨dcK, ?_⟩ | ((first | refine iP ?_ | refine iN ?_); try simp [go_sem, ↓iO, iO, tN]))
  refine CallK.fn (c4) [] [154] [] (by kernel_rfl) ?_ ?_ ?_ (Or.inr ⟨?_, ?_⟩) ?_ <;> simp [go_sem, ↓iO, iO, tN]
  repeat (refine anI ?_)
  try (refine ⟨dcK, ?_⟩)
  repeat (first | (refine nf1_sound rfl ?_; simp [go_sem, ↓iO, iO, tN]) | refine anI ?_ | refine ⟨dcK, ?_⟩ | ((first | refine iP ?_ | refine iN ?_); try simp [go_sem, ↓iO, iO, tN]))
  first | rw [RetQ_ret] | rw [RetQ_normal]
  refine ⟨[], ?_⟩
  simp [go_sem, ↓iO, iO, tN]
end Go.Proofs.YtdjmklobfjigoaaGreatDoor
