/- Symbolic execution: is a slice nil? No condition. -/
import Derived.Test.YtgjfkklemelejaaSyM
import Derived.Laws.Cover3
namespace Go.Proofs.Ytgjfkklemelejaa.Sy
open Go.RowKit
set_option linter.unusedVariables false
set_option linter.unusedSimpArgs false
theorem binOk_nil {P : Program} {t e : TypeId} (he : elemB P t = some e) (x : Option Addr) (l c : Nat) : BinOk P .eql t (.slice x l c) (.slice none 0 0) (.bool x.isNone) := by
  have hu := und_elem he
  refine ⟨rfl, fun w a b => ?_⟩
  have := run_equal_slice_nil (P := P) (w := w) t e x l c hu
  simp [eqGuard, binOp, Sem.run_bind, this]
section
variable {N : Nat} {P : Program} {Q : Exit → St → Prop}
/-- Two views of one state: an operation's effect by the one, what is left by the other. -/
theorem wpOp_view {W : World} {G0 : Gh} {A : Nat → Prop} {ops : Array Oper} {i : Nat} {o : Oper} (ho : ops[i]? = some o) (hgd : o.guard = none) {G : Gh} {g1 g2 : Nat → S} {h : Nat → Option Blk} {a : Act} {w : World} {E : Eff} {R : Exit → Act → World → Prop} {K : Act → World → Prop}
    (hs1 : SatG N W G0 A G g1 h a w) (hs2 : SatG N W G0 A G g2 h a w) (hE : Does N P o (rdS g2) h E) (hnw : E.nw = []) (hdst : ∀ t, o.dst = some t → t < N)
    (hK : ∀ G' a' w', SatG N W G0 A G' (gput g1 o.dst E.r) (hupd E.u h) a' w' → K a' w') : wpOp P ops R i K a w := by
  unfold wpOp
  simp only [ho]
  rw [if_pos (by simp [Region.wanted, hgd])]
  refine .inl (hE W G0 A G g2 h a w R K hs2 (fun _ _ => rfl) (fun _ _ => rfl) (fun l hl => by rw [hnw] at hl; cases hl) ?_)
  intro v G' w' hx hr
  exact hK G' _ _ (hs1.step hx (fun l hl => by rw [hnw] at hl; cases hl) (fun l hl => by rw [hnw] at hl; cases hl) hr hdst)
theorem CW.nilTest {id : Nat} {d1 d2 s : Tmp} {ty ty2 t t' e : TypeId} {p1 p2 : String} {a1 a2 : Array Edge} {k : Nat} {xs : List T} {σ : St} (h0 : lkS σ.g s = .t (.sl k xs)) (he : elemB P t = some e)
    (h1 : xs = [] → Q .normal ⟨(d2, .t (.bool true)) :: (d1, .t (.sl k xs)) :: σ.g, σ.h⟩) (h2 : Q .normal ⟨(d2, .t (.bool false)) :: (d1, .t (.sl k xs)) :: σ.g, σ.h⟩) :
    CW N P (.region id #[⟨some d1, .move (.tmp s), ty, p1, a1, none⟩, ⟨some d2, .binOp .eql t (.tmp d1) (.const (.slice none 0 0)) t', ty2, p2, a2, none⟩] false) Q σ := by
  intro hm hc W G0 A a w hs
  obtain ⟨G, hs⟩ := hs
  simp only [okCode] at hc
  have hd := fun (j : Nat) (oj : Oper) (u : Nat) (hj : (#[⟨some d1, .move (.tmp s), ty, p1, a1, none⟩, ⟨some d2, .binOp .eql t (.tmp d1) (.const (.slice none 0 0)) t', ty2, p2, a2, none⟩] : Array Oper)[j]? = some oj) (ht : oj.dst = some u) => okOps_get hc (j := j) (by simpa using hj) ht
  refine wp_region ?_
  show wpOps P _ _ [0, 1] a w
  rw [wpOps_cons]
  refine wpOp_sy (e := some ⟨rdS (lkS σ.g) (.tmp s), [], [], []⟩) rfl hs ⟨fun t ht => hd 0 _ t rfl ht, ⟨_, rfl, does_move rfl⟩⟩ hd (by simp [eff]) ?_
  intro G1 b1 w1 hs1
  have hs1 : SatG N W G0 A G1 (gput (lkS σ.g) (some d1) (lkS σ.g s)) (hupd [] (lkB σ.h)) b1 w1 := hs1
  rw [h0] at hs1
  rw [wpOps_cons]
  have hv := hs1.slots d1
  rw [gput_same] at hv
  unfold RepS at hv; unfold Rep at hv
  obtain ⟨x, cap, cells, hu, hr, hw, hseg⟩ := hv
  have hs2 : SatG N W G0 A G1 (gput (gput (lkS σ.g) (some d1) (.t (.sl k xs))) (some d1) (.t (.lit (b1.tmps.getD d1 undef)))) (hupd [] (lkB σ.h)) b1 w1 := by
    refine { hs1 with slots := fun t => ?_ }
    by_cases e : t = d1
    · subst e
      rw [gput_same]
      unfold RepS; unfold Rep
      exact ⟨rfl, by rw [hu]; rfl⟩
    · have e2 : ∀ g : Nat → S, ∀ z, gput g (some d1) z t = g t := fun g z => gput_other (by intro h; exact e (Option.some.inj h).symm)
      rw [e2]
      exact hs1.slots t
  refine wpOp_view (E := ⟨.t (.lit (.bool x.isNone)), [], [], []⟩) rfl rfl hs1 hs2 (does_bin rfl (by simp only [rdS]; rw [gput_same, hu]) rfl (binOk_nil he x xs.length cap)) rfl (fun t ht => hd 1 _ t rfl ht) ?_
  intro G2 b2 w2 hs3
  show ∃ σ', Q .normal σ' ∧ Sat N W G0 A σ' b2 w2
  have hg : ∀ b : Bool, lkS ((d2, .t (.bool b)) :: (d1, .t (.sl k xs)) :: σ.g) = gput (gput (lkS σ.g) (some d1) (.t (.sl k xs))) (some d2) (.t (.lit (.bool b))) := fun b => by
    rw [← lkS_putS (some d1), ← lkS_putS (some d2)]; rfl
  cases x with
  | none =>
    have hx : xs = [] := by
      have h3 := hseg.nil rfl
      have h4 := hseg.le
      exact List.length_eq_zero_iff.1 (by omega)
    exact ⟨_, h1 hx, G2, by rw [hg]; exact hs3⟩
  | some x => exact ⟨_, h2, G2, by rw [hg]; exact hs3⟩
end
end Go.Proofs.Ytgjfkklemelejaa.Sy
