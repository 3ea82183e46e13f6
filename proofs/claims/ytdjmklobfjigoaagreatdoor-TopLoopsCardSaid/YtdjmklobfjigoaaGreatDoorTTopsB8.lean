/- Several texts of this proof, one behind the other. No condition. -/
import Derived.Test.YtdjmklobfjigoaaGreatDoorTTopsB7
import Derived.Laws.Cover3
import Derived.Deep.Slices
import Derived.WideShapes
import Derived.Carry
import Derived.ChangeOld
set_option maxRecDepth 100000
set_option maxHeartbeats 16000000
set_option linter.unusedVariables false
set_option linter.unusedSimpArgs false
/- Symbolic execution: is a slice nil? No condition. Symbolic execution: more; and the rules' names for the walk. No condition. From a contract of a law to what its statement asks. No condition. -/
namespace Go.Proofs.YtdjmklobfjigoaaGreatDoor.Sy
open Go.RowKit
section
variable {N : Nat} {P : Program} {Q : Exit → St → Prop}
theorem wpOp_view {W : World} {G0 : Gh} {A : Nat → Prop} {ops : Array Oper} {i : Nat} {o : Oper} (ho : ops[i]? = some o) (hgd : o.guard = none) {G : Gh} {g1 g2 : Nat → S} {h : Nat → Option Blk} {a : Act} {w : World} {E : Eff} {R : Exit → Act → World → Prop} {K : Act → World → Prop}
    (hs1 : SatG N W G0 A G g1 h a w) (hs2 : SatG N W G0 A G g2 h a w) (hE : Does N P o (rdS g2) h E) (hnw : E.nw = []) (hdst : ∀ t, o.dst = some t → t < N)
    (hK : ∀ G' a' w', SatG N W G0 A G' (gput g1 o.dst E.r) (hupd E.u h) a' w' → K a' w') : wpOp P ops R i K a w := by
  unfold wpOp
  simp only [ho]
  rw [if_pos (by simp [Region.wanted, hgd])]
  refine .inl (hE W G0 A G g2 h a w R K hs2 (fun _ _ => rfl) (fun _ _ => rfl) (fun l hl => by rw [hnw] at hl; cases hl) ?_)
  intro v G' w' hx hr
  exact hK G' _ _ (hs1.step hx (fun l hl => by rw [hnw] at hl; cases hl) (fun l hl => by rw [hnw] at hl; cases hl) hr hdst)
theorem CW.nilTest {id : Nat} {d1 d2 s : Tmp} {ty ty2 t t' e : TypeId} {p1 p2 : String} {a1 a2 : Array Edge} {k : Nat} {xs : List T} {σ : St} (h0 : lkS σ.g s = .t (.sl k xs)) (he : elemB P t = some e)
    (h1 : xs = [] → Q .normal ⟨(d2, .t (.bool true)) :: (d1, .t (.sl k xs)) :: σ.g, σ.h⟩) (h2 : Q .normal ⟨(d2, .t (.bool false)) :: (d1, .t (.sl k xs)) :: σ.g, σ.h⟩) :
    CW N P (.region id #[⟨some d1, .move (.tmp s), ty, p1, a1, none⟩, ⟨some d2, .binOp .eql t (.tmp d1) (.const (.slice none 0 0)) t', ty2, p2, a2, none⟩] false) Q σ := by
  intro hm hc W G0 A a w hs
  obtain ⟨G, hs⟩ := hs
  simp only [okCode] at hc
  have hd := fun (j : Nat) (oj : Oper) (u : Nat) (hj : (#[⟨some d1, .move (.tmp s), ty, p1, a1, none⟩, ⟨some d2, .binOp .eql t (.tmp d1) (.const (.slice none 0 0)) t', ty2, p2, a2, none⟩] : Array Oper)[j]? = some oj) (ht : oj.dst = some u) => okOps_get hc (j := j) (by simpa using hj) ht
  refine wp_region ?_
  show wpOps P _ _ [0, 1] a w
  rw [wpOps_cons]
  refine wpOp_sy (e := some ⟨rdS (lkS σ.g) (.tmp s), [], [], []⟩) rfl hs ⟨fun t ht => hd 0 _ t rfl ht, ⟨_, rfl, does_move rfl⟩⟩ hd (by simp [eff]) ?_
  intro G1 b1 w1 hs1
  have hs1 : SatG N W G0 A G1 (gput (lkS σ.g) (some d1) (lkS σ.g s)) (hupd [] (lkB σ.h)) b1 w1 := hs1
  rw [h0] at hs1
  rw [wpOps_cons]
  have hv := hs1.slots d1
  rw [gput_same] at hv
  unfold RepS at hv; unfold Rep at hv
  obtain ⟨x, cap, cells, hu, hr, hw, hseg⟩ := hv
  have hs2 : SatG N W G0 A G1 (gput (gput (lkS σ.g) (some d1) (.t (.sl k xs))) (some d1) (.t (.lit (b1.tmps.getD d1 undef)))) (hupd [] (lkB σ.h)) b1 w1 := by
    refine { hs1 with slots := fun t => ?_ }
    by_cases e : t = d1
    · subst e
      rw [gput_same]
      unfold RepS; unfold Rep
      exact ⟨rfl, by rw [hu]; rfl⟩
    · have e2 : ∀ g : Nat → S, ∀ z, gput g (some d1) z t = g t := fun g z => gput_other (by intro h; exact e (Option.some.inj h).symm)
      rw [e2]
      exact hs1.slots t
  refine wpOp_view (E := ⟨.t (.lit (.bool x.isNone)), [], [], []⟩) rfl rfl hs1 hs2 (does_bin rfl (by simp only [rdS]; rw [gput_same, hu]) rfl (binOk_nil he x xs.length cap)) rfl (fun t ht => hd 1 _ t rfl ht) ?_
  intro G2 b2 w2 hs3
  show ∃ σ', Q .normal σ' ∧ Sat N W G0 A σ' b2 w2
  have hg : ∀ b : Bool, lkS ((d2, .t (.bool b)) :: (d1, .t (.sl k xs)) :: σ.g) = gput (gput (lkS σ.g) (some d1) (.t (.sl k xs))) (some d2) (.t (.lit (.bool b))) := fun b => by
    rw [← lkS_putS (some d1), ← lkS_putS (some d2)]; rfl
  cases x with
  | none =>
    have hx : xs = [] := by
      have h3 := hseg.nil rfl
      have h4 := hseg.le
      exact List.length_eq_zero_iff.1 (by omega)
    exact ⟨_, h1 hx, G2, by rw [hg]; exact hs3⟩
  | some x => exact ⟨_, h2, G2, by rw [hg]; exact hs3⟩
end
end Go.Proofs.YtdjmklobfjigoaaGreatDoor.Sy
namespace Go.Proofs.YtdjmklobfjigoaaGreatDoor.Sy
open Go.RowKit
theorem rdS_tmp (g : Nat → S) (t : Nat) : rdS g (.tmp t) = g t := rfl
theorem rdS_func (g : Nat → S) (f : Nat) : rdS g (.func f) = .fn f [] := rfl
theorem rdS_int (g : Nat → S) (k : IntKind) (n : Int) : rdS g (.const (.int k n)) = .t (.lit (.int k n)) := rfl
theorem rdS_bool (g : Nat → S) (b : Bool) : rdS g (.const (.bool b)) = .t (.lit (.bool b)) := rfl
theorem rdS_string (g : Nat → S) (b : ByteArray) : rdS g (.const (.string b)) = .t (.lit (.string b)) := rfl
theorem rdS_nil (g : Nat → S) : rdS g (.const (.slice none 0 0)) = .t (.lit (.slice none 0 0)) := rfl
theorem rdS_nilp (g : Nat → S) : rdS g (.const (.pointer none)) = .t (.lit (.pointer none)) := rfl
theorem rdS_nilf (g : Nat → S) : rdS g (.const .nilFunc) = .t (.lit .nilFunc) := rfl
theorem rdS_nilm (g : Nat → S) : rdS g (.const (.map none)) = .t (.lit (.map none)) := rfl
theorem stops_nil (c : Code) : stops [] c = false := by unfold stops; split <;> rfl
theorem lkS_cons (t k : Nat) (s : S) (r : List (Nat × S)) : lkS ((t, s) :: r) k = bif k == t then s else lkS r k := by
  cases h : (k == t) <;> simp [lkS] <;> simp_all
theorem lkS_nil (k : Nat) : lkS [] k = .dead := rfl
theorem lkB_cons (t k : Nat) (s : Blk) (r : List (Nat × Blk)) : lkB ((t, s) :: r) k = bif k == t then some s else lkB r k := by
  cases h : (k == t) <;> simp [lkB] <;> simp_all
theorem delB_nil (l : Nat) : delB l [] = [] := rfl
theorem delB_cons (l k : Nat) (b : Blk) (r : List (Nat × Blk)) : delB l ((k, b) :: r) = bif k == l then delB l r else (k, b) :: delB l r := by
  cases h : (k == l) <;> simp [delB] <;> simp_all
theorem lkR_nil (k : Nat) : lkR [] k = none := rfl
theorem lkR_cons (l k : Nat) (r : Option Nat) (q : List (Nat × Option Nat)) : lkR ((l, r) :: q) k = bif k == l then some r else lkR q k := by
  cases h : (k == l) <;> simp [lkR] <;> simp_all
theorem rn_nil (k : Nat) : rn [] k = k := rfl
theorem rn_cons (l k r : Nat) (q : List (Nat × Nat)) : rn ((l, r) :: q) k = bif k == l then r else rn q k := by
  cases h : (k == l) <;> simp [rn] <;> simp_all
theorem BlockQ_exit (id i : Nat) (Q : Exit → St → Prop) (σ : St) : BlockQ id Q (.exit i) σ = bif i == id then Q .normal σ else Q (.exit i) σ := by
  cases h : (i == id) <;> simp [BlockQ] <;> simp_all
theorem BlockQ_normal (id : Nat) (Q : Exit → St → Prop) (σ : St) : BlockQ id Q .normal σ = Q .normal σ := rfl
theorem BlockQ_ret (id : Nat) (Q : Exit → St → Prop) (σ : St) : BlockQ id Q .ret σ = Q .ret σ := rfl
theorem SeqQ_exit (i : Nat) (F : St → Prop) (Q : Exit → St → Prop) (σ : St) : SeqQ F Q (.exit i) σ = Q (.exit i) σ := rfl
theorem SeqQ_normal (F : St → Prop) (Q : Exit → St → Prop) (σ : St) : SeqQ F Q .normal σ = F σ := rfl
theorem ScopeQ_exit (i : Nat) (Q : Exit → St → Prop) (σ : St) : ScopeQ Q (.exit i) σ = Q (.exit i) σ := rfl
theorem ScopeQ_normal (Q : Exit → St → Prop) (σ : St) : ScopeQ Q .normal σ = Q .normal σ := rfl
theorem ScopeQ_ret (Q : Exit → St → Prop) (σ : St) : ScopeQ Q .ret σ = Q .ret σ := rfl
theorem SeqQ_ret (F : St → Prop) (Q : Exit → St → Prop) (σ : St) : SeqQ F Q .ret σ = Q .ret σ := rfl
theorem RoundQ_normal {ι : Type} (I : ι → St) (Inv : ι → Prop) (μ : ι → Nat) (i : ι) (Q : Exit → St → Prop) (σ : St) : RoundQ I Inv μ i Q .normal σ = (∃ j ρ, Inv j ∧ μ j < μ i ∧ Wk ρ σ (I j)) := rfl
theorem RoundQ_exit {ι : Type} (I : ι → St) (Inv : ι → Prop) (μ : ι → Nat) (i : ι) (Q : Exit → St → Prop) (σ : St) (e : Nat) : RoundQ I Inv μ i Q (.exit e) σ = Q (.exit e) σ := rfl
theorem RoundQ_ret {ι : Type} (I : ι → St) (Inv : ι → Prop) (μ : ι → Nat) (i : ι) (Q : Exit → St → Prop) (σ : St) : RoundQ I Inv μ i Q .ret σ = Q .ret σ := rfl
theorem CutQ_normal {ι : Type} (I : ι → St) (Inv : ι → Prop) (Q : Exit → St → Prop) (σ : St) : CutQ I Inv Q .normal σ = (∃ j ρ, Inv j ∧ Wk ρ σ (I j)) := rfl
theorem CutQ_exit {ι : Type} (I : ι → St) (Inv : ι → Prop) (Q : Exit → St → Prop) (σ : St) (e : Nat) : CutQ I Inv Q (.exit e) σ = Q (.exit e) σ := rfl
theorem CutQ_ret {ι : Type} (I : ι → St) (Inv : ι → Prop) (Q : Exit → St → Prop) (σ : St) : CutQ I Inv Q .ret σ = Q .ret σ := rfl
theorem RetQ_ret (P : Program) (rs : List ResultVar) (r : S) (post : List (Nat × Blk)) (σ : St) : RetQ P rs r post .ret σ = (∃ ρ, retK P (lkS σ.g) (lkB σ.h) rs fun l => rhoOk ρ = true ∧ wkS ρ (lkB σ.h) (oneOf l) r ∧ wkH ρ (lkB σ.h) post) := rfl
theorem RetQ_normal (P : Program) (rs : List ResultVar) (r : S) (post : List (Nat × Blk)) (σ : St) : RetQ P rs r post .normal σ = (∃ ρ, retK P (lkS σ.g) (lkB σ.h) rs fun l => rhoOk ρ = true ∧ wkS ρ (lkB σ.h) (oneOf l) r ∧ wkH ρ (lkB σ.h) post) := rfl
theorem lkB_nil (k : Nat) : lkB [] k = none := rfl
theorem inR_i64 (n : Int) : inR .i64 n = (-9223372036854775808 ≤ n ∧ n ≤ 9223372036854775807) := rfl
theorem inR_u64 (n : Int) : inR .u64 n = (0 ≤ n ∧ n ≤ 18446744073709551615) := rfl
theorem inR_u8 (n : Int) : inR .u8 n = (0 ≤ n ∧ n ≤ 255) := rfl
theorem inR_u16 (n : Int) : inR .u16 n = (0 ≤ n ∧ n ≤ 65535) := rfl
theorem inR_u32 (n : Int) : inR .u32 n = (0 ≤ n ∧ n ≤ 4294967295) := rfl
theorem inR_i32 (n : Int) : inR .i32 n = (-2147483648 ≤ n ∧ n ≤ 2147483647) := rfl
theorem itePos {c : Prop} {_ : Decidable c} {a b : Prop} (hc : c) (h : a) : if c then a else b := by rw [if_pos hc]; exact h
theorem iteNeg {c : Prop} {_ : Decidable c} {a b : Prop} (hc : ¬ c) (h : b) : if c then a else b := by rw [if_neg hc]; exact h
theorem iP {c : Prop} {_ : Decidable c} {a b : Prop} (h : a) (hc : c := by omega) : if c then a else b := itePos hc h
theorem iN {c : Prop} {_ : Decidable c} {a b : Prop} (h : b) (hc : ¬ c := by omega) : if c then a else b := iteNeg hc h
theorem ite_dec (p : Prop) [Decidable p] (a b : Prop) : (if decide p = true then a else b) = if p then a else b := by simp
theorem ite_decf (p : Prop) [Decidable p] (a b : Prop) : (if decide p = false then a else b) = if p then b else a := by
  by_cases h : p <;> simp [h]
theorem ite_t (a b : Prop) : (if (true : Bool) = true then a else b) = a := by simp
theorem ite_f (a b : Prop) : (if (false : Bool) = true then a else b) = b := by simp
theorem ite_tf (a b : Prop) : (if (true : Bool) = false then a else b) = b := by simp
theorem ite_ff (a b : Prop) : (if (false : Bool) = false then a else b) = a := by simp
theorem ite_inR_i64 (n : Int) (a b : Prop) : (if inR .i64 n then a else b) = (if -9223372036854775808 ≤ n ∧ n ≤ 9223372036854775807 then a else b) := rfl
theorem ite_inR_u8 (n : Int) (a b : Prop) : (if inR .u8 n then a else b) = (if 0 ≤ n ∧ n ≤ 255 then a else b) := rfl
theorem ite_inR_u16 (n : Int) (a b : Prop) : (if inR .u16 n then a else b) = (if 0 ≤ n ∧ n ≤ 65535 then a else b) := rfl
theorem ite_inR_u32 (n : Int) (a b : Prop) : (if inR .u32 n then a else b) = (if 0 ≤ n ∧ n ≤ 4294967295 then a else b) := rfl
theorem ite_inR_u64 (n : Int) (a b : Prop) : (if inR .u64 n then a else b) = (if 0 ≤ n ∧ n ≤ 18446744073709551615 then a else b) := rfl
theorem ite_idx {α β : Type} (f : α → β) (l : List α) (n : Int) (a b : Prop) : (if 0 ≤ n ∧ n < ((l.map f).length : Int) then a else b) = (if 0 ≤ n ∧ n < (l.length : Int) then a else b) := by simp
theorem DrawChk_congr (ops : List Oper) (σ0 : St) (acc : List (Option Eff)) : DrawChk ops σ0 acc = DrawChk ops σ0 acc := rfl
theorem CW_congr (N : Nat) (P : Program) (c : Code) (Q : Exit → St → Prop) {σ σ' : St} (h : σ = σ') : CW N P c Q σ = CW N P c Q σ' := by rw [h]
theorem CallK_congr (P : Program) (f : FuncId) {as as' : List S} {h h' : Nat → Option Blk} (d : Nat) (K : Eff → Prop) (h1 : as = as') (h2 : h = h') : CallK P f as h d K = CallK P f as' h' d K := by rw [h1, h2]
theorem KN_congr (σ : St) (dst : Option Tmp) (acc : List (Option Eff)) (K : St → List (Option Eff) → Prop) {E E' : Eff} (h : E = E') : KN σ dst acc K E = KN σ dst acc K E' := by rw [h]
theorem opsK_congr (P : Program) (all : List Oper) (K : St → List (Option Eff) → Prop) (r : List Oper) {σ σ' : St} {acc acc' : List (Option Eff)} (h : σ = σ') (h2 : acc = acc') : opsK P all K r σ acc = opsK P all K r σ' acc' := by rw [h, h2]
theorem RoundQ_congr {ι : Type} (I : ι → St) (Inv : ι → Prop) (μ : ι → Nat) (i : ι) (Q : Exit → St → Prop) (e : Exit) {σ σ' : St} (h : σ = σ') : RoundQ I Inv μ i Q e σ = RoundQ I Inv μ i Q e σ' := by rw [h]
theorem CutQ_congr {ι : Type} (I : ι → St) (Inv : ι → Prop) (Q : Exit → St → Prop) (e : Exit) {σ σ' : St} (h : σ = σ') : CutQ I Inv Q e σ = CutQ I Inv Q e σ' := by rw [h]
theorem RetQ_congr (P : Program) (rs : List ResultVar) (r : S) (post : List (Nat × Blk)) (e : Exit) {σ σ' : St} (h : σ = σ') : RetQ P rs r post e σ = RetQ P rs r post e σ' := by rw [h]
theorem opsK_nil (P : Program) (all : List Oper) (K : St → List (Option Eff) → Prop) (σ : St) (acc : List (Option Eff)) : opsK P all K [] σ acc = K σ acc := rfl
theorem opsK_o (P : Program) (all : List Oper) (K : St → List (Option Eff) → Prop) (dst : Option Tmp) (op : Op) (ty : TypeId) (pos : String) (after : Array Edge) (r : List Oper) (σ : St) (acc : List (Option Eff)) :
    opsK P all K (⟨dst, op, ty, pos, after, none⟩ :: r) σ acc = opK P op (lab ⟨dst, op, ty, pos, after, none⟩) (rdS (lkS σ.g)) (lkB σ.h) (KN σ dst acc (opsK P all K r)) := rfl
theorem opsK_g (P : Program) (all : List Oper) (K : St → List (Option Eff) → Prop) (dst : Option Tmp) (op : Op) (ty : TypeId) (pos : String) (after : Array Edge) (j : Nat) (b : Bool) (r : List Oper) (σ : St) (acc : List (Option Eff)) :
    opsK P all K (⟨dst, op, ty, pos, after, some (j, b)⟩ :: r) σ acc = (match gslot all j with
      | some t => match lkS σ.g t with
        | .t (.lit (.bool c)) => if c = b then opK P op (lab ⟨dst, op, ty, pos, after, some (j, b)⟩) (rdS (lkS ((t, .t (.bool b)) :: σ.g))) (lkB σ.h) (KN ⟨(t, .t (.bool b)) :: σ.g, σ.h⟩ dst acc (opsK P all K r))
            else opsK P all K r ⟨putS dst (.tup []) ((t, .t (.bool (!b))) :: σ.g), σ.h⟩ (none :: acc)
        | .tup [] => opsK P all K r ⟨putS dst (.tup []) σ.g, σ.h⟩ (none :: acc)
        | _ => False
      | none => False) := rfl
theorem DrawChk_of {ops : List Oper} {σ0 : St} {acc : List (Option Eff)} (h : (drawOk2 ops acc.reverse && nwsOk σ0 acc) = true) : DrawChk ops σ0 acc := by
  unfold DrawChk
  rw [← drawOk2_eq]
  exact h
theorem dcK {ops : List Oper} {σ0 : St} {acc : List (Option Eff)} (h : (drawOk2 ops acc.reverse && nwsOk σ0 acc) = true := by kernel_rfl) : DrawChk ops σ0 acc := DrawChk_of h
theorem anI {a b : Prop} (h : b) (ha : a := by omega) : a ∧ b := ⟨ha, h⟩
attribute [congr] DrawChk_congr CW_congr CallK_congr KN_congr opsK_congr RoundQ_congr CutQ_congr RetQ_congr
attribute [go_sem ↓] indexK nilEqK arrEqK wkT_same wkTs_same arK ite_inR_i64 ite_inR_u8 ite_inR_u16 ite_inR_u32 ite_inR_u64 ite_idx ite_dec ite_decf ite_t ite_f ite_tf ite_ff nf nf1 opK PlainK DrawK ScopeQ_exit ScopeQ_normal ScopeQ_ret SeqQ_exit SeqQ_normal SeqQ_ret BlockQ_exit BlockQ_normal BlockQ_ret pickK allocK boxK loadK storeK fieldAddrK indexAddrK fieldK extractK litK binYK nilIK binK binV unK convK convBK buildSliceK ptrsOf ptrsP buildPtrK lenK minK maxK appendK appendOK appendWK copyK copyOK copyWK copyVK copyIK frzK builtK callK makeFuncK stops_nil RoundQ_exit RoundQ_ret CutQ_exit CutQ_ret boolK aggK nilK sliceK sliceTK buildK retK makeSliceK slice3K clipK bnd3
attribute [go_sem] fnT litFn wkTs_same kX encD widths_encD widths_encD_take encK widths_encK widths_encK_take kB encU bytesT bytesT_app bytesT_map bytesT_take bytesT_drop bytesT_cut allU8 allU8_app allU8_map allU8_take allU8_drop allU8_cut str_size opsK_nil opsK_o opsK_g KN rdS_tmp rdS_func rdS_int rdS_bool rdS_string rdS_nil rdS_nilp rdS_nilf rdS_nilm lkS_cons lkS_nil lkB_cons lkB_nil putS updB delB_nil delB_cons lab nwOk allFreeS allFreeB S.free S.frees Blk.free S.width S.widths T.width T.widths S.solid S.isAg okLd T.at S.at Blk.at T.set S.set Blk.set partsT srcOf gslot allW
  inR_i64 inR_u64 inR_u8 inR_u16 inR_u32 inR_i32 enumS eqV eqFs bldS allT clp bndI bndJ Wk rhoOk wkG wkH wkS wkSs wkPs wkT wkTs wkB lkR_nil lkR_cons offR oneOf
  frzK ownsL ownsS ownsSs frzS frzSs hput callE frU rn_nil rn_cons S.ren S.rens Blk.ren postU newL lostL argPs argR argRs preR borR flatS flatSs flatT flatTs flatH flatB
  lkE curU delE putE freesE wkE U.toT
end Go.Proofs.YtdjmklobfjigoaaGreatDoor.Sy
namespace Go.Proofs.YtdjmklobfjigoaaGreatDoor.Sy
open Go.RowKit
def lawG (w : World) : Gh := ⟨fun b => b < w.heap.size, fun _ => .bool false, fun _ => noF⟩
theorem law_run {P : Program} {f : FuncId} {ss : List S} {us : List Value} {w : World} (h : FnOk P f ss [] (.t (.bool true)) []) (hr : RepPs (lawG w) w ss us) :
    Calls P f us.toArray w fun e w' => e = .returned (.bool true) ∧ Below w.heap.size w w' := by
  have hn : ∀ l x, lkB [] l = some x → False := fun l x hx => by simp [lkB] at hx
  have hh : HeapOk (lawG w) w (lkB []) := ⟨fun l b hb => (hn l b hb).elim, fun l b hb => (hn l b hb).elim, fun l b k hb => (hn l b hb).elim, fun l l' b b' k hb => (hn l b hb).elim, fun b hb => hb⟩
  refine Calls.mono (h (lawG w) w us hh hr) ?_
  rintro e w' ⟨v, G', rfl, hf, _, hv⟩
  unfold RepS at hv; unfold Rep at hv
  refine ⟨by rw [hv.1], ⟨hf.os, hf.tape, hf.output, hf.size, fun b hb => hf.block b hb ?_⟩⟩
  rintro ⟨l, x, hx, _⟩
  exact hn l x hx
theorem rep_lit {w : World} {v : Value} (h : v.oneCell' = true) : RepS (lawG w) w (.t (.lit v)) v := by
  unfold RepS; unfold Rep; exact ⟨rfl, h⟩
theorem reps_cons {G : Gh} {w : World} {s : S} {ss : List S} {v : Value} {us : List Value} (h : RepS G w s v) (h2 : RepPs G w ss us) : RepPs G w (s :: ss) (v :: us) := by
  unfold RepPs; exact ⟨v, us, rfl, h, h2⟩
theorem reps_nil {G : Gh} {w : World} : RepPs G w [] [] := by unfold RepPs; rfl
end Go.Proofs.YtdjmklobfjigoaaGreatDoor.Sy
/- What a statement's arguments are: from the reading of a value at a type to a tree of that type's shape. No condition. -/
namespace Go.Proofs.YtdjmklobfjigoaaGreatDoor.Sy
open Go.RowKit Go.WideShapes Go.ChangeShapes
inductive Sh where
  | int (k : IntKind)
  | bool
  | str
  | sl (e : Sh)
  | st (fs : List Sh)
mutual
def Sh.width : Sh → Nat
  | .st fs => Sh.widths fs
  | _ => 1
def Sh.widths : List Sh → Nat
  | [] => 0
  | x :: r => x.width + Sh.widths r
end
mutual
def InSh : Sh → T → Prop
  | .int k, .lit (.int k' n) => k' = k ∧ (Lit.int k n).wf = true
  | .bool, .lit (.bool _) => True
  | .str, .lit (.string s) => s.size ≤ maxLen
  | .sl e, .sl s xs => s = e.width ∧ xs.length ≤ maxLen ∧ ∀ x ∈ xs, InSh e x
  | .st es, .agg xs => InShs es xs
  | _, _ => False
def InShs : List Sh → List T → Prop
  | [], [] => True
  | e :: es, x :: xs => InSh e x ∧ InShs es xs
  | _, _ => False
end
theorem insh_list {α : Type} {e : Sh} {en : α → T} {Q : α → Prop} (h : ∀ x, InSh e x → ∃ p, x = en p ∧ Q p) : ∀ (xs : List T), (∀ x ∈ xs, InSh e x) → ∃ l : List α, xs = l.map en ∧ ∀ p ∈ l, Q p
  | [], _ => ⟨[], rfl, by simp⟩
  | x :: r, hx => by
    obtain ⟨p, rfl, hq⟩ := h x (hx x (List.mem_cons_self))
    obtain ⟨l, rfl, hl⟩ := insh_list h r fun y hy => hx y (List.mem_cons_of_mem _ hy)
    exact ⟨p :: l, rfl, fun y hy => by
      rcases List.mem_cons.1 hy with rfl | hy
      · exact hq
      · exact hl y hy⟩
theorem insh_int {k : IntKind} {x : T} (h : InSh (.int k) x) : ∃ n, x = .lit (.int k n) ∧ (Lit.int k n).wf = true := by
  unfold InSh at h
  split at h <;> simp_all
theorem insh_bool {x : T} (h : InSh .bool x) : ∃ b, x = .lit (.bool b) := by
  unfold InSh at h
  split at h <;> simp_all
theorem insh_str {x : T} (h : InSh .str x) : ∃ s, x = .lit (.string s) ∧ s.size ≤ maxLen := by
  unfold InSh at h
  split at h <;> simp_all
theorem insh_sl {e : Sh} {x : T} (h : InSh (.sl e) x) : ∃ xs, x = .sl e.width xs ∧ xs.length ≤ maxLen ∧ ∀ y ∈ xs, InSh e y := by
  cases x <;> simp [InSh] at h
  rename_i s xs
  obtain ⟨rfl, h1, h2⟩ := h
  exact ⟨xs, rfl, h1, h2⟩
def elB : Sh → Nat
  | .int .i64 => 8
  | _ => 1
mutual
def shOk (P : Program) : Sh → TypeId → Bool
  | .int k, t => decide (intB P t = some k)
  | .bool, t => boolB P t
  | .str, t => strB P t
  | .sl e, t => match P.underlying t with
    | some (.slice u) => shOk P e u && decide (P.cellsOf u = e.width) && decide (0 < e.width) && decide (elB e ≤ P.bytesOf u)
    | _ => false
  | .st es, t => match P.underlying t with
    | some (.struct fs) => shOks P es fs.toList 0 && decide (P.cellsOf t = Sh.widths es)
    | _ => false
def shOks (P : Program) : List Sh → List Field → Nat → Bool
  | [], [], _ => true
  | e :: es, f :: fs, o => decide (f.offset = o) && decide (P.cellsOf f.type = e.width) && shOk P e f.type && shOks P es fs (o + e.width)
  | _, _, _ => false
end
mutual
def SzT : T → Prop
  | .lit _ => True
  | .sl _ xs => xs.length ≤ reachBytes
  | .agg xs => SzTs xs
def SzTs : List T → Prop
  | [] => True
  | x :: r => SzT x ∧ SzTs r
end
def listB : List T → Nat
  | .lit (.int .i64 _) :: _ => 8
  | _ => 1
mutual
def SzD : T → Prop
  | .lit _ => True
  | .sl _ xs => xs.length * listB xs ≤ reachBytes ∧ SzDs xs
  | .agg xs => SzDs xs
def SzDs : List T → Prop
  | [] => True
  | x :: r => SzD x ∧ SzDs r
end
theorem SzDs.of : ∀ {xs : List T}, (∀ x ∈ xs, SzD x) → SzDs xs
  | [], _ => by unfold SzDs; trivial
  | x :: r, h => by unfold SzDs; exact ⟨h x (List.mem_cons_self ..), SzDs.of fun y hy => h y (List.mem_cons_of_mem _ hy)⟩
theorem elB_pos (e : Sh) : 1 ≤ elB e := by unfold elB; split <;> omega
theorem listB_le {e : Sh} : ∀ {xs : List T}, (∀ x ∈ xs, InSh e x) → listB xs ≤ elB e
  | [], _ => by unfold listB; exact elB_pos e
  | x :: r, h => by
    have hx := h x (List.mem_cons_self ..)
    unfold listB
    split
    · rename_i heq
      cases heq
      cases e <;> simp [InSh] at hx
      obtain ⟨rfl, _⟩ := hx
      simp [elB]
    · exact elB_pos e
theorem weightsAll_all {H : Type} {P : Program} {e : TypeId} {p : Nat → Bool} : ∀ {l : List (DataW H)}, (DataW.weightsAll P e l).all p = true → ∀ d ∈ l, (d.weights P e).all p = true
  | [], _, d, hd => by cases hd
  | x :: r, h, d, hd => by
    unfold DataW.weightsAll at h
    rw [List.all_append, Bool.and_eq_true] at h
    rcases List.mem_cons.1 hd with rfl | hd
    · exact h.1
    · exact weightsAll_all h.2 d hd
section
variable {H : Type} {enc : TypeId × Value → H} {P : Program} {w : World} {base : Nat} {spare : Nat → Bool} {held : Bool}
def OpenAt (w : World) (Z : Prop) (sh : Sh) (cs : List Value) : Prop := ∃ x v, InSh sh x ∧ cs = v.cells.toList ∧ (∀ ws, sh = .st ws → v = .agg cs.toArray) ∧ Rep (fun b => b < w.heap.size) w x v ∧ (Z → SzT x ∧ SzD x)
theorem str_und {t : TypeId} (h : strB P t = true) : P.underlying t = some .string := by
  unfold strB at h; split at h <;> simp_all
theorem bool_und {t : TypeId} (h : boolB P t = true) : P.underlying t = some .bool := by
  unfold boolB at h; split at h <;> simp_all
theorem rows_of {Z : Nat → Prop} {s c off b : Nat} {e : Sh} (hs : 0 < s) (he : e.width = s) : ∀ (len : Nat), (∀ i, i < len → ∃ cs', (cs'.length = s ∧ ∀ j, j < s → w.cell? ⟨b, off + (i * s + j), none⟩ = cs'[j]?) ∧ OpenAt w (Z i) e cs') →
    ∃ xs cells, xs.length = len ∧ Reps (fun b => b < w.heap.size) w xs cells ∧ cells.length = len * s ∧ (∀ j u, cells[j]? = some u → w.cell? ⟨b, off + j, none⟩ = some u) ∧ (∀ x ∈ xs, InSh e x ∧ x.width = s) ∧ ((∀ i, i < len → Z i) → ∀ x ∈ xs, SzD x)
  | 0, _ => ⟨[], [], rfl, by unfold Reps; rfl, by simp, by simp, by simp, by simp⟩
  | len + 1, h => by
    obtain ⟨xs, cells, h1, h2, h3, h4, h5, hz⟩ := rows_of (c := c) hs he len fun i hi => h i (by omega)
    obtain ⟨cs', ⟨h6, h7⟩, x, v, h8, h9, _, h10, hzx⟩ := h len (by omega)
    have hw := Rep.width x v h10
    have hvl : v.cells.toList.length = s := by rw [← h9, h6]
    have hxw : x.width = s := by rw [← hw, ← hvl]; simp
    refine ⟨xs ++ [x], cells ++ cs', by simp [h1], ?_, by rw [List.length_append, h3, h6, Nat.add_mul, Nat.one_mul], ?_, ?_, ?_⟩
    · refine Reps.append h2 ?_
      unfold Reps
      exact ⟨v, [], by rw [h9, List.append_nil], h10, by unfold Reps; rfl⟩
    · intro j u hu
      by_cases hj : j < cells.length
      · rw [List.getElem?_append_left hj] at hu; exact h4 j u hu
      · rw [List.getElem?_append_right (by omega), h3] at hu
        have hjs := (List.getElem?_eq_some_iff.1 hu).1
        rw [h6] at hjs
        have := h7 (j - len * s) hjs
        rw [hu, show len * s + (j - len * s) = j by omega] at this
        exact this
    · intro y hy
      rcases List.mem_append.1 hy with hy | hy
      · exact h5 y hy
      · simp at hy; subst hy; exact ⟨h8, hxw⟩
    · intro hall y hy
      rcases List.mem_append.1 hy with hy | hy
      · exact hz (fun i hi => hall i (by omega)) y hy
      · simp at hy; subst hy; exact (hzx (hall len (by omega))).2
mutual
theorem open_trod : ∀ (sh : Sh) (fuel : Nat) (t : TypeId) (cs : List Value) (x : DataW H × List MemPlace), shOk P sh t = true → DataW.trod enc P w base spare held fuel t cs = some x → OpenAt w ((x.1.weights P t).all (· ≤ reachBytes) = true) sh cs
  | .int k, fuel, t, cs, x, hs, h => by
    simp only [shOk, decide_eq_true_eq] at hs
    obtain ⟨n, rfl, _, hw⟩ := DataW.trod_int (und_int hs) h
    exact ⟨.lit (.int k n), .int k n, ⟨rfl, hw⟩, rfl, by simp, by unfold Rep; exact ⟨rfl, rfl⟩, fun _ => ⟨by unfold SzT; trivial, by unfold SzD; trivial⟩⟩
  | .bool, fuel, t, cs, x, hs, h => by
    simp only [shOk] at hs
    obtain ⟨b, rfl, _⟩ := DataW.trod_bool (bool_und hs) h
    exact ⟨.lit (.bool b), .bool b, trivial, rfl, by simp, by unfold Rep; exact ⟨rfl, rfl⟩, fun _ => ⟨by unfold SzT; trivial, by unfold SzD; trivial⟩⟩
  | .str, fuel, t, cs, x, hs, h => by
    simp only [shOk] at hs
    obtain ⟨s, rfl, _, hm⟩ := DataW.trod_string (str_und hs) h
    exact ⟨.lit (.string s), .string s, hm, rfl, by simp, by unfold Rep; exact ⟨rfl, rfl⟩, fun _ => ⟨by unfold SzT; trivial, by unfold SzD; trivial⟩⟩
  | .sl e, fuel, t, cs, x, hs, h => by
    simp only [shOk] at hs
    split at hs
    · rename_i u hu
      simp only [Bool.and_eq_true, decide_eq_true_eq] at hs
      obtain ⟨⟨⟨h1, h2⟩, h3⟩, hby⟩ := hs
      rcases Deep.open_slice hu h with ⟨rfl, _⟩ | ⟨a, len, cap, m, n, D, Pl, rfl, hb, hl, hm, hmm, rfl, hx⟩
      · refine ⟨.sl e.width [], .slice none 0 0, ?_, rfl, by simp, rep_nil e.width, fun _ => ⟨by unfold SzT; simp, by unfold SzD SzDs; simp⟩⟩
        unfold InSh; exact ⟨rfl, by simp, by simp⟩
      · have hml : len ≤ m := by rw [hmm]; split <;> omega
        by_cases h0 : len = 0
        · subst h0
          refine ⟨.sl e.width [], .slice (some a) 0 cap, ?_, rfl, by simp, ?_, fun _ => ⟨by unfold SzT; simp, by unfold SzD SzDs; simp⟩⟩
          · unfold InSh; exact ⟨rfl, by simp, by simp⟩
          · unfold Rep
            exact ⟨some a, cap, [], rfl, by unfold Reps; rfl, by simp, ⟨Nat.zero_le _, hm, by simp, fun h => (by cases h), .inl rfl⟩⟩
        · obtain ⟨b, off, spot⟩ := a
          obtain ⟨cs0, g1, _⟩ := hx 0 (by omega)
          obtain ⟨_, g2, g3⟩ := World.cells?_some g1
          have g4 := g3 0 (by omega)
          rw [List.getElem?_eq_getElem (by omega)] at g4
          have hspot : spot = none := by simpa [Addr.add] using World.cell?_spot g4
          subst hspot
          have hbl : b < w.heap.size := by
            have := World.block_lt_of_cell? _ _ g4
            simpa [Addr.add] using this
          have hadd : ∀ i, (⟨b, off, none⟩ : Addr).add i = ⟨b, off + i, none⟩ := fun i => by unfold Addr.add; split <;> simp_all
          obtain ⟨xs, cells, k1, k2, k3, k4, k5, k6⟩ := rows_of (w := w) (Z := fun i => ((D i).weights P u).all (· ≤ reachBytes) = true) (c := 0) (b := b) (off := off) h3 rfl len (e := e) (fun i hi => by
            obtain ⟨cs', q1, q2⟩ := hx i (by omega)
            obtain ⟨_, q3, q4⟩ := World.cells?_some q1
            rw [h2] at q3 q4
            refine ⟨cs', ⟨q3, fun j hj => ?_⟩, open_trod e n u cs' _ h1 q2⟩
            have := q4 j hj
            rw [Deep.add_add, hadd] at this
            exact this)
          have hz : ((DataW.slice ((List.range len).map D) ((List.range (m - len)).map fun j => D (len + j))).weights P t).all (· ≤ reachBytes) = true → SzT (.sl e.width xs) ∧ SzD (.sl e.width xs) := by
            intro hz
            unfold DataW.weights at hz
            rw [hu] at hz
            simp only [List.all_cons, List.all_append, Bool.and_eq_true, decide_eq_true_eq, List.length_map, List.length_range] at hz
            have h5 := Nat.mul_le_mul (Nat.le_add_right len (m - len)) hby
            have h6 := Nat.mul_le_mul (Nat.le_refl len) (elB_pos e)
            have h7 := Nat.mul_le_mul (Nat.le_refl len) (listB_le (e := e) (xs := xs) fun x hx => (k5 x hx).1)
            unfold SzT SzD
            rw [k1]
            exact ⟨by omega, by omega, SzDs.of (k6 fun i hi => weightsAll_all hz.2.1 _ (List.mem_map.2 ⟨i, List.mem_range.2 hi, rfl⟩))⟩
          refine ⟨.sl e.width xs, .slice (some ⟨b, off, none⟩) len cap, ?_, rfl, by simp, ?_, hz⟩
          · unfold InSh; exact ⟨rfl, by omega, fun x hx => (k5 x hx).1⟩
          · unfold Rep
            refine ⟨some ⟨b, off, none⟩, cap, cells, by rw [k1], k2, fun y hy => (k5 y hy).2, ?_⟩
            exact ⟨by omega, hm, by rw [k1]; exact k3, fun h => (by cases h), .inr ⟨b, off, rfl, hbl, k4⟩⟩
    · cases hs
  | .st es, fuel, t, cs, x, hs, h => by
    simp only [shOk] at hs
    split at hs
    · rename_i fs hu
      simp only [Bool.and_eq_true, decide_eq_true_eq] at hs
      obtain ⟨ys, n, _, rfl, hl, hlen, hf⟩ := DataW.trod_struct hu h
      obtain ⟨xs, h1, h2, h3⟩ := open_trods es n fs.toList ys 0 cs hs.1 (by simpa using hlen) (fun i f hi => hf i f (by simpa using hi)) (by rw [hl, hs.2]; omega)
      refine ⟨.agg xs, .agg cs.toArray, by unfold InSh; exact h1, by simp [Value.cells], fun _ _ => rfl, ?_, ?_⟩
      · unfold Rep
        exact ⟨cs, rfl, by simpa using h2⟩
      · intro hz
        unfold DataW.weights at hz
        rw [hu] at hz
        unfold SzT SzD
        exact h3 hz
    · cases hs
theorem open_trods : ∀ (es : List Sh) (n : Nat) (fs : List Field) (ys : List (DataW H × List MemPlace)) (o : Nat) (cs : List Value), shOks P es fs o = true → ys.length = fs.length →
    (∀ (i : Nat) (f : Field), fs[i]? = some f → DataW.trod enc P w base spare held n f.type ((cs.drop f.offset).take (P.cellsOf f.type)) = ys[i]?) → cs.length = o + Sh.widths es →
    ∃ xs, InShs es xs ∧ Reps (fun b => b < w.heap.size) w xs (cs.drop o) ∧ ((DataW.weightsEach P (fs.map (·.type)) (ys.map (·.1))).all (· ≤ reachBytes) = true → SzTs xs ∧ SzDs xs)
  | [], n, fs, ys, o, cs, hs, hyl, hf, hl => by
    cases fs with
    | nil => exact ⟨[], by unfold InShs; trivial, by unfold Reps; simp [Sh.widths] at hl; rw [List.drop_eq_nil_of_le (by omega)], fun _ => ⟨by unfold SzTs; trivial, by unfold SzDs; trivial⟩⟩
    | cons f fs => simp [shOks] at hs
  | e :: es, n, fs, ys, o, cs, hs, hyl, hf, hl => by
    cases fs with
    | nil => simp [shOks] at hs
    | cons f fs =>
      cases ys with
      | nil => simp at hyl
      | cons y ys =>
        simp only [shOks, Bool.and_eq_true, decide_eq_true_eq] at hs
        obtain ⟨⟨⟨h1, h2⟩, h3⟩, h4⟩ := hs
        have hy := hf 0 f rfl
        simp only [List.getElem?_cons_zero] at hy
        obtain ⟨x, v, g1, g2, _, g3, g6⟩ := open_trod e n f.type _ _ h3 hy
        simp only [Sh.widths] at hl
        obtain ⟨xs, g4, g5, g7⟩ := open_trods es n fs ys (o + e.width) cs h4 (by simpa using hyl) (fun i q hi => by have := hf (i + 1) q (by simpa using hi); simpa using this) (by omega)
        refine ⟨x :: xs, by unfold InShs; exact ⟨g1, g4⟩, ?_, ?_⟩
        · unfold Reps
          refine ⟨v, cs.drop (o + e.width), ?_, g3, g5⟩
          rw [← g2, h1, h2, ← List.drop_drop]
          exact (List.take_append_drop _ _).symm
        · intro hz
          simp only [List.map_cons, DataW.weightsEach, List.all_append, Bool.and_eq_true] at hz
          unfold SzTs SzDs
          exact ⟨⟨(g6 hz.1).1, (g7 hz.2).1⟩, (g6 hz.1).2, (g7 hz.2).2⟩
end
theorem cells_inj {u v : Value} (hu : u.oneCell' = true) (hv : v.oneCell' = true) (h : u.cells.toList = v.cells.toList) : u = v := by
  rw [cells_one hu, cells_one hv] at h
  simpa using h
theorem open_any {r : Reach} {b0 : Nat} {t : TypeId} {v : Value} {d : DataW H} {ps : List MemPlace} (sh : Sh) (hs : shOk P sh t = true) (hval : Value.okWide P w r b0 t v) (hd : DataW.Trod enc P w base spare held t v d ps) :
    ∃ x, InSh sh x ∧ RepS (lawG w) w (.t x) v ∧ ((d.weights P t).all (· ≤ reachBytes) = true → SzT x ∧ SzD x) := by
  obtain ⟨fuel, hf⟩ := hd
  obtain ⟨x, u, h1, h2, h3, h4, h5⟩ := open_trod sh fuel t _ _ hs hf
  refine ⟨x, h1, ?_, h5⟩
  have hu : u = v := by
    cases sh with
    | st es =>
      have e1 := h3 es rfl
      simp only [shOk] at hs
      split at hs
      · rename_i fs hfs
        obtain ⟨cs, rfl, _⟩ := okWide_struct hfs hval
        rw [e1]; simp [Value.cells]
      · cases hs
    | int k =>
      simp only [shOk, decide_eq_true_eq] at hs
      obtain ⟨n, rfl⟩ := okWide_int (und_int hs) hval
      exact (cells_inj rfl (by obtain ⟨_, rfl, _⟩ := insh_int h1; unfold Rep at h4; rw [h4.1]; exact h4.2) h2).symm
    | bool =>
      simp only [shOk] at hs
      obtain ⟨n, rfl⟩ := okWide_bool (bool_und hs) hval
      exact (cells_inj rfl (by obtain ⟨_, rfl⟩ := insh_bool h1; unfold Rep at h4; rw [h4.1]; exact h4.2) h2).symm
    | str =>
      simp only [shOk] at hs
      obtain ⟨n, rfl⟩ := okWide_string (str_und hs) hval
      exact (cells_inj rfl (by obtain ⟨_, rfl, _⟩ := insh_str h1; unfold Rep at h4; rw [h4.1]; exact h4.2) h2).symm
    | sl e =>
      simp only [shOk] at hs
      split at hs
      · rename_i q hq
        obtain ⟨a, l, c, rfl⟩ := okWide_slice hq hval
        exact (cells_inj rfl (by obtain ⟨_, rfl, _⟩ := insh_sl h1; unfold Rep at h4; obtain ⟨_, _, _, rfl, _⟩ := h4; rfl) h2).symm
      · cases hs
  unfold RepS
  rw [← hu]; exact h4
end
end Go.Proofs.YtdjmklobfjigoaaGreatDoor.Sy
