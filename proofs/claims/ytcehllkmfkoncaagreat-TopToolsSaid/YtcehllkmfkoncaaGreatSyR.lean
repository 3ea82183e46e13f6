/- Symbolic execution: is a slice nil? No condition. Symbolic execution: more; and the rules' names for the walk. No condition. From a contract of a law to what its statement asks. No condition. -/
import Derived.Test.YtcehllkmfkoncaaGreatSyM
import Derived.Laws.Cover3
namespace Go.Proofs.YtcehllkmfkoncaaGreat.Sy
open Go.RowKit
set_option linter.unusedVariables false
set_option linter.unusedSimpArgs false
section
variable {N : Nat} {P : Program} {Q : Exit → St → Prop}
/-- Two views of one state: an operation's effect by the one, what is left by the other. -/
theorem wpOp_view {W : World} {G0 : Gh} {A : Nat → Prop} {ops : Array Oper} {i : Nat} {o : Oper} (ho : ops[i]? = some o) (hgd : o.guard = none) {G : Gh} {g1 g2 : Nat → S} {h : Nat → Option Blk} {a : Act} {w : World} {E : Eff} {R : Exit → Act → World → Prop} {K : Act → World → Prop}
    (hs1 : SatG N W G0 A G g1 h a w) (hs2 : SatG N W G0 A G g2 h a w) (hE : Does N P o (rdS g2) h E) (hnw : E.nw = []) (hdst : ∀ t, o.dst = some t → t < N)
    (hK : ∀ G' a' w', SatG N W G0 A G' (gput g1 o.dst E.r) (hupd E.u h) a' w' → K a' w') : wpOp P ops R i K a w := by
  unfold wpOp
  simp only [ho]
  rw [if_pos (by simp [Region.wanted, hgd])]
  refine .inl (hE W G0 A G g2 h a w R K hs2 (fun _ _ => rfl) (fun _ _ => rfl) (fun l hl => by rw [hnw] at hl; cases hl) ?_)
  intro v G' w' hx hr
  exact hK G' _ _ (hs1.step hx (fun l hl => by rw [hnw] at hl; cases hl) (fun l hl => by rw [hnw] at hl; cases hl) hr hdst)
theorem CW.nilTest {id : Nat} {d1 d2 s : Tmp} {ty ty2 t t' e : TypeId} {p1 p2 : String} {a1 a2 : Array Edge} {k : Nat} {xs : List T} {σ : St} (h0 : lkS σ.g s = .t (.sl k xs)) (he : elemB P t = some e)
    (h1 : xs = [] → Q .normal ⟨(d2, .t (.bool true)) :: (d1, .t (.sl k xs)) :: σ.g, σ.h⟩) (h2 : Q .normal ⟨(d2, .t (.bool false)) :: (d1, .t (.sl k xs)) :: σ.g, σ.h⟩) :
    CW N P (.region id #[⟨some d1, .move (.tmp s), ty, p1, a1, none⟩, ⟨some d2, .binOp .eql t (.tmp d1) (.const (.slice none 0 0)) t', ty2, p2, a2, none⟩] false) Q σ := by
  intro hm hc W G0 A a w hs
  obtain ⟨G, hs⟩ := hs
  simp only [okCode] at hc
  have hd := fun (j : Nat) (oj : Oper) (u : Nat) (hj : (#[⟨some d1, .move (.tmp s), ty, p1, a1, none⟩, ⟨some d2, .binOp .eql t (.tmp d1) (.const (.slice none 0 0)) t', ty2, p2, a2, none⟩] : Array Oper)[j]? = some oj) (ht : oj.dst = some u) => okOps_get hc (j := j) (by simpa using hj) ht
  refine wp_region ?_
  show wpOps P _ _ [0, 1] a w
  rw [wpOps_cons]
  refine wpOp_sy (e := some ⟨rdS (lkS σ.g) (.tmp s), [], [], []⟩) rfl hs ⟨fun t ht => hd 0 _ t rfl ht, ⟨_, rfl, does_move rfl⟩⟩ hd (by simp [eff]) ?_
  intro G1 b1 w1 hs1
  have hs1 : SatG N W G0 A G1 (gput (lkS σ.g) (some d1) (lkS σ.g s)) (hupd [] (lkB σ.h)) b1 w1 := hs1
  rw [h0] at hs1
  rw [wpOps_cons]
  have hv := hs1.slots d1
  rw [gput_same] at hv
  unfold RepS at hv; unfold Rep at hv
  obtain ⟨x, cap, cells, hu, hr, hw, hseg⟩ := hv
  have hs2 : SatG N W G0 A G1 (gput (gput (lkS σ.g) (some d1) (.t (.sl k xs))) (some d1) (.t (.lit (b1.tmps.getD d1 undef)))) (hupd [] (lkB σ.h)) b1 w1 := by
    refine { hs1 with slots := fun t => ?_ }
    by_cases e : t = d1
    · subst e
      rw [gput_same]
      unfold RepS; unfold Rep
      exact ⟨rfl, by rw [hu]; rfl⟩
    · have e2 : ∀ g : Nat → S, ∀ z, gput g (some d1) z t = g t := fun g z => gput_other (by intro h; exact e (Option.some.inj h).symm)
      rw [e2]
      exact hs1.slots t
  refine wpOp_view (E := ⟨.t (.lit (.bool x.isNone)), [], [], []⟩) rfl rfl hs1 hs2 (does_bin rfl (by simp only [rdS]; rw [gput_same, hu]) rfl (binOk_nil he x xs.length cap)) rfl (fun t ht => hd 1 _ t rfl ht) ?_
  intro G2 b2 w2 hs3
  show ∃ σ', Q .normal σ' ∧ Sat N W G0 A σ' b2 w2
  have hg : ∀ b : Bool, lkS ((d2, .t (.bool b)) :: (d1, .t (.sl k xs)) :: σ.g) = gput (gput (lkS σ.g) (some d1) (.t (.sl k xs))) (some d2) (.t (.lit (.bool b))) := fun b => by
    rw [← lkS_putS (some d1), ← lkS_putS (some d2)]; rfl
  cases x with
  | none =>
    have hx : xs = [] := by
      have h3 := hseg.nil rfl
      have h4 := hseg.le
      exact List.length_eq_zero_iff.1 (by omega)
    exact ⟨_, h1 hx, G2, by rw [hg]; exact hs3⟩
  | some x => exact ⟨_, h2, G2, by rw [hg]; exact hs3⟩
end
end Go.Proofs.YtcehllkmfkoncaaGreat.Sy
namespace Go.Proofs.YtcehllkmfkoncaaGreat.Sy
open Go.RowKit
set_option linter.unusedVariables false
set_option linter.unusedSimpArgs false
theorem rdS_tmp (g : Nat → S) (t : Nat) : rdS g (.tmp t) = g t := rfl
theorem rdS_func (g : Nat → S) (f : Nat) : rdS g (.func f) = .fn f [] := rfl
theorem rdS_int (g : Nat → S) (k : IntKind) (n : Int) : rdS g (.const (.int k n)) = .t (.lit (.int k n)) := rfl
theorem rdS_bool (g : Nat → S) (b : Bool) : rdS g (.const (.bool b)) = .t (.lit (.bool b)) := rfl
theorem rdS_string (g : Nat → S) (b : ByteArray) : rdS g (.const (.string b)) = .t (.lit (.string b)) := rfl
theorem rdS_nil (g : Nat → S) : rdS g (.const (.slice none 0 0)) = .t (.lit (.slice none 0 0)) := rfl
theorem rdS_nilp (g : Nat → S) : rdS g (.const (.pointer none)) = .t (.lit (.pointer none)) := rfl
theorem rdS_nilf (g : Nat → S) : rdS g (.const .nilFunc) = .t (.lit .nilFunc) := rfl
theorem rdS_nilm (g : Nat → S) : rdS g (.const (.map none)) = .t (.lit (.map none)) := rfl
theorem stops_nil (c : Code) : stops [] c = false := by unfold stops; split <;> rfl
theorem lkS_cons (t k : Nat) (s : S) (r : List (Nat × S)) : lkS ((t, s) :: r) k = bif k == t then s else lkS r k := by
  cases h : (k == t) <;> simp [lkS] <;> simp_all
theorem lkS_nil (k : Nat) : lkS [] k = .dead := rfl
theorem lkB_cons (t k : Nat) (s : Blk) (r : List (Nat × Blk)) : lkB ((t, s) :: r) k = bif k == t then some s else lkB r k := by
  cases h : (k == t) <;> simp [lkB] <;> simp_all
theorem delB_nil (l : Nat) : delB l [] = [] := rfl
theorem delB_cons (l k : Nat) (b : Blk) (r : List (Nat × Blk)) : delB l ((k, b) :: r) = bif k == l then delB l r else (k, b) :: delB l r := by
  cases h : (k == l) <;> simp [delB] <;> simp_all
theorem lkR_nil (k : Nat) : lkR [] k = none := rfl
theorem lkR_cons (l k : Nat) (r : Option Nat) (q : List (Nat × Option Nat)) : lkR ((l, r) :: q) k = bif k == l then some r else lkR q k := by
  cases h : (k == l) <;> simp [lkR] <;> simp_all
theorem rn_nil (k : Nat) : rn [] k = k := rfl
theorem rn_cons (l k r : Nat) (q : List (Nat × Nat)) : rn ((l, r) :: q) k = bif k == l then r else rn q k := by
  cases h : (k == l) <;> simp [rn] <;> simp_all
theorem BlockQ_exit (id i : Nat) (Q : Exit → St → Prop) (σ : St) : BlockQ id Q (.exit i) σ = bif i == id then Q .normal σ else Q (.exit i) σ := by
  cases h : (i == id) <;> simp [BlockQ] <;> simp_all
theorem BlockQ_normal (id : Nat) (Q : Exit → St → Prop) (σ : St) : BlockQ id Q .normal σ = Q .normal σ := rfl
theorem BlockQ_ret (id : Nat) (Q : Exit → St → Prop) (σ : St) : BlockQ id Q .ret σ = Q .ret σ := rfl
theorem SeqQ_exit (i : Nat) (F : St → Prop) (Q : Exit → St → Prop) (σ : St) : SeqQ F Q (.exit i) σ = Q (.exit i) σ := rfl
theorem SeqQ_normal (F : St → Prop) (Q : Exit → St → Prop) (σ : St) : SeqQ F Q .normal σ = F σ := rfl
theorem ScopeQ_exit (i : Nat) (Q : Exit → St → Prop) (σ : St) : ScopeQ Q (.exit i) σ = Q (.exit i) σ := rfl
theorem ScopeQ_normal (Q : Exit → St → Prop) (σ : St) : ScopeQ Q .normal σ = Q .normal σ := rfl
theorem ScopeQ_ret (Q : Exit → St → Prop) (σ : St) : ScopeQ Q .ret σ = Q .ret σ := rfl
theorem SeqQ_ret (F : St → Prop) (Q : Exit → St → Prop) (σ : St) : SeqQ F Q .ret σ = Q .ret σ := rfl
theorem RoundQ_normal {ι : Type} (I : ι → St) (Inv : ι → Prop) (μ : ι → Nat) (i : ι) (Q : Exit → St → Prop) (σ : St) : RoundQ I Inv μ i Q .normal σ = (∃ j ρ, Inv j ∧ μ j < μ i ∧ Wk ρ σ (I j)) := rfl
theorem RoundQ_exit {ι : Type} (I : ι → St) (Inv : ι → Prop) (μ : ι → Nat) (i : ι) (Q : Exit → St → Prop) (σ : St) (e : Nat) : RoundQ I Inv μ i Q (.exit e) σ = Q (.exit e) σ := rfl
theorem RoundQ_ret {ι : Type} (I : ι → St) (Inv : ι → Prop) (μ : ι → Nat) (i : ι) (Q : Exit → St → Prop) (σ : St) : RoundQ I Inv μ i Q .ret σ = Q .ret σ := rfl
theorem CutQ_normal {ι : Type} (I : ι → St) (Inv : ι → Prop) (Q : Exit → St → Prop) (σ : St) : CutQ I Inv Q .normal σ = (∃ j ρ, Inv j ∧ Wk ρ σ (I j)) := rfl
theorem CutQ_exit {ι : Type} (I : ι → St) (Inv : ι → Prop) (Q : Exit → St → Prop) (σ : St) (e : Nat) : CutQ I Inv Q (.exit e) σ = Q (.exit e) σ := rfl
theorem CutQ_ret {ι : Type} (I : ι → St) (Inv : ι → Prop) (Q : Exit → St → Prop) (σ : St) : CutQ I Inv Q .ret σ = Q .ret σ := rfl
theorem RetQ_ret (P : Program) (rs : List ResultVar) (r : S) (post : List (Nat × Blk)) (σ : St) : RetQ P rs r post .ret σ = (∃ ρ, retK P (lkS σ.g) (lkB σ.h) rs fun l => rhoOk ρ = true ∧ wkS ρ (lkB σ.h) (oneOf l) r ∧ wkH ρ (lkB σ.h) post) := rfl
theorem RetQ_normal (P : Program) (rs : List ResultVar) (r : S) (post : List (Nat × Blk)) (σ : St) : RetQ P rs r post .normal σ = (∃ ρ, retK P (lkS σ.g) (lkB σ.h) rs fun l => rhoOk ρ = true ∧ wkS ρ (lkB σ.h) (oneOf l) r ∧ wkH ρ (lkB σ.h) post) := rfl
theorem lkB_nil (k : Nat) : lkB [] k = none := rfl
theorem inR_i64 (n : Int) : inR .i64 n = (-9223372036854775808 ≤ n ∧ n ≤ 9223372036854775807) := rfl
theorem inR_u64 (n : Int) : inR .u64 n = (0 ≤ n ∧ n ≤ 18446744073709551615) := rfl
theorem inR_u8 (n : Int) : inR .u8 n = (0 ≤ n ∧ n ≤ 255) := rfl
theorem inR_u16 (n : Int) : inR .u16 n = (0 ≤ n ∧ n ≤ 65535) := rfl
theorem inR_u32 (n : Int) : inR .u32 n = (0 ≤ n ∧ n ≤ 4294967295) := rfl
theorem inR_i32 (n : Int) : inR .i32 n = (-2147483648 ≤ n ∧ n ≤ 2147483647) := rfl
theorem itePos {c : Prop} {_ : Decidable c} {a b : Prop} (hc : c) (h : a) : if c then a else b := by rw [if_pos hc]; exact h
theorem iteNeg {c : Prop} {_ : Decidable c} {a b : Prop} (hc : ¬ c) (h : b) : if c then a else b := by rw [if_neg hc]; exact h
theorem ite_dec (p : Prop) [Decidable p] (a b : Prop) : (if decide p = true then a else b) = if p then a else b := by simp
theorem ite_decf (p : Prop) [Decidable p] (a b : Prop) : (if decide p = false then a else b) = if p then b else a := by
  by_cases h : p <;> simp [h]
theorem ite_t (a b : Prop) : (if (true : Bool) = true then a else b) = a := by simp
theorem ite_f (a b : Prop) : (if (false : Bool) = true then a else b) = b := by simp
theorem ite_tf (a b : Prop) : (if (true : Bool) = false then a else b) = b := by simp
theorem ite_ff (a b : Prop) : (if (false : Bool) = false then a else b) = a := by simp
theorem ite_inR_i64 (n : Int) (a b : Prop) : (if inR .i64 n then a else b) = (if -9223372036854775808 ≤ n ∧ n ≤ 9223372036854775807 then a else b) := rfl
theorem ite_inR_u8 (n : Int) (a b : Prop) : (if inR .u8 n then a else b) = (if 0 ≤ n ∧ n ≤ 255 then a else b) := rfl
theorem ite_inR_u16 (n : Int) (a b : Prop) : (if inR .u16 n then a else b) = (if 0 ≤ n ∧ n ≤ 65535 then a else b) := rfl
theorem ite_inR_u32 (n : Int) (a b : Prop) : (if inR .u32 n then a else b) = (if 0 ≤ n ∧ n ≤ 4294967295 then a else b) := rfl
theorem ite_inR_u64 (n : Int) (a b : Prop) : (if inR .u64 n then a else b) = (if 0 ≤ n ∧ n ≤ 18446744073709551615 then a else b) := rfl
theorem ite_idx {α β : Type} (f : α → β) (l : List α) (n : Int) (a b : Prop) : (if 0 ≤ n ∧ n < ((l.map f).length : Int) then a else b) = (if 0 ≤ n ∧ n < (l.length : Int) then a else b) := by simp
theorem match_some_get {α : Type} {xs : List α} {k : Nat} {x : α} (h : xs[k]? = some x) : xs[k]? = some x := h

theorem DrawChk_congr (ops : List Oper) (σ0 : St) (acc : List (Option Eff)) : DrawChk ops σ0 acc = DrawChk ops σ0 acc := rfl
theorem CW_congr (N : Nat) (P : Program) (c : Code) (Q : Exit → St → Prop) {σ σ' : St} (h : σ = σ') : CW N P c Q σ = CW N P c Q σ' := by rw [h]
theorem CallK_congr (P : Program) (f : FuncId) {as as' : List S} {h h' : Nat → Option Blk} (d : Nat) (K : Eff → Prop) (h1 : as = as') (h2 : h = h') : CallK P f as h d K = CallK P f as' h' d K := by rw [h1, h2]
theorem KN_congr (σ : St) (dst : Option Tmp) (acc : List (Option Eff)) (K : St → List (Option Eff) → Prop) {E E' : Eff} (h : E = E') : KN σ dst acc K E = KN σ dst acc K E' := by rw [h]
theorem opsK_congr (P : Program) (all : List Oper) (K : St → List (Option Eff) → Prop) (r : List Oper) {σ σ' : St} {acc acc' : List (Option Eff)} (h : σ = σ') (h2 : acc = acc') : opsK P all K r σ acc = opsK P all K r σ' acc' := by rw [h, h2]
theorem RoundQ_congr {ι : Type} (I : ι → St) (Inv : ι → Prop) (μ : ι → Nat) (i : ι) (Q : Exit → St → Prop) (e : Exit) {σ σ' : St} (h : σ = σ') : RoundQ I Inv μ i Q e σ = RoundQ I Inv μ i Q e σ' := by rw [h]
theorem CutQ_congr {ι : Type} (I : ι → St) (Inv : ι → Prop) (Q : Exit → St → Prop) (e : Exit) {σ σ' : St} (h : σ = σ') : CutQ I Inv Q e σ = CutQ I Inv Q e σ' := by rw [h]
theorem RetQ_congr (P : Program) (rs : List ResultVar) (r : S) (post : List (Nat × Blk)) (e : Exit) {σ σ' : St} (h : σ = σ') : RetQ P rs r post e σ = RetQ P rs r post e σ' := by rw [h]
theorem opsK_nil (P : Program) (all : List Oper) (K : St → List (Option Eff) → Prop) (σ : St) (acc : List (Option Eff)) : opsK P all K [] σ acc = K σ acc := rfl
theorem opsK_o (P : Program) (all : List Oper) (K : St → List (Option Eff) → Prop) (dst : Option Tmp) (op : Op) (ty : TypeId) (pos : String) (after : Array Edge) (r : List Oper) (σ : St) (acc : List (Option Eff)) :
    opsK P all K (⟨dst, op, ty, pos, after, none⟩ :: r) σ acc = opK P op (lab ⟨dst, op, ty, pos, after, none⟩) (rdS (lkS σ.g)) (lkB σ.h) (KN σ dst acc (opsK P all K r)) := rfl
theorem opsK_g (P : Program) (all : List Oper) (K : St → List (Option Eff) → Prop) (dst : Option Tmp) (op : Op) (ty : TypeId) (pos : String) (after : Array Edge) (j : Nat) (b : Bool) (r : List Oper) (σ : St) (acc : List (Option Eff)) :
    opsK P all K (⟨dst, op, ty, pos, after, some (j, b)⟩ :: r) σ acc = (match gslot all j with
      | some t => match lkS σ.g t with
        | .t (.lit (.bool c)) => if c = b then opK P op (lab ⟨dst, op, ty, pos, after, some (j, b)⟩) (rdS (lkS ((t, .t (.bool b)) :: σ.g))) (lkB σ.h) (KN ⟨(t, .t (.bool b)) :: σ.g, σ.h⟩ dst acc (opsK P all K r))
            else opsK P all K r ⟨putS dst (.tup []) ((t, .t (.bool (!b))) :: σ.g), σ.h⟩ (none :: acc)
        | .tup [] => opsK P all K r ⟨putS dst (.tup []) σ.g, σ.h⟩ (none :: acc)
        | _ => False
      | none => False) := rfl
theorem DrawChk_of {ops : List Oper} {σ0 : St} {acc : List (Option Eff)} (h : (drawOk2 ops acc.reverse && nwsOk σ0 acc) = true) : DrawChk ops σ0 acc := by
  unfold DrawChk
  rw [← drawOk2_eq]
  exact h
theorem dcK {ops : List Oper} {σ0 : St} {acc : List (Option Eff)} (h : (drawOk2 ops acc.reverse && nwsOk σ0 acc) = true := by kernel_rfl) : DrawChk ops σ0 acc := DrawChk_of h
theorem anI {a b : Prop} (h : b) (ha : a := by omega) : a ∧ b := ⟨ha, h⟩
attribute [congr] DrawChk_congr CW_congr CallK_congr KN_congr opsK_congr RoundQ_congr CutQ_congr RetQ_congr
attribute [go_sem ↓] indexK nilEqK arrEqK wkT_same wkTs_same arK ite_inR_i64 ite_inR_u8 ite_inR_u16 ite_inR_u32 ite_inR_u64 ite_idx ite_dec ite_decf ite_t ite_f ite_tf ite_ff nf nf1 opK PlainK DrawK ScopeQ_exit ScopeQ_normal ScopeQ_ret SeqQ_exit SeqQ_normal SeqQ_ret BlockQ_exit BlockQ_normal BlockQ_ret pickK allocK boxK loadK storeK fieldAddrK indexAddrK fieldK extractK litK binK binV unK convK convBK buildSliceK ptrsOf ptrsP buildPtrK lenK minK maxK appendK appendOK appendWK copyK copyOK copyWK copyVK copyIK frzK builtK callK makeFuncK stops_nil RoundQ_exit RoundQ_ret CutQ_exit CutQ_ret boolK aggK nilK sliceK buildK retK makeSliceK slice3K clipK bnd3
attribute [go_sem] fnT litFn wkTs_same kX encD widths_encD widths_encD_take encK widths_encK widths_encK_take kB encU bytesT bytesT_app bytesT_map bytesT_take bytesT_drop bytesT_cut allU8 allU8_app allU8_map allU8_take allU8_drop allU8_cut str_size opsK_nil opsK_o opsK_g KN rdS_tmp rdS_func rdS_int rdS_bool rdS_string rdS_nil rdS_nilp rdS_nilf rdS_nilm lkS_cons lkS_nil lkB_cons lkB_nil putS updB delB_nil delB_cons lab nwOk allFreeS allFreeB S.free S.frees Blk.free S.width S.widths T.width T.widths S.solid S.isAg okLd T.at S.at Blk.at T.set S.set Blk.set partsT srcOf gslot allW
  inR_i64 inR_u64 inR_u8 inR_u16 inR_u32 inR_i32 enumS eqV eqFs bldS allT clp bndI bndJ Wk rhoOk wkG wkH wkS wkSs wkPs wkT wkTs wkB lkR_nil lkR_cons offR oneOf
  frzK ownsL ownsS ownsSs frzS frzSs hput callE frU rn_nil rn_cons S.ren S.rens Blk.ren postU newL lostL argPs argR argRs preR borR flatS flatSs flatT flatTs flatH flatB
  lkE curU delE putE freesE wkE U.toT
end Go.Proofs.YtcehllkmfkoncaaGreat.Sy
namespace Go.Proofs.YtcehllkmfkoncaaGreat.Sy
open Go.RowKit
set_option linter.unusedVariables false
set_option linter.unusedSimpArgs false
/-- All that lies in the heap can be read; nothing is handed over. -/
def lawG (w : World) : Gh := ⟨fun b => b < w.heap.size, fun _ => .bool false, fun _ => noF⟩
theorem law_run {P : Program} {f : FuncId} {ss : List S} {us : List Value} {w : World} (h : FnOk P f ss [] (.t (.bool true)) []) (hr : RepPs (lawG w) w ss us) :
    Calls P f us.toArray w fun e w' => e = .returned (.bool true) ∧ Below w.heap.size w w' := by
  have hn : ∀ l x, lkB [] l = some x → False := fun l x hx => by simp [lkB] at hx
  have hh : HeapOk (lawG w) w (lkB []) := ⟨fun l b hb => (hn l b hb).elim, fun l b hb => (hn l b hb).elim, fun l b k hb => (hn l b hb).elim, fun l l' b b' k hb => (hn l b hb).elim, fun b hb => hb⟩
  refine Calls.mono (h (lawG w) w us hh hr) ?_
  rintro e w' ⟨v, G', rfl, hf, _, hv⟩
  unfold RepS at hv; unfold Rep at hv
  refine ⟨by rw [hv.1], ⟨hf.os, hf.tape, hf.output, hf.size, fun b hb => hf.block b hb ?_⟩⟩
  rintro ⟨l, x, hx, _⟩
  exact hn l x hx
theorem reps_ints {F : Nat → Prop} {w : World} (k : IntKind) : ∀ l : List Int, Reps F w (l.map fun z => T.lit (.int k z)) (ints k l)
  | [] => by unfold Reps; rfl
  | z :: r => by
    simp only [List.map_cons, Reps]
    refine ⟨.int k z, ints k r, by simp [ints, Value.cells], ?_, reps_ints k r⟩
    unfold Rep; exact ⟨rfl, rfl⟩
theorem rep_irow {w : World} {k : IntKind} {x : Option Addr} {n cap : Nat} {l : List Int} (h : IRow k w x n cap l) : RepS (lawG w) w (.t (.sl 1 (l.map fun z => T.lit (.int k z)))) (.slice x n cap) := by
  unfold RepS; unfold Rep
  refine ⟨x, cap, ints k l, ?_, reps_ints k l, ?_, ?_⟩
  · rw [List.length_map, h.length]
  · intro y hy
    obtain ⟨z, _, rfl⟩ := List.mem_map.1 hy
    simp [T.width]
  · rw [List.length_map, h.length]
    exact ⟨h.le, h.capLe, h.len, h.nil, h.cells⟩
theorem rep_lit {w : World} {v : Value} (h : v.oneCell' = true) : RepS (lawG w) w (.t (.lit v)) v := by
  unfold RepS; unfold Rep; exact ⟨rfl, h⟩
theorem reps_cons {G : Gh} {w : World} {s : S} {ss : List S} {v : Value} {us : List Value} (h : RepS G w s v) (h2 : RepPs G w ss us) : RepPs G w (s :: ss) (v :: us) := by
  unfold RepPs; exact ⟨v, us, rfl, h, h2⟩
theorem reps_nil {G : Gh} {w : World} : RepPs G w [] [] := by unfold RepPs; rfl
end Go.Proofs.YtcehllkmfkoncaaGreat.Sy
