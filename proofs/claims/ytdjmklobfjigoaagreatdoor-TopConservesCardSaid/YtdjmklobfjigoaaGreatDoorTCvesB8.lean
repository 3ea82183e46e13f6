import Derived.Test.YtdjmklobfjigoaaGreatDoorTCvesB7
import Derived.Laws.Cover3
import Derived.Deep.Slices
import Derived.WideShapes
import Derived.Carry
import Derived.ChangeOld
import Derived.OrdersIn
import Derived.RangeFuncCalls
set_option maxRecDepth 100000
set_option maxHeartbeats 16000000
set_option linter.unusedVariables false
set_option linter.unusedSimpArgs false
namespace Go.Proofs.YtdjmklobfjigoaaGreatDoor.Sy
open Go.RowKit
section
variable {N:Nat} {P:Program} {Q:Exit→St→Prop}
theorem wpOp_view {W:World} {G0:Gh} {A:Nat→Prop} {ops:Array Oper} {i:Nat} {o:Oper} (ho:ops[i]? = some o) (hgd:o.guard=none) {G:Gh} {g1 g2:Nat→S} {h:Nat→Option Blk} {a:Act} {w:World} {E:Eff} {R:Exit→Act→World→Prop} {K:Act→World→Prop}
  (hs1:SatG N W G0 A G g1 h a w) (hs2:SatG N W G0 A G g2 h a w) (hE:Does N P o (rdS g2) h E) (hnw:E.nw=[]) (hdst:∀ t,o.dst=some t→t < N)
  (hK:∀ G' a' w',SatG N W G0 A G' (gput g1 o.dst E.r) (hupd E.u h) a' w'→K a' w'):wpOp P ops R i K a w:=by
 unfold wpOp
 simp only[ho]
 rw[if_pos (by simp[Region.wanted,hgd])]
 refine .inl (hE W G0 A G g2 h a w R K hs2 (fun _ _=>rfl) (fun _ _=>rfl) (fun l hl=>by rw[hnw]at hl;cases hl) ?_)
 intro v G' w' hx hr
 exact hK G' _ _ (hs1.step hx (fun l hl=>by rw[hnw]at hl;cases hl) (fun l hl=>by rw[hnw]at hl;cases hl) hr hdst)
theorem CW.nilTest {id:Nat} {d1 d2 s:Tmp} {ty ty2 t t' e:TypeId} {p1 p2:String} {a1 a2:Array Edge} {k:Nat} {xs:List T} {σ:St} (h0:lkS σ.g s = .t (.sl k xs)) (he:elemB P t=some e)
  (h1:xs=[]→Q .normal ⟨(d2,.t (.bool true)) :: (d1,.t (.sl k xs)) :: σ.g,σ.h⟩) (h2:Q .normal ⟨(d2,.t (.bool false)) :: (d1,.t (.sl k xs)) :: σ.g,σ.h⟩) :
  CW N P (.region id #[⟨some d1,.move (.tmp s),ty,p1,a1,none⟩,⟨some d2,.binOp .eql t (.tmp d1) (.const (.slice none 0 0)) t',ty2,p2,a2,none⟩] false) Q σ:=by
 intro hm hc W G0 A a w hs
 obtain⟨G,hs⟩:=hs
 simp only[okCode]at hc
 have hd:=fun (j:Nat) (oj:Oper) (u:Nat) (hj:(#[⟨some d1,.move (.tmp s),ty,p1,a1,none⟩,⟨some d2,.binOp .eql t (.tmp d1) (.const (.slice none 0 0)) t',ty2,p2,a2,none⟩]:Array Oper)[j]? = some oj) (ht:oj.dst=some u)=>okOps_get hc (j:=j) (by simpa using hj) ht
 refine wp_region ?_
 show wpOps P _ _ [0,1] a w
 rw[wpOps_cons]
 refine wpOp_sy (e:=some ⟨rdS (lkS σ.g) (.tmp s),[],[],[]⟩) rfl hs ⟨fun t ht=>hd 0 _ t rfl ht,⟨_,rfl,does_move rfl⟩⟩ hd (by simp[eff]) ?_
 intro G1 b1 w1 hs1
 have hs1:SatG N W G0 A G1 (gput (lkS σ.g) (some d1) (lkS σ.g s)) (hupd [] (lkB σ.h)) b1 w1:=hs1
 rw[h0]at hs1
 rw[wpOps_cons]
 have hv:=hs1.slots d1
 rw[gput_same]at hv
 unfold RepS at hv;unfold Rep at hv
 obtain⟨x,cap,cells,hu,hr,hw,hseg⟩:=hv
 have hs2:SatG N W G0 A G1 (gput (gput (lkS σ.g) (some d1) (.t (.sl k xs))) (some d1) (.t (.lit (b1.tmps.getD d1 undef)))) (hupd [] (lkB σ.h)) b1 w1:=by
  refine {hs1 with slots:=fun t=>?_}
  by_cases e:t=d1
  ·subst e
   rw[gput_same]
   unfold RepS;unfold Rep
   exact⟨rfl,by rw[hu];rfl⟩
  ·have e2:∀ g:Nat→S,∀ z,gput g (some d1) z t=g t:=fun g z=>gput_other (by intro h;exact e (Option.some.inj h).symm)
   rw[e2]
   exact hs1.slots t
 refine wpOp_view (E:=⟨.t (.lit (.bool x.isNone)),[],[],[]⟩) rfl rfl hs1 hs2 (does_bin rfl (by simp only[rdS];rw[gput_same,hu]) rfl (binOk_nil he x xs.length cap)) rfl (fun t ht=>hd 1 _ t rfl ht) ?_
 intro G2 b2 w2 hs3
 show ∃ σ',Q .normal σ'∧Sat N W G0 A σ' b2 w2
 have hg:∀ b:Bool,lkS ((d2,.t (.bool b)) :: (d1,.t (.sl k xs)) :: σ.g)=gput (gput (lkS σ.g) (some d1) (.t (.sl k xs))) (some d2) (.t (.lit (.bool b))):=fun b=>by
  rw[←lkS_putS (some d1),←lkS_putS (some d2)];rfl
 cases x with
 | none=>
  have hx:xs=[]:=by
   have h3:=hseg.nil rfl
   have h4:=hseg.le
   exact List.length_eq_zero_iff.1 (by omega)
  exact⟨_,h1 hx,G2,by rw[hg];exact hs3⟩
 | some x=>exact⟨_,h2,G2,by rw[hg];exact hs3⟩
end
end Go.Proofs.YtdjmklobfjigoaaGreatDoor.Sy
namespace Go.Proofs.YtdjmklobfjigoaaGreatDoor.Sy
open Go.RowKit
theorem rdS_tmp (g:Nat→S) (t:Nat):rdS g (.tmp t)=g t:=rfl
theorem rdS_func (g:Nat→S) (f:Nat):rdS g (.func f) = .fn f []:=rfl
theorem rdS_int (g:Nat→S) (k:IntKind) (n:Int):rdS g (.const (.int k n)) = .t (.lit (.int k n)):=rfl
theorem rdS_bool (g:Nat→S) (b:Bool):rdS g (.const (.bool b)) = .t (.lit (.bool b)):=rfl
theorem rdS_string (g:Nat→S) (b:ByteArray):rdS g (.const (.string b)) = .t (.lit (.string b)):=rfl
theorem rdS_nil (g:Nat→S):rdS g (.const (.slice none 0 0)) = .t (.lit (.slice none 0 0)):=rfl
theorem rdS_nilp (g:Nat→S):rdS g (.const (.pointer none)) = .t (.lit (.pointer none)):=rfl
theorem rdS_nilf (g:Nat→S):rdS g (.const .nilFunc) = .t (.lit .nilFunc):=rfl
theorem rdS_nilm (g:Nat→S):rdS g (.const (.map none)) = .t (.lit (.map none)):=rfl
theorem stops_nil (c:Code):stops [] c=false:=by unfold stops;split<;>rfl
theorem lkS_cons (t k:Nat) (s:S) (r:List (Nat×S)):lkS ((t,s) :: r) k=bif k == t then s else lkS r k:=by
 cases h:(k == t)<;>simp[lkS]<;>simp_all
theorem lkS_nil (k:Nat):lkS [] k = .dead:=rfl
theorem lkB_cons (t k:Nat) (s:Blk) (r:List (Nat×Blk)):lkB ((t,s) :: r) k=bif k == t then some s else lkB r k:=by
 cases h:(k == t)<;>simp[lkB]<;>simp_all
theorem delB_nil (l:Nat):delB l []=[]:=rfl
theorem delB_cons (l k:Nat) (b:Blk) (r:List (Nat×Blk)):delB l ((k,b) :: r)=bif k == l then delB l r else (k,b) :: delB l r:=by
 cases h:(k == l)<;>simp[delB]<;>simp_all
theorem lkR_nil (k:Nat):lkR [] k=none:=rfl
theorem lkR_cons (l k:Nat) (r:Option Nat) (q:List (Nat×Option Nat)):lkR ((l,r) :: q) k=bif k == l then some r else lkR q k:=by
 cases h:(k == l)<;>simp[lkR]<;>simp_all
theorem rn_nil (k:Nat):rn [] k=k:=rfl
theorem rn_cons (l k r:Nat) (q:List (Nat×Nat)):rn ((l,r) :: q) k=bif k == l then r else rn q k:=by
 cases h:(k == l)<;>simp[rn]<;>simp_all
theorem BlockQ_exit (id i:Nat) (Q:Exit→St→Prop) (σ:St):BlockQ id Q (.exit i) σ=bif i == id then Q .normal σ else Q (.exit i) σ:=by
 cases h:(i == id)<;>simp[BlockQ]<;>simp_all
theorem BlockQ_normal (id:Nat) (Q:Exit→St→Prop) (σ:St):BlockQ id Q .normal σ=Q .normal σ:=rfl
theorem BlockQ_ret (id:Nat) (Q:Exit→St→Prop) (σ:St):BlockQ id Q .ret σ=Q .ret σ:=rfl
theorem SeqQ_exit (i:Nat) (F:St→Prop) (Q:Exit→St→Prop) (σ:St):SeqQ F Q (.exit i) σ=Q (.exit i) σ:=rfl
theorem SeqQ_normal (F:St→Prop) (Q:Exit→St→Prop) (σ:St):SeqQ F Q .normal σ=F σ:=rfl
theorem ScopeQ_exit (i:Nat) (Q:Exit→St→Prop) (σ:St):ScopeQ Q (.exit i) σ=Q (.exit i) σ:=rfl
theorem ScopeQ_normal (Q:Exit→St→Prop) (σ:St):ScopeQ Q .normal σ=Q .normal σ:=rfl
theorem ScopeQ_ret (Q:Exit→St→Prop) (σ:St):ScopeQ Q .ret σ=Q .ret σ:=rfl
theorem SeqQ_ret (F:St→Prop) (Q:Exit→St→Prop) (σ:St):SeqQ F Q .ret σ=Q .ret σ:=rfl
theorem RqN {ι:Type} (I:ι→St) (Inv:ι→Prop) (μ:ι→Nat) (i:ι) (Q:Exit→St→Prop) (σ:St):RoundQ I Inv μ i Q .normal σ=(∃ j ρ,Inv j∧μ j < μ i∧Wk ρ σ (I j)):=rfl
theorem RoundQ_exit {ι:Type} (I:ι→St) (Inv:ι→Prop) (μ:ι→Nat) (i:ι) (Q:Exit→St→Prop) (σ:St) (e:Nat):RoundQ I Inv μ i Q (.exit e) σ=Q (.exit e) σ:=rfl
theorem RoundQ_ret {ι:Type} (I:ι→St) (Inv:ι→Prop) (μ:ι→Nat) (i:ι) (Q:Exit→St→Prop) (σ:St):RoundQ I Inv μ i Q .ret σ=Q .ret σ:=rfl
theorem CutQ_normal {ι:Type} (I:ι→St) (Inv:ι→Prop) (Q:Exit→St→Prop) (σ:St):CutQ I Inv Q .normal σ=(∃ j ρ,Inv j∧Wk ρ σ (I j)):=rfl
theorem CutQ_exit {ι:Type} (I:ι→St) (Inv:ι→Prop) (Q:Exit→St→Prop) (σ:St) (e:Nat):CutQ I Inv Q (.exit e) σ=Q (.exit e) σ:=rfl
theorem CutQ_ret {ι:Type} (I:ι→St) (Inv:ι→Prop) (Q:Exit→St→Prop) (σ:St):CutQ I Inv Q .ret σ=Q .ret σ:=rfl
theorem TqR (P:Program) (rs:List ResultVar) (r:S) (post:List (Nat×Blk)) (σ:St):RetQ P rs r post .ret σ=(∃ ρ,retK P (lkS σ.g) (lkB σ.h) rs fun l=>rhoOk ρ=true∧wkS ρ (lkB σ.h) (oneOf l) r∧wkH ρ (lkB σ.h) post):=rfl
theorem TqN (P:Program) (rs:List ResultVar) (r:S) (post:List (Nat×Blk)) (σ:St):RetQ P rs r post .normal σ=(∃ ρ,retK P (lkS σ.g) (lkB σ.h) rs fun l=>rhoOk ρ=true∧wkS ρ (lkB σ.h) (oneOf l) r∧wkH ρ (lkB σ.h) post):=rfl
theorem lkB_nil (k:Nat):lkB [] k=none:=rfl
theorem inR_i64 (n:Int):inR .i64 n=(-9223372036854775808≤n∧n≤9223372036854775807):=rfl
theorem inR_u64 (n:Int):inR .u64 n=(0≤n∧n≤18446744073709551615):=rfl
theorem inR_u8 (n:Int):inR .u8 n=(0≤n∧n≤255):=rfl
theorem inR_u16 (n:Int):inR .u16 n=(0≤n∧n≤65535):=rfl
theorem inR_u32 (n:Int):inR .u32 n=(0≤n∧n≤4294967295):=rfl
theorem inR_i32 (n:Int):inR .i32 n=(-2147483648≤n∧n≤2147483647):=rfl
theorem itePos {c:Prop} {_:Decidable c} {a b:Prop} (hc:c) (h:a):if c then a else b:=by rw[if_pos hc];exact h
theorem iteNeg {c:Prop} {_:Decidable c} {a b:Prop} (hc:¬ c) (h:b):if c then a else b:=by rw[if_neg hc];exact h
theorem iP {c:Prop} {_:Decidable c} {a b:Prop} (h:a) (hc:c:=by omega):if c then a else b:=itePos hc h
theorem iN {c:Prop} {_:Decidable c} {a b:Prop} (h:b) (hc:¬ c:=by omega):if c then a else b:=iteNeg hc h
theorem ite_dec (p:Prop) [Decidable p] (a b:Prop):(if decide p=true then a else b)=if p then a else b:=by simp
theorem ite_decf (p:Prop) [Decidable p] (a b:Prop):(if decide p=false then a else b)=if p then b else a:=by
 by_cases h:p<;>simp[h]
theorem ite_t (a b:Prop):(if (true:Bool)=true then a else b)=a:=by simp
theorem ite_f (a b:Prop):(if (false:Bool)=true then a else b)=b:=by simp
theorem ite_tf (a b:Prop):(if (true:Bool)=false then a else b)=b:=by simp
theorem ite_ff (a b:Prop):(if (false:Bool)=false then a else b)=a:=by simp
theorem ite_inR_i64 (n:Int) (a b:Prop):(if inR .i64 n then a else b)=(if -9223372036854775808≤n∧n≤9223372036854775807 then a else b):=rfl
theorem ite_inR_u8 (n:Int) (a b:Prop):(if inR .u8 n then a else b)=(if 0≤n∧n≤255 then a else b):=rfl
theorem ite_inR_u16 (n:Int) (a b:Prop):(if inR .u16 n then a else b)=(if 0≤n∧n≤65535 then a else b):=rfl
theorem ite_inR_u32 (n:Int) (a b:Prop):(if inR .u32 n then a else b)=(if 0≤n∧n≤4294967295 then a else b):=rfl
theorem ite_inR_u64 (n:Int) (a b:Prop):(if inR .u64 n then a else b)=(if 0≤n∧n≤18446744073709551615 then a else b):=rfl
theorem ite_idx {α β:Type} (f:α→β) (l:List α) (n:Int) (a b:Prop):(if 0≤n∧n < ((l.map f).length:Int) then a else b)=(if 0≤n∧n < (l.length:Int) then a else b):=by simp
theorem DrawChk_congr (ops:List Oper) (σ0:St) (acc:List (Option Eff)):DrawChk ops σ0 acc=DrawChk ops σ0 acc:=rfl
theorem CW_congr (N:Nat) (P:Program) (c:Code) (Q:Exit→St→Prop) {σ σ':St} (h:σ=σ'):CW N P c Q σ=CW N P c Q σ':=by rw[h]
theorem CallK_congr (P:Program) (f:FuncId) {as as':List S} {h h':Nat→Option Blk} (d:Nat) (K:Eff→Prop) (h1:as=as') (h2:h=h'):CallK P f as h d K=CallK P f as' h' d K:=by rw[h1,h2]
theorem KN_congr (σ:St) (dst:Option Tmp) (acc:List (Option Eff)) (K:St→List (Option Eff)→Prop) {E E':Eff} (h:E=E'):KN σ dst acc K E=KN σ dst acc K E':=by rw[h]
theorem opsK_congr (P:Program) (all:List Oper) (K:St→List (Option Eff)→Prop) (r:List Oper) {σ σ':St} {acc acc':List (Option Eff)} (h:σ=σ') (h2:acc=acc'):opsK P all K r σ acc=opsK P all K r σ' acc':=by rw[h,h2]
theorem RoundQ_congr {ι:Type} (I:ι→St) (Inv:ι→Prop) (μ:ι→Nat) (i:ι) (Q:Exit→St→Prop) (e:Exit) {σ σ':St} (h:σ=σ'):RoundQ I Inv μ i Q e σ=RoundQ I Inv μ i Q e σ':=by rw[h]
theorem CutQ_congr {ι:Type} (I:ι→St) (Inv:ι→Prop) (Q:Exit→St→Prop) (e:Exit) {σ σ':St} (h:σ=σ'):CutQ I Inv Q e σ=CutQ I Inv Q e σ':=by rw[h]
theorem RetQ_congr (P:Program) (rs:List ResultVar) (r:S) (post:List (Nat×Blk)) (e:Exit) {σ σ':St} (h:σ=σ'):RetQ P rs r post e σ=RetQ P rs r post e σ':=by rw[h]
theorem opsK_nil (P:Program) (all:List Oper) (K:St→List (Option Eff)→Prop) (σ:St) (acc:List (Option Eff)):opsK P all K [] σ acc=K σ acc:=rfl
theorem opsK_o (P:Program) (all:List Oper) (K:St→List (Option Eff)→Prop) (dst:Option Tmp) (op:Op) (ty:TypeId) (pos:String) (after:Array Edge) (r:List Oper) (σ:St) (acc:List (Option Eff)) :
  opsK P all K (⟨dst,op,ty,pos,after,none⟩ :: r) σ acc=opK P op (lab ⟨dst,op,ty,pos,after,none⟩) (rdS (lkS σ.g)) (lkB σ.h) (KN σ dst acc (opsK P all K r)):=rfl
theorem opsK_g (P:Program) (all:List Oper) (K:St→List (Option Eff)→Prop) (dst:Option Tmp) (op:Op) (ty:TypeId) (pos:String) (after:Array Edge) (j:Nat) (b:Bool) (r:List Oper) (σ:St) (acc:List (Option Eff)) :
  opsK P all K (⟨dst,op,ty,pos,after,some (j,b)⟩ :: r) σ acc=(match gslot all j with
   | some t=>match lkS σ.g t with
    | .t (.lit (.bool c))=>if c=b then opK P op (lab ⟨dst,op,ty,pos,after,some (j,b)⟩) (rdS (lkS ((t,.t (.bool b)) :: σ.g))) (lkB σ.h) (KN ⟨(t,.t (.bool b)) :: σ.g,σ.h⟩ dst acc (opsK P all K r))
      else opsK P all K r ⟨putS dst (.tup []) ((t,.t (.bool (!b))) :: σ.g),σ.h⟩ (none :: acc)
    | .tup []=>opsK P all K r ⟨putS dst (.tup []) σ.g,σ.h⟩ (none :: acc)
    | _=>False
   | none=>False):=rfl
theorem DrawChk_of {ops:List Oper} {σ0:St} {acc:List (Option Eff)} (h:(drawOk2 ops acc.reverse && nwsOk σ0 acc)=true):DrawChk ops σ0 acc:=by
 unfold DrawChk
 rw[←drawOk2_eq]
 exact h
theorem dcK {ops:List Oper} {σ0:St} {acc:List (Option Eff)} (h:(drawOk2 ops acc.reverse && nwsOk σ0 acc)=true:=by kernel_rfl):DrawChk ops σ0 acc:=DrawChk_of h
theorem anI {a b:Prop} (h:b) (ha:a:=by omega):a∧b:=⟨ha,h⟩
attribute [congr] DrawChk_congr CW_congr CallK_congr KN_congr opsK_congr RoundQ_congr CutQ_congr RetQ_congr
attribute [go_sem ↓] indexK nilEqK arrEqK wkT_same wkTs_same arK ite_inR_i64 ite_inR_u8 ite_inR_u16 ite_inR_u32 ite_inR_u64 ite_idx ite_dec ite_decf ite_t ite_f ite_tf ite_ff nf nf1 opK PlainK DrawK ScopeQ_exit ScopeQ_normal ScopeQ_ret SeqQ_exit SeqQ_normal SeqQ_ret BlockQ_exit BlockQ_normal BlockQ_ret pickK allocK boxK loadK storeK fieldAddrK indexAddrK fieldK extractK litK binYK nilIK binK binV unK convK convBK buildSliceK ptrsOf ptrsP buildPtrK lenK minK maxK appendK appendOK appendWK copyK copyOK copyWK copyVK copyIK frzK builtK callK makeFuncK stops_nil RoundQ_exit RoundQ_ret CutQ_exit CutQ_ret boolK aggK nilK sliceK sliceTK buildK retK makeSliceK slice3K clipK bnd3
attribute [go_sem] fnT litFn wkTs_same kX encD widths_encD widths_encD_take encK widths_encK widths_encK_take kB encU bytesT bytesT_app bytesT_map bytesT_take bytesT_drop bytesT_cut allU8 allU8_app allU8_map allU8_take allU8_drop allU8_cut str_size opsK_nil opsK_o opsK_g KN rdS_tmp rdS_func rdS_int rdS_bool rdS_string rdS_nil rdS_nilp rdS_nilf rdS_nilm lkS_cons lkS_nil lkB_cons lkB_nil putS updB delB_nil delB_cons lab nwOk allFreeS allFreeB S.free S.frees Blk.free S.width S.widths T.width T.widths S.solid S.isAg okLd T.at S.at Blk.at T.set S.set Blk.set partsT srcOf gslot allW
 inR_i64 inR_u64 inR_u8 inR_u16 inR_u32 inR_i32 enumS eqV eqFs bldS allT clp bndI bndJ Wk rhoOk wkG wkH wkS wkSs wkPs wkT wkTs wkB lkR_nil lkR_cons offR oneOf
 frzK ownsL ownsS ownsSs frzS frzSs hput callE frU rn_nil rn_cons S.ren S.rens Blk.ren postU newL lostL argPs argR argRs preR borR flatS flatSs flatT flatTs flatH flatB
 lkE curU delE putE freesE wkE U.toT
end Go.Proofs.YtdjmklobfjigoaaGreatDoor.Sy
namespace Go.Proofs.YtdjmklobfjigoaaGreatDoor.Sy
open Go.RowKit
def lawG (w:World):Gh:=⟨fun b=>b < w.heap.size,fun _=> .bool false,fun _=>noF⟩
theorem law_run {P:Program} {f:FuncId} {ss:List S} {us:List Value} {w:World} (h:FnOk P f ss [] (.t (.bool true)) []) (hr:RepPs (lawG w) w ss us) :
  Calls P f us.toArray w fun e w'=>e = .returned (.bool true)∧Below w.heap.size w w':=by
 have hn:∀ l x,lkB [] l=some x→False:=fun l x hx=>by simp[lkB]at hx
 have hh:HeapOk (lawG w) w (lkB []):=⟨fun l b hb=>(hn l b hb).elim,fun l b hb=>(hn l b hb).elim,fun l b k hb=>(hn l b hb).elim,fun l l' b b' k hb=>(hn l b hb).elim,fun b hb=>hb⟩
 refine Calls.mono (h (lawG w) w us hh hr) ?_
 rintro e w' ⟨v,G',rfl,hf,_,hv⟩
 unfold RepS at hv;unfold Rep at hv
 refine⟨by rw[hv.1],⟨hf.os,hf.tape,hf.output,hf.size,fun b hb=>hf.block b hb ?_⟩⟩
 rintro ⟨l,x,hx,_⟩
 exact hn l x hx
theorem rep_lit {w:World} {v:Value} (h:v.oneCell'=true):RepS (lawG w) w (.t (.lit v)) v:=by
 unfold RepS;unfold Rep;exact⟨rfl,h⟩
theorem reps_cons {G:Gh} {w:World} {s:S} {ss:List S} {v:Value} {us:List Value} (h:RepS G w s v) (h2:RepPs G w ss us):RepPs G w (s :: ss) (v :: us):=by
 unfold RepPs;exact⟨v,us,rfl,h,h2⟩
theorem reps_nil {G:Gh} {w:World}:RepPs G w [] []:=by unfold RepPs;rfl
end Go.Proofs.YtdjmklobfjigoaaGreatDoor.Sy
namespace Go.Proofs.YtdjmklobfjigoaaGreatDoor.Sy
open Go.RowKit Go.WideShapes Go.ChangeShapes
inductive Sh where
 | int (k:IntKind)
 | bool
 | str
 | sl (e:Sh)
 | st (fs:List Sh)
mutual
def Sh.width:Sh→Nat
 | .st fs=>Sh.widths fs
 | _=>1
def Sh.widths:List Sh→Nat
 | []=>0
 | x :: r=>x.width+Sh.widths r
end
mutual
def InSh:Sh→T→Prop
 | .int k,.lit (.int k' n)=>k'=k∧(Lit.int k n).wf=true
 | .bool,.lit (.bool _)=>True
 | .str,.lit (.string s)=>s.size≤maxLen
 | .sl e,.sl s xs=>s=e.width∧xs.length≤maxLen∧∀ x∈xs,InSh e x
 | .st es,.agg xs=>InShs es xs
 | _,_=>False
def InShs:List Sh→List T→Prop
 | [],[]=>True
 | e :: es,x :: xs=>InSh e x∧InShs es xs
 | _,_=>False
end
theorem insh_list {α:Type} {e:Sh} {en:α→T} {Q:α→Prop} (h:∀ x,InSh e x→∃ p,x=en p∧Q p):∀ (xs:List T),(∀ x∈xs,InSh e x)→∃ l:List α,xs=l.map en∧∀ p∈l,Q p
 | [],_=>⟨[],rfl,by simp⟩
 | x :: r,hx=>by
  obtain⟨p,rfl,hq⟩:=h x (hx x (List.mem_cons_self))
  obtain⟨l,rfl,hl⟩:=insh_list h r fun y hy=>hx y (List.mem_cons_of_mem _ hy)
  exact⟨p :: l,rfl,fun y hy=>by
   rcases List.mem_cons.1 hy with rfl|hy
   ·exact hq
   ·exact hl y hy⟩
theorem insh_int {k:IntKind} {x:T} (h:InSh (.int k) x):∃ n,x = .lit (.int k n)∧(Lit.int k n).wf=true:=by
 unfold InSh at h
 split at h<;>simp_all
theorem insh_bool {x:T} (h:InSh .bool x):∃ b,x = .lit (.bool b):=by
 unfold InSh at h
 split at h<;>simp_all
theorem insh_str {x:T} (h:InSh .str x):∃ s,x = .lit (.string s)∧s.size≤maxLen:=by
 unfold InSh at h
 split at h<;>simp_all
theorem insh_sl {e:Sh} {x:T} (h:InSh (.sl e) x):∃ xs,x = .sl e.width xs∧xs.length≤maxLen∧∀ y∈xs,InSh e y:=by
 cases x<;>simp[InSh]at h
 rename_i s xs
 obtain⟨rfl,h1,h2⟩:=h
 exact⟨xs,rfl,h1,h2⟩
def elB:Sh→Nat
 | .int .i64=>8
 | _=>1
mutual
def shOk (P:Program):Sh→TypeId→Bool
 | .int k,t=>decide (intB P t=some k)
 | .bool,t=>boolB P t
 | .str,t=>strB P t
 | .sl e,t=>match P.underlying t with
  | some (.slice u)=>shOk P e u && decide (P.cellsOf u=e.width) && decide (0 < e.width) && decide (elB e≤P.bytesOf u)
  | _=>false
 | .st es,t=>match P.underlying t with
  | some (.struct fs)=>shOks P es fs.toList 0 && decide (P.cellsOf t=Sh.widths es)
  | _=>false
def shOks (P:Program):List Sh→List Field→Nat→Bool
 | [],[],_=>true
 | e :: es,f :: fs,o=>decide (f.offset=o) && decide (P.cellsOf f.type=e.width) && shOk P e f.type && shOks P es fs (o+e.width)
 | _,_,_=>false
end
mutual
def SzT:T→Prop
 | .lit _=>True
 | .sl _ xs=>xs.length≤reachBytes
 | .agg xs=>SzTs xs
def SzTs:List T→Prop
 | []=>True
 | x :: r=>SzT x∧SzTs r
end
def listB:List T→Nat
 | .lit (.int .i64 _) :: _=>8
 | _=>1
mutual
def SzD:T→Prop
 | .lit _=>True
 | .sl _ xs=>xs.length * listB xs≤reachBytes∧SzDs xs
 | .agg xs=>SzDs xs
def SzDs:List T→Prop
 | []=>True
 | x :: r=>SzD x∧SzDs r
end
theorem SzDs.of:∀ {xs:List T},(∀ x∈xs,SzD x)→SzDs xs
 | [],_=>by unfold SzDs;trivial
 | x :: r,h=>by unfold SzDs;exact⟨h x (List.mem_cons_self ..),SzDs.of fun y hy=>h y (List.mem_cons_of_mem _ hy)⟩
theorem elB_pos (e:Sh):1≤elB e:=by unfold elB;split<;>omega
theorem listB_le {e:Sh}:∀ {xs:List T},(∀ x∈xs,InSh e x)→listB xs≤elB e
 | [],_=>by unfold listB;exact elB_pos e
 | x :: r,h=>by
  have hx:=h x (List.mem_cons_self ..)
  unfold listB
  split
  ·rename_i heq
   cases heq
   cases e<;>simp[InSh]at hx
   obtain⟨rfl,_⟩:=hx
   simp[elB]
  ·exact elB_pos e
theorem weightsAll_all {H:Type} {P:Program} {e:TypeId} {p:Nat→Bool}:∀ {l:List (DataW H)},(DataW.weightsAll P e l).all p=true→∀ d∈l,(d.weights P e).all p=true
 | [],_,d,hd=>by cases hd
 | x :: r,h,d,hd=>by
  unfold DataW.weightsAll at h
  rw[List.all_append,Bool.and_eq_true]at h
  rcases List.mem_cons.1 hd with rfl|hd
  ·exact h.1
  ·exact weightsAll_all h.2 d hd
section
variable {H:Type} {enc:TypeId×Value→H} {P:Program} {w:World} {base:Nat} {spare:Nat→Bool} {held:Bool}
def OpenAt (w:World) (Z:Prop) (sh:Sh) (cs:List Value):Prop:=∃ x v,InSh sh x∧cs=v.cells.toList∧(∀ ws,sh = .st ws→v = .agg cs.toArray)∧Rep (fun b=>b < w.heap.size) w x v∧(Z→SzT x∧SzD x)
theorem str_und {t:TypeId} (h:strB P t=true):P.underlying t=some .string:=by
 unfold strB at h;split at h<;>simp_all
theorem bool_und {t:TypeId} (h:boolB P t=true):P.underlying t=some .bool:=by
 unfold boolB at h;split at h<;>simp_all
theorem rows_of {Z:Nat→Prop} {s c off b:Nat} {e:Sh} (hs:0 < s) (he:e.width=s):∀ (len:Nat),(∀ i,i < len→∃ cs',(cs'.length=s∧∀ j,j < s→w.cell? ⟨b,off+(i * s+j),none⟩=cs'[j]?)∧OpenAt w (Z i) e cs')→
  ∃ xs cells,xs.length=len∧Reps (fun b=>b < w.heap.size) w xs cells∧cells.length=len * s∧(∀ j u,cells[j]? = some u→w.cell? ⟨b,off+j,none⟩=some u)∧(∀ x∈xs,InSh e x∧x.width=s)∧((∀ i,i < len→Z i)→∀ x∈xs,SzD x)
 | 0,_=>⟨[],[],rfl,by unfold Reps;rfl,by simp,by simp,by simp,by simp⟩
 | len+1,h=>by
  obtain⟨xs,cells,h1,h2,h3,h4,h5,hz⟩:=rows_of (c:=c) hs he len fun i hi=>h i (by omega)
  obtain⟨cs',⟨h6,h7⟩,x,v,h8,h9,_,h10,hzx⟩:=h len (by omega)
  have hw:=Rep.width x v h10
  have hvl:v.cells.toList.length=s:=by rw[←h9,h6]
  have hxw:x.width=s:=by rw[←hw,←hvl];simp
  refine⟨xs++[x],cells++cs',by simp[h1],?_,by rw[List.length_append,h3,h6,Nat.add_mul,Nat.one_mul],?_,?_,?_⟩
  ·refine Reps.append h2 ?_
   unfold Reps
   exact⟨v,[],by rw[h9,List.append_nil],h10,by unfold Reps;rfl⟩
  ·intro j u hu
   by_cases hj:j < cells.length
   ·rw[List.getElem?_append_left hj]at hu;exact h4 j u hu
   ·rw[List.getElem?_append_right (by omega),h3]at hu
    have hjs:=(List.getElem?_eq_some_iff.1 hu).1
    rw[h6]at hjs
    have:=h7 (j - len * s) hjs
    rw[hu,show len * s+(j - len * s)=j by omega]at this
    exact this
  ·intro y hy
   rcases List.mem_append.1 hy with hy|hy
   ·exact h5 y hy
   ·simp at hy;subst hy;exact⟨h8,hxw⟩
  ·intro hall y hy
   rcases List.mem_append.1 hy with hy|hy
   ·exact hz (fun i hi=>hall i (by omega)) y hy
   ·simp at hy;subst hy;exact (hzx (hall len (by omega))).2
mutual
theorem open_trod:∀ (sh:Sh) (fuel:Nat) (t:TypeId) (cs:List Value) (x:DataW H×List MemPlace),shOk P sh t=true→DataW.trod enc P w base spare held fuel t cs=some x→OpenAt w ((x.1.weights P t).all (·≤reachBytes)=true) sh cs
 | .int k,fuel,t,cs,x,hs,h=>by
  simp only[shOk,decide_eq_true_eq]at hs
  obtain⟨n,rfl,_,hw⟩:=DataW.trod_int (und_int hs) h
  exact⟨.lit (.int k n),.int k n,⟨rfl,hw⟩,rfl,by simp,by unfold Rep;exact⟨rfl,rfl⟩,fun _=>⟨by unfold SzT;trivial,by unfold SzD;trivial⟩⟩
 | .bool,fuel,t,cs,x,hs,h=>by
  simp only[shOk]at hs
  obtain⟨b,rfl,_⟩:=DataW.trod_bool (bool_und hs) h
  exact⟨.lit (.bool b),.bool b,trivial,rfl,by simp,by unfold Rep;exact⟨rfl,rfl⟩,fun _=>⟨by unfold SzT;trivial,by unfold SzD;trivial⟩⟩
 | .str,fuel,t,cs,x,hs,h=>by
  simp only[shOk]at hs
  obtain⟨s,rfl,_,hm⟩:=DataW.trod_string (str_und hs) h
  exact⟨.lit (.string s),.string s,hm,rfl,by simp,by unfold Rep;exact⟨rfl,rfl⟩,fun _=>⟨by unfold SzT;trivial,by unfold SzD;trivial⟩⟩
 | .sl e,fuel,t,cs,x,hs,h=>by
  simp only[shOk]at hs
  split at hs
  ·rename_i u hu
   simp only[Bool.and_eq_true,decide_eq_true_eq]at hs
   obtain⟨⟨⟨h1,h2⟩,h3⟩,hby⟩:=hs
   rcases Deep.open_slice hu h with ⟨rfl,_⟩|⟨a,len,cap,m,n,D,Pl,rfl,hb,hl,hm,hmm,rfl,hx⟩
   ·refine⟨.sl e.width [],.slice none 0 0,?_,rfl,by simp,rep_nil e.width,fun _=>⟨by unfold SzT;simp,by unfold SzD SzDs;simp⟩⟩
    unfold InSh;exact⟨rfl,by simp,by simp⟩
   ·have hml:len≤m:=by rw[hmm];split<;>omega
    by_cases h0:len=0
    ·subst h0
     refine⟨.sl e.width [],.slice (some a) 0 cap,?_,rfl,by simp,?_,fun _=>⟨by unfold SzT;simp,by unfold SzD SzDs;simp⟩⟩
     ·unfold InSh;exact⟨rfl,by simp,by simp⟩
     ·unfold Rep
      exact⟨some a,cap,[],rfl,by unfold Reps;rfl,by simp,⟨Nat.zero_le _,hm,by simp,fun h=>(by cases h),.inl rfl⟩⟩
    ·obtain⟨b,off,spot⟩:=a
     obtain⟨cs0,g1,_⟩:=hx 0 (by omega)
     obtain⟨_,g2,g3⟩:=World.cells?_some g1
     have g4:=g3 0 (by omega)
     rw[List.getElem?_eq_getElem (by omega)]at g4
     have hspot:spot=none:=by simpa [Addr.add] using World.cell?_spot g4
     subst hspot
     have hbl:b < w.heap.size:=by
      have:=World.block_lt_of_cell? _ _ g4
      simpa [Addr.add] using this
     have hadd:∀ i,(⟨b,off,none⟩:Addr).add i=⟨b,off+i,none⟩:=fun i=>by unfold Addr.add;split<;>simp_all
     obtain⟨xs,cells,k1,k2,k3,k4,k5,k6⟩:=rows_of (w:=w) (Z:=fun i=>((D i).weights P u).all (·≤reachBytes)=true) (c:=0) (b:=b) (off:=off) h3 rfl len (e:=e) (fun i hi=>by
      obtain⟨cs',q1,q2⟩:=hx i (by omega)
      obtain⟨_,q3,q4⟩:=World.cells?_some q1
      rw[h2]at q3 q4
      refine⟨cs',⟨q3,fun j hj=>?_⟩,open_trod e n u cs' _ h1 q2⟩
      have:=q4 j hj
      rw[Deep.add_add,hadd]at this
      exact this)
     have hz:((DataW.slice ((List.range len).map D) ((List.range (m - len)).map fun j=>D (len+j))).weights P t).all (·≤reachBytes)=true→SzT (.sl e.width xs)∧SzD (.sl e.width xs):=by
      intro hz
      unfold DataW.weights at hz
      rw[hu]at hz
      simp only[List.all_cons,List.all_append,Bool.and_eq_true,decide_eq_true_eq,List.length_map,List.length_range]at hz
      have h5:=Nat.mul_le_mul (Nat.le_add_right len (m - len)) hby
      have h6:=Nat.mul_le_mul (Nat.le_refl len) (elB_pos e)
      have h7:=Nat.mul_le_mul (Nat.le_refl len) (listB_le (e:=e) (xs:=xs) fun x hx=>(k5 x hx).1)
      unfold SzT SzD
      rw[k1]
      exact⟨by omega,by omega,SzDs.of (k6 fun i hi=>weightsAll_all hz.2.1 _ (List.mem_map.2 ⟨i,List.mem_range.2 hi,rfl⟩))⟩
     refine⟨.sl e.width xs,.slice (some ⟨b,off,none⟩) len cap,?_,rfl,by simp,?_,hz⟩
     ·unfold InSh;exact⟨rfl,by omega,fun x hx=>(k5 x hx).1⟩
     ·unfold Rep
      refine⟨some ⟨b,off,none⟩,cap,cells,by rw[k1],k2,fun y hy=>(k5 y hy).2,?_⟩
      exact⟨by omega,hm,by rw[k1];exact k3,fun h=>(by cases h),.inr ⟨b,off,rfl,hbl,k4⟩⟩
  ·cases hs
 | .st es,fuel,t,cs,x,hs,h=>by
  simp only[shOk]at hs
  split at hs
  ·rename_i fs hu
   simp only[Bool.and_eq_true,decide_eq_true_eq]at hs
   obtain⟨ys,n,_,rfl,hl,hlen,hf⟩:=DataW.trod_struct hu h
   obtain⟨xs,h1,h2,h3⟩:=open_trods es n fs.toList ys 0 cs hs.1 (by simpa using hlen) (fun i f hi=>hf i f (by simpa using hi)) (by rw[hl,hs.2];omega)
   refine⟨.agg xs,.agg cs.toArray,by unfold InSh;exact h1,by simp[Value.cells],fun _ _=>rfl,?_,?_⟩
   ·unfold Rep
    exact⟨cs,rfl,by simpa using h2⟩
   ·intro hz
    unfold DataW.weights at hz
    rw[hu]at hz
    unfold SzT SzD
    exact h3 hz
  ·cases hs
theorem open_trods:∀ (es:List Sh) (n:Nat) (fs:List Field) (ys:List (DataW H×List MemPlace)) (o:Nat) (cs:List Value),shOks P es fs o=true→ys.length=fs.length→
  (∀ (i:Nat) (f:Field),fs[i]? = some f→DataW.trod enc P w base spare held n f.type ((cs.drop f.offset).take (P.cellsOf f.type))=ys[i]?)→cs.length=o+Sh.widths es→
  ∃ xs,InShs es xs∧Reps (fun b=>b < w.heap.size) w xs (cs.drop o)∧((DataW.weightsEach P (fs.map (·.type)) (ys.map (·.1))).all (·≤reachBytes)=true→SzTs xs∧SzDs xs)
 | [],n,fs,ys,o,cs,hs,hyl,hf,hl=>by
  cases fs with
  | nil=>exact⟨[],by unfold InShs;trivial,by unfold Reps;simp[Sh.widths]at hl;rw[List.drop_eq_nil_of_le (by omega)],fun _=>⟨by unfold SzTs;trivial,by unfold SzDs;trivial⟩⟩
  | cons f fs=>simp[shOks]at hs
 | e :: es,n,fs,ys,o,cs,hs,hyl,hf,hl=>by
  cases fs with
  | nil=>simp[shOks]at hs
  | cons f fs=>
   cases ys with
   | nil=>simp at hyl
   | cons y ys=>
    simp only[shOks,Bool.and_eq_true,decide_eq_true_eq]at hs
    obtain⟨⟨⟨h1,h2⟩,h3⟩,h4⟩:=hs
    have hy:=hf 0 f rfl
    simp only[List.getElem?_cons_zero]at hy
    obtain⟨x,v,g1,g2,_,g3,g6⟩:=open_trod e n f.type _ _ h3 hy
    simp only[Sh.widths]at hl
    obtain⟨xs,g4,g5,g7⟩:=open_trods es n fs ys (o+e.width) cs h4 (by simpa using hyl) (fun i q hi=>by have:=hf (i+1) q (by simpa using hi);simpa using this) (by omega)
    refine⟨x :: xs,by unfold InShs;exact⟨g1,g4⟩,?_,?_⟩
    ·unfold Reps
     refine⟨v,cs.drop (o+e.width),?_,g3,g5⟩
     rw[←g2,h1,h2,←List.drop_drop]
     exact (List.take_append_drop _ _).symm
    ·intro hz
     simp only[List.map_cons,DataW.weightsEach,List.all_append,Bool.and_eq_true]at hz
     unfold SzTs SzDs
     exact⟨⟨(g6 hz.1).1,(g7 hz.2).1⟩,(g6 hz.1).2,(g7 hz.2).2⟩
end
theorem cells_inj {u v:Value} (hu:u.oneCell'=true) (hv:v.oneCell'=true) (h:u.cells.toList=v.cells.toList):u=v:=by
 rw[cells_one hu,cells_one hv]at h
 simpa using h
theorem open_any {r:Reach} {b0:Nat} {t:TypeId} {v:Value} {d:DataW H} {ps:List MemPlace} (sh:Sh) (hs:shOk P sh t=true) (hval:Value.okWide P w r b0 t v) (hd:DataW.Trod enc P w base spare held t v d ps) :
  ∃ x,InSh sh x∧RepS (lawG w) w (.t x) v∧((d.weights P t).all (·≤reachBytes)=true→SzT x∧SzD x):=by
 obtain⟨fuel,hf⟩:=hd
 obtain⟨x,u,h1,h2,h3,h4,h5⟩:=open_trod sh fuel t _ _ hs hf
 refine⟨x,h1,?_,h5⟩
 have hu:u=v:=by
  cases sh with
  | st es=>
   have e1:=h3 es rfl
   simp only[shOk]at hs
   split at hs
   ·rename_i fs hfs
    obtain⟨cs,rfl,_⟩:=okWide_struct hfs hval
    rw[e1];simp[Value.cells]
   ·cases hs
  | int k=>
   simp only[shOk,decide_eq_true_eq]at hs
   obtain⟨n,rfl⟩:=okWide_int (und_int hs) hval
   exact (cells_inj rfl (by obtain⟨_,rfl,_⟩:=insh_int h1;unfold Rep at h4;rw[h4.1];exact h4.2) h2).symm
  | bool=>
   simp only[shOk]at hs
   obtain⟨n,rfl⟩:=okWide_bool (bool_und hs) hval
   exact (cells_inj rfl (by obtain⟨_,rfl⟩:=insh_bool h1;unfold Rep at h4;rw[h4.1];exact h4.2) h2).symm
  | str=>
   simp only[shOk]at hs
   obtain⟨n,rfl⟩:=okWide_string (str_und hs) hval
   exact (cells_inj rfl (by obtain⟨_,rfl,_⟩:=insh_str h1;unfold Rep at h4;rw[h4.1];exact h4.2) h2).symm
  | sl e=>
   simp only[shOk]at hs
   split at hs
   ·rename_i q hq
    obtain⟨a,l,c,rfl⟩:=okWide_slice hq hval
    exact (cells_inj rfl (by obtain⟨_,rfl,_⟩:=insh_sl h1;unfold Rep at h4;obtain⟨_,_,_,rfl,_⟩:=h4;rfl) h2).symm
   ·cases hs
 unfold RepS
 rw[←hu];exact h4
end
end Go.Proofs.YtdjmklobfjigoaaGreatDoor.Sy
namespace Go.Proofs.YtdjmklobfjigoaaGreatDoor.Sy
open Go.RowKit
theorem r_rows {P:Program} {row:String} {args:Array Value} {w:World} {R:Value→World→Prop} {n l:Nat} (h:Rows P row args w R):RowsIn (Fence.wide.inRound l) n P row args w R:=
 fun c cs _=>let ⟨v,w',r,s⟩:=h c cs;⟨v,w',r,stepsIn_wide.2 s⟩
def onlyN (Q:Exit→Act→World→Prop):Exit→Act→World→Prop
 | .normal,a,w=>Q .normal a w
 | .panic c,a,w=>Q (.panic c) a w
 | _,_,_=>False
theorem onlyN_out (Q:Exit→Act→World→Prop):¬ LetsOut (onlyN Q):=fun h=>by
 obtain⟨a,w,h⟩:=h;exact h
theorem r_op {P:Program} {o:Oper} {a:Act} {w:World} {K K':Act→World→Prop} {Q:Exit→Act→World→Prop} {l n:Nat} (hd:∀ c,o.op≠ .defer c) (hK:∀ a w,K a w→K' a w) (h:o.wp P a w K (onlyN Q)):o.wpIn (Fence.wide.inRound l) n P a w K' Q:=by
 refine⟨fun _ _=>trivial,?_⟩
 rw[Oper.semAt_eq _ _ _ hd]
 unfold Oper.wp at h
 generalize (execOp a.eval o).run P w=r at *
 cases r with
 | ok x w'=>
  cases x<;>simp only[Oper.upon,Oper.uponIn]at h ⊢
  case value=>exact hK _ _ h
  case skip=>exact hK _ _ h
  case defer=>exact hK _ _ h
  case enter f args=>
   refine⟨fun h=>by simp[Fence.wide]at h,CallsIn.inRound l (callsIn_wide.2 (Calls.mono h fun e w'' he=>?_))⟩
   cases e with
   | returned v=>exact hK _ _ he
   | panicked c=>exact he
   | outgrown=>exact (onlyN_out Q he).elim
  case row row args=>exact⟨fun h=>by simp[Fence.wide]at h,r_rows (Rows.mono h fun v w'' he=>hK _ _ he)⟩
 | halt x w'=>cases x<;>simp only[Oper.upon,Oper.uponIn]at h ⊢<;>first|exact h|cases h
theorem r_any {P:Program} {ops:Array Oper} {Q:Exit→Act→World→Prop} {l n:Nat} (hd:∀ o∈ops.toList,∀ c,o.op≠ .defer c):∀ (fuel:Nat) (listed:Array Bool) (a:Act) (w:World),wpAny P .any ops (onlyN Q) fuel listed a w→wpAnyIn (Fence.wide.inRound l) n P .any ops Q fuel listed a w
 | 0,_,_,_,h=>h
 | fuel+1,listed,a,w,h=>by
  refine⟨h.1,fun i hi=>?_⟩
  have h2:=h.2 i hi
  unfold wpOp at h2
  unfold wpOpIn
  split
  ·rename_i ho
   rw[ho]at h2
   exact r_any hd fuel _ _ _ h2
  ·rename_i o ho
   rw[ho]at h2
   simp only at h2
   split
   ·rename_i hw
    rw[if_pos hw]at h2
    rcases h2 with h2|⟨_,h2⟩
    ·exact r_op (hd o (by obtain⟨h,e⟩:=Array.getElem?_eq_some_iff.1 ho;rw[←e];simp)) (fun a w=>r_any hd fuel _ _ _) h2
    ·exact (onlyN_out Q h2).elim
   ·rename_i hw
    rw[if_neg hw]at h2
    exact⟨fun _ _=>trivial,r_any hd fuel _ _ _ h2⟩
theorem r_ops {P:Program} {ops:Array Oper} {Q:Exit→Act→World→Prop} {r n:Nat} (hd:∀ o∈ops.toList,∀ c,o.op≠ .defer c):∀ (l:List Nat) (a:Act) (w:World),wpOps P ops (onlyN Q) l a w→wpOpsIn (Fence.wide.inRound r) n P ops Q l a w
 | [],a,w,h=>h
 | i :: l,a,w,h=>by
  unfold wpOps at h
  unfold wpOpsIn
  split
  ·rename_i ho
   rw[ho]at h
   exact r_ops hd l a w h
  ·rename_i o ho
   rw[ho]at h
   simp only at h
   split
   ·rename_i hw
    rw[if_pos hw]at h
    rcases h with h|⟨_,h⟩
    ·exact r_op (hd o (by obtain⟨h,e⟩:=Array.getElem?_eq_some_iff.1 ho;rw[←e];simp)) (fun a w=>r_ops hd l a w) h
    ·exact (onlyN_out Q h).elim
   ·rename_i hw
    rw[if_neg hw]at h
    exact⟨fun _ _=>trivial,r_ops hd l _ w h⟩
def flatO (ops:Array Oper):Bool:=ops.toList.all fun o=>match o.op with
 | .defer _=>false
 | _=>true
theorem flatO_spec {ops:Array Oper} (h:flatO ops=true):∀ o∈ops.toList,∀ c,o.op≠ .defer c:=fun o ho c e=>by
 have:=List.all_eq_true.1 h o ho
 rw[e]at this
 cases this
def flatC:Code→Bool
 | .skip=>true
 | .region _ ops _=>flatO ops
 | .seq a b=>flatC a && flatC b
 | .cond _ a b=>flatC a && flatC b
 | .block _ c=>flatC c
 | .exit _=>true
 | .ret=>true
 | _=>false
def CR (N:Nat) (P:Program) (r n:Nat) (c:Code) (Q:Exit→St→Prop) (σ:St):Prop:=
 ∀ (W:World) (G0:Gh) (A:Nat→Prop) (a:Act) (w:World),Sat N W G0 A σ a w→c.wpIn (Fence.wide.inRound r) n P (fun e a' w'=>∃ σ',Q e σ'∧Sat N W G0 A σ' a' w') a w
theorem nf_round {N:Nat} {P:Program} (hm:P.follows .mixedOrders=true) (r n:Nat):∀ (c:Code) (Q:Exit→St→Prop) (σ:St),okCode N c=true→flatC c=true→nf N P [] c Q σ→CR N P r n c Q σ
 | .skip,Q,σ,_,_,h=>fun W G0 A a w hs=>wpIn_skip ⟨σ,h,hs⟩
 | .region id ops false,Q,σ,hc,hf,h=>by
  intro W G0 A a w hs
  obtain⟨G,hs⟩:=hs
  simp only[okCode]at hc
  simp only[flatC]at hf
  simp only[nf]at h
  obtain⟨es,σ',h1,h2⟩:=opsK_spec (okOps_spec hc) h
  refine wpIn_region (r_ops (flatO_spec hf) _ _ _ ?_)
  have:=chain_plain (N:=N) (W:=W) (G0:=G0) (A:=A) (Q:=onlyN fun e a' w'=>∃ σ',Q e σ'∧Sat N W G0 A σ' a' w') (k:=0) (fun j oj t hj ht=>okOps_get hc (by simpa using hj) ht) h1 (fun j=>by simp) (fun G a w hs'=>⟨σ',h2,G,hs'⟩) G a w hs
  rw[Array.length_toList]at this
  rw[List.range_eq_range']
  exact this
 | .region id ops true,Q,σ,hc,hf,h=>by
  intro W G0 A a w hs
  obtain⟨G,hs⟩:=hs
  simp only[okCode]at hc
  simp only[flatC]at hf
  simp only[nf]at h
  obtain⟨es,σ',h1,h2,h3⟩:=opsK_spec (okOps_spec hc) h
  simp only[DrawChk,List.append_nil,List.reverse_reverse,Bool.and_eq_true]at h2
  refine wpIn_region_any hm (r_any (flatO_spec hf) _ _ _ _ ?_)
  have:=any_draws (N:=N) (W:=W) (G0:=G0) (A:=A) (Q:=onlyN fun e a' w'=>∃ σ',Q e σ'∧Sat N W G0 A σ' a' w') (fun j oj t hj ht=>okOps_get hc hj ht) h1 h2.1
   (fun e he l hl=>⟨chain_nw h1 e he l hl,nwsOk_spec h2.2 e (by simpa using he) l hl⟩) (fun G a w hs'=>⟨σ',h3,G,hs'⟩) hs
  exact this
 | .seq x y,Q,σ,hc,hf,h=>by
  intro W G0 A a w hs
  simp only[okCode,Bool.and_eq_true]at hc
  simp only[flatC,Bool.and_eq_true]at hf
  have hst:stops [] x=false:=by unfold stops;split<;>simp
  simp only[nf,hst]at h
  refine wpIn_seq (wpIn_mono (nf_round hm r n x _ σ hc.1 hf.1 h W G0 A a w hs) ?_)
  rintro e a w ⟨σ',h1,h2⟩
  cases e<;>first|exact nf_round hm r n y Q σ' hc.2 hf.2 h1 W G0 A a w h2|exact⟨σ',h1,h2⟩
 | .cond c x y,Q,σ,hc,hf,h=>by
  intro W G0 A a w hs
  simp only[okCode,Bool.and_eq_true]at hc
  simp only[flatC,Bool.and_eq_true]at hf
  simp only[nf]at h
  split at h
  ·rename_i v hv
   obtain⟨G,hs'⟩:=hs
   have h1:=hs'.eval c
   rw[hv]at h1
   unfold RepS at h1;unfold Rep at h1
   refine wpIn_cond h1.1 ?_
   cases v
   ·exact nf_round hm r n y Q σ hc.2 hf.2 h W G0 A a w ⟨G,hs'⟩
   ·exact nf_round hm r n x Q σ hc.1 hf.1 h W G0 A a w ⟨G,hs'⟩
  ·exact h.elim
 | .block id c,Q,σ,hc,hf,h=>by
  intro W G0 A a w hs
  simp only[okCode]at hc
  simp only[flatC]at hf
  simp only[nf]at h
  refine wpIn_block (wpIn_mono (nf_round hm r n c _ σ hc hf h W G0 A a w hs) ?_)
  rintro e a w ⟨σ',h1,h2⟩
  cases e with
  | exit i=>
   simp only[BlockQ]at h1
   simp only[Exit.inBlock]
   split
   ·rename_i e;rw[if_pos e]at h1;exact⟨σ',h1,h2⟩
   ·rename_i e;rw[if_neg e]at h1;exact⟨σ',h1,h2⟩
  | _=>exact⟨σ',h1,h2⟩
 | .exit id,Q,σ,_,_,h=>fun W G0 A a w hs=>wpIn_exit ⟨σ,h,hs⟩
 | .ret,Q,σ,_,_,h=>fun W G0 A a w hs=>wpIn_ret ⟨σ,h,hs⟩
 | .loop _,Q,σ,_,hf,_=>by simp only[flatC]at hf;cases hf
 | .scope _,Q,σ,_,hf,_=>by simp only[flatC]at hf;cases hf
 | .rangeFunc _ _ _ _,Q,σ,_,hf,_=>by simp only[flatC]at hf;cases hf
 | .label _,Q,σ,_,hf,_=>by simp only[flatC]at hf;cases hf
 | .goto _,Q,σ,_,hf,_=>by simp only[flatC]at hf;cases hf
 | .refuse _,Q,σ,_,hf,_=>by simp only[flatC]at hf;cases hf
def IterOk (P:Program) (gf:FuncId) (lb:Array Value) (ys:List (List Value)) (F0:Nat→Prop) (Rd0 Rd:World→Prop):Prop:=
 ∀ (l:Nat) (J:Nat→World→Prop) (Jx:World→Prop) (W:World),Rd0 W→
  (∀ k A B,J k A→Below A.heap.size A B→J k B)→(∀ A B,Jx A→Below A.heap.size A B→Jx B)→(∀ k A,J k A→Rd A)→
  (∀ k y A,ys[k]? = some y→J k A→YieldAt Fence.wide 7 P l y.toArray A fun e B=>(∀ b o,F0 b→B.cell? ⟨b,o,none⟩=A.cell? ⟨b,o,none⟩)∧((e = .returned (.bool true)∧J (k+1) B)∨(e = .returned (.bool false)∧Jx B)))→
  J 0 W→CallsIn Fence.wide 8 P gf (#[.func (.yield l) #[] #[]]++lb) W fun e B=>(∃ v,e = .returned v)∧(J ys.length B∨Jx B)
def KA (l:Nat) (A W':World):Prop:=∀ (k:Nat) (o:Obj),k≠l→A.heap[k]? = some o→o.isCells=false→W'.heap[k]? = some o
def roundEnd (l:Nat) (o':Obj) (F0:Nat→Prop) (A:World) (I:World→Prop) (Ix:Code→World→Prop) (e:Exit) (w':World):Prop:=
 KA l A w'∧w'.heap[l]? = some o'∧(∀ b o,F0 b→w'.cell? ⟨b,o,none⟩=A.cell? ⟨b,o,none⟩)∧match e with
  | .normal=>I w'
  | .ret=>Ix .ret w'
  | .exit id=>Ix (.exit id) w'
  | _=>False
theorem wpIn_range {P:Program} {g:Operand} {ps:Array Tmp} {assign body:Code} {Q:Exit→Act→World→Prop} {a:Act} {w:World} {gf:FuncId} {lb:Array Value} {ys:List (List Value)} {F0:Nat→Prop} {Rd0 Rd:World→Prop}
  (hg:a.eval g = .func (.func gf) #[] lb) (eg:∀ args w,(callFunc gf args).run P w = .ok (.enter gf args) w) (hit:IterOk P gf lb ys F0 Rd0 Rd) (hps:∀ y∈ys,y.length=ps.size)
  (I:Nat→World→Prop) (Ix:Code→World→Prop)
  (hIb:∀ k A B,I k A→Below A.heap.size A B→I k B) (hIp:∀ k A D o o',I k A→A.heap[D]? = some o→o.isCells=false→o'.isCells=false→w.heap.size≤D→I k (A.putObj D o'))
  (hXb:∀ c A B,Ix c A→Below A.heap.size A B→Ix c B) (hXp:∀ c A D o o',Ix c A→A.heap[D]? = some o→o.isCells=false→o'.isCells=false→w.heap.size≤D→Ix c (A.putObj D o'))
  (hRd:∀ k A,I k A→Rd A) (hRd0:∀ B,Below w.heap.size w B→Rd0 B) (h0:I 0 w)
  (hround:∀ (l k:Nat) (y:List Value) (A:World),ys[k]? = some y→I k A→w.heap.size≤l→(∃ r,A.heap[l]? = some (.loop r))→
   assign.wpIn (Fence.wide.inRound l) 7 P (Exit.then (fun a1 w1=>KA l A w1∧w1.heap[l]? = A.heap[l]?∧∀ o':Obj,o'.isCells=false→body.wpIn (Fence.wide.inRound l) 7 P (fun e _ w'=>roundEnd l o' F0 A (I (k+1)) Ix e w') a1 (w1.putObj l o')) (fun _ _ _=>False))
    {tmps:=(ps.zip y.toArray).foldl (fun t (p,v)=>t.setIfInBounds p v) a.tmps,defers:=[]} A)
  (hdone:∀ (D:Nat) (W:World),w.heap.size≤D→I ys.length W→W.heap[D]? = some (Obj.deferred (some []))→Q .normal {a with defers:={target:=.collected D,args:=#[]} :: a.defers} W)
  (hstop:∀ (D:Nat) (c:Code) (W:World),w.heap.size≤D→Ix c W→W.heap[D]? = some (Obj.deferred (some []))→c.wpIn Fence.wide 9 P Q {a with defers:={target:=.collected D,args:=#[]} :: a.defers} W) :
  (Code.rangeFunc g ps assign body).wpIn Fence.wide 9 P Q a w:=by
 refine wpIn_rangeFunc ?_
 intro fn hfn
 obtain⟨rec,hrec⟩:∃ rec:LoopState→Option Code→Loop,rec=fun st pe=>{state:=st,pending:=pe,fn,tmps:=a.tmps,params:=ps,assign,body,defers:=w.heap.size}:=⟨_,rfl⟩
 obtain⟨W1,hW1⟩:∃ W1,(w.alloc (.deferred (some []))).alloc (.loop (rec .ready none))=W1:=⟨_,rfl⟩
 have hL1:W1.heap[w.heap.size+1]? = some (Obj.loop (rec .ready none)):=by
  rw[←hW1];have:=World.alloc_heap_new (w.alloc (.deferred (some []))) (.loop (rec .ready none));rwa [World.size_alloc]at this
 have hK1:W1.heap[w.heap.size]? = some (Obj.deferred (some [])):=by
  rw[←hW1];exact (Below.heap_alloc _ _ _ (by simp)).trans (World.alloc_heap_new w _)
 have hb1:Below w.heap.size w W1:=by
  rw[←hW1];exact ((Below.refl _ w).alloc (Nat.le_refl _) _).alloc (by simp) _
 have hI1:I 0 W1:=hIb _ _ _ h0 hb1
 refine⟨w.heap.size+1,[{target:=.collected w.heap.size,args:=#[]}],W1,{target:=.fn (.func gf) lb,args:=#[.func (.yield (w.heap.size+1)) #[] #[]]},W1,gf,
  #[.func (.yield (w.heap.size+1)) #[] #[]]++lb,W1,?_,?_,?_,?_,fun _=>by omega,?_⟩
 ·rw[←hW1,hrec];exact run_enterLoop_outer _ _ _ _ _
 ·simp only[resolve,hg]
  simp[go_sem]
 ·intro f' hf';trivial
 ·simp[invoke,go_sem,eg]
 ·refine (
      hit (w.heap.size+1)
   (fun k W=>I k W∧W.heap[w.heap.size+1]? = some (Obj.loop (rec .ready none))∧W.heap[w.heap.size]? = some (Obj.deferred (some [])))
   (fun W=>∃ c,Ix c W∧W.heap[w.heap.size+1]? = some (Obj.loop (rec .done (some c)))∧W.heap[w.heap.size]? = some (Obj.deferred (some [])))
   W1 (hRd0 _ hb1)
   (fun k A B hs hb=>⟨hIb _ _ _ hs.1 hb,(hb.block _ (Array.getElem?_eq_some_iff.1 hs.2.1).1).trans hs.2.1,(hb.block _ (Array.getElem?_eq_some_iff.1 hs.2.2).1).trans hs.2.2⟩)
   (fun A B hs hb=>by
    obtain⟨c,hc,hl,hk⟩:=hs
    exact⟨c,hXb c _ _ hc hb,(hb.block _ (Array.getElem?_eq_some_iff.1 hl).1).trans hl,(hb.block _ (Array.getElem?_eq_some_iff.1 hk).1).trans hk⟩)
   (fun k A hs=>hRd k A hs.1) ?_ ⟨hI1,hL1,hK1⟩).mono ?_
  ·rintro k y W hy ⟨hi,hl,hk⟩
   have hlt:w.heap.size+1 < W.heap.size:=(Array.getElem?_eq_some_iff.1 hl).1
   have hys:=run_yield (P:=P) (args:=y.toArray) hl (by rw[hrec];simpa using hps y (List.mem_of_getElem? hy))
   rw[hrec]at hys
   refine⟨fn,_,assign,body,hys,roundIn_of_wpIn hfn (wpIn_mono (hround (w.heap.size+1) k y W hy hi (by omega) ⟨_,hl⟩) ?_)⟩
   rintro e a1 Wa hp
   cases e with
   | normal=>
    obtain⟨hkfa,hla,hbody⟩:=hp
    have hl1:=hla.trans hl
    have hk1:=hkfa _ _ (by omega) hk rfl
    have hlt1:w.heap.size+1 < Wa.heap.size:=(Array.getElem?_eq_some_iff.1 hl1).1
    refine⟨_,run_beginRound hl1 (by rw[hrec]),?_⟩
    have hl2:(Wa.putObj (w.heap.size+1) (.loop {rec .ready none with state:=.busy})).heap[w.heap.size+1]? = some (Obj.loop {rec .ready none with state:=.busy}):=World.putObj_heap_same hlt1
    have hk2:(Wa.putObj (w.heap.size+1) (.loop {rec .ready none with state:=.busy})).heap[w.heap.size]? = some (Obj.deferred (some [])):=(World.putObj_heap_other (by omega)).trans hk1
    refine wpIn_mono (hbody (.loop {rec .ready none with state:=.busy}) rfl) ?_
    have fin:∀ (jump:Option Code) (W3:World),W3.heap[w.heap.size+1]? = some (Obj.loop {rec .ready none with state:=.busy})→KA (w.heap.size+1) W W3→
      (Instr.endRound (w.heap.size+1) jump).run P W3 = .ok (.bool jump.isNone) (W3.putObj (w.heap.size+1) (.loop (rec (if jump.isNone then .ready else .done) jump)))∧
      (W3.putObj (w.heap.size+1) (.loop (rec (if jump.isNone then .ready else .done) jump))).heap[w.heap.size+1]? = some (Obj.loop (rec (if jump.isNone then .ready else .done) jump))∧
      (W3.putObj (w.heap.size+1) (.loop (rec (if jump.isNone then .ready else .done) jump))).heap[w.heap.size]? = some (Obj.deferred (some [])):=fun jump W3 hl3 hk3=>by
     have:=run_endRound (P:=P) jump hl3
     rw[hrec]at this ⊢
     exact⟨this,World.putObj_heap_same (Array.getElem?_eq_some_iff.1 hl3).1,(World.putObj_heap_other (by omega)).trans (hk3 _ _ (by omega) hk rfl)⟩
    have cellS:∀ (W3:World) (o':Obj),W3.heap[w.heap.size+1]? = some (Obj.loop {rec .ready none with state:=.busy})→o'.isCells=false→∀ b o,(W3.putObj (w.heap.size+1) o').cell? ⟨b,o,none⟩=W3.cell? ⟨b,o,none⟩:=fun W3 o' h1 h2 b o=>cell_putObj h1 rfl h2 b o
    rintro e a3 W3 ⟨hk3,hl3,hF3,hp⟩
    cases e with
    | normal=>
     obtain⟨hr,hl4,hk4⟩:=fin none W3 hl3 hk3
     exact⟨_,_,hr,fun b o hb=>(cellS W3 _ hl3 rfl b o).trans (hF3 b o hb),.inl ⟨rfl,hIp _ _ _ _ _ hp hl3 rfl rfl (by omega),hl4,hk4⟩⟩
    | ret=>
     obtain⟨hr,hl4,hk4⟩:=fin (some .ret) W3 hl3 hk3
     exact⟨_,_,hr,fun b o hb=>(cellS W3 _ hl3 rfl b o).trans (hF3 b o hb),.inr ⟨rfl,.ret,hXp _ _ _ _ _ hp hl3 rfl rfl (by omega),hl4,hk4⟩⟩
    | exit id=>
     obtain⟨hr,hl4,hk4⟩:=fin (some (.exit id)) W3 hl3 hk3
     exact⟨_,_,hr,fun b o hb=>(cellS W3 _ hl3 rfl b o).trans (hF3 b o hb),.inr ⟨rfl,.exit id,hXp _ _ _ _ _ hp hl3 rfl rfl (by omega),hl4,hk4⟩⟩
    | goto t=>exact hp.elim
    | panic ch=>exact hp.elim
    | outgrown=>exact hp.elim
   | _=>exact hp.elim
  ·rintro e W2 ⟨⟨v,rfl⟩,(⟨hi,hl,hk⟩|⟨c,hi,hl,hk⟩)⟩
   ·exact⟨none,_,by have:=run_endLoop (P:=P) hl (by rw[hrec];simp);rw[hrec]at this;exact this,hdone _ _ (Nat.le_refl _) (hIp _ _ _ _ _ hi hl rfl rfl (by omega)) ((World.putObj_heap_other (by omega)).trans hk)⟩
   ·exact⟨some c,_,by have:=run_endLoop (P:=P) hl (by rw[hrec];simp);rw[hrec]at this;exact this,hstop _ c _ (Nat.le_refl _) (hXp _ _ _ _ _ hi hl rfl rfl (by omega)) ((World.putObj_heap_other (by omega)).trans hk)⟩
theorem putObj_get {w:World} {D:Nat} {o:Obj} {k:Nat} (hD:D < w.heap.size):(w.putObj D o).heap[k]? = if k=D then some o else w.heap[k]?:=by
 by_cases e:k=D
 ·subst e;rw[if_pos rfl];exact World.putObj_heap_same hD
 ·rw[if_neg e];exact World.putObj_heap_other e
theorem putObj_size (w:World) (D:Nat) (o:Obj):(w.putObj D o).heap.size=w.heap.size:=by simp[World.putObj]
theorem putObj_self {w:World} {D:Nat} {o o':Obj} (h:w.heap[D]? = some o):(w.putObj D o').putObj D o=w:=by
 have hD:=(Array.getElem?_eq_some_iff.1 h).1
 have:(w.putObj D o').putObj D o={w with heap:=((w.putObj D o').putObj D o).heap}:=rfl
 rw[this]
 have:((w.putObj D o').putObj D o).heap=w.heap:=by
  apply Array.ext_getElem?
  intro k
  rw[putObj_get (by rw[putObj_size];exact hD),putObj_get hD]
  split
  ·rename_i e;subst e;exact h.symm
  ·rfl
 rw[this]
theorem SatG.both {N:Nat} {W:World} {G0:Gh} {A:Nat→Prop} {G:Gh} {g:Nat→S} {h:Nat→Option Blk} {a:Act} {w:World} (s:SatG N W G0 A G g h a w) {l:Nat} {r:Loop} {o':Obj} (hl:w.heap[l]? = some (Obj.loop r)) (ho:o'.isCells=false) (hW:l < W.heap.size) :
  SatG N (W.putObj l o') G0 A G g h a (w.putObj l o'):=by
 have sm:Same w (w.putObj l o'):=Same.putObj hl rfl ho
 have hlw:=(Array.getElem?_eq_some_iff.1 hl).1
 refine⟨s.size,?_,fun t=>RepS.keep (sm.keep s.heap.fb) _ _ (by simp) (s.slots t),s.heap.same sm,⟨s.frm.os,s.frm.tape,s.frm.output,by rw[putObj_size,putObj_size];exact s.frm.size,?_,?_,s.frm.fin,?_,s.frm.same⟩⟩
 ·obtain⟨Ds,h1,h2,h3⟩:=s.defers
  refine⟨Ds,h1,h2,fun D hD=>?_⟩
  obtain⟨h4,h5⟩:=h3 D hD
  rw[putObj_size,putObj_get hlw,if_neg (by rintro rfl;rw[hl]at h4;cases h4)]
  exact⟨h4,h5⟩
 ·intro b hb hA
  rw[putObj_size]at hb
  rw[putObj_get hlw,putObj_get hW,s.frm.block b hb hA]
 ·intro l' b k h1 h2;rw[putObj_size];exact s.frm.own l' b k h1 h2
 ·intro b hb;rw[putObj_size];exact s.frm.fout b hb
theorem SatG.world {N:Nat} {W:World} {G0:Gh} {A:Nat→Prop} {G:Gh} {g:Nat→S} {h:Nat→Option Blk} {a:Act} {w w':World} (s:SatG N W G0 A G g h a w) (sm:SameW W w w') (hd:DefOk W a.defers w'):SatG N W G0 A G g h a w':=
 ⟨s.size,hd,fun t=>RepS.keep (sm.toSame.keep s.heap.fb) _ _ (by simp) (s.slots t),s.heap.same sm.toSame,s.frm.same' sm⟩
def RoundC (P:Program) (l:Nat) (assign body:Code) (us:List Value) (w:World) (R:Ending→World→Prop):Prop:=
 ∀ r,w.heap[l]? = some (Obj.loop r)→assign.wpIn (Fence.wide.inRound l) 7 P (Exit.then (fun a1 w1=>KA l w w1∧w1.heap[l]? = w.heap[l]?∧∀ o':Obj,o'.isCells=false→body.wpIn (Fence.wide.inRound l) 7 P (fun e _ w'=>KA l w w'∧w'.heap[l]? = some o'∧match e with
   | .normal=>R (.returned (.bool true)) (w'.putObj l (.loop r))
   | _=>False) a1 (w1.putObj l o')) (fun _ _ _=>False)) {tmps:=us.toArray,defers:=[]} w
theorem RoundC.mono {P:Program} {l:Nat} {assign body:Code} (us:List Value) (w:World) (R R':Ending→World→Prop) (h:RoundC P l assign body us w R) (hR:∀ e w',R e w'→R' e w'):RoundC P l assign body us w R':=by
 intro r hr
 refine wpIn_mono (h r hr) ?_
 rintro e a1 w1 hp
 cases e with
 | normal=>
  refine⟨hp.1,hp.2.1,fun o' ho=>wpIn_mono (hp.2.2 o' ho) ?_⟩
  rintro e a2 w2 ⟨h1,h3,h2⟩
  refine⟨h1,h3,?_⟩
  cases e with
  | normal=>exact hR _ _ h2
  | _=>exact h2
 | _=>exact hp
def EndQ (post:List (Nat×Blk)) (e:Exit) (τ:St):Prop:=match e with
 | .normal=>∃ ρ,rhoOk ρ=true∧wkH ρ (lkB τ.h) post
 | _=>False
def ThenB (N:Nat) (P:Program) (body:Code) (post:List (Nat×Blk)) (e:Exit) (τ:St):Prop:=match e with
 | .normal=>nf N P [] body (EndQ post) τ
 | _=>False
theorem EndQ_normal (post:List (Nat×Blk)) (τ:St):EndQ post .normal τ=∃ ρ,rhoOk ρ=true∧wkH ρ (lkB τ.h) post:=rfl
theorem ThenB_normal (N:Nat) (P:Program) (body:Code) (post:List (Nat×Blk)) (τ:St):ThenB N P body post .normal τ=nf N P [] body (EndQ post) τ:=rfl
theorem ka_of {W w:World} {G0:Gh} {A:Nat→Prop} {G:Gh} {h:Nat→Option Blk} (l:Nat) (f:From W G0 A G w h) (hA:∀ b,A b→∃ cs e m,W.heap[b]? = some (Obj.cells cs e m)):KA l W w:=by
 intro k o _ ho hc
 rw[f.block k (Array.getElem?_eq_some_iff.1 ho).1,ho]
 intro hA'
 obtain⟨cs,e,m,h2⟩:=hA k hA'
 rw[ho]at h2;cases h2;cases hc
theorem round_fn {N:Nat} {P:Program} {l:Nat} {assign body:Code} {gg:List (Nat×S)} {pre post:List (Nat×Blk)} (hm:P.follows .mixedOrders=true) (hok1:okCode N assign=true) (hok2:okCode N body=true) (hf1:flatC assign=true) (hf2:flatC body=true)
  (hkeys:gg.all (fun q=>Nat.blt q.1 N)=true) (h:nf N P [] assign (ThenB N P body post) ⟨gg,pre⟩):FnOkG (RoundC P l assign body) ((List.range N).map (lkS gg)) pre (.t (.lit (.bool true))) post:=by
 intro G w us hh hr r hl
 have hlw:=(Array.getElem?_eq_some_iff.1 hl).1
 have hlen:=hr.length
 have hA:∀ b,ownA G pre b→∃ cs e m,w.heap[b]? = some (Obj.cells cs e m):=fun b ⟨l',x,h1,h2⟩=>hh.obj h1 h2
 have hs0:SatG N w G (ownA G pre) G (lkS gg) (lkB pre) {tmps:=us.toArray,defers:=[]} w:=by
  refine⟨by simpa using hlen,DefOk.nil _ _,fun t=>?_,hh,⟨rfl,rfl,rfl,Nat.le_refl _,fun _ _ _=>rfl,fun l b k h1 h2=> .inl ⟨l,b,h1,h2⟩,fun _ h=>h,fun _ h=> .inl h,fun _ _=>rfl⟩⟩
  by_cases ht:t < N
  ·obtain⟨u,h1,h2⟩:=RepPs.get (i:=t) (s:=lkS gg t) hr (by simp[ht])
   have:us.toArray.getD t undef=u:=by
    rw[Array.getD_eq_getD_getElem?];simp[h1]
   rw[this];exact h2
  ·have:lkS gg t = .dead:=by
    have key:∀ g:List (Nat×S),g.all (fun q=>Nat.blt q.1 N)=true→lkS g t = .dead:=by
     intro g
     induction g with
     | nil=>intro _;rfl
     | cons q r ih=>
      intro hq
      simp only[List.all_cons,Bool.and_eq_true]at hq
      obtain⟨k,s⟩:=q
      simp only[lkS]
      have hk:k < N:=by have:=hq.1;simp[Nat.blt]at this;omega
      rw[if_neg (by omega)]
      exact ih hq.2
    exact key gg hkeys
   rw[this];unfold RepS;trivial
 refine wpIn_mono (nf_round hm l 7 assign _ _ hok1 hf1 h w G (ownA G pre) _ w ⟨G,hs0⟩) ?_
 rintro e a1 w1 ⟨τ,hq,G1,hs1⟩
 cases e with
 | normal=>
  have hl1:w1.heap[l]? = some (Obj.loop r):=by
   rw[hs1.frm.block l hlw,hl]
   intro hA'
   obtain⟨cs,e,m,h2⟩:=hA l hA'
   rw[hl]at h2;cases h2
  refine⟨ka_of l hs1.frm hA,by rw[hl1,hl],fun o' ho=>?_⟩
  have hl1w:=(Array.getElem?_eq_some_iff.1 hl1).1
  have hs2:=hs1.both hl1 ho hlw
  refine wpIn_mono (nf_round hm l 7 body _ _ hok2 hf2 hq (w.putObj l o') G (ownA G pre) a1 (w1.putObj l o') ⟨G1,hs2⟩) ?_
  rintro e a2 w2 ⟨τ2,hq2,G2,hs3⟩
  have hA2:∀ b,ownA G pre b→∃ cs e m,(w.putObj l o').heap[b]? = some (Obj.cells cs e m):=by
   intro b hb
   obtain⟨cs,e,m,h2⟩:=hA b hb
   refine⟨cs,e,m,?_⟩
   rw[putObj_get hlw,if_neg (by rintro rfl;rw[hl]at h2;cases h2)]
   exact h2
  have hblk:∀ k,k < w.heap.size→¬ ownA G pre k→w2.heap[k]? = (w.putObj l o').heap[k]?:=fun k hk hk2=>hs3.frm.block k (by rw[putObj_size];exact hk) hk2
  have hno:∀ k,k < w.heap.size→∀ o,(w.putObj l o').heap[k]? = some o→o.isCells=false→¬ ownA G pre k:=by
   intro k hk o h1 h2 h3
   obtain⟨cs,e,m,h4⟩:=hA2 k h3
   rw[h1]at h4;cases h4;cases h2
  have hl2:w2.heap[l]? = some o':=by
   have e1:(w.putObj l o').heap[l]? = some o':=World.putObj_heap_same hlw
   rw[hblk l hlw (hno l hlw o' e1 ho)];exact e1
  refine⟨?_,hl2,?_⟩
  ·intro k o hkl h1 h2
   have hk:=(Array.getElem?_eq_some_iff.1 h1).1
   have e1:(w.putObj l o').heap[k]? = some o:=by rw[putObj_get hlw,if_neg hkl];exact h1
   rw[hblk k hk (hno k hk o e1 h2)]
   exact e1
  ·cases e with
   | normal=>
    obtain⟨ρ,h1,h2⟩:=hq2
    have hs4:=hs3.frm
    have sm:Same w2 (w2.putObj l (.loop r)):=Same.putObj hl2 ho rfl
    have hf:From w G (ownA G pre) G2 (w2.putObj l (.loop r)) (lkB τ2.h):=by
     refine⟨hs4.os,hs4.tape,hs4.output,by rw[putObj_size];have:=hs4.size;rw[putObj_size]at this;exact this,?_,?_,hs4.fin,?_,hs4.same⟩
     ·intro b hb hAb
      rw[putObj_get (Array.getElem?_eq_some_iff.1 hl2).1]
      split
      ·rename_i e;subst e;exact hl.symm
      ·rename_i hne
       rw[hblk b hb hAb,putObj_get hlw,if_neg hne]
     ·intro l' b k h3 h4;have:=hs4.own l' b k h3 h4;rw[putObj_size]at this;exact this
     ·intro b hb;have:=hs4.fout b hb;rw[putObj_size]at this;exact this
    exact⟨.bool true,wkGh ρ (lkB τ2.h) G2,rfl,wk_from h1 h2 hf,wk_heap h1 (hs3.heap.same sm) h2,by unfold RepS Rep;exact⟨rfl,rfl⟩⟩
   | _=>exact hq2.elim
 | _=>exact hq.elim
def RdI (preI:List (Nat×Blk)) (caps:List S) (lb:List Value) (F0:Nat→Prop) (W:World):Prop:=∃ G:Gh,G.F=F0∧HeapOk G W (lkB preI)∧RepPs G W caps lb
def IterSy (P:Program) (gf:FuncId) (caps:List S) (preI:List (Nat×Blk)) (ys:List (List Value)):Prop:=
 ∀ (lb:List Value) (F0:Nat→Prop),IterOk P gf lb.toArray ys F0 (RdI preI caps lb F0) (fun W=>∃ F,RdI preI caps lb F W)
def psS (ps:List Tmp) (y:List Value):List (Nat×S):=(ps.zip y).map fun q=>(q.1,.t (.lit q.2))
def slotsR (gs:List (Nat×S)) (ρ:List (Nat×Nat)) (ps:List Tmp):List (Nat×S)→Prop
 | []=>True
 | (t,s) :: r=>ps.contains t=false∧lkS gs t=s.ren ρ∧slotsR gs ρ ps r
def allIn (ρ:List (Nat×Option Nat)) (h:List (Nat×Blk)):Bool:=h.all fun q=>!offR q.1 ρ
theorem allIn_spec {ρ:List (Nat×Option Nat)} {h:List (Nat×Blk)} (hA:allIn ρ h=true) {l:Nat} {b:Blk} (hl:lkB h l=some b):offR l ρ=false:=by
 have:=List.all_eq_true.1 hA (l,b) (lkB_mem hl)
 simpa using this
theorem slotsR_get {gs:List (Nat×S)} {ρ:List (Nat×Nat)} {ps:List Tmp} {t:Nat}:∀ {g1:List (Nat×S)},slotsR gs ρ ps g1→lkS g1 t = .dead∨lkS gs t=(lkS g1 t).ren ρ
 | [],_=> .inl rfl
 | (k,s) :: r,h=>by
  simp only[lkS]
  split
  ·rename_i e;subst e;exact .inr h.2.1
  ·exact slotsR_get h.2.2
theorem zip_get {ps:List Tmp}:∀ {zs:List (Tmp×Value)} {arr:Array Value} {g1:List (Nat×S)} {t:Nat},(zs.map (·.1)).Nodup→(∀ q∈zs,q.1 < arr.size)→
  (t∉zs.map (·.1)→lkS (zs.map (fun q=>(q.1,S.t (.lit q.2)))++g1) t=lkS g1 t∧(zs.foldl (fun t (p,v)=>t.setIfInBounds p v) arr).getD t undef=arr.getD t undef)∧
  (∀ v,(t,v)∈zs→lkS (zs.map (fun q=>(q.1,S.t (.lit q.2)))++g1) t = .t (.lit v)∧(zs.foldl (fun t (p,v)=>t.setIfInBounds p v) arr).getD t undef=v)∧
  (zs.foldl (fun t (p,v)=>t.setIfInBounds p v) arr).size=arr.size
 | [],arr,g1,t,_,_=>⟨fun _=>⟨rfl,rfl⟩,fun v h=>(by cases h),rfl⟩
 | (k,u) :: zs,arr,g1,t,hn,hs=>by
  simp only[List.map_cons,List.nodup_cons]at hn
  have hk:k < arr.size:=hs (k,u) (by simp)
  obtain⟨h1,h2,h3⟩:=zip_get (ps:=ps) (zs:=zs) (arr:=arr.setIfInBounds k u) (g1:=g1) (t:=t) hn.2 (fun q hq=>by simpa using hs q (by simp[hq]))
  simp only[List.map_cons,List.cons_append,List.foldl_cons,lkS]
  refine⟨fun ht=>?_,fun v hv=>?_,by rw[h3];simp⟩
  ·simp only[List.mem_cons,not_or]at ht
   rw[if_neg ht.1]
   obtain⟨h4,h5⟩:=h1 ht.2
   refine⟨h4,?_⟩
   rw[h5,Array.getD_eq_getD_getElem?,Array.getD_eq_getD_getElem?,Array.getElem?_setIfInBounds_ne (fun e=>ht.1 e.symm)]
  ·rcases List.mem_cons.1 hv with hv|hv
   ·cases hv
    rw[if_pos rfl]
    refine⟨rfl,?_⟩
    rw[(h1 hn.1).2,Array.getD_eq_getD_getElem?]
    simp[hk]
   ·have hne:t≠k:=fun e=>hn.1 (by rw[←e];exact List.mem_map.2 ⟨(t,v),hv,rfl⟩)
    rw[if_neg hne]
    exact h2 v hv
theorem RepPs.ofFn {G:Gh} {w:World} {f:Nat→S}:∀ {n k:Nat} {us:List Value},us.length=n→(∀ i,i < n→RepS G w (f (k+i)) (us.getD i undef))→RepPs G w ((List.range' k n).map f) us
 | 0,k,us,hl,_=>by
  have:=List.length_eq_zero_iff.1 hl
  subst this
  simp only[List.range'_zero,List.map_nil];unfold RepPs;rfl
 | n+1,k,us,hl,h=>by
  cases us with
  | nil=>simp at hl
  | cons u us=>
   simp only[List.range'_succ,List.map_cons]
   unfold RepPs
   refine⟨u,us,rfl,by simpa using h 0 (by omega),RepPs.ofFn (by simpa using hl) fun i hi=>?_⟩
   have:=h (i+1) (by omega)
   rw[show k+1+i=k+(i+1) by omega]
   simpa using this
theorem argR_ren (ρ:List (Nat×Nat)) (h:Nat→Option Blk) (bor:List Nat) (s:S):argR ρ h bor (s.ren ρ) s:=by
 cases s with
 | t x=>unfold S.ren argR;exact wkT_refl x
 | _=>unfold S.ren argR;simp[S.ren]
theorem argPs_ren (ρ:List (Nat×Nat)) (h:Nat→Option Blk) (bor:List Nat) (f:Nat→S):∀ l:List Nat,argPs ρ h bor (l.map fun t=>(f t).ren ρ) (l.map f)
 | []=>by simp only[List.map_nil];unfold argPs;trivial
 | t :: r=>by
  simp only[List.map_cons]
  unfold argPs
  exact⟨argR_ren ρ h bor (f t),argPs_ren ρ h bor f r⟩
theorem marks_inj:∀ {a b:List Nat},a.map (fun D=>({target:=.collected D,args:=#[]}:Deferred))=b.map (fun D=>{target:=.collected D,args:=#[]})→a=b
 | [],[],_=>rfl
 | [],_ :: _,h=>by simp at h
 | _ :: _,[],h=>by simp at h
 | x :: a,y :: b,h=>by
  simp only[List.map_cons,List.cons.injEq,Deferred.mk.injEq,Target.collected.injEq]at h
  rw[h.1.1,marks_inj h.2]
structure Round (N:Nat) (P:Program) (assign body:Code) (ps:List Tmp) (gs:List (Nat×S)) (h h':List (Nat×Blk)) (y:List Value) (ρ:List (Nat×Nat)) (g1:List (Nat×S)) (pre post:List (Nat×Blk)) (ρ2:List (Nat×Option Nat)):Prop where
 chk:callChk ρ [] pre post (.t (.lit (.bool true)))=true
 hpre:preR ρ (lkB h) pre
 slots:slotsR gs ρ ps g1
 keys:g1.all (fun q=>Nat.blt q.1 N)=true
 fresh:nwOk ⟨gs,h⟩ (callE ρ [] [] pre post (.t (.lit (.bool true)))).nw=true
 run:nf N P [] assign (ThenB N P body post) ⟨psS ps y++g1,pre⟩
 wk:Wk ρ2 ⟨gs,updB (callE ρ [] [] pre post (.t (.lit (.bool true)))).u h⟩ ⟨gs,h'⟩
theorem nodupB_list:∀ {l:List Tmp},nodupB l=true→l.Nodup
 | [],_=>List.nodup_nil
 | t :: r,h=>by
  simp only[nodupB,Bool.and_eq_true,Bool.not_eq_true',List.contains_eq_mem,decide_eq_false_iff_not]at h
  exact List.nodup_cons.2 ⟨h.1,nodupB_list h.2⟩
theorem CW.rangeF {N:Nat} {P:Program} {Q:Exit→St→Prop} {g:Operand} {ps:Array Tmp} {assign body:Code} {σ:St} (gs:List (Nat×S)) (hs:Nat→List (Nat×Blk)) (ρ0:List (Nat×Option Nat)) {gf:FuncId} {caps:List S} (preI:List (Nat×Blk)) (ys:List (List Value)) (ρI:List (Nat×Option Nat))
  (hstart:Wk ρ0 σ ⟨gs,hs 0⟩) (hg:rdS (lkS gs) g = .fn gf caps) (he:entB P gf=true) (hok1:okCode N assign=true) (hok2:okCode N body=true) (hf1:flatC assign=true) (hf2:flatC body=true)
  (hpsN:nodupB ps.toList=true) (hpsl:ps.toList.all (fun t=>Nat.blt t N)=true) (hps:∀ y∈ys,y.length=ps.size) (hone:∀ y∈ys,∀ v∈y,v.oneCell'=true)
  (hit:IterSy P gf caps preI ys) (hrI:rhoOk ρI=true) (hI:∀ k,k≤ys.length→wkH ρI (lkB (hs k)) preI∧wkPs ρI (lkB (hs k)) caps caps∧allIn ρI (hs k)=true)
  (round:∀ k y,ys[k]? = some y→∃ ρ g1 pre post ρ2,Round N P assign body ps.toList gs (hs k) (hs (k+1)) y ρ g1 pre post ρ2)
  (done:Q .normal ⟨gs,hs ys.length⟩):CW N P (.rangeFunc g ps assign body) Q σ:=by
 intro hm _ W0 G0 A a w hsat
 obtain⟨G,hsat⟩:=hsat.weak hstart
 have hgv:=hsat.eval g
 rw[hg]at hgv
 unfold RepS at hgv
 obtain⟨us,hgv,hcaps⟩:=hgv
 obtain⟨Ds,hD1,hD2,hD3⟩:=hsat.defers
 have hDlt:∀ D∈Ds,D < w.heap.size:=fun D hD=>(Array.getElem?_eq_some_iff.1 (hD3 D hD).1).1
 have defs:∀ {W:World} (hW:DefOk W0 a.defers W),∀ D∈Ds,W.heap[D]? = some (Obj.deferred (some [])):=by
  intro W hW D hD
  obtain⟨Ds',h1,_,h3⟩:=hW
  rw[hD1]at h1
  have:=marks_inj h1
  subst this
  exact (h3 D hD).1
 have mk:∀ {W:World},(∀ D∈Ds,W.heap[D]? = some (Obj.deferred (some [])))→DefOk W0 a.defers W:=fun h=>⟨Ds,hD1,hD2,fun D hD=>⟨h D hD,(hD3 D hD).2⟩⟩
 have hW0:W0.heap.size≤w.heap.size:=hsat.frm.size
 let I:Nat→World→Prop:=fun k W=>k≤ys.length∧∃ G',SatG N W0 G0 A G' (lkS gs) (lkB (hs k)) a W∧∀ b,G.F b→G'.F b
 have hput:∀ k W D o o',I k W→W.heap[D]? = some o→o.isCells=false→o'.isCells=false→w.heap.size≤D→I k (W.putObj D o'):=by
  rintro k W D o o' ⟨hk,G',h1,h2⟩ hD ho ho' hDw
  refine⟨hk,G',h1.world (SameW.putObj hD ho ho' (by omega)) (mk fun D' hD'=>?_),h2⟩
  have:=hDlt D' hD'
  rw[World.putObj_heap_other (by omega)]
  exact defs h1.defers D' hD'
 have rd:∀ k W G',k≤ys.length→SatG N W0 G0 A G' (lkS gs) (lkB (hs k)) a W→RdI preI caps us G'.F W:=by
  intro k W G' hk h1
  obtain⟨i1,i2,i3⟩:=hI k hk
  have h3:=h1.eval g
  rw[hg]at h3
  unfold RepS at h3
  obtain⟨us',h4,h5⟩:=h3
  rw[hgv]at h4
  have e:us'=us:=by simpa using h4.symm
  subst e
  refine⟨wkGh ρI (lkB (hs k)) G',?_,wk_heap hrI h1.heap i1,wkPs_spec h1.heap _ _ _ i2 h5⟩
  funext b
  refine propext ⟨fun h=>?_,fun h=> .inl h⟩
  rcases h with h|⟨l,x,h6,h7,_⟩
  ·exact h
  ·rw[allIn_spec i3 h6]at h7;cases h7
 refine wpIn_wide.1 (wpIn_range hgv (fun args w=>run_callFunc he args w) (hit us G.F) hps I (fun _ _=>False) ?_ hput (fun _ _ _ h _=>h) (fun _ _ _ _ _ h _ _ _ _=>h) ?_ ?_ ⟨Nat.zero_le _,G,hsat,fun _ h=>h⟩ ?_ ?_ (fun _ _ _ _ h _=>h.elim))
 ·rintro k A' B ⟨hk,G',h1,h2⟩ hb
  refine⟨hk,G',h1.world (SameW.below hb h1.frm.size) (mk fun D hD=>?_),h2⟩
  have h3:=defs h1.defers D hD
  rw[hb.block D (Array.getElem?_eq_some_iff.1 h3).1];exact h3
 ·rintro k A' ⟨hk,G',h1,h2⟩
  exact⟨_,rd k A' G' hk h1⟩
 ·intro B hb
  refine rd 0 B G (Nat.zero_le _) (hsat.world (SameW.below hb hW0) (mk fun D hD=>?_))
  rw[hb.block D (hDlt D hD)];exact (hD3 D hD).1
 ·rintro l k y A' hy ⟨hk,G',h1,h2⟩ hwl ⟨r,hr⟩
  have hkl:k < ys.length:=(List.getElem?_eq_some_iff.1 hy).1
  have hym:=List.mem_of_getElem? hy
  obtain⟨ρ,g1,pre,post,ρ2,R⟩:=round k y hy
  have hlen:=hps y hym
  have hzn:((ps.toList.zip y).map (·.1)).Nodup:=by
   have e:(ps.toList.zip y).map (·.1)=ps.toList:=by
    rw[List.map_fst_zip];simp[hlen]
   rw[e];exact nodupB_list hpsN
  have hzs:∀ q∈ps.toList.zip y,q.1 < a.tmps.size:=by
   intro q hq
   have h3:=List.all_eq_true.1 hpsl q.1 (List.of_mem_zip hq).1
   rw[h1.size]
   exact (by simpa [Nat.blt] using h3:q.1+1≤N)
  have hfold:(ps.zip y.toArray).foldl (fun t (p,v)=>t.setIfInBounds p v) a.tmps=(ps.toList.zip y).foldl (fun t (p,v)=>t.setIfInBounds p v) a.tmps:=by
   rw[←Array.foldl_toList];simp
  have hkeys:(psS ps.toList y++g1).all (fun q=>Nat.blt q.1 N)=true:=by
   rw[List.all_append,Bool.and_eq_true]
   refine⟨?_,R.keys⟩
   unfold psS
   rw[List.all_eq_true]
   intro q hq
   obtain⟨z,hz,rfl⟩:=List.mem_map.1 hq
   exact List.all_eq_true.1 hpsl z.1 (List.of_mem_zip hz).1
  obtain⟨hcall,hnw⟩:=CallOkG.fn (C:=RoundC P l assign body) RoundC.mono (round_fn (l:=l) hm hok1 hok2 hf1 hf2 hkeys R.run) ρ [] [] (h:=lkB (hs k)) R.chk (argPs_ren ρ (lkB (hs k)) _ (lkS (psS ps.toList y++g1)) (List.range N)) R.hpre trivial (.inl rfl)
  have hz:=fun t=>zip_get (ps:=ps.toList) (zs:=ps.toList.zip y) (arr:=a.tmps) (g1:=g1) (t:=t) hzn hzs
  have hrep:RepPs G' A' ((List.range N).map fun t=>(lkS (psS ps.toList y++g1) t).ren ρ) ((ps.toList.zip y).foldl (fun t (p,v)=>t.setIfInBounds p v) a.tmps).toList:=by
   rw[List.range_eq_range']
   refine RepPs.ofFn (by rw[Array.length_toList,(hz 0).2.2,h1.size]) fun t ht=>?_
   rw[Nat.zero_add]
   have e:((ps.toList.zip y).foldl (fun t (p,v)=>t.setIfInBounds p v) a.tmps).toList.getD t undef=((ps.toList.zip y).foldl (fun t (p,v)=>t.setIfInBounds p v) a.tmps).getD t undef:=by
    rw[Array.getD_eq_getD_getElem?,List.getD_eq_getElem?_getD,Array.getElem?_toList]
   rw[e]
   by_cases htm:t∈(ps.toList.zip y).map (·.1)
   ·obtain⟨⟨t',v⟩,hv,rfl⟩:=List.mem_map.1 htm
    obtain⟨h4,h5⟩:=(hz t').2.1 v hv
    show RepS G' A' ((lkS (psS ps.toList y++g1) t').ren ρ) _
    rw[show lkS (psS ps.toList y++g1) t' = .t (.lit v) from h4]
    rw[h5]
    unfold S.ren RepS Rep
    exact⟨rfl,hone y hym v (List.of_mem_zip hv).2⟩
   ·obtain⟨h4,h5⟩:=(hz t).1 htm
    show RepS G' A' ((lkS (psS ps.toList y++g1) t).ren ρ) _
    rw[show lkS (psS ps.toList y++g1) t=lkS g1 t from h4,h5]
    rcases slotsR_get (t:=t) R.slots with h6|h6
    ·rw[h6];unfold S.ren RepS;trivial
    ·rw[←h6];exact h1.slots t
  have hfr:=nwOk_spec R.fresh
  have hC:=hcall G' (lkB (hs k)) A' _ h1.heap hrep (fun _ _=>rfl) (fun l hl=>⟨(hfr l hl).1,(hfr l hl).2.2⟩) r hr
  rw[hfold]
  rw[Array.toArray_toList]at hC
  refine wpIn_mono hC ?_
  rintro e a1 w1 hp
  cases e with
  | normal=>
   refine⟨hp.1,hp.2.1,fun o' ho=>wpIn_mono (hp.2.2 o' ho) ?_⟩
   rintro e a2 w2 ⟨k1,k2,hp2⟩
   cases e with
   | normal=>
    obtain⟨v,G1,_,hx,_⟩:=hp2
    have s1:SatG N W0 G0 A G1 (lkS gs) (hupd (callE ρ [] [] pre post (.t (.lit (.bool true)))).u (lkB (hs k))) a (w2.putObj l (.loop r)):=
     ⟨h1.size,hx.defs h1.heap h1.defers,fun t=>RepS.keep hx.keep _ _ (fun l hl=>(hfr l hl).2.1 t) (h1.slots t),hx.heap,h1.frm.ext hx hnw⟩
    have s2:Sat N W0 G0 A ⟨gs,updB (callE ρ [] [] pre post (.t (.lit (.bool true)))).u (hs k)⟩ a (w2.putObj l (.loop r)):=by
     refine⟨G1,?_⟩
     have e:lkB (updB (callE ρ [] [] pre post (.t (.lit (.bool true)))).u (hs k))=hupd (callE ρ [] [] pre post (.t (.lit (.bool true)))).u (lkB (hs k)):=by funext j;rw[lkB_updB]
     show SatG N W0 G0 A G1 (lkS gs) (lkB (updB _ (hs k))) a _
     rw[e];exact s1
    have hw:=R.wk
    obtain⟨q1,q2,q3⟩:=hw
    have s3:SatG N W0 G0 A (wkGh ρ2 (lkB (updB (callE ρ [] [] pre post (.t (.lit (.bool true)))).u (hs k))) G1) (lkS gs) (lkB (hs (k+1))) a (w2.putObj l (.loop r)):=by
     have e:lkB (updB (callE ρ [] [] pre post (.t (.lit (.bool true)))).u (hs k))=hupd (callE ρ [] [] pre post (.t (.lit (.bool true)))).u (lkB (hs k)):=by funext j;rw[lkB_updB]
     have s1':=s1
     rw[←e]at s1'
     exact⟨s1.size,s1.defers,fun t=>wkS_spec s1'.heap _ _ _ (wkG_get t q2) (s1.slots t),wk_heap q1 s1'.heap q3,wk_from q1 q3 s1'.frm⟩
    have hl2:w2.heap[l]? = some o':=k2
    have hl2w:=(Array.getElem?_eq_some_iff.1 hl2).1
    have i1:I (k+1) (w2.putObj l (.loop r)):=⟨hkl,_,s3,fun b hb=> .inl (hx.keep.fsub b (h2 b hb))⟩
    have i2:=hput (k+1) _ l (.loop r) o' i1 (World.putObj_heap_same hl2w) rfl ho hwl
    rw[putObj_self hl2]at i2
    refine⟨k1,k2,fun b o hb=>?_,i2⟩
    rw[←hx.keep.fcell b o (h2 b hb)]
    exact (cell_putObj hl2 ho rfl b o).symm
   | _=>exact hp2.elim
  | _=>exact hp.elim
 ·rintro D W hD ⟨hk,G',h1,h2⟩ hWD
  refine⟨_,done,G',⟨h1.size,?_,h1.slots,h1.heap,h1.frm⟩⟩
  refine⟨D :: Ds,by simp[hD1],List.nodup_cons.2 ⟨fun hm=>?_,hD2⟩,fun D' hD'=>?_⟩
  ·have:=hDlt D hm;omega
  ·rcases List.mem_cons.1 hD' with rfl|hD'
   ·exact⟨hWD,by omega⟩
   ·exact⟨defs h1.defers D' hD',(hD3 D' hD').2⟩
end Go.Proofs.YtdjmklobfjigoaaGreatDoor.Sy
