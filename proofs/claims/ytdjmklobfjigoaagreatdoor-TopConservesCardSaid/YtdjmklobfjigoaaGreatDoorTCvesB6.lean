import Derived.Test.YtdjmklobfjigoaaGreatDoorTCvesB4
import Derived.Test.YtdjmklobfjigoaaGreatDoorTCvesB5
import Derived.Laws.Cover3
import Derived.ChangeKeysEq
set_option maxRecDepth 100000
set_option maxHeartbeats 16000000
set_option linter.unusedVariables false
set_option linter.unusedSimpArgs false
namespace Go.Proofs.YtdjmklobfjigoaaGreatDoor.Sy
open Go.RowKit
def lkS:List (Nat×S)→Nat→S
 | [],_=> .dead
 | (t,s) :: r,k=>if k=t then s else lkS r k
def lkB:List (Nat×Blk)→Nat→Option Blk
 | [],_=>none
 | (l,b) :: r,k=>if k=l then some b else lkB r k
def delB (l:Nat):List (Nat×Blk)→List (Nat×Blk)
 | []=>[]
 | (k,b) :: r=>if k=l then delB l r else (k,b) :: delB l r
def updB:List (Nat×Option Blk)→List (Nat×Blk)→List (Nat×Blk)
 | [],h=>h
 | (l,some b) :: r,h=>(l,b) :: delB l (updB r h)
 | (l,none) :: r,h=>delB l (updB r h)
def putS (d:Option Tmp) (s:S) (g:List (Nat×S)):List (Nat×S):=match d with
 | some t=>(t,s) :: g
 | none=>g
def allFreeS (l:Nat):List (Nat×S)→Bool
 | []=>true
 | (_,s) :: r=>s.free l && allFreeS l r
def allFreeB (l:Nat):List (Nat×Blk)→Bool
 | []=>true
 | (k,b) :: r=>k != l && b.free l && allFreeB l r
structure St where
 g:List (Nat×S)
 h:List (Nat×Blk)
theorem lkB_delB (l k:Nat):∀ (h:List (Nat×Blk)),lkB (delB l h) k=if k=l then none else lkB h k
 | []=>by simp[delB,lkB]
 | (j,b) :: r=>by
  have ih:=lkB_delB l k r
  simp only[delB]
  by_cases e:j=l
  ·subst e
   rw[if_pos rfl,ih]
   by_cases e2:k=j
   ·rw[if_pos e2,if_pos e2]
   ·rw[if_neg e2,if_neg e2];simp[lkB,e2]
  ·rw[if_neg e]
   simp only[lkB,ih]
   by_cases e2:k=l
   ·subst e2
    rw[if_neg (fun h=>e h.symm),if_pos rfl,if_pos rfl]
   ·rw[if_neg e2,if_neg e2]
theorem lkB_updB (k:Nat):∀ (u:List (Nat×Option Blk)) (h:List (Nat×Blk)),lkB (updB u h) k=hupd u (lkB h) k
 | [],h=>rfl
 | (l,some b) :: r,h=>by
  simp only[updB,lkB,lkB_delB,hupd,hput,lkB_updB k r h]
  split<;>rfl
 | (l,none) :: r,h=>by
  simp only[updB,lkB_delB,hupd,hput,lkB_updB k r h]
theorem lkS_putS (d:Option Tmp) (s:S) (g:List (Nat×S)):lkS (putS d s g)=gput (lkS g) d s:=by
 funext k
 cases d with
 | none=>rfl
 | some t=>simp[putS,lkS,gput]
theorem allFreeS_spec {l:Nat}:∀ {g:List (Nat×S)},allFreeS l g=true→∀ t,(lkS g t).free l=true
 | [],_,t=>rfl
 | (k,s) :: r,h,t=>by
  simp only[allFreeS,Bool.and_eq_true]at h
  simp only[lkS]
  split
  ·exact h.1
  ·exact allFreeS_spec h.2 t
theorem allFreeB_spec {l:Nat}:∀ {g:List (Nat×Blk)},allFreeB l g=true→lkB g l=none∧∀ k b,lkB g k=some b→b.free l=true
 | [],_=>⟨rfl,fun k b h=>by simp[lkB]at h⟩
 | (k,b) :: r,h=>by
  simp only[allFreeB,Bool.and_eq_true,bne_iff_ne]at h
  obtain⟨h1,h2⟩:=allFreeB_spec h.2
  refine⟨?_,fun j b' hb=>?_⟩
  ·simp only[lkB]
   rw[if_neg (fun e=>h.1.1 e.symm)];exact h1
  ·simp only[lkB]at hb
   split at hb
   ·cases hb;exact h.1.2
   ·exact h2 j b' hb
def Sat (N:Nat) (W:World) (G0:Gh) (A:Nat→Prop) (σ:St) (a:Act) (w:World):Prop:=∃ G,SatG N W G0 A G (lkS σ.g) (lkB σ.h) a w
def CallOk (P:Program) (f:FuncId) (as:List S) (h:Nat→Option Blk) (E:Eff):Prop:=
 ∀ (G:Gh) (h':Nat→Option Blk) (w:World) (us:List Value),HeapOk G w h'→RepPs G w as us→(∀ l∈E.fp,h' l=h l)→(∀ l∈E.nw,h' l=none∧∀ k b,h' k=some b→b.free l=true)→
  Calls P f us.toArray w fun e w'=>∃ v G',e = .returned v∧Ext G w h' G' w' (hupd E.u h') E.nw∧RepS G' w' E.r v
def CallK (P:Program) (f:FuncId) (as:List S) (h:Nat→Option Blk) (d:Nat) (K:Eff→Prop):Prop:=∃ E,CallOk P f as h E∧(∀ l∈E.nw,100≤l)∧K E
def entB (P:Program) (f:FuncId):Bool:=match P.funcs[f]? with
 | some fn=>fn.name != "runtime.NumGoroutine" && fn.body.isSome
 | none=>false
section
variable {N:Nat} {P:Program} {o:Oper} {R:Operand→S} {h:Nat→Option Blk}
theorem run_callFunc {f:FuncId} (he:entB P f=true) (args:Array Value) (w:World):(callFunc f args).run P w = .ok (.enter f args) w:=by
 unfold entB at he
 split at he
 ·rename_i fn hf
  simp only[Bool.and_eq_true,bne_iff_ne]at he
  have h1:(fn.name == "runtime.NumGoroutine")=false:=by simpa using he.1
  have h2:fn.body.isNone=false:=by cases hb:fn.body<;>simp_all
  simp only[callFunc,Sem.run_bind,run_program,Result.andThen_ok,hf,h1,h2]
  simp
 ·cases he
theorem RepPs.append {G:Gh} {w:World}:∀ {xs ys:List S} {us vs:List Value},RepPs G w xs us→RepPs G w ys vs→RepPs G w (xs++ys) (us++vs)
 | [],ys,us,vs,h1,h2=>by unfold RepPs at h1;subst h1;exact h2
 | x :: r,ys,us,vs,h1,h2=>by
  unfold RepPs at h1
  obtain⟨v,us',rfl,h3,h4⟩:=h1
  show RepPs G w (x :: (r++ys)) _
  unfold RepPs
  exact⟨v,us'++vs,rfl,h3,RepPs.append h4 h2⟩
def litFn (v:Value):Option FuncId:=match v with
 | .func (.func f) a b=>if a.size=0∧b.size=0 then some f else none
 | _=>none
theorem litFn_spec {v:Value} {f:FuncId} (h:litFn v=some f):v = .func (.func f) #[] #[]:=by
 unfold litFn at h
 split at h
 ·split at h
  ·rename_i f' a b hs
   obtain rfl:=Option.some.inj h
   rw[Array.eq_empty_of_size_eq_zero hs.1,Array.eq_empty_of_size_eq_zero hs.2]
  ·cases h
 ·cases h
theorem does_call {c:Call} {x:Operand} {f:FuncId} {caps:List S} {E:Eff} (ho:o.op = .call c) (hc:c.callee = .value x) (hx:R x = .fn f caps) (he:entB P f=true) (hE:CallOk P f (c.args.toList.map R++caps) h E):Does N P o R h E:=by
 intro W G0 A G g h' a w Q K hs hop hfp hnw hK
 have h1:=hs.eval x
 rw[hop x (by simp[ho,Op.operands,Call.operands,hc]),hx]at h1
 unfold RepS at h1
 obtain⟨us,h2,h3⟩:=h1
 have h4:RepPs G w (c.args.toList.map R) (c.args.toList.map a.eval):=RepPs.map fun y hy=>by
  rw[←hop y (by simp[ho,Op.operands,Call.operands,hc];exact .inr (Array.mem_toList_iff.1 hy))]
  exact hs.eval y
 have hrun:(execOp a.eval o).run P w = .ok (.enter f (c.args.map a.eval++us.toArray)) w:=by
  unfold execOp
  simp[ho,resolve,hc,h2,Deferred.ofValue,invoke,run_callFunc he]
 unfold Oper.wp
 rw[hrun]
 rw[Oper.upon_enter]
 have h5:=hE G h' w (c.args.toList.map a.eval++us) hs.heap (h4.append h3) hfp (fun l hl=>⟨(hnw l hl).1,(hnw l hl).2.2⟩)
 have h6:(c.args.toList.map a.eval++us).toArray=c.args.map a.eval++us.toArray:=by
  rw[←Array.toList_inj];simp
 rw[h6]at h5
 refine h5.mono ?_
 rintro e w' ⟨v,G',rfl,hx,hr⟩
 exact hK v G' w' hx hr
theorem does_call_fb {c:Call} {x:Operand} {f:FuncId} {caps:List S} {E:Eff} (ho:o.op = .call c) (hc:c.callee = .value x) (hx:R x = .fb f caps) (he:entB P f=true) (hE:CallOk P f (caps++c.args.toList.map R) h E):Does N P o R h E:=by
 intro W G0 A G g h' a w Q K hs hop hfp hnw hK
 have h1:=hs.eval x
 rw[hop x (by simp[ho,Op.operands,Call.operands,hc]),hx]at h1
 unfold RepS at h1
 obtain⟨us,h2,h3⟩:=h1
 have h4:RepPs G w (c.args.toList.map R) (c.args.toList.map a.eval):=RepPs.map fun y hy=>by
  rw[←hop y (by simp[ho,Op.operands,Call.operands,hc];exact .inr (Array.mem_toList_iff.1 hy))]
  exact hs.eval y
 have hrun:(execOp a.eval o).run P w = .ok (.enter f (us.toArray++c.args.map a.eval)) w:=by
  unfold execOp
  simp[ho,resolve,hc,h2,Deferred.ofValue,invoke,run_callFunc he]
 unfold Oper.wp
 rw[hrun]
 rw[Oper.upon_enter]
 have h5:=hE G h' w (us++c.args.toList.map a.eval) hs.heap (h3.append h4) hfp (fun l hl=>⟨(hnw l hl).1,(hnw l hl).2.2⟩)
 have h6:(us++c.args.toList.map a.eval).toArray=us.toArray++c.args.map a.eval:=by
  rw[←Array.toList_inj];simp
 rw[h6]at h5
 refine h5.mono ?_
 rintro e w' ⟨v,G',rfl,hx,hr⟩
 exact hK v G' w' hx hr
theorem does_call_lit {c:Call} {x:Operand} {f:FuncId} {u:Value} {E:Eff} (ho:o.op = .call c) (hc:c.callee = .value x) (hx:R x = .t (.lit u)) (hu:litFn u=some f) (he:entB P f=true) (hE:CallOk P f (c.args.toList.map R) h E):Does N P o R h E:=by
 intro W G0 A G g h' a w Q K hs hop hfp hnw hK
 have h1:=hs.eval x
 rw[hop x (by simp[ho,Op.operands,Call.operands,hc]),hx]at h1
 unfold RepS at h1
 unfold Rep at h1
 have h2:=h1.1
 rw[litFn_spec hu]at h2
 have h4:RepPs G w (c.args.toList.map R) (c.args.toList.map a.eval):=RepPs.map fun y hy=>by
  rw[←hop y (by simp[ho,Op.operands,Call.operands,hc];exact .inr (Array.mem_toList_iff.1 hy))]
  exact hs.eval y
 have hrun:(execOp a.eval o).run P w = .ok (.enter f (c.args.map a.eval)) w:=by
  unfold execOp
  simp[ho,resolve,hc,h2,Deferred.ofValue,invoke,run_callFunc he]
 unfold Oper.wp
 rw[hrun]
 rw[Oper.upon_enter]
 have h5:=hE G h' w (c.args.toList.map a.eval) hs.heap h4 hfp (fun l hl=>⟨(hnw l hl).1,(hnw l hl).2.2⟩)
 have h6:(c.args.toList.map a.eval).toArray=c.args.map a.eval:=by
  rw[←Array.toList_inj];simp
 rw[h6]at h5
 refine h5.mono ?_
 rintro e w' ⟨v,G',rfl,hx,hr⟩
 exact hK v G' w' hx hr
end
theorem binOk_nil {P:Program} {t e:TypeId} (he:elemB P t=some e) (x:Option Addr) (l c:Nat):BinOk P .eql t (.slice x l c) (.slice none 0 0) (.bool x.isNone):=by
 have hu:=und_elem he
 refine⟨rfl,fun w a b=>?_⟩
 have:=run_equal_slice_nil (P:=P) (w:=w) t e x l c hu
 simp[eqGuard,binOp,Sem.run_bind,this]
section
variable {N:Nat} {P:Program} {o:Oper} {R:Operand→S} {h:Nat→Option Blk}
theorem does_nil_sl {t t' e:TypeId} {x y:Operand} {k:Nat} {z:T} {zs:List T} (ho:o.op = .binOp .eql t x y t') (hx:R x = .t (.sl k (z :: zs))) (hy:R y = .t (.lit (.slice none 0 0))) (he:elemB P t=some e):Does N P o R h ⟨.t (.lit (.bool false)),[],[],[]⟩:=
 does_pure fun G h' a w hh hop _=>by
  have h1:=hop x (by simp[ho,Op.operands])
  have h2:=hop y (by simp[ho,Op.operands])
  rw[hx]at h1
  rw[hy]at h2
  unfold RepS Rep at h1 h2
  obtain⟨ad,cap,cells,h3,_,_,h4⟩:=h1
  have hn:ad.isNone=false:=by
   cases ad with
   | none=>
    have:=h4.nil rfl
    have:=h4.le
    simp at this
    omega
   | some _=>rfl
  have hv:=(binOk_nil (P:=P) he ad (z :: zs).length cap).2 w x y
  rw[hn]at hv
  refine⟨.bool false,?_,by unfold RepS Rep;exact⟨rfl,rfl⟩⟩
  unfold execOp
  simp only[ho,h3,h2.1]
  exact exec_v hv
theorem does_nil_nil {t t' e:TypeId} {x y:Operand} (ho:o.op = .binOp .eql t x y t') (hx:R x = .t (.lit (.slice none 0 0))) (hy:R y = .t (.lit (.slice none 0 0))) (he:elemB P t=some e):Does N P o R h ⟨.t (.lit (.bool true)),[],[],[]⟩:=
 does_bin ho hx hy (binOk_nil (P:=P) he none 0 0)
def eqAs (P:Program) (e:TypeId):List T→List T→Option Bool
 | [],[]=>some true
 | x :: xs,y :: ys=>match eqV P e x y with
  | some b=>match eqAs P e xs ys with
   | some c=>some (b && c)
   | none=>none
  | none=>none
 | _,_=>none
theorem eqAs_spec {w:World} {F:Nat→Prop} {xa ya:Array Value} {e:TypeId} (hc:P.cellsOf e=1):∀ {xs ys:List T} {k:Nat} {b:Bool},eqAs P e xs ys=some b→
  (∃ cs,xa.toList.drop k=cs∧Reps F w xs cs)→(∃ cs,ya.toList.drop k=cs∧Reps F w ys cs)→∀ d,(Op.eqItems (d+1) e (P.cellsOf e) xa ya (List.range' k xs.length)).run P w = .ok b w
 | [],ys,k,b,e0,_,_,d=>by
  cases ys<;>simp[eqAs]at e0
  subst e0
  simp[Op.eqItems]
 | x :: xs,ys,k,b,e0,hx,hy,d=>by
  cases ys with
  | nil=>simp[eqAs]at e0
  | cons y ys=>
   simp only[eqAs]at e0
   split at e0
   ·rename_i b1 h1
    split at e0
    ·rename_i c h2
     simp at e0
     obtain⟨u,v,rfl,rfl,h3,h4⟩:=eqV_spec h1
     obtain⟨cs,h5,h6⟩:=hx
     obtain⟨ds,h7,h8⟩:=hy
     unfold Reps at h6 h8
     obtain⟨u',cs',h9,h10,h11⟩:=h6
     obtain⟨v',ds',h12,h13,h14⟩:=h8
     unfold Rep at h10 h13
     obtain⟨rfl,h10⟩:=h10
     obtain⟨rfl,h13⟩:=h13
     have hcu:=cells_one h10
     have hcv:=cells_one h13
     rw[hcu]at h9
     rw[hcv]at h12
     have ha:=run_aggO (P:=P) h3 w
     have hxa:xa[k]? = some u':=by
      rw[←Array.getElem?_toList,←Nat.add_zero k,←List.getElem?_drop,h5,h9];rfl
     have hya:ya[k]? = some v':=by
      rw[←Array.getElem?_toList,←Nat.add_zero k,←List.getElem?_drop,h7,h12];rfl
     have hp1:(part e xa (k * P.cellsOf e)).run P w = .ok u' w:=by simp[part,ha,hxa,hc]
     have hp2:(part e ya (k * P.cellsOf e)).run P w = .ok v' w:=by simp[part,ha,hya,hc]
     have ih:=eqAs_spec (k:=k+1) (xa:=xa) (ya:=ya) (F:=F) hc h2 ⟨cs',by rw[←List.drop_drop,h5,h9];rfl,h11⟩ ⟨ds',by rw[←List.drop_drop,h7,h12];rfl,h14⟩ d
     simp only[List.length_cons,List.range'_succ,Op.eqItems,Sem.run_bind,hp1,hp2,Result.andThen_ok,h4]
     cases b1
     ·simp[←e0]
     ·simp[ih,←e0]
    ·cases e0
   ·cases e0
def cellB (P:Program) (e:TypeId):Bool:=match P.info? e with
 | some _=>Nat.beq (P.cellsOf e) 1
 | none=>false
theorem does_eq_arr {op:BinOp} {t t' e:TypeId} {n:Nat} {x y:Operand} {xs ys:List T} {b:Bool} (ho:o.op = .binOp op t x y t') (hop':op = .eql∨op = .neq) (hx:R x = .t (.agg xs)) (hy:R y = .t (.agg ys)) (hf:arrB P t=some (n,e))
  (hc:cellB P e=true) (h2:P.eqGuardType P.depth t=false) (hn:n=xs.length) (hb:eqAs P e xs ys=some b):Does N P o R h ⟨.t (.lit (.bool (if op = .eql then b else !b))),[],[],[]⟩:=
 does_pure fun G h' a w hh hop _=>by
  have h3:=hop x (by simp[ho,Op.operands])
  have h4:=hop y (by simp[ho,Op.operands])
  rw[hx]at h3
  rw[hy]at h4
  unfold RepS at h3 h4;unfold Rep at h3 h4
  obtain⟨cs,h5,h6⟩:=h3
  obtain⟨ds,h7,h8⟩:=h4
  unfold cellB at hc
  split at hc
  ·rename_i i hi
   have hc1:=Nat.eq_of_beq_eq_true hc
   have hrun:(Op.equalIn 10000 t (.agg cs.toArray) (.agg ds.toArray)).run P w = .ok b w:=by
    rw[run_equalIn_array w 9999 _ _ (und_arr hf) hi,hn,List.range_eq_range']
    exact eqAs_spec (F:=G.F) hc1 hb ⟨cs,by simp,h6⟩ ⟨ds,by simp,h8⟩ 9998
   refine⟨.bool (if op = .eql then b else !b),?_,by unfold RepS;unfold Rep;exact⟨rfl,rfl⟩⟩
   unfold execOp
   simp only[ho,h5,h7]
   refine exec_v ?_
   have hg:=run_eqGuard_agg (P:=P) w op t x y cs.toArray ds.toArray h2
   rcases hop' with rfl|rfl
   ·simp[hg,run_eql_struct,hrun]
   ·simp[hg,run_neq_struct,hrun]
  ·cases hc
def nilEqK (P:Program) (op:BinOp) (t:TypeId) (b:Bool) (K:Eff→Prop):Prop:=match op with
 | .eql=>(elemB P t).isSome=true∧K ⟨.t (.lit (.bool b)),[],[],[]⟩
 | _=>False
theorem byte_get (b:ByteArray) (i:Nat):b[i]? = b.data.toList[i]?:=by
 obtain⟨⟨l⟩⟩:=b
 by_cases hi:i < l.length
 ·rw[getElem?_pos (⟨⟨l⟩⟩:ByteArray) i hi]
  simp only[List.getElem?_eq_getElem hi]
  rfl
 ·rw[getElem?_neg (⟨⟨l⟩⟩:ByteArray) i hi]
  simp[List.getElem?_eq_none (Nat.le_of_not_lt hi)]
theorem does_index_str {t:TypeId} {x i:Operand} {k:IntKind} {n:Int} {b:ByteArray} {u:UInt8} (ho:o.op = .index t x i) (hx:R x = .t (.lit (.string b))) (hi:R i = .t (.lit (.int k n))) (he:strB P t=true) (h0:0≤n) (hu:b.data.toList[n.toNat]? = some u) :
  Does N P o R h ⟨.t (.lit (.int .u8 u.toNat)),[],[],[]⟩:=
 does_pure fun G h' a w hh hop _=>by
  have h1:=hop x (by simp[ho,Op.operands])
  have h2:=hop i (by simp[ho,Op.operands])
  rw[hx]at h1
  rw[hi]at h2
  unfold RepS Rep at h1 h2
  refine⟨.int .u8 u.toNat,?_,by unfold RepS Rep;exact⟨rfl,rfl⟩⟩
  unfold execOp
  simp only[ho,h1.1,h2.1]
  refine exec_v ?_
  have hu':b.data[n.toNat]? = some u:=by simpa using hu
  simp[Instr.index,asIntOf,run_underlying (und_str he),h0,byte_get,hu']
theorem does_index_val {t e:TypeId} {x i:Operand} {k:IntKind} {m:Int} {n s:Nat} {xs:List T} {y:T} (ho:o.op = .index t x i) (hx:R x = .t (.agg xs)) (hi:R i = .t (.lit (.int k m))) (ha:arrB P t=some (n,e)) (hs:szB P e=some s) (h0:0≤m) (h1:m < n) (hy:xs[m.toNat]? = some y) (hq:T.widths (xs.take m.toNat)=m.toNat * s) (hok:okLd P e (.t y)) :
  Does N P o R h ⟨.t y,[],[],[]⟩:=
 does_pure fun G h' a w hh hop _=>by
  have h2:=hop x (by simp[ho,Op.operands])
  have h3:=hop i (by simp[ho,Op.operands])
  rw[hx]at h2
  rw[hi]at h3
  unfold RepS at h2 h3
  unfold Rep at h2 h3
  obtain⟨cells,h4,h5⟩:=h2
  obtain⟨v,h6,h7,_⟩:=Reps.get h5 hy
  have h8:RepS G w (.t y) v:=by unfold RepS;exact h6
  refine⟨v,?_,h8⟩
  have hlen:=Reps.widths _ _ h5
  have hle:m.toNat * s+y.width≤cells.length:=by
   have h9:=widths_take_succ hy
   have h10:T.widths xs=T.widths (xs.take (m.toNat+1))+T.widths (xs.drop (m.toNat+1)):=by rw[←widths_append,List.take_append_drop]
   omega
  have:=run_part (P:=P) (cs:=cells.toArray) (off:=m.toNat * s) h8 rfl hok (fun j c hj=>by rw[←hq];simpa using h7 j c hj) (by show m.toNat * s+y.width≤_;simpa using hle)
  unfold execOp
  simp only[ho,h4,h3.1]
  exact exec_v (by simp[Instr.index,asIntOf,run_underlying (und_arr ha),h0,h1,run_szB hs,this])
end
def indexK (P:Program) (t:TypeId) (x i:S) (K:Eff→Prop):Prop:=match x,i with
 | .t (.lit (.string b)),.t (.lit (.int _ n))=>strB P t=true∧(if 0≤n then (match b.data.toList[n.toNat]? with|some u=>K ⟨.t (.lit (.int .u8 u.toNat)),[],[],[]⟩|none=>False) else False)
 | .t (.agg xs),.t (.lit (.int _ m))=>match arrB P t with
  | some (n,e)=>match szB P e with
   | some s=>if 0≤m∧m < (n:Int) then (match xs[m.toNat]? with|some y=>T.widths (xs.take m.toNat)=m.toNat * s∧okLd P e (.t y)∧K ⟨.t y,[],[],[]⟩|none=>False) else False
   | none=>False
  | none=>False
 | _,_=>False
def pickK (c x y:S) (K:Eff→Prop):Prop:=match c with
 | .t (.lit (.bool b))=>if b=true then K ⟨x,[],[],[]⟩ else K ⟨y,[],[],[]⟩
 | _=>False
def allocK (P:Program) (e:TypeId) (d:Nat) (K:Eff→Prop):Prop:=match zeroOf P e with
 | some z=>K ⟨.pt d [] 0,[(d,some (.box e (.t z)))],[],[d]⟩
 | none=>False
def boxK (e:TypeId) (x:S) (d:Nat) (K:Eff→Prop):Prop:=x.solid=true∧x.free d=true∧K ⟨.pt d [] 0,[(d,some (.box e x))],[],[d]⟩
def loadK (P:Program) (t:TypeId) (x:S) (h:Nat→Option Blk) (K:Eff→Prop):Prop:=match x with
 | .rp y=>okLd P t (.t y)∧K ⟨.t y,[],[],[]⟩
 | .pt l p off=>match h l with
  | some blk=>match blk.at p with
   | some (o,y)=>o=off∧y.solid=true∧okLd P t y∧K ⟨y,[],[l],[]⟩
   | none=>False
  | none=>False
 | _=>False
def storeK (P:Program) (t:TypeId) (x v:S) (h:Nat→Option Blk) (K:Eff→Prop):Prop:=match x with
 | .pt l p off=>match h l with
  | some blk=>match blk.at p with
   | some (o,z)=>match blk.set p v with
    | some blk'=>o=off∧v.solid=true∧v.width=z.width∧szB P t=some v.width∧K ⟨.dead,[(l,some blk')],[l],[]⟩
    | none=>False
   | none=>False
  | none=>False
 | _=>False
def nzB (P:Program) (t:TypeId):Bool:=match szB P t with
 | some (_+1)=>true
 | _=>false
theorem nzB_spec {P:Program} {t:TypeId} (h:nzB P t=true):∃ n,szB P t=some (n+1):=by
 unfold nzB at h;split at h
 ·exact⟨_,by assumption⟩
 ·cases h
def fieldAddrK (P:Program) (t:TypeId) (x:S) (f:Nat) (K:Eff→Prop):Prop:=match fldB P t f with
 | some q=>nzB P q.2=true∧match x with
  | .pt l p o=>K ⟨.pt l (p++[f]) (o+q.1),[],[],[]⟩
  | .rp (.agg xs)=>match xs[f]? with
   | some y=>T.widths (xs.take f)=q.1∧K ⟨.rp y,[],[],[]⟩
   | none=>False
  | _=>False
 | none=>False
def indexAddrK (P:Program) (t:TypeId) (x i:S) (h:Nat→Option Blk) (K:Eff→Prop):Prop:=match elemB P t with
 | some e=>match i with
  | .t (.lit (.int k n))=>match x with
   | .t (.sl s xs)=>szB P e=some s∧(if 0≤n∧n < (xs.length:Int) then (match xs[n.toNat]? with|some y=>K ⟨.rp y,[],[],[]⟩|none=>False) else False)
   | .own l=>match h l with
    | some (.list _ s xs)=>szB P e=some s∧(if 0≤n∧n < (xs.length:Int) then K ⟨.pt l [n.toNat] (n.toNat * s),[],[l],[]⟩ else False)
    | some (.rows _ s us _)=>szB P e=some s∧(if 0≤n∧n < (us.length:Int) then K ⟨.pt l [n.toNat] (n.toNat * s),[],[l],[]⟩ else False)
    | _=>False
   | .wn l p off m=>match szB P e with
    | some s=>if 0≤n∧n < (m:Int) then K ⟨.pt l (p++[n.toNat]) (off+n.toNat * s),[],[],[]⟩ else False
    | none=>False
   | _=>False
  | _=>False
 | none=>match arrB P t with
  | some (n,e)=>match szB P e with
   | some s=>match i,x with
    | .t (.lit (.int k m)),.pt l p off=>if 0≤m∧m < (n:Int) then K ⟨.pt l (p++[m.toNat]) (off+m.toNat * s),[],[],[]⟩ else False
    | _,_=>False
   | none=>False
  | none=>False
def fieldK (P:Program) (t:TypeId) (x:S) (f:Nat) (K:Eff→Prop):Prop:=match fldB P t f with
 | some q=>match x with
  | .t (.agg xs)=>match xs[f]? with
   | some y=>T.widths (xs.take f)=q.1∧okLd P q.2 (.t y)∧K ⟨.t y,[],[],[]⟩
   | none=>False
  | _=>False
 | none=>False
def extractK (x:S) (i:Nat) (K:Eff→Prop):Prop:=match x with
 | .tup ss=>match ss[i]? with
  | some s=>K ⟨s,[],[],[]⟩
  | none=>False
 | _=>False
def litK (K:Eff→Prop) (v:Value):Prop:=K ⟨.t (.lit v),[],[],[]⟩
def boolK (P:Program) (op:BinOp) (t:TypeId) (p q:Bool) (K:Eff→Prop):Prop:=match op with
 | .eql=>boolB P t=true∧litK K (.bool (p == q))
 | .neq=>boolB P t=true∧litK K (.bool (!(p == q)))
 | _=>False
def arrEqK (P:Program) (op:BinOp) (t:TypeId) (xs ys:List T) (K:Eff→Prop):Prop:=match arrB P t with
 | some (n,e)=>cellB P e=true∧P.eqGuardType P.depth t=false∧n=xs.length∧match eqAs P e xs ys with
  | some b=>(match op with
   | .eql=>litK K (.bool b)
   | .neq=>litK K (.bool (!b))
   | _=>False)
  | none=>False
 | none=>False
def aggK (P:Program) (op:BinOp) (t:TypeId) (xs ys:List T) (K:Eff→Prop):Prop:=match fldsB P t with
 | some fl=>P.stoodInHeld t=false∧P.eqGuardType P.depth t=false∧match eqFs P fl 0 xs ys with
  | some b=>(match op with
   | .eql=>litK K (.bool b)
   | .neq=>litK K (.bool (!b))
   | _=>False)
  | none=>False
 | none=>arrEqK P op t xs ys K
def binK (P:Program) (op:BinOp) (t:TypeId) (x y:S) (K:Eff→Prop):Prop:=match x,y with
 | .t (.lit (.bool p)),.t (.lit (.bool q))=>boolK P op t p q K
 | .t (.lit (.slice none 0 0)),.t (.lit (.slice none 0 0))=>nilEqK P op t true K
 | .t (.sl _ (_ :: _)),.t (.lit (.slice none 0 0))=>nilEqK P op t false K
 | .t (.lit a),.t (.lit b)=>binV op a b (litK K)
 | .t (.agg xs),.t (.agg ys)=>aggK P op t xs ys K
 | _,_=>False
def ifcB (P:Program) (t:TypeId):Bool:=match P.underlying t with
 | some (.interface _)=>true
 | _=>false
def nilIK (P:Program) (op:BinOp) (t:TypeId) (x:S) (K:Eff→Prop):Prop:=match op,x with
 | .eql,.t (.lit .nilIface)=>ifcB P t=true∧K ⟨.t (.lit (.bool true)),[],[],[]⟩
 | .neq,.t (.lit .nilIface)=>ifcB P t=true∧K ⟨.t (.lit (.bool false)),[],[],[]⟩
 | _,_=>False
def binYK (P:Program) (op:BinOp) (t:TypeId) (x y:Operand) (R:Operand→S) (K:Eff→Prop):Prop:=match y with
 | .const .nilIface=>nilIK P op t (R x) K
 | y=>binK P op t (R x) (R y) K
theorem does_nilI {N:Nat} {P:Program} {o:Oper} {R:Operand→S} {h:Nat→Option Blk} {op:BinOp} {t t':TypeId} {x:Operand} {b:Bool} (ho:o.op = .binOp op t x (.const .nilIface) t') (hop:op = .eql∧b=true∨op = .neq∧b=false) (hx:R x = .t (.lit .nilIface)) (ht:ifcB P t=true):Does N P o R h ⟨.t (.lit (.bool b)),[],[],[]⟩:=
 does_pure fun G h' ac w hh hop' _=>by
  have h1:=hop' x (by simp[ho,Op.operands])
  rw[hx]at h1
  unfold RepS at h1
  unfold Rep at h1
  have hu:∃ ms,P.underlying t=some (.interface ms):=by
   unfold ifcB at ht
   split at ht
   ·exact⟨_,by assumption⟩
   ·cases ht
  obtain⟨ms,hu⟩:=hu
  have he:(Op.equal t .nilIface .nilIface).run P w = .ok true w:=by
   unfold Op.equal Op.maxDepth Op.equalIn
   simp[run_underlying hu]
  refine⟨.bool b,?_,by unfold RepS;unfold Rep;exact⟨rfl,rfl⟩⟩
  unfold execOp
  have hcv:ac.eval (.const .nilIface) = .nilIface:=rfl
  simp only[ho,h1.1,hcv]
  rcases hop with ⟨rfl,rfl⟩|⟨rfl,rfl⟩
  ·exact exec_v (by simp[eqGuard,binOp,he])
  ·exact exec_v (by simp[eqGuard,binOp,he])
def nilK (x:S) (K:Eff→Prop):Prop:=match x with
 | .pt l p o=>K ⟨.pt l p o,[],[],[]⟩
 | .rp y=>K ⟨.rp y,[],[],[]⟩
 | _=>False
def sliceTK (P:Program) (t:TypeId) (x:S) (lo hi:Int→Option Int) (K:Eff→Prop):Prop:=match x with
 | .t (.lit (.string b))=>strB P t=true∧match lo 0,hi b.size with
  | some l,some r=>if 0≤l∧l≤r∧r≤(b.size:Int) then K ⟨.t (.lit (.string (strS b l.toNat r.toNat))),[],[],[]⟩ else False
  | _,_=>False
 | _=>False
def sliceK (P:Program) (t:TypeId) (x:S) (lo hi:Int→Option Int) (mx:Option Operand) (h:Nat→Option Blk) (K:Eff→Prop):Prop:=match mx,elemB P t with
 | none,some e=>match x with
  | .t (.sl s xs)=>szB P e=some s∧match lo 0,hi xs.length with
   | some l,some r=>if 0≤l∧l≤r∧r≤(xs.length:Int) then K ⟨.t (.sl s ((xs.take r.toNat).drop l.toNat)),[],[],[]⟩ else False
   | _,_=>False
  | .own k=>match h k with
   | some (.list _ s xs)=>szB P e=some s∧match lo 0,hi xs.length with
    | some l,some r=>if 0≤l∧l≤r∧r≤(xs.length:Int) then K ⟨.t (.sl s ((xs.take r.toNat).drop l.toNat)),[(k,none)],[k],[]⟩ else False
    | _,_=>False
   | _=>False
  | .wn k p off n=>match szB P e with
   | some s=>(s=1∨p≠[])∧match lo 0,hi n with
    | some l,some r=>if 0≤l∧l≤r∧r≤(n:Int) then K ⟨.wn k p (off+l.toNat * s) (r.toNat - l.toNat),[],[],[]⟩ else False
    | _,_=>False
   | none=>False
  | _=>False
 | none,none=>match arrB P t with
  | some (N,e)=>match x with
   | .pt k p off=>szB P e=some 1∧N≤16777216∧match h k with
    | some (.box _ _)=>match lo 0,hi N with
     | some l,some r=>if 0≤l∧l≤r∧r≤(N:Int) then K ⟨.wn k p (off+l.toNat) (r.toNat - l.toNat),[],[k],[]⟩ else False
     | _,_=>False
    | _=>False
   | _=>False
  | none=>sliceTK P t x lo hi K
 | _,_=>False
def bndJ (R:Operand→S) (x:Option Operand) (d:Int):Option Int:=bndI R d x
def buildK (P:Program) (t:TypeId) (R:Operand→S) (parts:List (Nat×Operand)) (K:Eff→Prop):Prop:=match arrB P t with
 | some (n,e)=>match zeroOf P t,szB P e with
  | some (.agg zs),some s=>match bldS (plA n s) (fun x=>fnT (R x)) parts (zs.map S.t) with
   | some fs=>K ⟨clp fs,[],[],[]⟩
   | none=>False
  | _,_=>False
 | none=>match zeroOf P t,plB P t with
  | some (.agg zs),some pls=>match bldS pls (fun x=>fnT (R x)) parts (zs.map S.t) with
   | some fs=>K ⟨clp fs,[],[],[]⟩
   | none=>False
  | _,_=>False
def unK (op:UnOp) (x:S) (K:Eff→Prop):Prop:=match op,x with
 | .not,.t (.lit (.bool b))=>litK K (.bool (!b))
 | .neg,.t (.lit (.int k n))=>arK k (0 - n) (litK K)
 | .xor,.t (.lit (.int k n))=>litK K (.int k (bits .xor k (kX k) n))
 | _,_=>False
def convBK (P:Program) (s t:TypeId) (xs:List T) (fp:List Nat) (K:Eff→Prop):Prop:=match elemB P s with
 | some e=>intB P e=some .u8∧strB P t=true∧allU8 xs∧K ⟨.t (.lit (.string (str (bytesT xs)))),[],fp,[]⟩
 | none=>False
def convK (P:Program) (s t:TypeId) (x:S) (h:Nat→Option Blk) (K:Eff→Prop):Prop:=match x with
 | .t (.lit (.int k n))=>match intB P s,intB P t with
  | some _,some k'=>arK k' n (litK K)
  | _,_=>False
 | .t (.lit (.string b))=>strB P s=true∧strB P t=true∧litK K (.string b)
 | .t (.sl s' xs)=>s'=1∧convBK P s t xs [] K
 | .own l=>match h l with
  | some (.list _ s' xs)=>s'=1∧convBK P s t xs [l] K
  | _=>False
 | .t (.lit (.slice none 0 0))=>convBK P s t [] [] K
 | _=>False
def allW (s:Nat):List T→Prop
 | []=>True
 | x :: r=>x.width=s∧allW s r
theorem allW_spec {s:Nat}:∀ {xs:List T},allW s xs→∀ y∈xs,y.width=s
 | [],_,y,hy=>by cases hy
 | x :: r,h,y,hy=>by
  rcases List.mem_cons.1 hy with rfl|hy
  ·exact h.1
  ·exact allW_spec h.2 y hy
def buildSliceK (P:Program) (t:TypeId) (n:Nat) (ps:Option (List T)) (d:Nat) (K:Eff→Prop):Prop:=match elemB P t with
 | some e=>match elI P e with
  | some (s,_)=>match ps with
   | some ys=>n=ys.length∧allW s ys∧n * s≤16777216∧K ⟨.own d,[(d,some (.list e s ys))],[],[d]⟩
   | none=>False
  | none=>False
 | none=>False
def buildPtrK (P:Program) (t:TypeId) (n:Nat) (ys:List S) (d:Nat) (K:Eff→Prop):Prop:=match elemB P t with
 | some e=>match elI P e with
  | some (1,_)=>n=ys.length∧0 < n∧S.frees d ys=true∧n≤16777216∧K ⟨.wn d [] 0 n,[(d,some (.box e (.ag ys)))],[],[d]⟩
  | _=>False
 | none=>False
def lenK (P:Program) (t:TypeId) (x:S) (h:Nat→Option Blk) (K:Eff→Prop):Prop:=match x with
 | .t (.sl _ xs)=>(elemB P t).isSome=true∧litK K (.int .i64 xs.length)
 | .own l=>match h l with
  | some (.list _ _ xs)=>(elemB P t).isSome=true∧K ⟨.t (.int xs.length),[],[l],[]⟩
  | some (.rows _ _ us _)=>(elemB P t).isSome=true∧K ⟨.t (.int us.length),[],[l],[]⟩
  | _=>False
 | .t (.lit (.slice none 0 0))=>(elemB P t).isSome=true∧litK K (.int .i64 0)
 | .t (.lit (.string b))=>strB P t=true∧litK K (.int .i64 b.size)
 | .wn _ _ _ n=>(elemB P t).isSome=true∧litK K (.int .i64 n)
 | _=>False
def minK (x y:S) (K:Eff→Prop):Prop:=match x,y with
 | .t (.lit (.int k m)),.t (.lit (.int k' n))=>litK K (.int k (min m n))
 | _,_=>False
def maxK (x y:S) (K:Eff→Prop):Prop:=match x,y with
 | .t (.lit (.int k m)),.t (.lit (.int k' n))=>litK K (.int k (max m n))
 | _,_=>False
def srcOf (h:Nat→Option Blk) (s:Nat) (y:S):Option (List T×List Nat):=match y with
 | .t (.sl s' ys)=>if s'=s then some (ys,[]) else none
 | .own l=>match h l with
  | some (.list _ s' ys)=>if s'=s then some (ys,[l]) else none
  | _=>none
 | .t (.lit (.slice none 0 0))=>some ([],[])
 | _=>none
def appendWK (P:Program) (t:TypeId) (l:Nat) (p:List Nat) (off m:Nat) (y:S) (d:Nat) (h:Nat→Option Blk) (K:Eff→Prop):Prop:=match elemB P t with
 | some e=>match elI P e with
  | some (s,b)=>match y with
   | .wn l' p' o k=>match h l with
    | some (.list e' s' xs)=>p=[]∧p'=[]∧e'=e∧s=1∧s'=1∧off=0∧l'=l∧d≠l∧m≤xs.length∧o+k≤xs.length∧(if (m+k) * b≤140737488355328 then K ⟨.own d,[(d,some (.list e 1 (xs.take m++(xs.drop o).take k))),(l,none)],[l],[d]⟩ else False)
    | _=>False
   | _=>False
  | none=>False
 | none=>False
def appendOK (P:Program) (t:TypeId) (x y:S) (d:Nat) (h:Nat→Option Blk) (K:Eff→Prop):Prop:=match elemB P t with
 | some e=>match elI P e with
  | some (s,b)=>match srcOf h s y with
   | some (ys,fp)=>match x with
    | .own l=>match h l with
     | some (.list e' s' xs)=>e'=e∧s'=s∧d≠l∧(if (xs.length+ys.length) * b≤140737488355328 then K ⟨.own d,[(d,some (.list e s (xs++ys))),(l,none)],l :: fp,[d]⟩ else False)
     | _=>False
    | .t (.lit (.slice none 0 0))=>if ys.length * b≤140737488355328 then K ⟨.own d,[(d,some (.list e s ys))],fp,[d]⟩ else False
    | .cl s' xs=>s'=s∧0 < ys.length∧(if (xs.length+ys.length) * b≤140737488355328 then K ⟨.own d,[(d,some (.list e s (xs++ys)))],fp,[d]⟩ else False)
    | _=>False
   | none=>False
  | none=>False
 | none=>False
def appendK (P:Program) (t:TypeId) (x y:S) (d:Nat) (h:Nat→Option Blk) (K:Eff→Prop):Prop:=match x with
 | .wn l p off m=>appendWK P t l p off m y d h K
 | x=>appendOK P t x y d h K
def copyOK (P:Program) (t:TypeId) (l:Nat) (y:S) (h:Nat→Option Blk) (K:Eff→Prop):Prop:=match elemB P t,h l with
 | some e,some (.list e' s xs)=>e'=e∧szB P e=some s∧match srcOf h s y with
  | some (ys,fp)=>K ⟨.t (.int (min ys.length xs.length:Nat)),[(l,some (.list e s (ys.take (min ys.length xs.length)++xs.drop (min ys.length xs.length))))],l :: fp,[]⟩
  | none=>False
 | _,_=>False
def copyWK (
      P:Program) (t:TypeId) (x y:S) (h:Nat→Option Blk) (K:Eff→Prop):Prop:=match elemB P t with
 | some e=>szB P e=some 1∧match srcOf h 1 y with
  | some (
      ys,fp)=>match x with
   | .wn l p off n=>match h l with
    | some (.box be c)=>match S.at c p with
     | some (o,.t (.agg zs))=>o=off∧n=zs.length∧(∀ z∈zs,z.width=1)∧match S.set c p (.t (.agg (ys.take (min ys.length zs.length)++zs.drop (min ys.length zs.length)))) with
      | some c'=>K ⟨.t (.int (min ys.length zs.length:Nat)),[(l,some (.box be c'))],l :: fp,[]⟩
      | none=>False
     | _=>False
    | _=>False
   | _=>False
  | none=>False
 | none=>False
def copyIK (P:Program) (t:TypeId) (l off n l' o' k:Nat) (h:Nat→Option Blk) (K:Eff→Prop):Prop:=match elemB P t,h l with
 | some e,some (.list e' s xs)=>e'=e∧szB P e=some s∧l'=l∧o'=0∧0 < min k n∧off=off / s * s∧off / s+n≤xs.length∧k≤xs.length∧
  K ⟨.t (.int (min k n:Nat)),[(l,some (.list e s (xs.take (off / s)++(xs.take (min k n)++xs.drop (off / s+min k n)))))],[l],[]⟩
 | _,_=>False
def copyVK (P:Program) (t:TypeId) (l off n:Nat) (x y:S) (h:Nat→Option Blk) (K:Eff→Prop):Prop:=match y with
 | .wn l' _ o' k=>copyIK P t l off n l' o' k h K
 | y=>copyWK P t x y h K
def copyK (P:Program) (t:TypeId) (x y:S) (h:Nat→Option Blk) (K:Eff→Prop):Prop:=match x with
 | .own l=>copyOK P t l y h K
 | .wn l p off n=>copyVK P t l off n (.wn l p off n) y h K
 | x=>copyWK P t x y h K
def builtK (P:Program) (b:Builtin) (as:List S) (ts:List TypeId) (d:Nat) (h:Nat→Option Blk) (K:Eff→Prop):Prop:=match b,as,ts with
 | .len,[x],[t]=>lenK P t x h K
 | .append,[x,y],[t,t']=>t'=t∧appendK P t x y d h K
 | .copy,[x,y],[t,_]=>copyK P t x y h K
 | .min,[x,y],_=>minK x y K
 | .max,[x,y],_=>maxK x y K
 | _,_,_=>False
def callK (P:Program) (c:Call) (d:Nat) (R:Operand→S) (h:Nat→Option Blk) (K:Eff→Prop):Prop:=match c.callee with
 | .builtin b=>builtK P b (c.args.toList.map R) c.argTypes.toList d h K
 | .value x=>match R x with
  | .fn f caps=>entB P f=true∧CallK P f (c.args.toList.map R++caps) h d K
  | .fb f caps=>entB P f=true∧CallK P f (caps++c.args.toList.map R) h d K
  | .t (.lit v)=>match litFn v with
   | some f=>entB P f=true∧CallK P f (c.args.toList.map R) h d K
   | none=>False
  | _=>False
 | _=>False
def makeFuncK (fn:Fn) (first:List S) (caps:List S) (K:Eff→Prop):Prop:=match fn,first with
 | .func f,[]=>K ⟨.fn f caps,[],[],[]⟩
 | .func f,x :: r=>match caps with
  | []=>K ⟨.fb f (x :: r),[],[],[]⟩
  | _=>False
 | _,_=>False
def opK (P:Program) (o:Op) (d:Nat) (R:Operand→S) (h:Nat→Option Blk) (K:Eff→Prop):Prop:=match o with
 | .move x=>K ⟨R x,[],[],[]⟩
 | .assign x=>K ⟨R x,[],[],[]⟩
 | .pick c x y=>pickK (R c) (R x) (R y) K
 | .alloc e=>allocK P e d K
 | .box e x=>boxK e (R x) d K
 | .load t x=>loadK P t (R x) h K
 | .store t x v=>storeK P t (R x) (R v) h K
 | .fieldAddr t x f=>fieldAddrK P t (R x) f K
 | .indexAddr t x i=>indexAddrK P t (R x) (R i) h K
 | .field t x f=>fieldK P t (R x) f K
 | .extract x i=>extractK (R x) i K
 | .binOp op t x y _=>binYK P op t x y R K
 | .unOp op _ x=>unK op (R x) K
 | .convert s t x=>convK P s t (R x) h K
 | .buildSlice t n parts=>match ptrsOf R parts.toList with
  | some ys=>buildPtrK P t n ys d K
  | none=>frzK (ownsL R parts.toList) R h (fun R' _ K'=>buildSliceK P t n (partsT R' 0 parts.toList) d K') K
 | .makeSlice t x y=>makeSliceK P t (R x) (R y) d K
 | .call c=>callK P c d R h K
 | .makeFunc fn first caps=>makeFuncK fn (first.toList.map R) (caps.toList.map R) K
 | .nilCheck x=>nilK (R x) K
 | .slice t x lo hi mx=>match lo,hi,mx with
  | some y,some z,some u=>frzK (ownsS (R x)) R h (fun R' _ K'=>slice3K P t (R' x) (bnd3 R' y) (bnd3 R' z) (bnd3 R' u) K') K
  | none,some z,some u=>clipK P t (R x) (bnd3 R z) (bnd3 R u) K
  | lo,hi,mx=>sliceK P t (R x) (bndJ R lo) (bndJ R hi) mx h K
 | .build t parts=>buildK P t R parts.toList K
 | .index t x i=>indexK P t (R x) (R i) K
 | _=>False
section
variable {N:Nat} {P:Program} {o:Oper} {R:Operand→S} {h:Nat→Option Blk} {d:Nat} {K:Eff→Prop}
theorem does_bin_any {op:BinOp} {t t':TypeId} {x y:Operand} {a b:Value} (ho:o.op = .binOp op t x y t') (hx:R x = .t (.lit a)) (hy:R y = .t (.lit b)) (hk:binV op a b (litK K)):∃ E,Does N P o R h E∧(∀ l∈E.nw,l=d∨100≤l)∧K E:=by
 obtain⟨v,h1,h2⟩:=binV_spec (P:=P) (t:=t) hk
 exact⟨_,does_bin ho hx hy h1,by simp,h2⟩
theorem und_isSome {t:TypeId} (hz:(elemB P t).isSome=true):∃ e,elemB P t=some e:=Option.isSome_iff_exists.1 hz
theorem srcOf_spec {s:Nat} {y:Operand} {ys:List T} {fp:List Nat} (hz:srcOf h s (R y)=some (ys,fp)):Src R h y s ys fp:=by
 unfold srcOf at hz
 split at hz
 ·rename_i s' ys' hy
  split at hz
  ·rename_i e
   subst e
   simp at hz
   obtain⟨rfl,rfl⟩:=hz
   exact .sl hy
  ·cases hz
 ·rename_i l hy
  split at hz
  ·rename_i e s' ys' hl
   split at hz
   ·rename_i e'
    subst e'
    simp at hz
    obtain⟨rfl,rfl⟩:=hz
    exact .own l e hy hl
   ·cases hz
  ·cases hz
 ·rename_i hy
  simp at hz
  obtain⟨rfl,rfl⟩:=hz
  exact .nil hy rfl
 ·cases hz
theorem arr_two {α:Type} {a:Array α} (h:a.size=2):∃ x y,a=#[x,y]:=by
 obtain⟨l⟩:=a
 match l,h with
 | [x,y],_=>exact⟨x,y,rfl⟩
theorem opK_spec (hk:opK P o.op d R h K):∃ E,Does N P o R h E∧(∀ l∈E.nw,l=d∨100≤l)∧K E:=by
 cases ho:o.op<;>rw[ho]at hk<;>simp only[opK]at hk
 case move x=>exact⟨_,does_move ho,by simp,hk⟩
 case assign x=>exact⟨_,does_assign ho,by simp,hk⟩
 case index t x i=>
  unfold indexK at hk
  split at hk
  ·rename_i b k n hx hi
   obtain⟨h1,h2⟩:=hk
   split at h2
   ·rename_i h0
    split at h2
    ·rename_i u hu
     exact⟨_,does_index_str ho hx hi h1 h0 hu,by simp,h2⟩
    ·exact h2.elim
   ·exact h2.elim
  ·rename_i xs k m hx hi
   split at hk
   ·rename_i n e ha
    split at hk
    ·rename_i s hs
     split at hk
     ·rename_i h0
      split at hk
      ·rename_i y hy
       exact⟨_,does_index_val ho hx hi ha hs h0.1 h0.2 hy hk.1 hk.2.1,by simp,hk.2.2⟩
      ·exact hk.elim
     ·exact hk.elim
    ·exact hk.elim
   ·exact hk.elim
  ·exact hk.elim
 case pick c x y=>
  unfold pickK at hk
  split at hk
  ·rename_i b hc
   refine⟨_,does_pick ho hc,by simp,?_⟩
   cases b
   ·simpa using hk
   ·simpa using hk
  ·exact hk.elim
 case alloc e=>
  unfold allocK at hk
  split at hk
  ·rename_i z hz
   exact⟨_,does_alloc ho hz,by simp,hk⟩
  ·exact hk.elim
 case box e x=>exact⟨_,does_box ho hk.1 hk.2.1,by simp,hk.2.2⟩
 case load t x=>
  unfold loadK at hk
  split at hk
  ·rename_i y hx
   exact⟨_,does_load_rp ho hx hk.1,by simp,hk.2⟩
  ·rename_i l p off hx
   split at hk
   ·rename_i blk hl
    split at hk
    ·rename_i q hq
     obtain⟨rfl,h2,h3,h4⟩:=hk
     exact⟨_,does_load_pt ho hx hl hq h2 h3,by simp,h4⟩
    ·exact hk.elim
   ·exact hk.elim
  ·exact hk.elim
 case store t x v=>
  unfold storeK at hk
  split at hk
  ·rename_i l p off hx
   split at hk
   ·rename_i blk hl
    split at hk
    ·rename_i q hq
     split at hk
     ·rename_i blk' hb
      obtain⟨rfl,h2,h3,h4,h5⟩:=hk
      exact⟨_,does_store ho hx hl hq hb h2 h3 h4,by simp,h5⟩
     ·exact hk.elim
    ·exact hk.elim
   ·exact hk.elim
  ·exact hk.elim
 case fieldAddr t x f=>
  unfold fieldAddrK at hk
  split at hk
  ·rename_i q hq
   obtain⟨h1,hk⟩:=hk
   obtain⟨n,hn⟩:=nzB_spec h1
   split at hk
   ·rename_i l p off hx
    exact⟨_,does_fieldAddr_pt ho hx hq hn,by simp,hk⟩
   ·rename_i xs hx
    split at hk
    ·rename_i y hy
     exact⟨_,does_fieldAddr_rp ho hx hy hq hk.1 hn,by simp,hk.2⟩
    ·exact hk.elim
   ·exact hk.elim
  ·exact hk.elim
 case indexAddr t x i=>
  unfold indexAddrK at hk
  split at hk
  ·rename_i e he
   split at hk
   ·rename_i k n hi
    split at hk
    ·rename_i s xs hx
     obtain⟨h1,hk⟩:=hk
     split at hk
     ·rename_i hr
      split at hk
      ·rename_i y hy
       exact⟨_,does_index_sl ho hx hi he h1 hr.1 hy,by simp,hk⟩
      ·exact hk.elim
     ·exact hk.elim
    ·rename_i l hx
     split at hk
     ·rename_i s xs hl
      obtain⟨h1,hk⟩:=hk
      split at hk
      ·rename_i hr
       exact⟨_,does_index_own ho hx hl hi he h1 hr.1 hr.2,by simp,hk⟩
      ·exact hk.elim
     ·rename_i s us ex hl
      obtain⟨h1,hk⟩:=hk
      split at hk
      ·rename_i hr
       exact⟨_,does_index_rows ho hx hl hi he h1 hr.1 hr.2,by simp,hk⟩
      ·exact hk.elim
     ·exact hk.elim
    ·rename_i l p off m hx
     split at hk
     ·rename_i s hs
      split at hk
      ·rename_i hr
       exact⟨_,does_index_wn ho hx hi he hs hr.1 hr.2,by simp,hk⟩
      ·exact hk.elim
     ·exact hk.elim
    ·exact hk.elim
   ·exact hk.elim
  ·split at hk
   ·rename_i n e ha
    split at hk
    ·rename_i s hs
     split at hk
     ·rename_i k m l p off hi hx
      split at hk
      ·rename_i hr
       exact⟨_,does_index_arr ho hx hi ha hs hr.1 hr.2,by simp,hk⟩
      ·exact hk.elim
     ·exact hk.elim
    ·exact hk.elim
   ·exact hk.elim
 case field t x f=>
  unfold fieldK at hk
  split at hk
  ·rename_i q hq
   split at hk
   ·rename_i xs hx
    split at hk
    ·rename_i y hy
     exact⟨_,does_field ho hx hy hq hk.1 hk.2.1,by simp,hk.2.2⟩
    ·exact hk.elim
   ·exact hk.elim
  ·exact hk.elim
 case extract x i=>
  unfold extractK at hk
  split at hk
  ·rename_i ss hx
   split at hk
   ·rename_i s hs
    exact⟨_,does_extract ho hx hs,by simp,hk⟩
   ·exact hk.elim
  ·exact hk.elim
 case binOp op t x y t'=>
  unfold binYK at hk
  split at hk
  ·unfold nilIK at hk
   split at hk
   ·rename_i hx
    exact⟨_,does_nilI ho (.inl ⟨rfl,rfl⟩) hx hk.1,by simp,hk.2⟩
   ·rename_i hx
    exact⟨_,does_nilI ho (.inr ⟨rfl,rfl⟩) hx hk.1,by simp,hk.2⟩
   ·exact hk.elim
  unfold binK at hk
  split at hk
  ·rename_i p q hx hy
   unfold boolK at hk
   split at hk
   ·exact⟨_,does_eq_bool ho (.inl rfl) hx hy hk.1,by simp,hk.2⟩
   ·exact⟨_,does_eq_bool ho (.inr rfl) hx hy hk.1,by simp,hk.2⟩
   ·exact hk.elim
  ·rename_i hx hy
   unfold nilEqK at hk
   split at hk
   ·obtain⟨e,he⟩:=und_isSome hk.1
    exact⟨_,does_nil_nil ho hx hy he,by simp,hk.2⟩
   ·exact hk.elim
  ·rename_i hx hy
   unfold nilEqK at hk
   split at hk
   ·obtain⟨e,he⟩:=und_isSome hk.1
    exact⟨_,does_nil_sl ho hx hy he,by simp,hk.2⟩
   ·exact hk.elim
  ·rename_i a b _ _ hx hy
   exact does_bin_any ho hx hy hk
  ·rename_i xs ys hx hy
   unfold aggK at hk
   split at hk
   ·rename_i fl hf
    obtain⟨h1,h2,hk⟩:=hk
    split at hk
    ·rename_i b hb
     split at hk
     ·exact⟨_,does_eq_agg ho (.inl rfl) hx hy hf h1 h2 hb,by simp,hk⟩
     ·exact⟨_,does_eq_agg ho (.inr rfl) hx hy hf h1 h2 hb,by simp,hk⟩
     ·exact hk.elim
    ·exact hk.elim
   ·unfold arrEqK at hk
    split at hk
    ·rename_i n e ha
     obtain⟨h1,h2,h3,hk⟩:=hk
     split at hk
     ·rename_i b hb
      split at hk
      ·exact⟨_,does_eq_arr ho (.inl rfl) hx hy ha h1 h2 h3 hb,by simp,hk⟩
      ·exact⟨_,does_eq_arr ho (.inr rfl) hx hy ha h1 h2 h3 hb,by simp,hk⟩
      ·exact hk.elim
     ·exact hk.elim
    ·exact hk.elim
  ·exact hk.elim
 case nilCheck x=>
  unfold nilK at hk
  split at hk
  ·rename_i l p off hx
   exact⟨_,does_nilCheck_pt ho hx,by simp,by rw[hx];exact hk⟩
  ·rename_i y hx
   exact⟨_,does_nilCheck_rp ho hx,by simp,by rw[hx];exact hk⟩
  ·exact hk.elim
 case slice t x lo hi mx=>
  split at hk
  ·rename_i y z u
   refine frzK_spec (d:=d) ?_ _ _ _ _ hk
   intro R' h' K' hk
   unfold slice3K at hk
   split at hk
   ·rename_i e s xs l r m he hx hl hr hm
    obtain⟨h1,hk⟩:=hk
    split at hk
    ·rename_i hc
     exact⟨_,does_slice3 ho he h1 hx hl hr hm hc.1 hc.2.1 hc.2.2.1 hc.2.2.2,by simp,hk⟩
    ·exact hk.elim
   ·exact hk.elim
  ·rename_i z u
   unfold clipK at hk
   split at hk
   ·rename_i e s xs r m he hx hr hm
    obtain⟨h1,h2,hk⟩:=hk
    split at hk
    ·rename_i hc
     exact⟨_,does_clip ho he h1 hx hr hm h2 hc.1 hc.2,by simp,hk⟩
    ·exact hk.elim
   ·exact hk.elim
  rename_i hno hno2
  clear hno hno2
  unfold sliceK at hk
  split at hk
  ·rename_i e he
   split at hk
   ·rename_i s xs hx
    obtain⟨h1,hk⟩:=hk
    split at hk
    ·rename_i l r hl hr
     split at hk
     ·rename_i hc
      exact⟨_,does_slice ho he h1 hx hl hr hc.1 hc.2.1 hc.2.2,by simp,hk⟩
     ·exact hk.elim
    ·exact hk.elim
   ·rename_i k hx
    split at hk
    ·rename_i s xs hh
     obtain⟨h1,hk⟩:=hk
     split at hk
     ·rename_i l r hl hr
      split at hk
      ·rename_i hc
       exact⟨_,does_slice_own ho he h1 hx hh hl hr hc.1 hc.2.1 hc.2.2,by simp,hk⟩
      ·exact hk.elim
     ·exact hk.elim
    ·exact hk.elim
   ·rename_i k p off n hx
    split at hk
    ·rename_i s h1
     obtain⟨hsp,hk⟩:=hk
     split at hk
     ·rename_i l r hl hr
      split at hk
      ·rename_i hc
       exact⟨_,does_slice_wn ho he h1 hsp hx hl hr hc.1 hc.2.1 hc.2.2,by simp,hk⟩
      ·exact hk.elim
     ·exact hk.elim
    ·exact hk.elim
   ·exact hk.elim
  ·split at hk
   ·rename_i N e ha
    split at hk
    ·rename_i k p off hx
     obtain⟨h1,h2,hk⟩:=hk
     split at hk
     ·rename_i be c hb
      split at hk
      ·rename_i l r hl hr
       split at hk
       ·rename_i hc
        exact⟨_,does_slice_arr ho ha h1 hx hb ⟨_,_,rfl⟩ h2 hl hr hc.1 hc.2.1 hc.2.2,by simp,hk⟩
       ·exact hk.elim
      ·exact hk.elim
     ·exact hk.elim
    ·exact hk.elim
   ·unfold sliceTK at hk
    split at hk
    ·rename_i b hx
     obtain⟨hs,hk⟩:=hk
     split at hk
     ·rename_i l r hl hr
      split at hk
      ·rename_i hc
       exact⟨_,does_slice_str ho hs hx hl hr hc.1 hc.2.1 hc.2.2,by simp,hk⟩
      ·exact hk.elim
     ·exact hk.elim
    ·exact hk.elim
  ·exact hk.elim
 case build t parts=>
  unfold buildK at hk
  split at hk
  ·rename_i n e ha
   split at hk
   ·rename_i zs s hz hs
    split at hk
    ·rename_i fs hb
     exact⟨_,does_build_arr ho hz ha hs hb,by simp,hk⟩
    ·exact hk.elim
   ·exact hk.elim
  ·split at hk
   ·rename_i zs pls hz hpl
    split at hk
    ·rename_i fs hb
     exact⟨_,does_build ho hz hpl hb,by simp,hk⟩
    ·exact hk.elim
   ·exact hk.elim
 case unOp op t x=>
  unfold unK at hk
  split at hk
  ·rename_i b hx
   exact⟨_,does_not ho hx,by simp,hk⟩
  ·rename_i k n hx
   exact⟨_,does_neg ho hx,by simp,arK_spec hk⟩
  ·rename_i k n hx
   rw[kX_eq]at hk
   exact⟨_,does_xor1 ho hx,by simp,hk⟩
  ·exact hk.elim
 case convert s t x=>
  unfold convK at hk
  split at hk
  ·rename_i k n hx
   split at hk
   ·rename_i k2 k' h1 h2
    exact⟨_,does_conv_int ho h1 h2 hx,by simp,arK_spec hk⟩
   ·exact hk.elim
  ·rename_i b hx
   exact⟨_,does_conv_str ho hk.1 hk.2.1 hx,by simp,hk.2.2⟩
  ·rename_i s' xs hx
   obtain⟨rfl,hk⟩:=hk
   unfold convBK at hk
   split at hk
   ·rename_i e he
    exact⟨_,does_conv_bytes ho he hk.1 hk.2.1 (.sl hx) hk.2.2.1,by simp,hk.2.2.2⟩
   ·exact hk.elim
  ·rename_i l hx
   split at hk
   ·rename_i e' s' xs hl
    obtain⟨rfl,hk⟩:=hk
    unfold convBK at hk
    split at hk
    ·rename_i e he
     exact⟨_,does_conv_bytes ho he hk.1 hk.2.1 (.own l e' hx hl) hk.2.2.1,by simp,hk.2.2.2⟩
    ·exact hk.elim
   ·exact hk.elim
  ·rename_i hx
   unfold convBK at hk
   split at hk
   ·rename_i e he
    exact⟨_,does_conv_bytes ho he hk.1 hk.2.1 (.nil hx rfl) hk.2.2.1,by simp,hk.2.2.2⟩
   ·exact hk.elim
  ·exact hk.elim
 case buildSlice t n parts=>
  split at hk
  ·rename_i ys hys
   unfold buildPtrK at hk
   split at hk
   ·rename_i e he
    split at hk
    ·rename_i bb hs
     obtain⟨h1,h2,h3,h4,hk⟩:=hk
     refine⟨_,does_buildPtrs (d:=d) ho he hs ?_ h1 h2 h3 h4,by simp,hk⟩
     unfold ptrsOf at hys
     split at hys
     ·cases hys
     ·rename_i hq;rw[hq];exact hys
    ·exact hk.elim
   ·exact hk.elim
  ·rename_i hno
   refine frzK_spec (d:=d) ?_ _ _ _ _ hk
   intro R' h' K' hk
   unfold buildSliceK at hk
   split at hk
   ·rename_i e he
    split at hk
    ·rename_i s b hs
     split at hk
     ·rename_i ys hys
      exact⟨_,does_buildSlice (d:=d) ho he hs hys hk.1 (allW_spec hk.2.1) hk.2.2.1,by simp,hk.2.2.2⟩
     ·exact hk.elim
    ·exact hk.elim
   ·exact hk.elim
 case makeSlice t x y=>
  unfold makeSliceK at hk
  split at hk
  ·rename_i e n m he hx hy
   split at hk
   ·rename_i s b z hs hz
    obtain⟨h1,h2⟩:=hk
    split at h2
    ·rename_i hmn
     subst hmn
     split at h2
     ·rename_i h3
      exact⟨_,does_makeSlice (d:=d) ho he hs hz hx hy h3.1 h3.2 h1,by simp,h2⟩
     ·exact h2.elim
    ·split at h2
     ·rename_i h3
      obtain⟨rfl,h3,h4⟩:=h3
      exact⟨_,does_makeSlice0 (d:=d) ho he hs hz hx hy h3 h4 h1,by simp,h2⟩
     ·exact h2.elim
   ·exact hk.elim
  ·exact hk.elim
 case makeFunc fn first caps=>
  unfold makeFuncK at hk
  split at hk
  ·rename_i f hf
   have hfe:first=#[]:=by
    have:=congrArg List.length hf
    simpa using this
   subst hfe
   exact⟨_,does_makeFunc ho,by simp,hk⟩
  ·rename_i f x r hf
   split at hk
   ·rename_i hcs
    have hfe:caps=#[]:=by
     have:=congrArg List.length hcs
     simpa using this
    subst hfe
    rw[←hf]at hk
    exact⟨_,does_makeBound ho,by simp,hk⟩
   ·exact hk.elim
  ·exact hk.elim
 case call c=>
  unfold callK at hk
  split at hk
  ·rename_i b hb
   obtain⟨callee,args,ts⟩:=c
   simp only at hb
   subst hb
   unfold builtK at hk
   split at hk
   ·rename_i x t hargs hts
    obtain⟨x',rfl⟩:∃ x',args=#[x']:=by
     have:=congrArg List.length hargs
     simp at this
     exact Array.size_eq_one_iff.1 this
    obtain⟨rfl⟩:ts=#[t]:=by rw[←Array.toList_inj];simpa using hts
    simp at hargs
    subst hargs
    unfold lenK at hk
    split at hk
    ·rename_i s xs hx
     obtain⟨h1,hk⟩:=hk
     obtain⟨e,he⟩:=und_isSome h1
     exact⟨_,does_len ho he (.sl hx),by simp,hk⟩
    ·rename_i l hx
     split at hk
     ·rename_i s xs hl
      obtain⟨h1,hk⟩:=hk
      obtain⟨e,he⟩:=und_isSome h1
      exact⟨_,does_len ho he (.own l _ hx hl),by simp,hk⟩
     ·rename_i us _ hl
      obtain⟨h1,hk⟩:=hk
      obtain⟨e,he⟩:=und_isSome h1
      exact⟨_,does_len_rows ho he hx hl,by simp,hk⟩
     ·exact hk.elim
    ·rename_i hx
     obtain⟨h1,hk⟩:=hk
     obtain⟨e,he⟩:=und_isSome h1
     exact⟨_,does_len (s:=0) ho he (.nil hx rfl),by simp,hk⟩
    ·rename_i b hx
     exact⟨_,does_len_str ho hk.1 hx,by simp,hk.2⟩
    ·rename_i n hx
     obtain⟨h1,hk⟩:=hk
     obtain⟨e,he⟩:=und_isSome h1
     exact⟨_,does_len_wn ho he hx,by simp,hk⟩
    ·exact hk.elim
   ·rename_i x y t t' hargs hts
    obtain⟨rfl,hk⟩:=hk
    obtain⟨x',y',rfl⟩:∃ x' y',args=#[x',y']:=by
     have:=congrArg List.length hargs
     simp at this
     exact arr_two this
    obtain⟨rfl⟩:ts=#[_,_]:=by rw[←Array.toList_inj];simpa using hts
    simp at hargs
    obtain⟨rfl,rfl⟩:=hargs
    unfold appendK at hk
    split at hk
    ·rename_i l p off m hx
     unfold appendWK at hk
     split at hk
     ·rename_i e he
      split at hk
      ·rename_i s b hs
       split at hk
       ·rename_i l' p' o2 k hy
        split at hk
        ·rename_i e' s' xs hl
         obtain⟨hp1,hp2,rfl,rfl,rfl,rfl,rfl,h3,h4,h5,hk⟩:=hk
         split at hk
         ·rename_i hb
          exact⟨_,does_append_wn (d:=d) ho he hs hp1 hp2 hx hy hl h4 h5 hb h3,by simp,hk⟩
         ·exact hk.elim
        ·exact hk.elim
       ·exact hk.elim
      ·exact hk.elim
     ·exact hk.elim
    rename_i hnw
    clear hnw
    unfold appendOK at hk
    split at hk
    ·rename_i e he
     split at hk
     ·rename_i s b hs
      split at hk
      ·rename_i ys fp hsrc
       split at hk
       ·rename_i l hx
        split at hk
        ·rename_i e' s' xs hl
         obtain⟨rfl,rfl,h3,hk⟩:=hk
         split at hk
         ·rename_i hb
          exact⟨_,does_append_own (d:=d) (ty:=0) ho he hs hx hl (srcOf_spec hsrc) hb h3,by simp,hk⟩
         ·exact hk.elim
        ·exact hk.elim
       ·rename_i hx
        split at hk
        ·rename_i hb
         exact⟨_,does_append_nil (d:=d) (ty:=0) ho he hs hx (srcOf_spec hsrc) hb,by simp,hk⟩
        ·exact hk.elim
       ·rename_i s' xs hx
        obtain⟨rfl,h3,hk⟩:=hk
        split at hk
        ·rename_i hb
         exact⟨_,does_append_cl (d:=d) ho he hs hx (srcOf_spec hsrc) h3 hb,by simp,hk⟩
        ·exact hk.elim
       ·exact hk.elim
      ·exact hk.elim
     ·exact hk.elim
    ·exact hk.elim
   ·rename_i x y t t' hargs hts
    obtain⟨x',y',rfl⟩:∃ x' y',args=#[x',y']:=by
     have:=congrArg List.length hargs
     simp at this
     exact arr_two this
    obtain⟨rfl⟩:ts=#[_,_]:=by rw[←Array.toList_inj];simpa using hts
    simp at hargs
    obtain⟨rfl,rfl⟩:=hargs
    unfold copyK at hk
    split at hk
    ·rename_i l hx
     unfold copyOK at hk
     split at hk
     ·rename_i e e' s xs he hl
      obtain⟨rfl,hs,hk⟩:=hk
      split at hk
      ·rename_i ys fp hsrc
       exact⟨_,does_copy_own rfl ho he hs hx hl (srcOf_spec hsrc),by simp,hk⟩
      ·exact hk.elim
     ·exact hk.elim
    ·rename_i l p off n hx
     unfold copyVK at hk
     split at hk
     ·rename_i l' p' o' k hy
      unfold copyIK at hk
      split at hk
      ·rename_i e e' s xs he hl
       obtain⟨rfl,hs,rfl,rfl,h0,h1,h2,h3,hk⟩:=hk
       exact⟨_,does_copy_within rfl h0 ho he hs hx hy hl h1 h2 h3,by simp,hk⟩
      ·exact hk.elim
     rw[←hx]at hk
     unfold copyWK at hk
     split at hk
     ·rename_i e he
      obtain⟨h1,hk⟩:=hk
      split at hk
      ·rename_i ys fp hsrc
       split at hk
       ·rename_i l p off n hx
        split at hk
        ·rename_i be c hl
         split at hk
         ·rename_i o2 zs hat
          obtain⟨rfl,rfl,h2,hk⟩:=hk
          split at hk
          ·rename_i c' hset
           exact⟨_,does_copy rfl ho he h1 hx hl hat h2 (srcOf_spec hsrc) hset,by simp,hk⟩
          ·exact hk.elim
         ·exact hk.elim
        ·exact hk.elim
       ·exact hk.elim
      ·exact hk.elim
     ·exact hk.elim
    unfold copyWK at hk
    split at hk
    ·rename_i e he
     obtain⟨h1,hk⟩:=hk
     split at hk
     ·rename_i ys fp hsrc
      split at hk
      ·rename_i l p off n hx
       split at hk
       ·rename_i be c hl
        split at hk
        ·rename_i o2 zs hat
         obtain⟨rfl,rfl,h2,hk⟩:=hk
         split at hk
         ·rename_i c' hset
          exact⟨_,does_copy rfl ho he h1 hx hl hat h2 (srcOf_spec hsrc) hset,by simp,hk⟩
         ·exact hk.elim
        ·exact hk.elim
       ·exact hk.elim
      ·exact hk.elim
     ·exact hk.elim
    ·exact hk.elim
   ·rename_i x y hargs
    obtain⟨x',y',rfl⟩:∃ x' y',args=#[x',y']:=by
     have:=congrArg List.length hargs
     simp at this
     exact arr_two this
    simp at hargs
    obtain⟨rfl,rfl⟩:=hargs
    unfold minK at hk
    split at hk
    ·rename_i hx hy
     exact⟨_,does_min ho hx hy,by simp,hk⟩
    ·exact hk.elim
   ·rename_i x y hargs
    obtain⟨x',y',rfl⟩:∃ x' y',args=#[x',y']:=by
     have:=congrArg List.length hargs
     simp at this
     exact arr_two this
    simp at hargs
    obtain⟨rfl,rfl⟩:=hargs
    unfold maxK at hk
    split at hk
    ·rename_i hx hy
     exact⟨_,does_max ho hx hy,by simp,hk⟩
    ·exact hk.elim
   ·exact hk.elim
  ·rename_i x hc
   split at hk
   ·rename_i f caps hx
    obtain⟨h1,E,h2,h3,h4⟩:=hk
    exact⟨E,does_call ho hc hx h1 h2,fun l hl=> .inr (h3 l hl),h4⟩
   ·rename_i f caps hx
    obtain⟨h1,E,h2,h3,h4⟩:=hk
    exact⟨E,does_call_fb ho hc hx h1 h2,fun l hl=> .inr (h3 l hl),h4⟩
   ·rename_i u hx
    split at hk
    ·rename_i f hu
     obtain⟨h1,E,h2,h3,h4⟩:=hk
     exact⟨E,does_call_lit ho hc hx hu h1 h2,fun l hl=> .inr (h3 l hl),h4⟩
    ·exact hk.elim
   ·exact hk.elim
  ·exact hk.elim
end
end Go.Proofs.YtdjmklobfjigoaaGreatDoor.Sy
