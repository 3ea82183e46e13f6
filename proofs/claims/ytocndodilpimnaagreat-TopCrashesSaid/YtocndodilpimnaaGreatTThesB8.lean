/- Several texts of this proof, one behind the other. No condition. -/
import Derived.Test.YtocndodilpimnaaGreatTThesB5
import Derived.Test.YtocndodilpimnaaGreatTThesB6
import Derived.Test.YtocndodilpimnaaGreatTThesB7
import Derived.Laws.Cover3
import Derived.ChangeKeysEq
set_option maxRecDepth 100000
set_option maxHeartbeats 16000000
set_option linter.unusedVariables false
set_option linter.unusedSimpArgs false
namespace Go.Proofs.YtocndodilpimnaaGreat.Sy
open Go.RowKit
def cQ:List (Nat×S)→Nat→S
 | [],_=> .dead
 | (t,s) :: r,k=>if k=t then s else cQ r k
def bc:List (Nat×aA)→Nat→Option aA
 | [],_=>none
 | (l,b) :: r,k=>if k=l then some b else bc r k
def kV (l:Nat):List (Nat×aA)→List (Nat×aA)
 | []=>[]
 | (k,b) :: r=>if k=l then kV l r else (k,b) :: kV l r
def mX:List (Nat×Option aA)→List (Nat×aA)→List (Nat×aA)
 | [],h=>h
 | (l,some b) :: r,h=>(l,b) :: kV l (mX r h)
 | (l,none) :: r,h=>kV l (mX r h)
def m7 (d:Option Tmp) (s:S) (g:List (Nat×S)):List (Nat×S):=match d with
 | some t=>(t,s) :: g
 | none=>g
def mm (l:Nat):List (Nat×S)→Bool
 | []=>true
 | (_,s) :: r=>s.free l && mm l r
def me (l:Nat):List (Nat×aA)→Bool
 | []=>true
 | (k,b) :: r=>k != l && b.free l && me l r
structure St where
 g:List (Nat×S)
 h:List (Nat×aA)
theorem ma (l k:Nat):∀ (h:List (Nat×aA)),bc (kV l h) k=if k=l then none else bc h k
 | []=>by simp[kV,bc]
 | (j,b) :: r=>by
  have ih:=ma l k r
  simp only[kV]
  by_cases e:j=l
  ·subst e
   rw[if_pos rfl,ih]
   by_cases e2:k=j
   ·rw[if_pos e2,if_pos e2]
   ·rw[if_neg e2,if_neg e2];simp[bc,e2]
  ·rw[if_neg e]
   simp only[bc,ih]
   by_cases e2:k=l
   ·subst e2
    rw[if_neg (fun h=>e h.symm),if_pos rfl,if_pos rfl]
   ·rw[if_neg e2,if_neg e2]
theorem lN (k:Nat):∀ (u:List (Nat×Option aA)) (h:List (Nat×aA)),bc (mX u h) k=dK u (bc h) k
 | [],h=>rfl
 | (l,some b) :: r,h=>by
  simp only[mX,bc,ma,dK,cY,lN k r h]
  split<;>rfl
 | (l,none) :: r,h=>by
  simp only[mX,ma,dK,cY,lN k r h]
theorem lE (d:Option Tmp) (s:S) (g:List (Nat×S)):cQ (m7 d s g)=jM (cQ g) d s:=by
 funext k
 cases d with
 | none=>rfl
 | some t=>simp[m7,cQ,jM]
theorem ny {l:Nat}:∀ {g:List (Nat×S)},mm l g=true→∀ t,(cQ g t).free l=true
 | [],_,t=>rfl
 | (k,s) :: r,h,t=>by
  simp only[mm,Bool.and_eq_true]at h
  simp only[cQ]
  split
  ·exact h.1
  ·exact ny h.2 t
theorem nk {l:Nat}:∀ {g:List (Nat×aA)},me l g=true→bc g l=none∧∀ k b,bc g k=some b→b.free l=true
 | [],_=>⟨rfl,fun k b h=>by simp[bc]at h⟩
 | (k,b) :: r,h=>by
  simp only[me,Bool.and_eq_true,bne_iff_ne]at h
  obtain⟨h1,h2⟩:=nk h.2
  refine⟨?_,fun j b' hb=>?_⟩
  ·simp only[bc]
   rw[if_neg (fun e=>h.1.1 e.symm)];exact h1
  ·simp only[bc]at hb
   split at hb
   ·cases hb;exact h.1.2
   ·exact h2 j b' hb
def Sat (N:Nat) (W:World) (G0:Gh) (A:Nat→Prop) (σ:St) (a:Act) (w:World):Prop:=∃ G,bT N W G0 A G (cQ σ.g) (bc σ.h) a w
def qw (P:Program) (f:FuncId) (az:List S) (h:Nat→Option aA) (E:aM):Prop:=
 ∀ (G:Gh) (h':Nat→Option aA) (w:World) (us:List Value),bn G w h'→aD G w az us→(∀ l∈E.fp,h' l=h l)→(∀ l∈E.nw,h' l=none∧∀ k b,h' k=some b→b.free l=true)→
  Calls P f us.toArray w fun e w'=>∃ v G',e = .returned v∧Ext G w h' G' w' (dK E.u h') E.nw∧ar G' w' E.r v
def aY (P:Program) (f:FuncId) (az:List S) (h:Nat→Option aA) (d:Nat) (K:aM→Prop):Prop:=∃ E,qw P f az h E∧(∀ l∈E.nw,100≤l)∧K E
def aw (P:Program) (f:FuncId):Bool:=match P.funcs[f]? with
 | some fn=>fn.name != "runtime.NumGoroutine" && fn.body.isSome
 | none=>false
section
variable {N:Nat} {P:Program} {o:Oper} {R:Operand→S} {h:Nat→Option aA}
theorem ig {f:FuncId} (he:aw P f=true) (args:Array Value) (w:World):(callFunc f args).run P w = .ok (.enter f args) w:=by
 unfold aw at he
 split at he
 ·rename_i fn hf
  simp only[Bool.and_eq_true,bne_iff_ne]at he
  have h1:(fn.name == "runtime.NumGoroutine")=false:=by simpa using he.1
  have h2:fn.body.isNone=false:=by cases hb:fn.body<;>simp_all
  simp only[callFunc,Sem.run_bind,run_program,Result.andThen_ok,hf,h1,h2]
  simp
 ·cases he
theorem aD.append {G:Gh} {w:World}:∀ {xs ys:List S} {us vs:List Value},aD G w xs us→aD G w ys vs→aD G w (xs++ys) (us++vs)
 | [],ys,us,vs,h1,h2=>by unfold aD at h1;subst h1;exact h2
 | x :: r,ys,us,vs,h1,h2=>by
  unfold aD at h1
  obtain⟨v,us',rfl,h3,h4⟩:=h1
  show aD G w (x :: (r++ys)) _
  unfold aD
  exact⟨v,us'++vs,rfl,h3,aD.append h4 h2⟩
def wS (v:Value):Option FuncId:=match v with
 | .func (.func f) a b=>if a.size=0∧b.size=0 then some f else none
 | _=>none
theorem Dy {v:Value} {f:FuncId} (h:wS v=some f):v = .func (.func f) #[] #[]:=by
 unfold wS at h
 split at h
 ·split at h
  ·rename_i f' a b hs
   obtain rfl:=Option.some.inj h
   rw[Array.eq_empty_of_size_eq_zero hs.1,Array.eq_empty_of_size_eq_zero hs.2]
  ·cases h
 ·cases h
theorem HC {c:Call} {x:Operand} {f:FuncId} {caps:List S} {E:aM} (ho:o.op = .call c) (hc:c.callee = .value x) (hx:R x = .fn f caps) (he:aw P f=true) (hE:qw P f (c.args.toList.map R++caps) h E):bm N P o R h E:=by
 intro W G0 A G g h' a w Q K hs hop hfp hnw hK
 have h1:=hs.eval x
 rw[hop x (by simp[ho,Op.operands,Call.operands,hc]),hx]at h1
 unfold ar at h1
 obtain⟨us,h2,h3⟩:=h1
 have h4:aD G w (c.args.toList.map R) (c.args.toList.map a.eval):=aD.map fun y hy=>by
  rw[←hop y (by simp[ho,Op.operands,Call.operands,hc];exact .inr (Array.mem_toList_iff.1 hy))]
  exact hs.eval y
 have hrun:(execOp a.eval o).run P w = .ok (.enter f (c.args.map a.eval++us.toArray)) w:=by
  unfold execOp
  simp[ho,resolve,hc,h2,Deferred.ofValue,invoke,ig he]
 unfold Oper.wp
 rw[hrun]
 rw[Oper.upon_enter]
 have h5:=hE G h' w (c.args.toList.map a.eval++us) hs.heap (h4.append h3) hfp (fun l hl=>⟨(hnw l hl).1,(hnw l hl).2.2⟩)
 have h6:(c.args.toList.map a.eval++us).toArray=c.args.map a.eval++us.toArray:=by
  rw[←Array.toList_inj];simp
 rw[h6]at h5
 refine h5.mono ?_
 rintro e w' ⟨v,G',rfl,hx,hr⟩
 exact hK v G' w' hx hr
theorem zq {c:Call} {x:Operand} {f:FuncId} {caps:List S} {E:aM} (ho:o.op = .call c) (hc:c.callee = .value x) (hx:R x = .fb f caps) (he:aw P f=true) (hE:qw P f (caps++c.args.toList.map R) h E):bm N P o R h E:=by
 intro W G0 A G g h' a w Q K hs hop hfp hnw hK
 have h1:=hs.eval x
 rw[hop x (by simp[ho,Op.operands,Call.operands,hc]),hx]at h1
 unfold ar at h1
 obtain⟨us,h2,h3⟩:=h1
 have h4:aD G w (c.args.toList.map R) (c.args.toList.map a.eval):=aD.map fun y hy=>by
  rw[←hop y (by simp[ho,Op.operands,Call.operands,hc];exact .inr (Array.mem_toList_iff.1 hy))]
  exact hs.eval y
 have hrun:(execOp a.eval o).run P w = .ok (.enter f (us.toArray++c.args.map a.eval)) w:=by
  unfold execOp
  simp[ho,resolve,hc,h2,Deferred.ofValue,invoke,ig he]
 unfold Oper.wp
 rw[hrun]
 rw[Oper.upon_enter]
 have h5:=hE G h' w (us++c.args.toList.map a.eval) hs.heap (h3.append h4) hfp (fun l hl=>⟨(hnw l hl).1,(hnw l hl).2.2⟩)
 have h6:(us++c.args.toList.map a.eval).toArray=us.toArray++c.args.map a.eval:=by
  rw[←Array.toList_inj];simp
 rw[h6]at h5
 refine h5.mono ?_
 rintro e w' ⟨v,G',rfl,hx,hr⟩
 exact hK v G' w' hx hr
theorem vN {c:Call} {x:Operand} {f:FuncId} {u:Value} {E:aM} (ho:o.op = .call c) (hc:c.callee = .value x) (hx:R x = .t (.lit u)) (hu:wS u=some f) (he:aw P f=true) (hE:qw P f (c.args.toList.map R) h E):bm N P o R h E:=by
 intro W G0 A G g h' a w Q K hs hop hfp hnw hK
 have h1:=hs.eval x
 rw[hop x (by simp[ho,Op.operands,Call.operands,hc]),hx]at h1
 unfold ar at h1
 unfold aO at h1
 have h2:=h1.1
 rw[Dy hu]at h2
 have h4:aD G w (c.args.toList.map R) (c.args.toList.map a.eval):=aD.map fun y hy=>by
  rw[←hop y (by simp[ho,Op.operands,Call.operands,hc];exact .inr (Array.mem_toList_iff.1 hy))]
  exact hs.eval y
 have hrun:(execOp a.eval o).run P w = .ok (.enter f (c.args.map a.eval)) w:=by
  unfold execOp
  simp[ho,resolve,hc,h2,Deferred.ofValue,invoke,ig he]
 unfold Oper.wp
 rw[hrun]
 rw[Oper.upon_enter]
 have h5:=hE G h' w (c.args.toList.map a.eval) hs.heap h4 hfp (fun l hl=>⟨(hnw l hl).1,(hnw l hl).2.2⟩)
 have h6:(c.args.toList.map a.eval).toArray=c.args.map a.eval:=by
  rw[←Array.toList_inj];simp
 rw[h6]at h5
 refine h5.mono ?_
 rintro e w' ⟨v,G',rfl,hx,hr⟩
 exact hK v G' w' hx hr
end
theorem pE {P:Program} {t e:TypeId} (he:aK P t=some e) (x:Option Addr) (l c:Nat):Fc P .eql t (.slice x l c) (.slice none 0 0) (.bool x.isNone):=by
 have hu:=bp he
 refine⟨rfl,fun w a b=>?_⟩
 have:=run_equal_slice_nil (P:=P) (w:=w) t e x l c hu
 simp[eqGuard,binOp,Sem.run_bind,this]
section
variable {N:Nat} {P:Program} {o:Oper} {R:Operand→S} {h:Nat→Option aA}
theorem BG {t t' e:TypeId} {x y:Operand} {k:Nat} {z:T} {zs:List T} (ho:o.op = .binOp .eql t x y t') (hx:R x = .t (.sl k (z :: zs))) (hy:R y = .t (.lit (.slice none 0 0))) (he:aK P t=some e):bm N P o R h ⟨.t (.lit (.bool false)),[],[],[]⟩:=
 aH fun G h' a w hh hop _=>by
  have h1:=hop x (by simp[ho,Op.operands])
  have h2:=hop y (by simp[ho,Op.operands])
  rw[hx]at h1
  rw[hy]at h2
  unfold ar aO at h1 h2
  obtain⟨ad,cap,cells,h3,_,_,h4⟩:=h1
  have hn:ad.isNone=false:=by
   cases ad with
   | none=>
    have:=h4.nil rfl
    have:=h4.le
    simp at this
    omega
   | some _=>rfl
  have hv:=(pE (P:=P) he ad (z :: zs).length cap).2 w x y
  rw[hn]at hv
  refine⟨.bool false,?_,by unfold ar aO;exact⟨rfl,rfl⟩⟩
  unfold execOp
  simp only[ho,h3,h2.1]
  exact bh hv
theorem yX {t t' e:TypeId} {x y:Operand} (ho:o.op = .binOp .eql t x y t') (hx:R x = .t (.lit (.slice none 0 0))) (hy:R y = .t (.lit (.slice none 0 0))) (he:aK P t=some e):bm N P o R h ⟨.t (.lit (.bool true)),[],[],[]⟩:=
 th ho hx hy (pE (P:=P) he none 0 0)
def vr (P:Program) (e:TypeId):List T→List T→Option Bool
 | [],[]=>some true
 | x :: xs,y :: ys=>match PU P e x y with
  | some b=>match vr P e xs ys with
   | some c=>some (b && c)
   | none=>none
  | none=>none
 | _,_=>none
theorem xl {w:World} {F:Nat→Prop} {xa ya:Array Value} {e:TypeId} (hc:P.cellsOf e=1):∀ {xs ys:List T} {k:Nat} {b:Bool},vr P e xs ys=some b→
  (∃ cs,xa.toList.drop k=cs∧ay F w xs cs)→(∃ cs,ya.toList.drop k=cs∧ay F w ys cs)→∀ d,(Op.eqItems (d+1) e (P.cellsOf e) xa ya (List.range' k xs.length)).run P w = .ok b w
 | [],ys,k,b,e0,_,_,d=>by
  cases ys<;>simp[vr]at e0
  subst e0
  simp[Op.eqItems]
 | x :: xs,ys,k,b,e0,hx,hy,d=>by
  cases ys with
  | nil=>simp[vr]at e0
  | cons y ys=>
   simp only[vr]at e0
   split at e0
   ·rename_i b1 h1
    split at e0
    ·rename_i c h2
     simp at e0
     obtain⟨u,v,rfl,rfl,h3,h4⟩:=Bn h1
     obtain⟨cs,h5,h6⟩:=hx
     obtain⟨ds,h7,h8⟩:=hy
     unfold ay at h6 h8
     obtain⟨u',cs',h9,h10,h11⟩:=h6
     obtain⟨v',ds',h12,h13,h14⟩:=h8
     unfold aO at h10 h13
     obtain⟨rfl,h10⟩:=h10
     obtain⟨rfl,h13⟩:=h13
     have hcu:=dR h10
     have hcv:=dR h13
     rw[hcu]at h9
     rw[hcv]at h12
     have ha:=oO (P:=P) h3 w
     have hxa:xa[k]? = some u':=by
      rw[←Array.getElem?_toList,←Nat.add_zero k,←List.getElem?_drop,h5,h9];rfl
     have hya:ya[k]? = some v':=by
      rw[←Array.getElem?_toList,←Nat.add_zero k,←List.getElem?_drop,h7,h12];rfl
     have hp1:(part e xa (k * P.cellsOf e)).run P w = .ok u' w:=by simp[part,ha,hxa,hc]
     have hp2:(part e ya (k * P.cellsOf e)).run P w = .ok v' w:=by simp[part,ha,hya,hc]
     have ih:=xl (k:=k+1) (xa:=xa) (ya:=ya) (F:=F) hc h2 ⟨cs',by rw[←List.drop_drop,h5,h9];rfl,h11⟩ ⟨ds',by rw[←List.drop_drop,h7,h12];rfl,h14⟩ d
     simp only[List.length_cons,List.range'_succ,Op.eqItems,Sem.run_bind,hp1,hp2,Result.andThen_ok,h4]
     cases b1
     ·simp[←e0]
     ·simp[ih,←e0]
    ·cases e0
   ·cases e0
def zT (P:Program) (e:TypeId):Bool:=match P.info? e with
 | some _=>Nat.beq (P.cellsOf e) 1
 | none=>false
theorem rA {op:BinOp} {t t' e:TypeId} {n:Nat} {x y:Operand} {xs ys:List T} {b:Bool} (ho:o.op = .binOp op t x y t') (hop':op = .eql∨op = .neq) (hx:R x = .t (.agg xs)) (hy:R y = .t (.agg ys)) (hf:dn P t=some (n,e))
  (hc:zT P e=true) (h2:P.eqGuardType P.depth t=false) (hn:n=xs.length) (hb:vr P e xs ys=some b):bm N P o R h ⟨.t (.lit (.bool (if op = .eql then b else !b))),[],[],[]⟩:=
 aH fun G h' a w hh hop _=>by
  have h3:=hop x (by simp[ho,Op.operands])
  have h4:=hop y (by simp[ho,Op.operands])
  rw[hx]at h3
  rw[hy]at h4
  unfold ar at h3 h4;unfold aO at h3 h4
  obtain⟨cs,h5,h6⟩:=h3
  obtain⟨ds,h7,h8⟩:=h4
  unfold zT at hc
  split at hc
  ·rename_i i hi
   have hc1:=Nat.eq_of_beq_eq_true hc
   have hrun:(Op.equalIn 10000 t (.agg cs.toArray) (.agg ds.toArray)).run P w = .ok b w:=by
    rw[run_equalIn_array w 9999 _ _ (jv hf) hi,hn,List.range_eq_range']
    exact xl (F:=G.F) hc1 hb ⟨cs,by simp,h6⟩ ⟨ds,by simp,h8⟩ 9998
   refine⟨.bool (if op = .eql then b else !b),?_,by unfold ar;unfold aO;exact⟨rfl,rfl⟩⟩
   unfold execOp
   simp only[ho,h5,h7]
   refine bh ?_
   have hg:=run_eqGuard_agg (P:=P) w op t x y cs.toArray ds.toArray h2
   rcases hop' with rfl|rfl
   ·simp[hg,run_eql_struct,hrun]
   ·simp[hg,run_neq_struct,hrun]
  ·cases hc
def nB (P:Program) (op:BinOp) (t:TypeId) (b:Bool) (K:aM→Prop):Prop:=match op with
 | .eql=>(aK P t).isSome=true∧K ⟨.t (.lit (.bool b)),[],[],[]⟩
 | _=>False
theorem KO (b:ByteArray) (i:Nat):b[i]? = b.data.toList[i]?:=by
 obtain⟨⟨l⟩⟩:=b
 by_cases hi:i < l.length
 ·rw[getElem?_pos (⟨⟨l⟩⟩:ByteArray) i hi]
  simp only[List.getElem?_eq_getElem hi]
  rfl
 ·rw[getElem?_neg (⟨⟨l⟩⟩:ByteArray) i hi]
  simp[List.getElem?_eq_none (Nat.le_of_not_lt hi)]
theorem uV {t:TypeId} {x i:Operand} {k:IntKind} {n:Int} {b:ByteArray} {u:UInt8} (ho:o.op = .index t x i) (hx:R x = .t (.lit (.string b))) (hi:R i = .t (.lit (.int k n))) (he:iS P t=true) (h0:0≤n) (hu:b.data.toList[n.toNat]? = some u) :
  bm N P o R h ⟨.t (.lit (.int .u8 u.toNat)),[],[],[]⟩:=
 aH fun G h' a w hh hop _=>by
  have h1:=hop x (by simp[ho,Op.operands])
  have h2:=hop i (by simp[ho,Op.operands])
  rw[hx]at h1
  rw[hi]at h2
  unfold ar aO at h1 h2
  refine⟨.int .u8 u.toNat,?_,by unfold ar aO;exact⟨rfl,rfl⟩⟩
  unfold execOp
  simp only[ho,h1.1,h2.1]
  refine bh ?_
  have hu':b.data[n.toNat]? = some u:=by simpa using hu
  simp[Instr.index,asIntOf,run_underlying (eZ he),h0,KO,hu']
theorem tQ {t e:TypeId} {x i:Operand} {k:IntKind} {m:Int} {n s:Nat} {xs:List T} {y:T} (ho:o.op = .index t x i) (hx:R x = .t (.agg xs)) (hi:R i = .t (.lit (.int k m))) (ha:dn P t=some (n,e)) (hs:bY P e=some s) (h0:0≤m) (h1:m < n) (hy:xs[m.toNat]? = some y) (hq:T.widths (xs.take m.toNat)=m.toNat * s) (hok:kO P e (.t y)) :
  bm N P o R h ⟨.t y,[],[],[]⟩:=
 aH fun G h' a w hh hop _=>by
  have h2:=hop x (by simp[ho,Op.operands])
  have h3:=hop i (by simp[ho,Op.operands])
  rw[hx]at h2
  rw[hi]at h3
  unfold ar at h2 h3
  unfold aO at h2 h3
  obtain⟨cells,h4,h5⟩:=h2
  obtain⟨v,h6,h7,_⟩:=ay.get h5 hy
  have h8:ar G w (.t y) v:=by unfold ar;exact h6
  refine⟨v,?_,h8⟩
  have hlen:=ay.widths _ _ h5
  have hle:m.toNat * s+y.width≤cells.length:=by
   have h9:=b9 hy
   have h10:T.widths xs=T.widths (xs.take (m.toNat+1))+T.widths (xs.drop (m.toNat+1)):=by rw[←dD,List.take_append_drop]
   omega
  have:=Ai (P:=P) (cs:=cells.toArray) (off:=m.toNat * s) h8 rfl hok (fun j c hj=>by rw[←hq];simpa using h7 j c hj) (by show m.toNat * s+y.width≤_;simpa using hle)
  unfold execOp
  simp only[ho,h4,h3.1]
  exact bh (by simp[Instr.index,asIntOf,run_underlying (jv ha),h0,h1,fA hs,this])
end
def tp (P:Program) (t:TypeId) (x i:S) (K:aM→Prop):Prop:=match x,i with
 | .t (.lit (.string b)),.t (.lit (.int _ n))=>iS P t=true∧(if 0≤n then (match b.data.toList[n.toNat]? with|some u=>K ⟨.t (.lit (.int .u8 u.toNat)),[],[],[]⟩|none=>False) else False)
 | .t (.agg xs),.t (.lit (.int _ m))=>match dn P t with
  | some (n,e)=>match bY P e with
   | some s=>if 0≤m∧m < (n:Int) then (match xs[m.toNat]? with|some y=>T.widths (xs.take m.toNat)=m.toNat * s∧kO P e (.t y)∧K ⟨.t y,[],[],[]⟩|none=>False) else False
   | none=>False
  | none=>False
 | _,_=>False
def BC (c x y:S) (K:aM→Prop):Prop:=match c with
 | .t (.lit (.bool b))=>if b=true then K ⟨x,[],[],[]⟩ else K ⟨y,[],[],[]⟩
 | _=>False
def uY (P:Program) (e:TypeId) (d:Nat) (K:aM→Prop):Prop:=match zeroOf P e with
 | some z=>K ⟨.pt d [] 0,[(d,some (.box e (.t z)))],[],[d]⟩
 | none=>False
def Mw (e:TypeId) (x:S) (d:Nat) (K:aM→Prop):Prop:=x.solid=true∧x.free d=true∧K ⟨.pt d [] 0,[(d,some (.box e x))],[],[d]⟩
def zO (P:Program) (t:TypeId) (x:S) (h:Nat→Option aA) (K:aM→Prop):Prop:=match x with
 | .rp y=>kO P t (.t y)∧K ⟨.t y,[],[],[]⟩
 | .pt l p off=>match h l with
  | some blk=>match blk.at p with
   | some (o,y)=>o=off∧y.solid=true∧kO P t y∧K ⟨y,[],[l],[]⟩
   | none=>False
  | none=>False
 | _=>False
def tt (P:Program) (t:TypeId) (x v:S) (h:Nat→Option aA) (K:aM→Prop):Prop:=match x with
 | .pt l p off=>match h l with
  | some blk=>match blk.at p with
   | some (o,z)=>match blk.set p v with
    | some blk'=>o=off∧v.solid=true∧v.width=z.width∧bY P t=some v.width∧K ⟨.dead,[(l,some blk')],[l],[]⟩
    | none=>False
   | none=>False
  | none=>False
 | _=>False
def pA (P:Program) (t:TypeId):Bool:=match bY P t with
 | some (_+1)=>true
 | _=>false
theorem KG {P:Program} {t:TypeId} (h:pA P t=true):∃ n,bY P t=some (n+1):=by
 unfold pA at h;split at h
 ·exact⟨_,by assumption⟩
 ·cases h
def ja (P:Program) (t:TypeId) (x:S) (f:Nat) (K:aM→Prop):Prop:=match aX P t f with
 | some q=>pA P q.2=true∧match x with
  | .pt l p o=>K ⟨.pt l (p++[f]) (o+q.1),[],[],[]⟩
  | .rp (.agg xs)=>match xs[f]? with
   | some y=>T.widths (xs.take f)=q.1∧K ⟨.rp y,[],[],[]⟩
   | none=>False
  | _=>False
 | none=>False
def iI (P:Program) (t:TypeId) (x i:S) (h:Nat→Option aA) (K:aM→Prop):Prop:=match aK P t with
 | some e=>match i with
  | .t (.lit (.int k n))=>match x with
   | .t (.sl s xs)=>bY P e=some s∧(if 0≤n∧n < (xs.length:Int) then (match xs[n.toNat]? with|some y=>K ⟨.rp y,[],[],[]⟩|none=>False) else False)
   | .own l=>match h l with
    | some (.list _ s xs)=>bY P e=some s∧(if 0≤n∧n < (xs.length:Int) then K ⟨.pt l [n.toNat] (n.toNat * s),[],[l],[]⟩ else False)
    | some (.rows _ s us _)=>bY P e=some s∧(if 0≤n∧n < (us.length:Int) then K ⟨.pt l [n.toNat] (n.toNat * s),[],[l],[]⟩ else False)
    | _=>False
   | .wn l p off m=>match bY P e with
    | some s=>if 0≤n∧n < (m:Int) then K ⟨.pt l (p++[n.toNat]) (off+n.toNat * s),[],[],[]⟩ else False
    | none=>False
   | _=>False
  | _=>False
 | none=>match dn P t with
  | some (n,e)=>match bY P e with
   | some s=>match i,x with
    | .t (.lit (.int k m)),.pt l p off=>if 0≤m∧m < (n:Int) then K ⟨.pt l (p++[m.toNat]) (off+m.toNat * s),[],[],[]⟩ else False
    | _,_=>False
   | none=>False
  | none=>False
def uH (P:Program) (t:TypeId) (x:S) (f:Nat) (K:aM→Prop):Prop:=match aX P t f with
 | some q=>match x with
  | .t (.agg xs)=>match xs[f]? with
   | some y=>T.widths (xs.take f)=q.1∧kO P q.2 (.t y)∧K ⟨.t y,[],[],[]⟩
   | none=>False
  | _=>False
 | none=>False
def lV (x:S) (i:Nat) (K:aM→Prop):Prop:=match x with
 | .tup ss=>match ss[i]? with
  | some s=>K ⟨s,[],[],[]⟩
  | none=>False
 | _=>False
def jf (K:aM→Prop) (v:Value):Prop:=K ⟨.t (.lit v),[],[],[]⟩
def A8 (P:Program) (op:BinOp) (t:TypeId) (p q:Bool) (K:aM→Prop):Prop:=match op with
 | .eql=>oD P t=true∧jf K (.bool (p == q))
 | .neq=>oD P t=true∧jf K (.bool (!(p == q)))
 | _=>False
def uw (P:Program) (op:BinOp) (t:TypeId) (xs ys:List T) (K:aM→Prop):Prop:=match dn P t with
 | some (n,e)=>zT P e=true∧P.eqGuardType P.depth t=false∧n=xs.length∧match vr P e xs ys with
  | some b=>(match op with
   | .eql=>jf K (.bool b)
   | .neq=>jf K (.bool (!b))
   | _=>False)
  | none=>False
 | none=>False
def Ij (P:Program) (op:BinOp) (t:TypeId) (xs ys:List T) (K:aM→Prop):Prop:=match oH P t with
 | some fl=>P.stoodInHeld t=false∧P.eqGuardType P.depth t=false∧match vW P fl 0 xs ys with
  | some b=>(match op with
   | .eql=>jf K (.bool b)
   | .neq=>jf K (.bool (!b))
   | _=>False)
  | none=>False
 | none=>uw P op t xs ys K
def xY (P:Program) (op:BinOp) (t:TypeId) (x y:S) (K:aM→Prop):Prop:=match x,y with
 | .t (.lit (.bool p)),.t (.lit (.bool q))=>A8 P op t p q K
 | .t (.lit (.slice none 0 0)),.t (.lit (.slice none 0 0))=>nB P op t true K
 | .t (.sl _ (_ :: _)),.t (.lit (.slice none 0 0))=>nB P op t false K
 | .t (.lit a),.t (.lit b)=>qe op a b (jf K)
 | .t (.agg xs),.t (.agg ys)=>Ij P op t xs ys K
 | _,_=>False
def HE (P:Program) (t:TypeId):Bool:=match P.underlying t with
 | some (.interface _)=>true
 | _=>false
def Lf (P:Program) (op:BinOp) (t:TypeId) (x:S) (K:aM→Prop):Prop:=match op,x with
 | .eql,.t (.lit .nilIface)=>HE P t=true∧K ⟨.t (.lit (.bool true)),[],[],[]⟩
 | .neq,.t (.lit .nilIface)=>HE P t=true∧K ⟨.t (.lit (.bool false)),[],[],[]⟩
 | _,_=>False
def Bw (P:Program) (op:BinOp) (t:TypeId) (x y:Operand) (R:Operand→S) (K:aM→Prop):Prop:=match y with
 | .const .nilIface=>Lf P op t (R x) K
 | y=>xY P op t (R x) (R y) K
theorem xk {N:Nat} {P:Program} {o:Oper} {R:Operand→S} {h:Nat→Option aA} {op:BinOp} {t t':TypeId} {x:Operand} {b:Bool} (ho:o.op = .binOp op t x (.const .nilIface) t') (hop:op = .eql∧b=true∨op = .neq∧b=false) (hx:R x = .t (.lit .nilIface)) (ht:HE P t=true):bm N P o R h ⟨.t (.lit (.bool b)),[],[],[]⟩:=
 aH fun G h' ac w hh hop' _=>by
  have h1:=hop' x (by simp[ho,Op.operands])
  rw[hx]at h1
  unfold ar at h1
  unfold aO at h1
  have hu:∃ ms,P.underlying t=some (.interface ms):=by
   unfold HE at ht
   split at ht
   ·exact⟨_,by assumption⟩
   ·cases ht
  obtain⟨ms,hu⟩:=hu
  have he:(Op.equal t .nilIface .nilIface).run P w = .ok true w:=by
   unfold Op.equal Op.maxDepth Op.equalIn
   simp[run_underlying hu]
  refine⟨.bool b,?_,by unfold ar;unfold aO;exact⟨rfl,rfl⟩⟩
  unfold execOp
  have hcv:ac.eval (.const .nilIface) = .nilIface:=rfl
  simp only[ho,h1.1,hcv]
  rcases hop with ⟨rfl,rfl⟩|⟨rfl,rfl⟩
  ·exact bh (by simp[eqGuard,binOp,he])
  ·exact bh (by simp[eqGuard,binOp,he])
def Kx (x:S) (K:aM→Prop):Prop:=match x with
 | .pt l p o=>K ⟨.pt l p o,[],[],[]⟩
 | .rp y=>K ⟨.rp y,[],[],[]⟩
 | _=>False
def xV (P:Program) (t:TypeId) (x:S) (lo hi:Int→Option Int) (K:aM→Prop):Prop:=match x with
 | .t (.lit (.string b))=>iS P t=true∧match lo 0,hi b.size with
  | some l,some r=>if 0≤l∧l≤r∧r≤(b.size:Int) then K ⟨.t (.lit (.string (HB b l.toNat r.toNat))),[],[],[]⟩ else False
  | _,_=>False
 | _=>False
def tc (P:Program) (t:TypeId) (x:S) (lo hi:Int→Option Int) (mx:Option Operand) (h:Nat→Option aA) (K:aM→Prop):Prop:=match mx,aK P t with
 | none,some e=>match x with
  | .t (.sl s xs)=>bY P e=some s∧match lo 0,hi xs.length with
   | some l,some r=>if 0≤l∧l≤r∧r≤(xs.length:Int) then K ⟨.t (.sl s ((xs.take r.toNat).drop l.toNat)),[],[],[]⟩ else False
   | _,_=>False
  | .own k=>match h k with
   | some (.list _ s xs)=>bY P e=some s∧match lo 0,hi xs.length with
    | some l,some r=>if 0≤l∧l≤r∧r≤(xs.length:Int) then K ⟨.t (.sl s ((xs.take r.toNat).drop l.toNat)),[(k,none)],[k],[]⟩ else False
    | _,_=>False
   | _=>False
  | .wn k p off n=>match bY P e with
   | some s=>(s=1∨p≠[])∧match lo 0,hi n with
    | some l,some r=>if 0≤l∧l≤r∧r≤(n:Int) then K ⟨.wn k p (off+l.toNat * s) (r.toNat - l.toNat),[],[],[]⟩ else False
    | _,_=>False
   | none=>False
  | _=>False
 | none,none=>match dn P t with
  | some (N,e)=>match x with
   | .pt k p off=>bY P e=some 1∧N≤16777216∧match h k with
    | some (.box _ _)=>match lo 0,hi N with
     | some l,some r=>if 0≤l∧l≤r∧r≤(N:Int) then K ⟨.wn k p (off+l.toNat) (r.toNat - l.toNat),[],[k],[]⟩ else False
     | _,_=>False
    | _=>False
   | _=>False
  | none=>xV P t x lo hi K
 | _,_=>False
def J7 (R:Operand→S) (x:Option Operand) (d:Int):Option Int:=ia R d x
def sU (P:Program) (t:TypeId) (R:Operand→S) (parts:List (Nat×Operand)) (K:aM→Prop):Prop:=match dn P t with
 | some (n,e)=>match zeroOf P t,bY P e with
  | some (.agg zs),some s=>match sW (Qj n s) (fun x=>IM (R x)) parts (zs.map S.t) with
   | some fs=>K ⟨Gm fs,[],[],[]⟩
   | none=>False
  | _,_=>False
 | none=>match zeroOf P t,qk P t with
  | some (.agg zs),some pls=>match sW pls (fun x=>IM (R x)) parts (zs.map S.t) with
   | some fs=>K ⟨Gm fs,[],[],[]⟩
   | none=>False
  | _,_=>False
def P8 (op:UnOp) (x:S) (K:aM→Prop):Prop:=match op,x with
 | .not,.t (.lit (.bool b))=>jf K (.bool (!b))
 | .neg,.t (.lit (.int k n))=>E4 k (0 - n) (jf K)
 | .xor,.t (.lit (.int k n))=>jf K (.int k (bits .xor k (kX k) n))
 | _,_=>False
def nW (P:Program) (s t:TypeId) (xs:List T) (fp:List Nat) (K:aM→Prop):Prop:=match aK P s with
 | some e=>mV P e=some .u8∧iS P t=true∧mb xs∧K ⟨.t (.lit (.string (str (gA xs)))),[],fp,[]⟩
 | none=>False
def Ca (P:Program) (s t:TypeId) (x:S) (h:Nat→Option aA) (K:aM→Prop):Prop:=match x with
 | .t (.lit (.int k n))=>match mV P s,mV P t with
  | some _,some k'=>E4 k' n (jf K)
  | _,_=>False
 | .t (.lit (.string b))=>iS P s=true∧iS P t=true∧jf K (.string b)
 | .t (.sl s' xs)=>s'=1∧nW P s t xs [] K
 | .own l=>match h l with
  | some (.list _ s' xs)=>s'=1∧nW P s t xs [l] K
  | _=>False
 | .t (.lit (.slice none 0 0))=>nW P s t [] [] K
 | _=>False
def Jp (s:Nat):List T→Prop
 | []=>True
 | x :: r=>x.width=s∧Jp s r
theorem wO {s:Nat}:∀ {xs:List T},Jp s xs→∀ y∈xs,y.width=s
 | [],_,y,hy=>by cases hy
 | x :: r,h,y,hy=>by
  rcases List.mem_cons.1 hy with rfl|hy
  ·exact h.1
  ·exact wO h.2 y hy
def gU (P:Program) (t:TypeId) (n:Nat) (ps:Option (List T)) (d:Nat) (K:aM→Prop):Prop:=match aK P t with
 | some e=>match jP P e with
  | some (s,_)=>match ps with
   | some ys=>n=ys.length∧Jp s ys∧n * s≤16777216∧K ⟨.own d,[(d,some (.list e s ys))],[],[d]⟩
   | none=>False
  | none=>False
 | none=>False
def kg (P:Program) (t:TypeId) (n:Nat) (ys:List S) (d:Nat) (K:aM→Prop):Prop:=match aK P t with
 | some e=>match jP P e with
  | some (1,_)=>n=ys.length∧0 < n∧S.frees d ys=true∧n≤16777216∧K ⟨.wn d [] 0 n,[(d,some (.box e (.ag ys)))],[],[d]⟩
  | _=>False
 | none=>False
def Kr (P:Program) (t:TypeId) (x:S) (h:Nat→Option aA) (K:aM→Prop):Prop:=match x with
 | .t (.sl _ xs)=>(aK P t).isSome=true∧jf K (.int .i64 xs.length)
 | .own l=>match h l with
  | some (.list _ _ xs)=>(aK P t).isSome=true∧K ⟨.t (.int xs.length),[],[l],[]⟩
  | some (.rows _ _ us _)=>(aK P t).isSome=true∧K ⟨.t (.int us.length),[],[l],[]⟩
  | _=>False
 | .t (.lit (.slice none 0 0))=>(aK P t).isSome=true∧jf K (.int .i64 0)
 | .t (.lit (.string b))=>iS P t=true∧jf K (.int .i64 b.size)
 | .wn _ _ _ n=>(aK P t).isSome=true∧jf K (.int .i64 n)
 | _=>False
def Kp (x y:S) (K:aM→Prop):Prop:=match x,y with
 | .t (.lit (.int k m)),.t (.lit (.int k' n))=>jf K (.int k (min m n))
 | _,_=>False
def Ju (x y:S) (K:aM→Prop):Prop:=match x,y with
 | .t (.lit (.int k m)),.t (.lit (.int k' n))=>jf K (.int k (max m n))
 | _,_=>False
def nz (h:Nat→Option aA) (s:Nat) (y:S):Option (List T×List Nat):=match y with
 | .t (.sl s' ys)=>if s'=s then some (ys,[]) else none
 | .own l=>match h l with
  | some (.list _ s' ys)=>if s'=s then some (ys,[l]) else none
  | _=>none
 | .t (.lit (.slice none 0 0))=>some ([],[])
 | _=>none
def Bp (P:Program) (t:TypeId) (l:Nat) (p:List Nat) (off m:Nat) (y:S) (d:Nat) (h:Nat→Option aA) (K:aM→Prop):Prop:=match aK P t with
 | some e=>match jP P e with
  | some (s,b)=>match y with
   | .wn l' p' o k=>match h l with
    | some (.list e' s' xs)=>p=[]∧p'=[]∧e'=e∧s=1∧s'=1∧off=0∧l'=l∧d≠l∧m≤xs.length∧o+k≤xs.length∧(if (m+k) * b≤140737488355328 then K ⟨.own d,[(d,some (.list e 1 (xs.take m++(xs.drop o).take k))),(l,none)],[l],[d]⟩ else False)
    | _=>False
   | _=>False
  | none=>False
 | none=>False
def j5 (P:Program) (t:TypeId) (x y:S) (d:Nat) (h:Nat→Option aA) (K:aM→Prop):Prop:=match aK P t with
 | some e=>match jP P e with
  | some (s,b)=>match nz h s y with
   | some (ys,fp)=>match x with
    | .own l=>match h l with
     | some (.list e' s' xs)=>e'=e∧s'=s∧d≠l∧(if (xs.length+ys.length) * b≤140737488355328 then K ⟨.own d,[(d,some (.list e s (xs++ys))),(l,none)],l :: fp,[d]⟩ else False)
     | _=>False
    | .t (.lit (.slice none 0 0))=>if ys.length * b≤140737488355328 then K ⟨.own d,[(d,some (.list e s ys))],fp,[d]⟩ else False
    | .cl s' xs=>s'=s∧0 < ys.length∧(if (xs.length+ys.length) * b≤140737488355328 then K ⟨.own d,[(d,some (.list e s (xs++ys)))],fp,[d]⟩ else False)
    | _=>False
   | none=>False
  | none=>False
 | none=>False
def oW (P:Program) (t:TypeId) (x y:S) (d:Nat) (h:Nat→Option aA) (K:aM→Prop):Prop:=match x with
 | .wn l p off m=>Bp P t l p off m y d h K
 | x=>j5 P t x y d h K
def DT (P:Program) (t:TypeId) (l:Nat) (y:S) (h:Nat→Option aA) (K:aM→Prop):Prop:=match aK P t,h l with
 | some e,some (.list e' s xs)=>e'=e∧bY P e=some s∧match nz h s y with
  | some (ys,fp)=>K ⟨.t (.int (min ys.length xs.length:Nat)),[(l,some (.list e s (ys.take (min ys.length xs.length)++xs.drop (min ys.length xs.length))))],l :: fp,[]⟩
  | none=>False
 | _,_=>False
def nO (
      P:Program) (t:TypeId) (x y:S) (h:Nat→Option aA) (K:aM→Prop):Prop:=match aK P t with
 | some e=>bY P e=some 1∧match nz h 1 y with
  | some (
      ys,fp)=>match x with
   | .wn l p off n=>match h l with
    | some (.box be c)=>match S.at c p with
     | some (o,.t (.agg zs))=>o=off∧n=zs.length∧(∀ z∈zs,z.width=1)∧match S.set c p (.t (.agg (ys.take (min ys.length zs.length)++zs.drop (min ys.length zs.length)))) with
      | some c'=>K ⟨.t (.int (min ys.length zs.length:Nat)),[(l,some (.box be c'))],l :: fp,[]⟩
      | none=>False
     | _=>False
    | _=>False
   | _=>False
  | none=>False
 | none=>False
def Cn (P:Program) (t:TypeId) (l off n l' o' k:Nat) (h:Nat→Option aA) (K:aM→Prop):Prop:=match aK P t,h l with
 | some e,some (.list e' s xs)=>e'=e∧bY P e=some s∧l'=l∧o'=0∧0 < min k n∧off=off / s * s∧off / s+n≤xs.length∧k≤xs.length∧
  K ⟨.t (.int (min k n:Nat)),[(l,some (.list e s (xs.take (off / s)++(xs.take (min k n)++xs.drop (off / s+min k n)))))],[l],[]⟩
 | _,_=>False
def zk (P:Program) (t:TypeId) (l off n:Nat) (x y:S) (h:Nat→Option aA) (K:aM→Prop):Prop:=match y with
 | .wn l' _ o' k=>Cn P t l off n l' o' k h K
 | y=>nO P t x y h K
def BB (P:Program) (t:TypeId) (x y:S) (h:Nat→Option aA) (K:aM→Prop):Prop:=match x with
 | .own l=>DT P t l y h K
 | .wn l p off n=>zk P t l off n (.wn l p off n) y h K
 | x=>nO P t x y h K
def BE (P:Program) (t t':TypeId) (x:S) (s:ByteArray) (d:Nat) (h:Nat→Option aA) (K:aM→Prop):Prop:=iS P t'=true∧match aK P t with
 | some e=>match jP P e with
  | some (k,b)=>k=1∧match x with
   | .own l=>match h l with
    | some (.list e' s' xs)=>e'=e∧s'=1∧d≠l∧(if (xs.length+s.size) * b≤140737488355328 then K ⟨.own d,[(d,some (.list e 1 (xs++nr s))),(l,none)],[l],[d]⟩ else False)
    | _=>False
   | _=>False
  | none=>False
 | none=>False
def l4 (P:Program) (t t':TypeId) (x y:S) (d:Nat) (h:Nat→Option aA) (K:aM→Prop):Prop:=match y with
 | .t (.lit (.string s))=>BE P t t' x s d h K
 | _=>t'=t∧oW P t x y d h K
def ur (P:Program) (b:Builtin) (az:List S) (ts:List TypeId) (d:Nat) (h:Nat→Option aA) (K:aM→Prop):Prop:=match b,az,ts with
 | .len,[x],[t]=>Kr P t x h K
 | .append,[x,y],[t,t']=>l4 P t t' x y d h K
 | .copy,[x,y],[t,_]=>BB P t x y h K
 | .min,[x,y],_=>Kp x y K
 | .max,[x,y],_=>Ju x y K
 | _,_,_=>False
def AN (P:Program) (c:Call) (d:Nat) (R:Operand→S) (h:Nat→Option aA) (K:aM→Prop):Prop:=match c.callee with
 | .builtin b=>ur P b (c.args.toList.map R) c.argTypes.toList d h K
 | .value x=>match R x with
  | .fn f caps=>aw P f=true∧aY P f (c.args.toList.map R++caps) h d K
  | .fb f caps=>aw P f=true∧aY P f (caps++c.args.toList.map R) h d K
  | .t (.lit v)=>match wS v with
   | some f=>aw P f=true∧aY P f (c.args.toList.map R) h d K
   | none=>False
  | _=>False
 | _=>False
def jV (fn:Fn) (first:List S) (caps:List S) (K:aM→Prop):Prop:=match fn,first with
 | .func f,[]=>K ⟨.fn f caps,[],[],[]⟩
 | .func f,x :: r=>match caps with
  | []=>K ⟨.fb f (x :: r),[],[],[]⟩
  | _=>False
 | _,_=>False
def Lq (P:Program) (o:Op) (d:Nat) (R:Operand→S) (h:Nat→Option aA) (K:aM→Prop):Prop:=match o with
 | .move x=>K ⟨R x,[],[],[]⟩
 | .assign x=>K ⟨R x,[],[],[]⟩
 | .pick c x y=>BC (R c) (R x) (R y) K
 | .alloc e=>uY P e d K
 | .box e x=>Mw e (R x) d K
 | .load t x=>zO P t (R x) h K
 | .store t x v=>tt P t (R x) (R v) h K
 | .fieldAddr t x f=>ja P t (R x) f K
 | .indexAddr t x i=>iI P t (R x) (R i) h K
 | .field t x f=>uH P t (R x) f K
 | .extract x i=>lV (R x) i K
 | .binOp op t x y _=>Bw P op t x y R K
 | .unOp op _ x=>P8 op (R x) K
 | .convert s t x=>Ca P s t (R x) h K
 | .buildSlice t n parts=>match zl R parts.toList with
  | some ys=>kg P t n ys d K
  | none=>vX (E2 R parts.toList) R h (fun R' _ K'=>gU P t n (kz R' 0 parts.toList) d K') K
 | .makeSlice t x y=>iM P t (R x) (R y) d K
 | .call c=>AN P c d R h K
 | .makeFunc fn first caps=>jV fn (first.toList.map R) (caps.toList.map R) K
 | .nilCheck x=>Kx (R x) K
 | .slice t x lo hi mx=>match lo,hi,mx with
  | some y,some z,some u=>vX (Ar (R x)) R h (fun R' _ K'=>sG P t (R' x) (jD R' y) (jD R' z) (jD R' u) K') K
  | none,some z,some u=>AW P t (R x) (jD R z) (jD R u) K
  | lo,hi,mx=>tc P t (R x) (J7 R lo) (J7 R hi) mx h K
 | .build t parts=>sU P t R parts.toList K
 | .index t x i=>tp P t (R x) (R i) K
 | _=>False
section
variable {N:Nat} {P:Program} {o:Oper} {R:Operand→S} {h:Nat→Option aA} {d:Nat} {K:aM→Prop}
theorem yr {op:BinOp} {t t':TypeId} {x y:Operand} {a b:Value} (ho:o.op = .binOp op t x y t') (hx:R x = .t (.lit a)) (hy:R y = .t (.lit b)) (hk:qe op a b (jf K)):∃ E,bm N P o R h E∧(∀ l∈E.nw,l=d∨100≤l)∧K E:=by
 obtain⟨v,h1,h2⟩:=HG (P:=P) (t:=t) hk
 exact⟨_,th ho hx hy h1,by simp,h2⟩
theorem fB {t:TypeId} (hz:(aK P t).isSome=true):∃ e,aK P t=some e:=Option.isSome_iff_exists.1 hz
theorem gH {s:Nat} {y:Operand} {ys:List T} {fp:List Nat} (hz:nz h s (R y)=some (ys,fp)):Src R h y s ys fp:=by
 unfold nz at hz
 split at hz
 ·rename_i s' ys' hy
  split at hz
  ·rename_i e
   subst e
   simp at hz
   obtain⟨rfl,rfl⟩:=hz
   exact .sl hy
  ·cases hz
 ·rename_i l hy
  split at hz
  ·rename_i e s' ys' hl
   split at hz
   ·rename_i e'
    subst e'
    simp at hz
    obtain⟨rfl,rfl⟩:=hz
    exact .own l e hy hl
   ·cases hz
  ·cases hz
 ·rename_i hy
  simp at hz
  obtain⟨rfl,rfl⟩:=hz
  exact .nil hy rfl
 ·cases hz
theorem sf {α:Type} {a:Array α} (h:a.size=2):∃ x y,a=#[x,y]:=by
 obtain⟨l⟩:=a
 match l,h with
 | [x,y],_=>exact⟨x,y,rfl⟩
theorem Io (hk:Lq P o.op d R h K):∃ E,bm N P o R h E∧(∀ l∈E.nw,l=d∨100≤l)∧K E:=by
 cases ho:o.op<;>rw[ho]at hk<;>simp only[Lq]at hk
 case move x=>exact⟨_,xg ho,by simp,hk⟩
 case assign x=>exact⟨_,zy ho,by simp,hk⟩
 case index t x i=>
  unfold tp at hk
  split at hk
  ·rename_i b k n hx hi
   obtain⟨h1,h2⟩:=hk
   split at h2
   ·rename_i h0
    split at h2
    ·rename_i u hu
     exact⟨_,uV ho hx hi h1 h0 hu,by simp,h2⟩
    ·exact h2.elim
   ·exact h2.elim
  ·rename_i xs k m hx hi
   split at hk
   ·rename_i n e ha
    split at hk
    ·rename_i s hs
     split at hk
     ·rename_i h0
      split at hk
      ·rename_i y hy
       exact⟨_,tQ ho hx hi ha hs h0.1 h0.2 hy hk.1 hk.2.1,by simp,hk.2.2⟩
      ·exact hk.elim
     ·exact hk.elim
    ·exact hk.elim
   ·exact hk.elim
  ·exact hk.elim
 case pick c x y=>
  unfold BC at hk
  split at hk
  ·rename_i b hc
   refine⟨_,Hb ho hc,by simp,?_⟩
   cases b
   ·simpa using hk
   ·simpa using hk
  ·exact hk.elim
 case alloc e=>
  unfold uY at hk
  split at hk
  ·rename_i z hz
   exact⟨_,DS ho hz,by simp,hk⟩
  ·exact hk.elim
 case box e x=>exact⟨_,Lm ho hk.1 hk.2.1,by simp,hk.2.2⟩
 case load t x=>
  unfold zO at hk
  split at hk
  ·rename_i y hx
   exact⟨_,zn ho hx hk.1,by simp,hk.2⟩
  ·rename_i l p off hx
   split at hk
   ·rename_i blk hl
    split at hk
    ·rename_i q hq
     obtain⟨rfl,h2,h3,h4⟩:=hk
     exact⟨_,yz ho hx hl hq h2 h3,by simp,h4⟩
    ·exact hk.elim
   ·exact hk.elim
  ·exact hk.elim
 case store t x v=>
  unfold tt at hk
  split at hk
  ·rename_i l p off hx
   split at hk
   ·rename_i blk hl
    split at hk
    ·rename_i q hq
     split at hk
     ·rename_i blk' hb
      obtain⟨rfl,h2,h3,h4,h5⟩:=hk
      exact⟨_,CL ho hx hl hq hb h2 h3 h4,by simp,h5⟩
     ·exact hk.elim
    ·exact hk.elim
   ·exact hk.elim
  ·exact hk.elim
 case fieldAddr t x f=>
  unfold ja at hk
  split at hk
  ·rename_i q hq
   obtain⟨h1,hk⟩:=hk
   obtain⟨n,hn⟩:=KG h1
   split at hk
   ·rename_i l p off hx
    exact⟨_,oe ho hx hq hn,by simp,hk⟩
   ·rename_i xs hx
    split at hk
    ·rename_i y hy
     exact⟨_,oc ho hx hy hq hk.1 hn,by simp,hk.2⟩
    ·exact hk.elim
   ·exact hk.elim
  ·exact hk.elim
 case indexAddr t x i=>
  unfold iI at hk
  split at hk
  ·rename_i e he
   split at hk
   ·rename_i k n hi
    split at hk
    ·rename_i s xs hx
     obtain⟨h1,hk⟩:=hk
     split at hk
     ·rename_i hr
      split at hk
      ·rename_i y hy
       exact⟨_,vZ ho hx hi he h1 hr.1 hy,by simp,hk⟩
      ·exact hk.elim
     ·exact hk.elim
    ·rename_i l hx
     split at hk
     ·rename_i s xs hl
      obtain⟨h1,hk⟩:=hk
      split at hk
      ·rename_i hr
       exact⟨_,tF ho hx hl hi he h1 hr.1 hr.2,by simp,hk⟩
      ·exact hk.elim
     ·rename_i s us ex hl
      obtain⟨h1,hk⟩:=hk
      split at hk
      ·rename_i hr
       exact⟨_,rG ho hx hl hi he h1 hr.1 hr.2,by simp,hk⟩
      ·exact hk.elim
     ·exact hk.elim
    ·rename_i l p off m hx
     split at hk
     ·rename_i s hs
      split at hk
      ·rename_i hr
       exact⟨_,wh ho hx hi he hs hr.1 hr.2,by simp,hk⟩
      ·exact hk.elim
     ·exact hk.elim
    ·exact hk.elim
   ·exact hk.elim
  ·split at hk
   ·rename_i n e ha
    split at hk
    ·rename_i s hs
     split at hk
     ·rename_i k m l p off hi hx
      split at hk
      ·rename_i hr
       exact⟨_,tT ho hx hi ha hs hr.1 hr.2,by simp,hk⟩
      ·exact hk.elim
     ·exact hk.elim
    ·exact hk.elim
   ·exact hk.elim
 case field t x f=>
  unfold uH at hk
  split at hk
  ·rename_i q hq
   split at hk
   ·rename_i xs hx
    split at hk
    ·rename_i y hy
     exact⟨_,CD ho hx hy hq hk.1 hk.2.1,by simp,hk.2.2⟩
    ·exact hk.elim
   ·exact hk.elim
  ·exact hk.elim
 case extract x i=>
  unfold lV at hk
  split at hk
  ·rename_i ss hx
   split at hk
   ·rename_i s hs
    exact⟨_,yY ho hx hs,by simp,hk⟩
   ·exact hk.elim
  ·exact hk.elim
 case binOp op t x y t'=>
  unfold Bw at hk
  split at hk
  ·unfold Lf at hk
   split at hk
   ·rename_i hx
    exact⟨_,xk ho (.inl ⟨rfl,rfl⟩) hx hk.1,by simp,hk.2⟩
   ·rename_i hx
    exact⟨_,xk ho (.inr ⟨rfl,rfl⟩) hx hk.1,by simp,hk.2⟩
   ·exact hk.elim
  unfold xY at hk
  split at hk
  ·rename_i p q hx hy
   unfold A8 at hk
   split at hk
   ·exact⟨_,oU ho (.inl rfl) hx hy hk.1,by simp,hk.2⟩
   ·exact⟨_,oU ho (.inr rfl) hx hy hk.1,by simp,hk.2⟩
   ·exact hk.elim
  ·rename_i hx hy
   unfold nB at hk
   split at hk
   ·obtain⟨e,he⟩:=fB hk.1
    exact⟨_,yX ho hx hy he,by simp,hk.2⟩
   ·exact hk.elim
  ·rename_i hx hy
   unfold nB at hk
   split at hk
   ·obtain⟨e,he⟩:=fB hk.1
    exact⟨_,BG ho hx hy he,by simp,hk.2⟩
   ·exact hk.elim
  ·rename_i a b _ _ hx hy
   exact yr ho hx hy hk
  ·rename_i xs ys hx hy
   unfold Ij at hk
   split at hk
   ·rename_i fl hf
    obtain⟨h1,h2,hk⟩:=hk
    split at hk
    ·rename_i b hb
     split at hk
     ·exact⟨_,rj ho (.inl rfl) hx hy hf h1 h2 hb,by simp,hk⟩
     ·exact⟨_,rj ho (.inr rfl) hx hy hf h1 h2 hb,by simp,hk⟩
     ·exact hk.elim
    ·exact hk.elim
   ·unfold uw at hk
    split at hk
    ·rename_i n e ha
     obtain⟨h1,h2,h3,hk⟩:=hk
     split at hk
     ·rename_i b hb
      split at hk
      ·exact⟨_,rA ho (.inl rfl) hx hy ha h1 h2 h3 hb,by simp,hk⟩
      ·exact⟨_,rA ho (.inr rfl) hx hy ha h1 h2 h3 hb,by simp,hk⟩
      ·exact hk.elim
     ·exact hk.elim
    ·exact hk.elim
  ·exact hk.elim
 case nilCheck x=>
  unfold Kx at hk
  split at hk
  ·rename_i l p off hx
   exact⟨_,pB ho hx,by simp,by rw[hx];exact hk⟩
  ·rename_i y hx
   exact⟨_,pC ho hx,by simp,by rw[hx];exact hk⟩
  ·exact hk.elim
 case slice t x lo hi mx=>
  split at hk
  ·rename_i y z u
   refine mO (d:=d) ?_ _ _ _ _ hk
   intro R' h' K' hk
   unfold sG at hk
   split at hk
   ·rename_i e s xs l r m he hx hl hr hm
    obtain⟨h1,hk⟩:=hk
    split at hk
    ·rename_i hc
     exact⟨_,BN ho he h1 hx hl hr hm hc.1 hc.2.1 hc.2.2.1 hc.2.2.2,by simp,hk⟩
    ·exact hk.elim
   ·exact hk.elim
  ·rename_i z u
   unfold AW at hk
   split at hk
   ·rename_i e s xs r m he hx hr hm
    obtain⟨h1,h2,hk⟩:=hk
    split at hk
    ·rename_i hc
     exact⟨_,Gg ho he h1 hx hr hm h2 hc.1 hc.2,by simp,hk⟩
    ·exact hk.elim
   ·exact hk.elim
  rename_i hno hno2
  clear hno hno2
  unfold tc at hk
  split at hk
  ·rename_i e he
   split at hk
   ·rename_i s xs hx
    obtain⟨h1,hk⟩:=hk
    split at hk
    ·rename_i l r hl hr
     split at hk
     ·rename_i hc
      exact⟨_,Cp ho he h1 hx hl hr hc.1 hc.2.1 hc.2.2,by simp,hk⟩
     ·exact hk.elim
    ·exact hk.elim
   ·rename_i k hx
    split at hk
    ·rename_i s xs hh
     obtain⟨h1,hk⟩:=hk
     split at hk
     ·rename_i l r hl hr
      split at hk
      ·rename_i hc
       exact⟨_,uD ho he h1 hx hh hl hr hc.1 hc.2.1 hc.2.2,by simp,hk⟩
      ·exact hk.elim
     ·exact hk.elim
    ·exact hk.elim
   ·rename_i k p off n hx
    split at hk
    ·rename_i s h1
     obtain⟨hsp,hk⟩:=hk
     split at hk
     ·rename_i l r hl hr
      split at hk
      ·rename_i hc
       exact⟨_,vV ho he h1 hsp hx hl hr hc.1 hc.2.1 hc.2.2,by simp,hk⟩
      ·exact hk.elim
     ·exact hk.elim
    ·exact hk.elim
   ·exact hk.elim
  ·split at hk
   ·rename_i N e ha
    split at hk
    ·rename_i k p off hx
     obtain⟨h1,h2,hk⟩:=hk
     split at hk
     ·rename_i be c hb
      split at hk
      ·rename_i l r hl hr
       split at hk
       ·rename_i hc
        exact⟨_,uz ho ha h1 hx hb ⟨_,_,rfl⟩ h2 hl hr hc.1 hc.2.1 hc.2.2,by simp,hk⟩
       ·exact hk.elim
      ·exact hk.elim
     ·exact hk.elim
    ·exact hk.elim
   ·unfold xV at hk
    split at hk
    ·rename_i b hx
     obtain⟨hs,hk⟩:=hk
     split at hk
     ·rename_i l r hl hr
      split at hk
      ·rename_i hc
       exact⟨_,sJ ho hs hx hl hr hc.1 hc.2.1 hc.2.2,by simp,hk⟩
      ·exact hk.elim
     ·exact hk.elim
    ·exact hk.elim
  ·exact hk.elim
 case build t parts=>
  unfold sU at hk
  split at hk
  ·rename_i n e ha
   split at hk
   ·rename_i zs s hz hs
    split at hk
    ·rename_i fs hb
     exact⟨_,tJ ho hz ha hs hb,by simp,hk⟩
    ·exact hk.elim
   ·exact hk.elim
  ·split at hk
   ·rename_i zs pls hz hpl
    split at hk
    ·rename_i fs hb
     exact⟨_,Ei ho hz hpl hb,by simp,hk⟩
    ·exact hk.elim
   ·exact hk.elim
 case unOp op t x=>
  unfold P8 at hk
  split at hk
  ·rename_i b hx
   exact⟨_,J1 ho hx,by simp,hk⟩
  ·rename_i k n hx
   exact⟨_,JU ho hx,by simp,iE hk⟩
  ·rename_i k n hx
   rw[P9]at hk
   exact⟨_,HO ho hx,by simp,hk⟩
  ·exact hk.elim
 case convert s t x=>
  unfold Ca at hk
  split at hk
  ·rename_i k n hx
   split at hk
   ·rename_i k2 k' h1 h2
    exact⟨_,vy ho h1 h2 hx,by simp,iE hk⟩
   ·exact hk.elim
  ·rename_i b hx
   exact⟨_,vA ho hk.1 hk.2.1 hx,by simp,hk.2.2⟩
  ·rename_i s' xs hx
   obtain⟨rfl,hk⟩:=hk
   unfold nW at hk
   split at hk
   ·rename_i e he
    exact⟨_,gZ ho he hk.1 hk.2.1 (.sl hx) hk.2.2.1,by simp,hk.2.2.2⟩
   ·exact hk.elim
  ·rename_i l hx
   split at hk
   ·rename_i e' s' xs hl
    obtain⟨rfl,hk⟩:=hk
    unfold nW at hk
    split at hk
    ·rename_i e he
     exact⟨_,gZ ho he hk.1 hk.2.1 (.own l e' hx hl) hk.2.2.1,by simp,hk.2.2.2⟩
    ·exact hk.elim
   ·exact hk.elim
  ·rename_i hx
   unfold nW at hk
   split at hk
   ·rename_i e he
    exact⟨_,gZ ho he hk.1 hk.2.1 (.nil hx rfl) hk.2.2.1,by simp,hk.2.2.2⟩
   ·exact hk.elim
  ·exact hk.elim
 case buildSlice t n parts=>
  split at hk
  ·rename_i ys hys
   unfold kg at hk
   split at hk
   ·rename_i e he
    split at hk
    ·rename_i bb hs
     obtain⟨h1,h2,h3,h4,hk⟩:=hk
     refine⟨_,vi (d:=d) ho he hs ?_ h1 h2 h3 h4,by simp,hk⟩
     unfold zl at hys
     split at hys
     ·cases hys
     ·rename_i hq;rw[hq];exact hys
    ·exact hk.elim
   ·exact hk.elim
  ·rename_i hno
   refine mO (d:=d) ?_ _ _ _ _ hk
   intro R' h' K' hk
   unfold gU at hk
   split at hk
   ·rename_i e he
    split at hk
    ·rename_i s b hs
     split at hk
     ·rename_i ys hys
      exact⟨_,rJ (d:=d) ho he hs hys hk.1 (wO hk.2.1) hk.2.2.1,by simp,hk.2.2.2⟩
     ·exact hk.elim
    ·exact hk.elim
   ·exact hk.elim
 case makeSlice t x y=>
  unfold iM at hk
  split at hk
  ·rename_i e n m he hx hy
   split at hk
   ·rename_i s b z hs hz
    obtain⟨h1,h2⟩:=hk
    split at h2
    ·rename_i hmn
     subst hmn
     split at h2
     ·rename_i h3
      exact⟨_,sK (d:=d) ho he hs hz hx hy h3.1 h3.2 h1,by simp,h2⟩
     ·exact h2.elim
    ·split at h2
     ·rename_i h3
      obtain⟨rfl,h3,h4⟩:=h3
      exact⟨_,rD (d:=d) ho he hs hz hx hy h3 h4 h1,by simp,h2⟩
     ·exact h2.elim
   ·exact hk.elim
  ·exact hk.elim
 case makeFunc fn first caps=>
  unfold jV at hk
  split at hk
  ·rename_i f hf
   have hfe:first=#[]:=by
    have:=congrArg List.length hf
    simpa using this
   subst hfe
   exact⟨_,v8 ho,by simp,hk⟩
  ·rename_i f x r hf
   split at hk
   ·rename_i hcs
    have hfe:caps=#[]:=by
     have:=congrArg List.length hcs
     simpa using this
    subst hfe
    rw[←hf]at hk
    exact⟨_,td ho,by simp,hk⟩
   ·exact hk.elim
  ·exact hk.elim
 case call c=>
  unfold AN at hk
  split at hk
  ·rename_i b hb
   obtain⟨callee,args,ts⟩:=c
   simp only at hb
   subst hb
   unfold ur at hk
   split at hk
   ·rename_i x t hargs hts
    obtain⟨x',rfl⟩:∃ x',args=#[x']:=by
     have:=congrArg List.length hargs
     simp at this
     exact Array.size_eq_one_iff.1 this
    obtain⟨rfl⟩:ts=#[t]:=by rw[←Array.toList_inj];simpa using hts
    simp at hargs
    subst hargs
    unfold Kr at hk
    split at hk
    ·rename_i s xs hx
     obtain⟨h1,hk⟩:=hk
     obtain⟨e,he⟩:=fB h1
     exact⟨_,tC ho he (.sl hx),by simp,hk⟩
    ·rename_i l hx
     split at hk
     ·rename_i s xs hl
      obtain⟨h1,hk⟩:=hk
      obtain⟨e,he⟩:=fB h1
      exact⟨_,tC ho he (.own l _ hx hl),by simp,hk⟩
     ·rename_i us _ hl
      obtain⟨h1,hk⟩:=hk
      obtain⟨e,he⟩:=fB h1
      exact⟨_,vS ho he hx hl,by simp,hk⟩
     ·exact hk.elim
    ·rename_i hx
     obtain⟨h1,hk⟩:=hk
     obtain⟨e,he⟩:=fB h1
     exact⟨_,tC (s:=0) ho he (.nil hx rfl),by simp,hk⟩
    ·rename_i b hx
     exact⟨_,xZ ho hk.1 hx,by simp,hk.2⟩
    ·rename_i n hx
     obtain⟨h1,hk⟩:=hk
     obtain⟨e,he⟩:=fB h1
     exact⟨_,Az ho he hx,by simp,hk⟩
    ·exact hk.elim
   ·rename_i x y t t' hargs hts
    obtain⟨x',y',rfl⟩:∃ x' y',args=#[x',y']:=by
     have:=congrArg List.length hargs
     simp at this
     exact sf this
    obtain⟨rfl⟩:ts=#[_,_]:=by rw[←Array.toList_inj];simpa using hts
    simp at hargs
    obtain⟨rfl,rfl⟩:=hargs
    unfold l4 at hk
    split at hk
    ·rename_i s hy
     obtain⟨hu,hk⟩:=hk
     split at hk
     ·rename_i e he
      split at hk
      ·rename_i k b hs
       obtain⟨rfl,hk⟩:=hk
       split at hk
       ·rename_i l hx
        split at hk
        ·rename_i e' s' xs hl
         obtain⟨rfl,rfl,h3,hk⟩:=hk
         split at hk
         ·rename_i hb
          exact⟨_,rQ (d:=d) ho he hs hu hx hl hy hb h3,by simp,hk⟩
         ·exact hk.elim
        ·exact hk.elim
       ·exact hk.elim
      ·exact hk.elim
     ·exact hk.elim
    rename_i hnostr
    clear hnostr
    obtain⟨rfl,hk⟩:=hk
    unfold oW at hk
    split at hk
    ·rename_i l p off m hx
     unfold Bp at hk
     split at hk
     ·rename_i e he
      split at hk
      ·rename_i s b hs
       split at hk
       ·rename_i l' p' o2 k hy
        split at hk
        ·rename_i e' s' xs hl
         obtain⟨hp1,hp2,rfl,rfl,rfl,rfl,rfl,h3,h4,h5,hk⟩:=hk
         split at hk
         ·rename_i hb
          exact⟨_,uN (d:=d) ho he hs hp1 hp2 hx hy hl h4 h5 hb h3,by simp,hk⟩
         ·exact hk.elim
        ·exact hk.elim
       ·exact hk.elim
      ·exact hk.elim
     ·exact hk.elim
    rename_i hnw
    clear hnw
    unfold j5 at hk
    split at hk
    ·rename_i e he
     split at hk
     ·rename_i s b hs
      split at hk
      ·rename_i ys fp hsrc
       split at hk
       ·rename_i l hx
        split at hk
        ·rename_i e' s' xs hl
         obtain⟨rfl,rfl,h3,hk⟩:=hk
         split at hk
         ·rename_i hb
          exact⟨_,rP (d:=d) (ty:=0) ho he hs hx hl (gH hsrc) hb h3,by simp,hk⟩
         ·exact hk.elim
        ·exact hk.elim
       ·rename_i hx
        split at hk
        ·rename_i hb
         exact⟨_,rU (d:=d) (ty:=0) ho he hs hx (gH hsrc) hb,by simp,hk⟩
        ·exact hk.elim
       ·rename_i s' xs hx
        obtain⟨rfl,h3,hk⟩:=hk
        split at hk
        ·rename_i hb
         exact⟨_,uX (d:=d) ho he hs hx (gH hsrc) h3 hb,by simp,hk⟩
        ·exact hk.elim
       ·exact hk.elim
      ·exact hk.elim
     ·exact hk.elim
    ·exact hk.elim
   ·rename_i x y t t' hargs hts
    obtain⟨x',y',rfl⟩:∃ x' y',args=#[x',y']:=by
     have:=congrArg List.length hargs
     simp at this
     exact sf this
    obtain⟨rfl⟩:ts=#[_,_]:=by rw[←Array.toList_inj];simpa using hts
    simp at hargs
    obtain⟨rfl,rfl⟩:=hargs
    unfold BB at hk
    split at hk
    ·rename_i l hx
     unfold DT at hk
     split at hk
     ·rename_i e e' s xs he hl
      obtain⟨rfl,hs,hk⟩:=hk
      split at hk
      ·rename_i ys fp hsrc
       exact⟨_,wc rfl ho he hs hx hl (gH hsrc),by simp,hk⟩
      ·exact hk.elim
     ·exact hk.elim
    ·rename_i l p off n hx
     unfold zk at hk
     split at hk
     ·rename_i l' p' o' k hy
      unfold Cn at hk
      split at hk
      ·rename_i e e' s xs he hl
       obtain⟨rfl,hs,rfl,rfl,h0,h1,h2,h3,hk⟩:=hk
       exact⟨_,qy rfl h0 ho he hs hx hy hl h1 h2 h3,by simp,hk⟩
      ·exact hk.elim
     rw[←hx]at hk
     unfold nO at hk
     split at hk
     ·rename_i e he
      obtain⟨h1,hk⟩:=hk
      split at hk
      ·rename_i ys fp hsrc
       split at hk
       ·rename_i l p off n hx
        split at hk
        ·rename_i be c hl
         split at hk
         ·rename_i o2 zs hat
          obtain⟨rfl,rfl,h2,hk⟩:=hk
          split at hk
          ·rename_i c' hset
           exact⟨_,wT rfl ho he h1 hx hl hat h2 (gH hsrc) hset,by simp,hk⟩
          ·exact hk.elim
         ·exact hk.elim
        ·exact hk.elim
       ·exact hk.elim
      ·exact hk.elim
     ·exact hk.elim
    unfold nO at hk
    split at hk
    ·rename_i e he
     obtain⟨h1,hk⟩:=hk
     split at hk
     ·rename_i ys fp hsrc
      split at hk
      ·rename_i l p off n hx
       split at hk
       ·rename_i be c hl
        split at hk
        ·rename_i o2 zs hat
         obtain⟨rfl,rfl,h2,hk⟩:=hk
         split at hk
         ·rename_i c' hset
          exact⟨_,wT rfl ho he h1 hx hl hat h2 (gH hsrc) hset,by simp,hk⟩
         ·exact hk.elim
        ·exact hk.elim
       ·exact hk.elim
      ·exact hk.elim
     ·exact hk.elim
    ·exact hk.elim
   ·rename_i x y hargs
    obtain⟨x',y',rfl⟩:∃ x' y',args=#[x',y']:=by
     have:=congrArg List.length hargs
     simp at this
     exact sf this
    simp at hargs
    obtain⟨rfl,rfl⟩:=hargs
    unfold Kp at hk
    split at hk
    ·rename_i hx hy
     exact⟨_,IG ho hx hy,by simp,hk⟩
    ·exact hk.elim
   ·rename_i x y hargs
    obtain⟨x',y',rfl⟩:∃ x' y',args=#[x',y']:=by
     have:=congrArg List.length hargs
     simp at this
     exact sf this
    simp at hargs
    obtain⟨rfl,rfl⟩:=hargs
    unfold Ju at hk
    split at hk
    ·rename_i hx hy
     exact⟨_,Kw ho hx hy,by simp,hk⟩
    ·exact hk.elim
   ·exact hk.elim
  ·rename_i x hc
   split at hk
   ·rename_i f caps hx
    obtain⟨h1,E,h2,h3,h4⟩:=hk
    exact⟨E,HC ho hc hx h1 h2,fun l hl=> .inr (h3 l hl),h4⟩
   ·rename_i f caps hx
    obtain⟨h1,E,h2,h3,h4⟩:=hk
    exact⟨E,zq ho hc hx h1 h2,fun l hl=> .inr (h3 l hl),h4⟩
   ·rename_i u hx
    split at hk
    ·rename_i f hu
     obtain⟨h1,E,h2,h3,h4⟩:=hk
     exact⟨E,vN ho hc hx hu h1 h2,fun l hl=> .inr (h3 l hl),h4⟩
    ·exact hk.elim
   ·exact hk.elim
  ·exact hk.elim
end
end Go.Proofs.YtocndodilpimnaaGreat.Sy
