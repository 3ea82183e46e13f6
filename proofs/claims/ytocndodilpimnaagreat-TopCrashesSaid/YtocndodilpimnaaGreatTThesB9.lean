/- Several texts of this proof, one behind the other. No condition. -/
import Derived.Test.YtocndodilpimnaaGreatTThesB8
import Derived.Scope
import Derived.RangeFuncNested
set_option maxRecDepth 100000
set_option maxHeartbeats 16000000
set_option linter.unusedVariables false
set_option linter.unusedSimpArgs false
namespace Go.Proofs.YtocndodilpimnaaGreat.Sy
open Go.RowKit
def Lr (o:Oper):Nat:=100+(match o.dst with|some t=>t|none=>0)
def vP (σ:St):List Nat→Bool
 | []=>true
 | l :: r=>mm l σ.g && me l σ.h && vP σ r
def KN (σ:St) (dst:Option Tmp) (acc:List (Option aM)) (rest:St→List (Option aM)→Prop) (E:aM):Prop:=vP σ E.nw=true∧rest ⟨m7 dst E.r σ.g,mX E.u σ.h⟩ (some E :: acc)
def Ba (all:List Oper) (j:Nat):Option Tmp:=match all[j]? with
 | some o=>o.dst
 | none=>none
def gS (P:Program) (all:List Oper) (K:St→List (Option aM)→Prop):List Oper→St→List (Option aM)→Prop
 | [],σ,acc=>K σ acc
 | o :: r,σ,acc=>match o.guard with
  | none=>Lq P o.op (Lr o) (lg (cQ σ.g)) (bc σ.h) (KN σ o.dst acc (gS P all K r))
  | some (
      j,b)=>match Ba all j with
   | some t=>match cQ σ.g t with
    | .t (.lit (.bool c))=>if c=b then Lq P o.op (Lr o) (lg (cQ ((t,.t (.bool b)) :: σ.g))) (bc σ.h) (KN ⟨(t,.t (.bool b)) :: σ.g,σ.h⟩ o.dst acc (gS P all K r))
      else gS P all K r ⟨m7 o.dst (.tup []) ((t,.t (.bool (!b))) :: σ.g),σ.h⟩ (none :: acc)
    | .tup []=>gS P all K r ⟨m7 o.dst (.tup []) σ.g,σ.h⟩ (none :: acc)
    | _=>False
   | none=>False
theorem xO {g:List (Nat×S)} {t:Nat} {s:S} (h:cQ g t=s):cQ ((t,s) :: g)=cQ g:=by
 funext k
 simp only[cQ]
 split
 ·subst_vars;rfl
 ·rfl
theorem kb {σ:St}:∀ {ls:List Nat},vP σ ls=true→∀ l∈ls,qH (cQ σ.g) (bc σ.h) l
 | [],_,l,hl=>by cases hl
 | k :: r,h,l,hl=>by
  simp only[vP,Bool.and_eq_true]at h
  rcases List.mem_cons.1 hl with rfl|hl
  ·have:=nk h.1.2
   exact⟨this.1,ny h.1.1,this.2⟩
  ·exact kb h.2 l hl
section
variable {N:Nat} {P:Program}
theorem gv {all:List Oper} {K:St→List (Option aM)→Prop}:∀ {r:List Oper} {σ:St} {acc:List (Option aM)},(∀ o∈r,∀ t,o.dst=some t→t < N)→gS P all K r σ acc→
  ∃ es σ',lH N P all r (cQ σ.g) (bc σ.h) es (cQ σ'.g) (bc σ'.h)∧K σ' (es.reverse++acc)
 | [],σ,acc,_,hk=>⟨[],σ,.nil _ _,hk⟩
 | o :: r,σ,acc,hN,hk=>by
  have hdst:∀ t,o.dst=some t→t < N:=hN o (by simp)
  have hlab:100≤Lr o:=by unfold Lr;omega
  have hrest:=fun o' ho'=>hN o' (List.mem_cons_of_mem _ ho')
  simp only[gS]at hk
  have run:∀ σ2:St,cQ σ2.g=cQ σ.g→σ2.h=σ.h→(∀ E,bm N P o (lg (cQ σ.g)) (bc σ.h) E→Ab N P all o (cQ σ.g) (bc σ.h) (some E))→
    Lq P o.op (Lr o) (lg (cQ σ2.g)) (bc σ2.h) (KN σ2 o.dst acc (gS P all K r))→∃ es σ',lH N P all (o :: r) (cQ σ.g) (bc σ.h) es (cQ σ'.g) (bc σ'.h)∧K σ' (es.reverse++acc):=by
   intro σ2 hg hh hst hk
   obtain⟨E,h1,h2,h3,h4⟩:=Io (N:=N) (o:=o) hk
   obtain⟨es,σ',h5,h6⟩:=gv hrest h4
   rw[lE,hg]at h5
   have hu:bc (mX E.u σ2.h)=dK E.u (bc σ.h):=by funext k;rw[lN,hh]
   rw[hu]at h5
   rw[hg,hh]at h1
   refine⟨some E :: es,σ',.cons o r _ _ (some E) es _ _ (hst E h1) ?_ h5,by simpa using h6⟩
   intro l hl
   have hf:=kb h3 l hl
   rw[hg,hh]at hf
   refine⟨?_,hf⟩
   rcases h2 l hl with h7|h7
   ·omega
   ·exact h7
  cases hg:o.guard with
  | none=>
   rw[hg]at hk
   exact run σ rfl rfl (fun E hE=>⟨hdst,by rw[hg];exact⟨E,rfl,hE⟩⟩) hk
  | some q=>
   obtain⟨j,b⟩:=q
   rw[hg]at hk
   simp only at hk
   unfold Ba at hk
   split at hk
   ·rename_i t0 t ht
    split at hk
    ·rename_i c hc
     obtain⟨oj,hoj,htj⟩:∃ oj,all[j]? = some oj∧oj.dst=some t:=by
      split at ht
      ·rename_i oj hoj
       exact⟨oj,hoj,ht⟩
      ·cases ht
     split at hk
     ·rename_i hcb
      subst hcb
      refine run ⟨(t,.t (.bool c)) :: σ.g,σ.h⟩ (xO hc) rfl (fun E hE=>⟨hdst,?_⟩) hk
      rw[hg]
      exact⟨oj,t,some c,hoj,htj,hc,.inl ⟨rfl,E,rfl,hE⟩⟩
     ·rename_i hcb
      have hc':cQ σ.g t = .t (.bool (!b)):=by
       rw[hc];cases c<;>cases b<;>first|rfl|exact (hcb rfl).elim
      obtain⟨es,σ',h5,h6⟩:=gv hrest hk
      rw[lE,xO hc']at h5
      refine⟨none :: es,σ',.cons o r _ _ none es _ _ ⟨hdst,?_⟩ (by simp[oN,Je]) h5,by simpa using h6⟩
      rw[hg]
      exact⟨oj,t,some c,hoj,htj,hc,.inr ⟨fun h=>hcb (Option.some.inj h),rfl⟩⟩
    ·rename_i hc
     obtain⟨es,σ',h5,h6⟩:=gv hrest hk
     rw[lE]at h5
     obtain⟨oj,hoj,htj⟩:∃ oj,all[j]? = some oj∧oj.dst=some t:=by
      split at ht
      ·rename_i oj hoj
       exact⟨oj,hoj,ht⟩
      ·cases ht
     refine⟨none :: es,σ',.cons o r _ _ none es _ _ ⟨hdst,?_⟩ (by simp[oN,Je]) h5,by simpa using h6⟩
     rw[hg]
     exact⟨oj,t,none,hoj,htj,hc,.inr ⟨by simp,rfl⟩⟩
    ·exact hk.elim
   ·exact hk.elim
end
def ED (N:Nat) (ops:List Oper):Bool:=ops.all fun o=>match o.dst with|some t=>decide (t < N)|none=>true
def bE (N:Nat):Code→Bool
 | .region _ ops _=>ED N ops.toList
 | .seq a b=>bE N a && bE N b
 | .cond _ a b=>bE N a && bE N b
 | .block _ c=>bE N c
 | .loop c=>bE N c
 | .scope c=>bE N c
 | _=>true
def CW (N:Nat) (P:Program) (c:Code) (Q:Exit→St→Prop) (σ:St):Prop:=
 P.follows .mixedOrders=true→bE N c=true→∀ (W:World) (G0:Gh) (A:Nat→Prop) (a:Act) (w:World),Sat N W G0 A σ a w→c.wp P (fun e a' w'=>∃ σ',Q e σ'∧Sat N W G0 A σ' a' w') a w
def DQ (F:St→Prop) (Q:Exit→St→Prop) (e:Exit) (σ:St):Prop:=match e with
 | .normal=>F σ
 | e=>Q e σ
def iH (id:Nat) (Q:Exit→St→Prop) (e:Exit) (σ:St):Prop:=match e with
 | .exit i=>if i=id then Q .normal σ else Q (.exit i) σ
 | e=>Q e σ
def uj (Q:Exit→St→Prop) (e:Exit) (σ:St):Prop:=match e with
 | .goto _=>False
 | e=>Q e σ
def ua (F:St→Prop) (σ:St) (acc:List (Option aM)):Prop:=F σ
def qP (σ:St):List (Option aM)→Bool
 | []=>true
 | e :: r=>vP σ (oN e).nw && qP σ r
def jx (ops:List Oper) (σ0:St) (acc:List (Option aM)):Prop:=(pR ops acc.reverse && qP σ0 acc)=true
def Bt (ops:List Oper) (σ0:St) (F:St→Prop) (σ:St) (acc:List (Option aM)):Prop:=jx ops σ0 acc∧F σ
def jR:Code→Option Nat
 | .region id _ _=>some id
 | .seq a _=>jR a
 | .block _ c=>jR c
 | .loop c=>jR c
 | .scope c=>jR c
 | .skip=>none
 | .cond _ _ _=>none
 | .exit _=>none
 | .ret=>none
 | .rangeFunc _ _ _ _=>none
 | .label _=>none
 | .goto _=>none
 | .refuse _=>none
def stops (l:List Nat) (c:Code):Bool:=match jR c with
 | some i=>l.contains i
 | none=>false
def nf (N:Nat) (P:Program) (stop:List Nat):Code→(Exit→St→Prop)→St→Prop
 | .skip,Q,σ=>Q .normal σ
 | .region id ops false,Q,σ=>gS P ops.toList (ua (Q .normal)) ops.toList σ []
 | .region id ops true,Q,σ=>gS P ops.toList (Bt ops.toList σ (Q .normal)) ops.toList σ []
 | .seq a b,Q,σ=>if stops stop a=true then CW N P (.seq a b) Q σ else nf N P stop a (DQ (nf N P stop b Q) Q) σ
 | .cond c x y,Q,σ=>match lg (cQ σ.g) c with
  | .t (.lit (.bool v))=>if v=true then nf N P stop x Q σ else nf N P stop y Q σ
  | _=>False
 | .block id c,Q,σ=>nf N P stop c (iH id Q) σ
 | .exit id,Q,σ=>Q (.exit id) σ
 | .ret,Q,σ=>Q .ret σ
 | .loop c,Q,σ=>CW N P (.loop c) Q σ
 | .rangeFunc f ps a b,Q,σ=>CW N P (.rangeFunc f ps a b) Q σ
 | .scope c,Q,σ=>nf N P stop c (uj Q) σ
 | .label l,Q,σ=>Q .normal σ
 | .goto l,Q,σ=>CW N P (.goto l) Q σ
 | .refuse w,Q,σ=>CW N P (.refuse w) Q σ
def Lv (N:Nat) (P:Program):Code→(Exit→St→Prop)→St→Prop
 | .skip,Q,σ=>Q .normal σ
 | .region _ ops false,Q,σ=>gS P ops.toList (ua (Q .normal)) ops.toList σ []
 | .region _ ops true,Q,σ=>gS P ops.toList (Bt ops.toList σ (Q .normal)) ops.toList σ []
 | .seq a b,Q,σ=>Lv N P a (DQ (CW N P b Q) Q) σ
 | .cond c x y,Q,σ=>match lg (cQ σ.g) c with
  | .t (.lit (.bool v))=>if v=true then CW N P x Q σ else CW N P y Q σ
  | _=>False
 | .block id c,Q,σ=>Lv N P c (iH id Q) σ
 | .exit id,Q,σ=>Q (.exit id) σ
 | .ret,Q,σ=>Q .ret σ
 | .loop c,Q,σ=>CW N P (.loop c) Q σ
 | .rangeFunc f ps a b,Q,σ=>CW N P (.rangeFunc f ps a b) Q σ
 | .scope c,Q,σ=>Lv N P c (uj Q) σ
 | .label l,Q,σ=>Q .normal σ
 | .goto l,Q,σ=>CW N P (.goto l) Q σ
 | .refuse w,Q,σ=>CW N P (.refuse w) Q σ
def Ni:Code→Bool
 | .skip=>true
 | .region _ _ _=>true
 | .seq a _=>Ni a
 | .cond _ _ _=>true
 | .block _ c=>Ni c
 | .exit _=>true
 | .ret=>true
 | .scope c=>Ni c
 | .label _=>true
 | _=>false
section
variable {N:Nat} {P:Program} {Q Q':Exit→St→Prop}
theorem CW.mono {c:Code} {σ:St} (h:CW N P c Q σ) (hq:∀ e σ,Q e σ→Q' e σ):CW N P c Q' σ:=by
 intro hm hc W G0 A a w hs
 exact wp_mono (h hm hc W G0 A a w hs) fun e a w ⟨σ',h1,h2⟩=>⟨σ',hq e σ' h1,h2⟩
theorem CW.seq {x y:Code} {σ:St} (h:CW N P x (DQ (CW N P y Q) Q) σ):CW N P (.seq x y) Q σ:=by
 intro hm hc W G0 A a w hs
 simp only[bE,Bool.and_eq_true]at hc
 refine wp_seq (wp_mono (h hm hc.1 W G0 A a w hs) ?_)
 rintro e a w ⟨σ',h1,h2⟩
 cases e<;>first|exact h1 hm hc.2 W G0 A a w h2|exact⟨σ',h1,h2⟩
theorem CW.scope {c:Code} {σ:St} (h:CW N P c (uj Q) σ):CW N P (.scope c) Q σ:=by
 intro hm hc W G0 A a w hs
 simp only[bE]at hc
 refine wp_scope_straight (wp_mono (h hm hc W G0 A a w hs) ?_)
 rintro e a w ⟨σ',h1,h2⟩
 cases e<;>first|exact h1.elim|exact⟨σ',h1,h2⟩
theorem iR {ops:List Oper} (h:ED N ops=true):∀ o∈ops,∀ t,o.dst=some t→t < N:=by
 intro o ho t ht
 unfold ED at h
 rw[List.all_eq_true]at h
 have:=h o ho
 rw[ht]at this
 simpa using this
theorem jW {ops:List Oper} (h:ED N ops=true) {j:Nat} {o:Oper} {t:Nat} (hj:ops[j]? = some o) (ht:o.dst=some t):t < N:=iR h o (List.mem_of_getElem? hj) t ht
theorem CW.region {id:Nat} {ops:Array Oper} {σ:St} (h:gS P ops.toList (ua (Q .normal)) ops.toList σ []):CW N P (.region id ops false) Q σ:=by
 intro hm hc W G0 A a w hs
 obtain⟨G,hs⟩:=hs
 simp only[bE]at hc
 obtain⟨es,σ',h1,h2⟩:=gv (iR hc) h
 exact rW (fun j oj t hj ht=>jW hc (by simpa using hj) ht) h1 (fun G a w hs'=>⟨σ',h2,G,hs'⟩) hs
theorem nR {σ:St}:∀ {es:List (Option aM)},qP σ es=true→∀ e∈es,∀ l∈(oN e).nw,qH (cQ σ.g) (bc σ.h) l
 | [],_,e,he=>by cases he
 | x :: r,h,e,he=>by
  simp only[qP,Bool.and_eq_true]at h
  rcases List.mem_cons.1 he with rfl|he
  ·exact kb h.1
  ·exact nR h.2 e he
theorem vh {all:List Oper}:∀ {r:List Oper} {g g':Nat→S} {h h':Nat→Option aA} {es:List (Option aM)},lH N P all r g h es g' h'→∀ e∈es,∀ l∈(oN e).nw,100≤l
 | [],_,_,_,_,_,hc,e,he=>by cases hc;cases he
 | o :: r,_,_,_,_,_,hc,e,he=>by
  cases hc with
  | cons _ _ _ _ e' es _ _ hst hn hr=>
   rcases List.mem_cons.1 he with rfl|he
   ·exact fun l hl=>(hn l hl).1
   ·exact vh hr e he
theorem CW.draws {id:Nat} {ops:Array Oper} {σ:St} (h:gS P ops.toList (Bt ops.toList σ (Q .normal)) ops.toList σ []):CW N P (.region id ops true) Q σ:=by
 intro hm hc W G0 A a w hs
 obtain⟨G,hs⟩:=hs
 simp only[bE]at hc
 obtain⟨es,σ',h1,h2,h3⟩:=gv (iR hc) h
 simp only[jx,List.append_nil,List.reverse_reverse,Bool.and_eq_true]at h2
 have:=rS (id:=id) (Q:=fun e a' w'=>∃ σ',Q e σ'∧Sat N W G0 A σ' a' w') hm (fun j oj t hj ht=>jW hc hj ht) h1 h2.1
  (fun e he l hl=>⟨vh h1 e he l hl,nR h2.2 e (by simpa using he) l hl⟩) (fun G a w hs'=>⟨σ',h3,G,hs'⟩) hs
 exact this
theorem CW.cond {c:Operand} {x y:Code} {σ:St} {v:Bool} (hc:lg (cQ σ.g) c = .t (.lit (.bool v))) (h:if v=true then CW N P x Q σ else CW N P y Q σ):CW N P (.cond c x y) Q σ:=by
 intro hm hok W G0 A a w hs
 simp only[bE,Bool.and_eq_true]at hok
 obtain⟨G,hs'⟩:=hs
 have h1:=hs'.eval c
 rw[hc]at h1
 unfold ar at h1;unfold aO at h1
 refine wp_cond h1.1 ?_
 cases v
 ·exact h hm hok.2 W G0 A a w ⟨G,hs'⟩
 ·exact h hm hok.1 W G0 A a w ⟨G,hs'⟩
theorem CW.block {id:Nat} {c:Code} {σ:St} (h:CW N P c (iH id Q) σ):CW N P (.block id c) Q σ:=by
 intro hm hc W G0 A a w hs
 simp only[bE]at hc
 refine wp_block (wp_mono (h hm hc W G0 A a w hs) ?_)
 rintro e a w ⟨σ',h1,h2⟩
 cases e with
 | exit i=>
  simp only[iH]at h1
  simp only[Exit.inBlock]
  split
  ·rename_i e;rw[if_pos e]at h1;exact⟨σ',h1,h2⟩
  ·rename_i e;rw[if_neg e]at h1;exact⟨σ',h1,h2⟩
 | _=>exact⟨σ',h1,h2⟩
theorem et (stop:List Nat):∀ (c:Code) (Q:Exit→St→Prop) (σ:St),nf N P stop c Q σ→CW N P c Q σ
 | .skip,Q,σ,h=>fun _ _ W G0 A a w hs=>wp_skip ⟨σ,h,hs⟩
 | .region id ops false,Q,σ,h=>CW.region h
 | .region id ops true,Q,σ,h=>CW.draws h
 | .seq x y,Q,σ,h=>by
  simp only[nf]at h
  split at h
  ·exact h
  ·refine CW.seq ((et stop x _ σ h).mono ?_)
   intro e σ' hq
   cases e<;>first|exact et stop y Q σ' hq|exact hq
 | .cond c x y,Q,σ,h=>by
  simp only[nf]at h
  split at h
  ·rename_i v hc
   refine CW.cond hc ?_
   split at h
   ·rename_i hv;rw[if_pos hv];exact et stop x Q σ h
   ·rename_i hv;rw[if_neg hv];exact et stop y Q σ h
  ·exact h.elim
 | .block id c,Q,σ,h=>CW.block (et stop c _ σ h)
 | .exit id,Q,σ,h=>fun _ _ W G0 A a w hs=>wp_exit ⟨σ,h,hs⟩
 | .ret,Q,σ,h=>fun _ _ W G0 A a w hs=>wp_ret ⟨σ,h,hs⟩
 | .loop c,Q,σ,h=>h
 | .rangeFunc _ _ _ _,Q,σ,h=>h
 | .scope c,Q,σ,h=>CW.scope (et stop c _ σ h)
 | .label _,Q,σ,h=>fun _ _ W G0 A a w hs=>wp_label ⟨σ,h,hs⟩
 | .goto _,Q,σ,h=>h
 | .refuse _,Q,σ,h=>h
theorem iZ:∀ (c:Code) (Q:Exit→St→Prop) (σ:St),Lv N P c Q σ→CW N P c Q σ
 | .skip,Q,σ,h=>fun _ _ W G0 A a w hs=>wp_skip ⟨σ,h,hs⟩
 | .region id ops false,Q,σ,h=>CW.region h
 | .region id ops true,Q,σ,h=>CW.draws h
 | .seq x y,Q,σ,h=>by
  simp only[Lv]at h
  exact CW.seq (iZ x _ σ h)
 | .cond c x y,Q,σ,h=>by
  simp only[Lv]at h
  split at h
  ·rename_i v hc
   exact CW.cond hc h
  ·exact h.elim
 | .block id c,Q,σ,h=>CW.block (iZ c _ σ h)
 | .exit id,Q,σ,h=>fun _ _ W G0 A a w hs=>wp_exit ⟨σ,h,hs⟩
 | .ret,Q,σ,h=>fun _ _ W G0 A a w hs=>wp_ret ⟨σ,h,hs⟩
 | .loop c,Q,σ,h=>h
 | .rangeFunc _ _ _ _,Q,σ,h=>h
 | .scope c,Q,σ,h=>CW.scope (iZ c _ σ h)
 | .label _,Q,σ,h=>fun _ _ W G0 A a w hs=>wp_label ⟨σ,h,hs⟩
 | .goto _,Q,σ,h=>h
 | .refuse _,Q,σ,h=>h
theorem af {c:Code} {σ:St} (hg:Ni c=true) (h:Lv N P c Q σ):CW N P c Q σ:=iZ c Q σ h
end
def U.toT:U→T
 | .t x=>x
 | .ow _ s xs=> .sl s xs
 | .fw fs _ s xs=> .agg (fs++[.sl s xs])
theorem jH.toT {G:Gh} {w:World} {F:Nat→Prop} {u:U} {v:Value} {k:Option Nat} (h:jH G w u v k) (hF:∀ b,G.F b→F b) (hk:∀ b,k=some b→F b):aO F w u.toT v:=by
 cases u with
 | t x=>exact aO.mono hF (fun _ _ _=>rfl) x v h.1
 | ow e s xs=>
  obtain⟨h1,rfl⟩:=h
  exact fJ h1 hF hk
 | fw fs e s xs=>
  obtain⟨cs,v',rfl,h2,h3,rfl⟩:=h
  have h4:=fJ h3 hF hk
  obtain⟨x,cap,cells,h5,_⟩:=h3
  show aO F w (.agg (fs++[.sl s xs])) _
  unfold aO
  refine⟨_,rfl,ay.append (ay.mono hF (fun _ _ _=>rfl) fs cs h2) ?_⟩
  unfold ay
  exact⟨v',[],by rw[h5];rfl,h4,by unfold ay;rfl⟩
theorem xd {F:Nat→Prop} {w:World} {s:Nat}:∀ {xs:List T} {cells:List Value},cells.length=xs.length * s→(∀ i x,xs[i]? = some x→∃ v:Value,(∀ j c,v.cells.toList[j]? = some c→cells[i * s+j]? = some c)∧v.cells.size=s∧aO F w x v)→ay F w xs cells
 | [],cells,hl,_=>by
  have:cells=[]:=List.eq_nil_of_length_eq_zero (by simpa using hl)
  subst this;unfold ay;rfl
 | x :: r,cells,hl,h=>by
  obtain⟨v,h1,h2,h3⟩:=h 0 x rfl
  simp only[List.length_cons,Nat.succ_mul]at hl
  have e1:cells.take s=v.cells.toList:=by
   apply List.ext_getElem?
   intro j
   by_cases hj:j < s
   ·rw[List.getElem?_take,if_pos hj]
    have hj2:j < v.cells.toList.length:=by rw[Array.length_toList];omega
    have:=h1 j _ (List.getElem?_eq_getElem hj2)
    rw[Nat.zero_mul,Nat.zero_add]at this
    rw[this,List.getElem?_eq_getElem hj2]
   ·rw[List.getElem?_eq_none (by rw[List.length_take];omega),List.getElem?_eq_none (by rw[Array.length_toList];omega)]
  have ih:=xd (F:=F) (w:=w) (s:=s) (xs:=r) (cells:=cells.drop s) (by rw[List.length_drop];omega) (fun i y hy=>by
   obtain⟨u,g1,g2,g3⟩:=h (i+1) y (by simpa using hy)
   refine⟨u,fun j c hj=>?_,g2,g3⟩
   have:=g1 j c hj
   rw[List.getElem?_drop]
   rw[←this];congr 1;rw[Nat.succ_mul];omega)
  unfold ay
  exact⟨v,cells.drop s,by rw[←e1,List.take_append_drop],h3,ih⟩
theorem qI {G:Gh} {w:World} {F:Nat→Prop} {e s:Nat} {us:List U} {u:Value} {f:Nat→Prop} (h:bH G w (.rows e s us []) u) (hi:ik G w (.rows e s us []) u f) (hF:∀ b,G.F b→F b) (hu:∀ b,(aW u=some b∨f b)→F b):aO F w (.sl s (us.map U.toT)) u:=by
 obtain⟨x,cap,_,rfl,_⟩:=h
 obtain⟨cells,κ,h1,h2,h3,_,_,_⟩:=hi
 have key:∀ i x,(us.map U.toT)[i]? = some x→∃ v:Value,(∀ j c,v.cells.toList[j]? = some c→cells[i * s+j]? = some c)∧v.cells.size=s∧aO F w x v:=by
  intro i x hx
  rw[List.getElem?_map]at hx
  obtain⟨g,hg,rfl⟩:=Option.map_eq_some_iff.1 hx
  obtain⟨v,h4,h5,_,h6⟩:=h2 i g hg
  exact⟨v,h4,h5,jH.toT h6 hF (fun b hb=>hu b (.inr ((h3 b).2 ⟨i,hb⟩)))⟩
 unfold aO
 refine⟨x,cap,cells,by rw[List.length_map],xd (by rw[List.length_map];exact h1.1) key,?_,?_⟩
 ·intro y hy
  obtain⟨i,hi⟩:=List.getElem?_of_mem hy
  obtain⟨v,_,h5,h6⟩:=key i y hi
  rw[←aO.width _ _ h6];exact h5
 ·rw[List.length_map]
  exact Du.of_own h1 (fun b hb=>hu b (.inl hb))
def kp:List (Nat×Option Nat)→Nat→Option (Option Nat)
 | [],_=>none
 | (l,r) :: q,k=>if k=l then some r else kp q k
def mW (l:Nat):List (Nat×Option Nat)→Bool
 | []=>true
 | (_,r) :: q=>r != some l && mW l q
def eh:List (Nat×Option Nat)→Bool
 | []=>true
 | (l,r) :: q=>(match r with|some k=>mW k q|none=>true) && (decide (100≤l) || r == some l) && eh q
mutual
def Ie:T→T→Prop
 | .lit (.slice none 0 0),.sl _ []=>True
 | .agg xs,.agg ys=>tP xs ys
 | x,y=>x=y
def tP:List T→List T→Prop
 | [],[]=>True
 | x :: xs,y :: ys=>Ie x y∧tP xs ys
 | _,_=>False
end
mutual
theorem bx:∀ x:T,Ie x x
 | .lit v=>by unfold Ie;first|rfl|(split<;>simp_all)
 | .sl s xs=>by unfold Ie;first|rfl|(split<;>simp_all)
 | .agg xs=>by unfold Ie;exact pT xs
theorem pT:∀ xs:List T,tP xs xs
 | []=>by unfold tP;trivial
 | x :: r=>by unfold tP;exact⟨bx x,pT r⟩
end
theorem Kz (x:T):Ie x x=True:=eq_true (bx x)
theorem wz (xs:List T):tP xs xs=True:=eq_true (pT xs)
mutual
def kD (ρ:List (Nat×Option Nat)) (h:Nat→Option aA):S→S→Prop
 | _,.dead=>True
 | .t x,.t y=>Ie x y
 | .t (.lit (.slice none 0 0)),.own l'=>kp ρ l'=some none
 | .own l,.own l'=>kp ρ l'=some (some l)
 | .own l,.t (.sl s xs)=>mW l ρ=true∧match h l with
  | some (.list _ s' ys)=>s'=s∧ys=xs
  | some (.rows _ s' us ex)=>s'=s∧ex=[]∧us.map U.toT=xs
  | _=>False
 | .own l,.wn l' p o n=>kp ρ l'=some (some l)∧o=0∧0 < n∧match h l with
  | some (.list _ _ ys)=>ys.length=n
  | _=>False
 | .pt l p o,.pt l' p' o'=>kp ρ l'=some (some l)∧p'=p∧o'=o
 | .wn l p o n,.wn l' p' o' n'=>kp ρ l'=some (some l)∧p'=p∧o'=o∧n'=n
 | .wn l p o n,.t (.sl s xs)=>mW l ρ=true∧o=0∧0 < n∧match h l with
  | some (.list _ s' ys)=>s'=s∧n≤ys.length∧ys.take n=xs
  | _=>False
 | .rp x,.rp y=>x=y
 | .ag fs,.ag gs=>pj ρ h fs gs
 | .ag fs,.t (.agg xs)=>pj ρ h fs (xs.map S.t)
 | .t (.agg xs),.ag gs=>bZ ρ xs gs
 | .tup fs,.tup gs=>ie ρ h fs gs
 | .fn f fs,.fn f' gs=>f'=f∧ie ρ h fs gs
 | .fb f fs,.fb f' gs=>f'=f∧ie ρ h fs gs
 | _,_=>False
def pj (ρ:List (Nat×Option Nat)) (h:Nat→Option aA):List S→List S→Prop
 | [],[]=>True
 | x :: xs,y :: ys=>y.width=x.width∧kD ρ h x y∧pj ρ h xs ys
 | _,_=>False
def ie (ρ:List (Nat×Option Nat)) (h:Nat→Option aA):List S→List S→Prop
 | [],[]=>True
 | x :: xs,y :: ys=>kD ρ h x y∧ie ρ h xs ys
 | _,_=>False
def bZ (ρ:List (Nat×Option Nat)):List T→List S→Prop
 | [],[]=>True
 | x :: xs,y :: ys=>(match x,y with|.lit (.slice none 0 0),.own l'=>kp ρ l'=some none|x,.t y=>Ie x y|_,_=>False)∧y.width=x.width∧bZ ρ xs ys
 | _,_=>False
end
def QS (ρ:List (Nat×Option Nat)) (h:Nat→Option aA):List (Nat×S)→List (Nat×S)→Prop
 | [],[]=>True
 | (i,c) :: r,(i',c') :: r'=>i'=i∧c'.width=c.width∧kD ρ h c c'∧QS ρ h r r'
 | _,_=>False
def PN (ρ:List (Nat×Option Nat)) (h:Nat→Option aA):aA→aA→Prop
 | .list e s xs,.list e' s' ys=>e'=e∧s'=s∧ys=xs
 | .rows e s us ex,.rows e' s' us' ex'=>e'=e∧s'=s∧us'=us∧QS ρ h ex ex'
 | .box e c,.box e' c'=>e'=e∧c'.width=c.width∧c'.solid=true∧kD ρ h c c'
 | _,_=>False
def OP (ρ:List (Nat×Option Nat)) (h:Nat→Option aA) (g:Nat→S):List (Nat×S)→Prop
 | []=>True
 | (t,s) :: r=>kD ρ h (g t) s∧OP ρ h g r
def vR (ρ:List (Nat×Option Nat)) (h:Nat→Option aA):List (Nat×aA)→Prop
 | []=>True
 | (l',b') :: r=>(match kp ρ l' with
  | some (some l)=>(match h l with|some b=>PN ρ h b b'|none=>False)
  | some none=>(match b' with|.list _ _ []=>True|_=>False)
  | none=>False)∧vR ρ h r
def Wk (ρ:List (Nat×Option Nat)) (σ σ':St):Prop:=eh ρ=true∧OP ρ (bc σ.h) (cQ σ.g) σ'.g∧vR ρ (bc σ.h) σ'.h
def eK (ρ:List (Nat×Option Nat)) (h:Nat→Option aA) (G:Gh):Gh where
 F:=fun b=>G.F b∨∃ l x,h l=some x∧mW l ρ=true∧G.ft l b
 β:=fun l=>match kp ρ l with
  | some (some k)=>G.β k
  | some none=> .slice none 0 0
  | none=>G.β l
 φ:=fun l=>match kp ρ l with
  | some (some k)=>G.φ k
  | some none=>Cj
  | none=>G.φ l
section
variable {ρ:List (Nat×Option Nat)} {h:Nat→Option aA} {G:Gh} {w:World}
theorem mM {l:Nat}:∀ {ρ:List (Nat×Option Nat)},mW l ρ=true→∀ k,kp ρ k≠some (some l)
 | [],_,k,e=>by simp[kp]at e
 | (j,r) :: q,h,k,e=>by
  simp only[mW,Bool.and_eq_true,bne_iff_ne]at h
  simp only[kp]at e
  split at e
  ·exact h.1 (by simpa using e)
  ·exact mM h.2 k e
theorem xB:∀ {ρ:List (Nat×Option Nat)},eh ρ=true→∀ {k k' l:Nat},kp ρ k=some (some l)→kp ρ k'=some (some l)→k=k'
 | [],_,k,k',l,e,_=>by simp[kp]at e
 | (j,r) :: q,h,k,k',l,e,e'=>by
  simp only[eh,Bool.and_eq_true]at h
  simp only[kp]at e e'
  split at e<;>split at e'
  ·omega
  ·simp at e
   subst e
   exact (mM h.1.1 k' e').elim
  ·simp at e'
   subst e'
   exact (mM h.1.1 k e).elim
  ·exact xB h.2 e e'
theorem pY:∀ {ρ:List (Nat×Option Nat)},eh ρ=true→∀ {k:Nat} {r:Option Nat},kp ρ k=some r→k < 100→r=some k
 | [],_,k,r,e,_=>by simp[kp]at e
 | (j,r0) :: q,h,k,r,e,hk=>by
  simp only[eh,Bool.and_eq_true,Bool.or_eq_true,decide_eq_true_eq,beq_iff_eq]at h
  simp only[kp]at e
  split at e
  ·rename_i hj
   subst hj
   simp at e
   subst e
   rcases h.1.2 with h1|h1
   ·omega
   ·exact h1
  ·exact pY h.2 e hk
theorem Nh {F:Nat→Prop} (s:Nat):aO F w (.sl s []) (.slice none 0 0):=by
 unfold aO
 exact⟨none,0,[],rfl,by unfold ay;rfl,by simp,⟨Nat.le_refl _,by unfold maxLen;omega,by simp,fun _=>rfl,.inl rfl⟩⟩
mutual
theorem o6 {F:Nat→Prop}:∀ (x y:T) (u:Value),Ie x y→aO F w x u→aO F w y u
 | x,y,u,hw,hr=>by
  unfold Ie at hw
  split at hw
  ·unfold aO at hr;rw[hr.1];exact Nh _
  ·rename_i xs ys
   unfold aO at hr ⊢
   obtain⟨cells,h1,h2⟩:=hr
   exact⟨cells,h1,wy xs ys cells hw h2⟩
  ·subst hw;exact hr
theorem wy {F:Nat→Prop}:∀ (xs ys:List T) (cs:List Value),tP xs ys→ay F w xs cs→ay F w ys cs
 | [],ys,cs,hw,hr=>by
  cases ys with
  | nil=>exact hr
  | cons y ys=>unfold tP at hw;exact hw.elim
 | x :: xs,ys,cs,hw,hr=>by
  cases ys with
  | nil=>unfold tP at hw;exact hw.elim
  | cons y ys=>
   unfold tP at hw
   unfold ay at hr ⊢
   obtain⟨v,cs',h1,h2,h3⟩:=hr
   exact⟨v,cs',h1,o6 x y v hw.1 h2,wy xs ys cs' hw.2 h3⟩
end
theorem jq:∀ b,G.F b→(eK ρ h G).F b:=fun b hb=> .inl hb
mutual
theorem iQ (hh:bn G w h):∀ (a b:S) (u:Value),kD ρ h a b→ar G w a u→ar (eK ρ h G) w b u
 | a,b,u,hw,hr=>by
  unfold kD at hw
  split at hw
  ·unfold ar;trivial
  ·rename_i x y
   unfold ar at hr ⊢
   exact aO.mono jq (fun _ _ _=>rfl) y u (o6 x y u hw hr)
  ·rename_i l'
   unfold ar at hr ⊢
   unfold aO at hr
   refine⟨?_,none,0,0,hr.1⟩
   rw[hr.1]
   simp only[eK,hw]
  ·rename_i l l'
   unfold ar at hr ⊢
   refine⟨?_,hr.2⟩
   rw[hr.1]
   simp only[eK,hw]
  ·rename_i l s xs
   obtain⟨h1,h2⟩:=hw
   split at h2
   ·rename_i e s' ys hl
    obtain⟨rfl,rfl⟩:=h2
    unfold ar at hr ⊢
    rw[hr.1]
    exact fJ (hh.rep l _ hl) jq (fun b hb=> .inr ⟨l,_,hl,h1,.inl hb⟩)
   ·rename_i e s' us ex hl
    obtain⟨rfl,rfl,rfl⟩:=h2
    unfold ar at hr ⊢
    rw[hr.1]
    exact qI (hh.rep l _ hl) (hh.inn l _ hl) jq (fun b hb=> .inr ⟨l,_,hl,h1,hb⟩)
   ·exact h2.elim
  ·rename_i l l' p o n
   obtain⟨h1,rfl,h0,h2⟩:=hw
   split at h2
   ·rename_i e s' ys hl
    unfold ar at hr ⊢
    have hb:(eK ρ h G).β l'=G.β l:=by simp only[eK,h1]
    rw[hb,hr.1]
    obtain⟨x1,c1,cells,h7,_,_,h10⟩:=hh.rep l _ hl
    rw[h7]at h10 ⊢
    rcases h10.2 with ⟨hv,hn⟩|⟨g,cap',cur,hv,_,_,hc,_,_,_⟩
    ·omega
    ·cases hv
     refine⟨g,0,c1,rfl,by rw[h2],by omega,fun _=>rfl,fun x N cap e _=>?_,by assumption⟩
     cases e
     omega
   ·exact h2.elim
  ·rename_i l p o l' p' o'
   obtain⟨h1,rfl,rfl⟩:=hw
   unfold ar at hr ⊢
   obtain⟨b,h2,h3⟩:=hr
   refine⟨b,?_,h3⟩
   simp only[eK,h1]
   exact h2
  ·rename_i l p o n l' p' o' n'
   obtain⟨h1,rfl,rfl,rfl⟩:=hw
   unfold ar at hr ⊢
   have hb:(eK ρ h G).β l'=G.β l:=by simp only[eK,h1]
   rw[hb]
   exact hr
  ·rename_i l p o n s xs
   obtain⟨h1,rfl,h0,h2⟩:=hw
   split at h2
   ·rename_i e s' ys hl
    obtain⟨rfl,hn,rfl⟩:=h2
    unfold ar at hr ⊢
    obtain⟨b,o',c,g1,g2,g3,g4,_,g6⟩:=hr
    obtain rfl:=g4 (.inr rfl)
    obtain⟨x1,c1,cells,h7,h8,h9,h10⟩:=hh.rep l _ hl
    have hx:x1=some ⟨b,0,none⟩:=by
     rw[h7]at g1 h10
     rcases h10.2 with ⟨hv,hn⟩|⟨g',cap',cur,hv,_⟩
     ·simp only[Value.slice.injEq]at hv
      rw[hv.1]at g1
      simp[aW]at g1
     ·simp only[Value.slice.injEq]at hv
      rw[hv.1]at g1
      simp[aW]at g1
      rw[hv.1,g1]
    subst hx
    rw[h7]at h10
    have hta:=(ay.split n h8).1
    rw[aG h9 hn]at hta
    have hcl:=ay.widths _ _ h8
    rw[bt h9]at hcl
    have hns:n * s'≤ys.length * s':=Nat.mul_le_mul_right _ hn
    unfold aO
    refine⟨_,c,cells.take (n * s'),by rw[g2,List.length_take,Nat.min_eq_left hn],ay.mono jq (fun _ _ _=>rfl) _ _ hta,fun y hy=>h9 y (List.mem_of_mem_take hy),?_⟩
    rw[List.length_take,Nat.min_eq_left hn]
    refine⟨g3,g6,by rw[List.length_take];omega,(fun e=>by cases e),.inr ⟨b,0,rfl,.inr ⟨l,_,hl,h1,.inl g1⟩,fun j u hu=>?_⟩⟩
    rw[List.getElem?_take]at hu
    split at hu
    ·rw[←bU];exact World.ownsRow.cells h10 (g:=b) rfl _ _ hu
    ·cases hu
   ·exact h2.elim
  ·rename_i x y
   subst hw
   unfold ar at hr ⊢
   obtain⟨b,off,v,h1,h2,h3,h4⟩:=hr
   exact⟨b,off,v,h1,.inl h2,aO.mono jq (fun _ _ _=>rfl) _ v h3,h4⟩
  ·rename_i fs gs
   unfold ar at hr ⊢
   obtain⟨cells,h1,h2⟩:=hr
   exact⟨cells,h1,qo hh fs gs cells hw h2⟩
  ·rename_i fs xs
   unfold ar at hr ⊢
   obtain⟨cells,h1,h2⟩:=hr
   have h3:=qo hh fs (xs.map S.t) cells hw h2
   unfold aO
   refine⟨cells,h1,?_⟩
   have:∀ {ys:List T} {cs:List Value},aE (eK ρ h G) w (ys.map S.t) cs→ay (eK ρ h G).F w ys cs:=by
    intro ys
    induction ys with
    | nil=>intro cs h;simp only[List.map_nil]at h;unfold aE at h;unfold ay;exact h
    | cons y ys ih=>
     intro cs h
     simp only[List.map_cons]at h
     unfold aE at h
     obtain⟨v,cs',h4,_,_,h5,h6⟩:=h
     unfold ay
     unfold ar at h5
     exact⟨v,cs',h4,h5,ih h6⟩
   exact this h3
  ·rename_i xs gs
   unfold ar at hr
   unfold aO at hr
   obtain⟨cells,h1,h2⟩:=hr
   unfold ar
   refine⟨cells,h1,?_⟩
   have:∀ (xs:List T) (gs:List S) (cs:List Value),bZ ρ xs gs→ay G.F w xs cs→aE (eK ρ h G) w gs cs:=by
    intro xs
    induction xs with
    | nil=>
     intro gs cs hx hc
     cases gs with
     | nil=>unfold ay at hc;unfold aE;exact hc
     | cons g gs=>unfold bZ at hx;exact hx.elim
    | cons x xs ih=>
     intro gs cs hx hc
     cases gs with
     | nil=>unfold bZ at hx;exact hx.elim
     | cons g gs=>
      unfold bZ at hx
      unfold ay at hc
      obtain⟨v,cs',h3,h4,h5⟩:=hc
      obtain⟨h6,h7,h8⟩:=hx
      unfold aE
      refine⟨v,cs',h3,by rw[aO.width _ _ h4,h7],aO.one _ _ h4,?_,ih gs cs' h8 h5⟩
      split at h6
      ·rename_i l'
       unfold aO at h4
       unfold ar
       refine⟨?_,none,0,0,h4.1⟩
       rw[h4.1]
       simp only[eK,h6]
      ·rename_i y
       unfold ar
       exact aO.mono jq (fun _ _ _=>rfl) y v (o6 x y v h6 h4)
      ·exact h6.elim
   exact this xs gs cells hw h2
  ·rename_i fs gs
   unfold ar at hr ⊢
   obtain⟨us,h1,h2⟩:=hr
   exact⟨us,h1,jU hh fs gs us hw h2⟩
  ·rename_i f fs f' gs
   obtain⟨rfl,hw⟩:=hw
   unfold ar at hr ⊢
   obtain⟨us,h1,h2⟩:=hr
   exact⟨us,h1,jU hh fs gs us hw h2⟩
  ·rename_i f fs f' gs
   obtain⟨rfl,hw⟩:=hw
   unfold ar at hr ⊢
   obtain⟨us,h1,h2⟩:=hr
   exact⟨us,h1,jU hh fs gs us hw h2⟩
  ·exact hw.elim
theorem qo (hh:bn G w h):∀ (xs ys:List S) (cs:List Value),pj ρ h xs ys→aE G w xs cs→aE (eK ρ h G) w ys cs
 | [],ys,cs,hw,hr=>by
  cases ys with
  | nil=>unfold aE at *;exact hr
  | cons y ys=>unfold pj at hw;exact hw.elim
 | x :: xs,ys,cs,hw,hr=>by
  cases ys with
  | nil=>unfold pj at hw;exact hw.elim
  | cons y ys=>
   unfold pj at hw
   unfold aE at hr ⊢
   obtain⟨v,cs',h1,h2,h3,h4,h5⟩:=hr
   exact⟨v,cs',h1,by rw[h2,hw.1],h3,iQ hh x y v hw.2.1 h4,qo hh xs ys cs' hw.2.2 h5⟩
theorem jU (hh:bn G w h):∀ (xs ys:List S) (us:List Value),ie ρ h xs ys→aD G w xs us→aD (eK ρ h G) w ys us
 | [],ys,us,hw,hr=>by
  cases ys with
  | nil=>unfold aD at *;exact hr
  | cons y ys=>unfold ie at hw;exact hw.elim
 | x :: xs,ys,us,hw,hr=>by
  cases ys with
  | nil=>unfold ie at hw;exact hw.elim
  | cons y ys=>
   unfold ie at hw
   unfold aD at hr ⊢
   obtain⟨v,us',h1,h2,h3⟩:=hr
   exact⟨v,us',h1,iQ hh x y v hw.1 h2,jU hh xs ys us' hw.2 h3⟩
end
theorem ES (hh:bn G w h):∀ {ex ex':List (Nat×S)},QS ρ h ex ex'→∀ i,(ko ex i=none∧ko ex' i=none)∨∃ c c',ko ex i=some c∧ko ex' i=some c'∧c'.width=c.width∧∀ u,ar G w c u→ar (eK ρ h G) w c' u
 | [],[],_,i=> .inl ⟨rfl,rfl⟩
 | (j,c) :: r,(j',c') :: r',hw,i=>by
  obtain⟨rfl,h1,h2,h3⟩:=hw
  simp only[ko]
  by_cases e:i=j'
  ·rw[if_pos e,if_pos e]
   exact .inr ⟨c,c',rfl,rfl,h1,fun u hr=>iQ hh c c' u h2 hr⟩
  ·rw[if_neg e,if_neg e]
   exact ES hh h3 i
 | [],(_,_) :: _,hw,_=>hw.elim
 | (_,_) :: _,[],hw,_=>hw.elim
theorem jH.mono {G G':Gh} {w:World} (hF:∀ b,G.F b→G'.F b) {u:U} {v:Value} {k:Option Nat} (h:jH G w u v k):jH G' w u v k:=by
 cases u with
 | t x=>exact⟨aO.mono hF (fun _ _ _=>rfl) x v h.1,h.2⟩
 | ow e s xs=>
  obtain⟨⟨x,cap,cells,h1,h2,h3⟩,rfl⟩:=h
  exact⟨⟨x,cap,cells,h1,ay.mono hF (fun _ _ _=>rfl) xs cells h2,h3⟩,rfl⟩
 | fw fs e s xs=>
  obtain⟨cs,v',h0,h5,⟨x,cap,cells,h1,h2,h3⟩,rfl⟩:=h
  exact⟨cs,v',h0,ay.mono hF (fun _ _ _=>rfl) fs cs h5,⟨x,cap,cells,h1,ay.mono hF (fun _ _ _=>rfl) xs cells h2,h3⟩,rfl⟩
theorem MY (hh:bn G w h) {b b':aA} {u:Value} {f:Nat→Prop} (hw:PN ρ h b b') (hr:ik G w b u f):ik (eK ρ h G) w b' u f:=by
 cases b with
 | list e s xs=>
  cases b' with
  | list e' s' ys=>exact hr
  | box _ _=>exact hw.elim
  | rows _ _ _ _=>exact hw.elim
 | box e c=>
  cases b' with
  | list _ _ _=>exact hw.elim
  | box e' c'=>exact hr
  | rows _ _ _ _=>exact hw.elim
 | rows e s us ex=>
  cases b' with
  | list _ _ _=>exact hw.elim
  | box _ _=>exact hw.elim
  | rows e' s' us' ex'=>
   obtain⟨rfl,rfl,rfl,he⟩:=hw
   obtain⟨cells,κ,h1,h2,h3,h4,h5,h6⟩:=hr
   refine⟨cells,κ,h1,fun i x hx=>?_,h3,h4,h5,h6⟩
   obtain⟨v,g1,g2,g3,g4⟩:=h2 i x hx
   refine⟨v,g1,g2,g3,?_⟩
   unfold fV at *
   rcases ES hh he i with ⟨e1,e2⟩|⟨c,c',e1,e2,e3,e4⟩
   ·rw[e1]at g4
    rw[e2]
    exact g4.mono jq
   ·rw[e1]at g4
    rw[e2]
    exact⟨e4 v g4.1,by rw[e3];exact g4.2.1,g4.2.2⟩
theorem Ki (hh:bn G w h) {b b':aA} {u:Value} (hw:PN ρ h b b') (hr:bH G w b u):bH (eK ρ h G) w b' u:=by
 cases b with
 | rows e s us ex=>
  cases b' with
  | list _ _ _=>exact hw.elim
  | box _ _=>exact hw.elim
  | rows e' s' us' ex'=>
   obtain⟨rfl,rfl,rfl,he⟩:=hw
   obtain⟨x,cap,cells,h1,h2⟩:=hr
   exact⟨x,cap,cells,h1,h2⟩
 | list e s xs=>
  cases b' with
  | list e' s' ys=>
   obtain⟨rfl,rfl,rfl⟩:=hw
   obtain⟨x,cap,cells,h1,h2,h3,h4⟩:=hr
   exact⟨x,cap,cells,h1,ay.mono jq (fun _ _ _=>rfl) _ _ h2,h3,h4⟩
  | box _ _=>exact hw.elim
  | rows _ _ _ _=>exact hw.elim
 | box e c=>
  cases b' with
  | list _ _ _=>exact hw.elim
  | rows _ _ _ _=>exact hw.elim
  | box e' c'=>
   obtain⟨rfl,h1,h2,h3⟩:=hw
   obtain⟨b,v,h4,h5,h6,h7,h8⟩:=hr
   exact⟨b,v,h4,iQ hh c c' v h3 h5,by rw[h6,h1],h7,h8⟩
theorem oF:∀ {hs:List (Nat×aA)} {l':Nat} {b':aA},vR ρ h hs→bc hs l'=some b'→(∃ l b,kp ρ l'=some (some l)∧h l=some b∧PN ρ h b b')∨(kp ρ l'=some none∧∃ e s,b' = .list e s [])
 | [],l',b',_,e=>by simp[bc]at e
 | (k,b0) :: r,l',b',hw,e=>by
  simp only[bc]at e
  split at e
  ·rename_i hk
   subst hk
   simp at e
   subst e
   have h1:=hw.1
   split at h1
   ·rename_i l hl
    split at h1
    ·rename_i b hb
     exact .inl ⟨l,b,hl,hb,h1⟩
    ·exact h1.elim
   ·rename_i hl
    split at h1
    ·exact .inr ⟨hl,_,_,rfl⟩
    ·exact h1.elim
   ·exact h1.elim
  ·exact oF hw.2 e
theorem pd {hs:List (Nat×aA)} (hρ:eh ρ=true) (hh:bn G w h) (hw:vR ρ h hs):bn (eK ρ h G) w (bc hs):=by
 have blk:∀ l' b' k,bc hs l'=some b'→(eK ρ h G).ft l' k→∃ l b,kp ρ l'=some (some l)∧h l=some b∧G.ft l k:=by
  intro l' b' k hl hk
  rcases oF hw hl with ⟨l,b,h1,h2,_⟩|⟨h1,_⟩
  ·simp only[Gh.ft,eK,h1]at hk
   exact⟨l,b,h1,h2,hk⟩
  ·simp[Gh.ft,eK,h1,aW]at hk
 refine⟨?_,?_,?_,?_,?_⟩
 ·intro l' b' hl
  rcases oF hw hl with ⟨l,b,h1,h2,h3⟩|⟨h1,e,s,rfl⟩
  ·have:=Ki hh h3 (hh.rep l b h2)
   simpa only[eK,h1] using this
  ·simp only[eK,h1]
   exact⟨none,0,[],rfl,by unfold ay;rfl,by simp,World.ownsRow_nil _ _ _ _⟩
 ·intro l' b' hl
  rcases oF hw hl with ⟨l,b,h1,h2,h3⟩|⟨h1,e,s,rfl⟩
  ·have:=MY hh h3 (hh.inn l b h2)
   simpa only[eK,h1] using this
  ·simp only[eK,h1]
   exact fun _ h=>h
 ·intro l' b' k hl hk hF
  obtain⟨l,b,h1,h2,h3⟩:=blk l' b' k hl hk
  rcases hF with hF|⟨l2,x,h4,h5,h6⟩
  ·exact hh.sep l b k h2 h3 hF
  ·have:=hh.inj l l2 b x k h2 h4 h3 h6
   subst this
   exact mM h5 l' h1
 ·intro l' l'' b' b'' k hl hl' hk hk'
  obtain⟨l,b,h1,h2,h3⟩:=blk l' b' k hl hk
  obtain⟨l2,b2,h4,h5,h6⟩:=blk l'' b'' k hl' hk'
  have:=hh.inj l l2 b b2 k h2 h5 h3 h6
  subst this
  exact xB hρ h1 h4
 ·intro b hb
  rcases hb with hb|⟨l,x,h1,_,h3⟩
  ·exact hh.fb b hb
  ·exact hh.lt h1 h3
theorem sr {hs:List (Nat×aA)} {W:World} {G0:Gh} {A:Nat→Prop} (hρ:eh ρ=true) (hw:vR ρ h hs) (f:lh W G0 A G w h):lh W G0 A (eK ρ h G) w (bc hs):=by
 refine⟨f.os,f.tape,f.output,f.size,f.block,?_,fun b hb=> .inl (f.fin b hb),?_,?_⟩
 ·intro l' b' k hl hk
  rcases oF hw hl with ⟨l,b,h1,h2,_⟩|⟨h1,_⟩
  ·simp only[Gh.ft,eK,h1]at hk
   exact f.own l b k h2 hk
  ·simp[Gh.ft,eK,h1,aW]at hk
 ·intro b hb
  rcases hb with hb|⟨l,x,h1,_,h3⟩
  ·exact f.fout b hb
  ·rcases f.own l x b h1 h3 with h4|h4
   ·exact .inr (.inl h4)
   ·exact .inr (.inr h4)
 ·intro l hl
  simp only[eK]
  split
  ·rename_i k hk
   have:=pY hρ hk hl
   simp at this
   subst this
   exact f.same _ hl
  ·rename_i hk
   have:=pY hρ hk hl
   cases this
  ·exact f.same l hl
theorem yp {g:Nat→S}:∀ {gs:List (Nat×S)} (t:Nat),OP ρ h g gs→kD ρ h (g t) (cQ gs t)
 | [],t,_=>by simp only[cQ];unfold kD;trivial
 | (k,s) :: r,t,hw=>by
  simp only[cQ]
  split
  ·subst_vars;exact hw.1
  ·exact yp t hw.2
theorem Sat.weak {N:Nat} {W:World} {G0:Gh} {A:Nat→Prop} {σ σ':St} {a:Act} (hs:Sat N W G0 A σ a w) (hw:Wk ρ σ σ'):Sat N W G0 A σ' a w:=by
 obtain⟨G,hs⟩:=hs
 obtain⟨h1,h2,h3⟩:=hw
 exact⟨eK ρ (bc σ.h) G,hs.size,hs.defers,fun t=>iQ hs.heap _ _ _ (yp t h2) (hs.slots t),pd h1 hs.heap h3,sr h1 h3 hs.frm⟩
end
section
variable {N:Nat} {P:Program} {Q:Exit→St→Prop}
theorem CW.weak {c:Code} {σ σ':St} {ρ:List (Nat×Option Nat)} (hw:Wk ρ σ σ') (h:CW N P c Q σ'):CW N P c Q σ:=
 fun hm hc W G0 A a w hs=>h hm hc W G0 A a w (hs.weak hw)
def l7 {ι:Type} (I:ι→St) (Inv:ι→Prop) (μ:ι→Nat) (i:ι) (Q:Exit→St→Prop) (e:Exit) (σ:St):Prop:=match e with
 | .normal=>∃ j ρ,Inv j∧μ j < μ i∧Wk ρ σ (I j)
 | e=>Q e σ
theorem CW.loop {ι:Type} (I:ι→St) (Inv:ι→Prop) (μ:ι→Nat) (i0:ι) (ρ:List (Nat×Option Nat)) {c:Code} {σ:St} (h0:Inv i0) (hstart:Wk ρ σ (I i0))
  (round:∀ i,Inv i→CW N P c (l7 I Inv μ i Q) (I i)):CW N P (.loop c) Q σ:=by
 intro hm hc W G0 A a w hs
 simp only[bE]at hc
 classical
 let J:Act→World→ι→Prop:=fun a w i=>Inv i∧Sat N W G0 A (I i) a w
 have key:∀ n,∀ a w i,J a w i→μ i=n→∀ (b:Frame) (k:List Item) (cs:List Frame),∃ e a' w',(∃ σ',Q e σ'∧Sat N W G0 A σ' a' w')∧Arrives P (lone (b.at a (.code c :: .inLoop c :: k)) cs w) b k cs e a' w':=by
  intro n
  induction n using Nat.strongRecOn with
  | _ n ih=>
   rintro a w i ⟨hi,hs⟩ hn b k cs
   obtain⟨e,a₁,w₁,⟨σ',hq,hs'⟩,harr⟩:=round i hi hm hc W G0 A a w hs b (.inLoop c :: k) cs
   cases e with
   | normal=>
    obtain⟨j,ρ',hj,hlt,hw⟩:=hq
    obtain⟨e₂,a₂,w₂,hq₂,harr₂⟩:=ih (μ j) (by omega) a₁ w₁ j ⟨hj,hs'.weak hw⟩ rfl b k cs
    exact⟨e₂,a₂,w₂,hq₂,.of_steps (Steps.trans harr (.one step_inLoop)) harr₂⟩
   | exit id=>exact⟨_,a₁,w₁,⟨σ',hq,hs'⟩,.pass (x:=.inLoop c) rfl (fun _ _=> .inl (by simp)) harr⟩
   | goto l=>exact⟨_,a₁,w₁,⟨σ',hq,hs'⟩,.pass (x:=.inLoop c) rfl (fun _ _=> .inl (by simp)) harr⟩
   | ret=>exact⟨_,a₁,w₁,⟨σ',hq,hs'⟩,.pass (x:=.inLoop c) rfl (fun _ _=> .inl (by simp)) harr⟩
   | panic ch=>exact⟨_,a₁,w₁,⟨σ',hq,hs'⟩,.pass (x:=.inLoop c) rfl (fun _ _=> .inl (by simp)) harr⟩
   | outgrown=>exact⟨_,a₁,w₁,⟨σ',hq,hs'⟩,.pass (x:=.inLoop c) rfl (fun _ _=> .inl (by simp)) harr⟩
 intro b k cs
 obtain⟨e,a',w',hq,harr⟩:=key _ a w i0 ⟨h0,hs.weak hstart⟩ rfl b k cs
 exact⟨e,a',w',hq,.of_steps (.one step_loop) harr⟩
def LF {ι:Type} (I:ι→St) (Inv:ι→Prop) (Q:Exit→St→Prop) (e:Exit) (σ:St):Prop:=match e with
 | .normal=>∃ j ρ,Inv j∧Wk ρ σ (I j)
 | e=>Q e σ
theorem CW.cut {ι:Type} (I:ι→St) (Inv:ι→Prop) {x y:Code} {σ:St} (h:CW N P x (LF I Inv Q) σ) (h2:∀ j,Inv j→CW N P y Q (I j)):CW N P (.seq x y) Q σ:=by
 refine CW.seq (h.mono ?_)
 intro e σ' hq
 cases e with
 | normal=>
  obtain⟨j,ρ,hj,hw⟩:=hq
  exact (h2 j hj).weak hw
 | _=>exact hq
def l6 (G:Gh) (pre:List (Nat×aA)) (b:Nat):Prop:=∃ l x,bc pre l=some x∧G.ft l b
def aj (P:Program) (f:FuncId) (ss:List S) (pre:List (Nat×aA)) (r:S) (post:List (Nat×aA)):Prop:=
 ∀ (G:Gh) (w:World) (us:List Value),bn G w (bc pre)→aD G w ss us→
  Calls P f us.toArray w fun e w'=>∃ v G',e = .returned v∧lh w G (l6 G pre) G' w' (bc post)∧bn G' w' (bc post)∧ar G' w' r v
def nu:Nat→List S→List (Nat×S)
 | _,[]=>[]
 | k,s :: r=>(k,s) :: nu (k+1) r
def mY (P:Program) (g:Nat→S) (h:Nat→Option aA):List ResultVar→(List S→Prop)→Prop
 | [],K=>K []
 | .tmp t :: r,K=>mY P g h r fun l=>K (g t :: l)
 | .cell a t :: r,K=>match g a with
  | .pt l p off=>match h l with
   | some blk=>match blk.at p with
    | some (o,y)=>o=off∧y.solid=true∧kO P t y∧mY P g h r fun l=>K (y :: l)
    | none=>False
   | none=>False
  | _=>False
def oneOf:List S→S
 | [s]=>s
 | l=> .tup l
def uQ (P:Program) (rs:List ResultVar) (r:S) (post:List (Nat×aA)) (e:Exit) (σ:St):Prop:=match e with
 | .ret=>∃ ρ,mY P (cQ σ.g) (bc σ.h) rs fun l=>eh ρ=true∧kD ρ (bc σ.h) (oneOf l) r∧vR ρ (bc σ.h) post
 | .normal=>∃ ρ,mY P (cQ σ.g) (bc σ.h) rs fun l=>eh ρ=true∧kD ρ (bc σ.h) (oneOf l) r∧vR ρ (bc σ.h) post
 | _=>False
theorem wG {G:Gh} {w:World}:∀ {ss:List S} {us:List Value} {k t:Nat},aD G w ss us→(t < k∨¬ t < k+ss.length→cQ (nu k ss) t = .dead)∧(∀ i,t=k+i→i < ss.length→∃ u,us[i]? = some u∧ar G w (cQ (nu k ss) t) u)
 | [],us,k,t,h=>⟨fun _=>rfl,fun i _ hi=>by simp at hi⟩
 | s :: r,us,k,t,h=>by
  unfold aD at h
  obtain⟨v,us',rfl,h1,h2⟩:=h
  have ih:=wG (k:=k+1) (t:=t) h2
  refine⟨fun ht=>?_,fun i hi hl=>?_⟩
  ·simp only[nu,cQ]
   rw[if_neg (by simp only[List.length_cons]at ht;omega)]
   refine ih.1 ?_
   simp only[List.length_cons]at ht
   omega
  ·cases i with
   | zero=>
    refine⟨v,rfl,?_⟩
    simp only[nu,cQ]
    rw[if_pos (by omega)]
    exact h1
   | succ i=>
    obtain⟨u,h3,h4⟩:=ih.2 i (by omega) (by simpa using hl)
    refine⟨u,by simpa using h3,?_⟩
    simp only[nu,cQ]
    rw[if_neg (by omega)]
    exact h4
theorem aD.length {G:Gh} {w:World}:∀ {ss:List S} {us:List Value},aD G w ss us→us.length=ss.length
 | [],us,h=>by unfold aD at h;subst h;rfl
 | s :: r,us,h=>by
  unfold aD at h
  obtain⟨v,us',rfl,h1,h2⟩:=h
  simp[aD.length h2]
def Hu (tmps:Array Value) (x:ResultVar):Sem Value:=match x with
 | .tmp t=>pure (tmps.getD t undef)
 | .cell a t=>do loadVar t (←asAddr (tmps.getD a undef))
theorem nN (fn:Func) (tmps:Array Value):results fn tmps=(do
  let vs←fn.results.mapM (Hu tmps)
  pure (if h:vs.size=1 then vs[0] else .tuple vs)):=by
 unfold results
 congr 1
theorem pG {G:Gh} {w:World} {g:Nat→S} {h:Nat→Option aA} {tmps:Array Value} (hh:bn G w h) (hg:∀ t,ar G w (g t) (tmps.getD t undef)):∀ {rs:List ResultVar} {K:List S→Prop},mY P g h rs K→
  ∃ l us,K l∧(rs.mapM (Hu tmps)).run P w = .ok us w∧aD G w l us
 | [],K,hk=>⟨[],[],hk,by simp,by unfold aD;rfl⟩
 | .tmp t :: r,K,hk=>by
  obtain⟨l,us,h1,h2,h3⟩:=pG hh hg (rs:=r) (K:=fun l=>K (g t :: l)) hk
  refine⟨g t :: l,tmps.getD t undef :: us,h1,?_,by unfold aD;exact⟨_,us,rfl,hg t,h3⟩⟩
  rw[List.mapM_cons]
  simp[h2,Hu]
 | .cell a t :: r,K,hk=>by
  simp only[mY]at hk
  split at hk
  ·rename_i l0 p off ha
   split at hk
   ·rename_i blk hl
    split at hk
    ·rename_i o y hat
     obtain⟨rfl,hso,hok,hk⟩:=hk
     obtain⟨l,us,h1,h2,h3⟩:=pG hh hg hk
     have h4:=hg a
     rw[ha]at h4
     unfold ar at h4
     obtain⟨b,h5,h6⟩:=h4
     obtain⟨v,h7,h8,h9,h10⟩:=bH.at_spec (hh.rep l0 blk hl) (hh.inn l0 blk hl) hat h5
     have h11:=kI (P:=P) h7 hso hok h10
     have h12:(loadVar t ⟨b,o,none⟩).run P w = .ok v w:=by
      simpa only[Instr.loadAt,Instr.sureAddr,Sem.run_bind,Sem.run_pure,Result.andThen_ok] using h11
     refine⟨y :: l,v :: us,h1,?_,by unfold aD;exact⟨_,us,rfl,h7,h3⟩⟩
     rw[List.mapM_cons]
     simp[h2,Hu,h6,asAddr,h12]
    ·exact hk.elim
   ·exact hk.elim
  ·exact hk.elim
theorem yg {G:Gh} {w:World} {fn:Func} {tmps:Array Value} {l:List S} {us:List Value} (h1:(fn.results.toList.mapM (Hu tmps)).run P w = .ok us w) (h2:aD G w l us) :
  ∃ v,(results fn tmps).run P w = .ok v w∧ar G w (oneOf l) v:=by
 have h3:(fn.results.mapM (Hu tmps)).run P w = .ok us.toArray w:=by
  rw[Array.mapM_eq_mapM_toList]
  simp[h1]
 have hlen:=h2.length
 match l,us,hlen,h2,h3 with
 | [s],[u],_,h2,h3=>
  unfold aD at h2
  obtain⟨v,us',h4,h5,_⟩:=h2
  cases h4
  refine⟨u,?_,h5⟩
  rw[nN]
  rw[Sem.run_bind,h3]
  simp
 | [],[],_,h2,h3=>
  refine⟨.tuple #[],?_,by unfold oneOf ar;exact⟨[],rfl,h2⟩⟩
  rw[nN]
  rw[Sem.run_bind,h3]
  simp
 | s :: s' :: r,u :: u' :: us,_,h2,h3=>
  refine⟨.tuple (u :: u' :: us).toArray,?_,by unfold oneOf ar;exact⟨_,rfl,h2⟩⟩
  rw[nN]
  rw[Sem.run_bind,h3]
  simp
theorem lS {w:World} {D:Nat} {o o':Obj} (h:w.heap[D]? = some o) (h1:o.isCells=false) (h2:o'.isCells=false) (b off:Nat):(w.putObj D o').cell? ⟨b,off,none⟩=w.cell? ⟨b,off,none⟩:=by
 by_cases e:b=D
 ·subst e
  have hlt:=(Array.getElem?_eq_some_iff.1 h).1
  unfold World.cell?
  simp only[World.putObj_heap_same hlt,h]
  cases o<;>cases o'<;>simp_all [Obj.isCells]
 ·unfold World.cell?
  simp only[World.putObj_heap_other e]
structure Same (w w':World):Prop where
 cell:∀ b o,b < w.heap.size→w'.cell? ⟨b,o,none⟩=w.cell? ⟨b,o,none⟩
 blk:∀ (k:Nat) cs e m,w.heap[k]? = some (Obj.cells cs e m)→w'.heap[k]? = w.heap[k]?
 size:w.heap.size≤w'.heap.size
theorem Same.putObj {w:World} {D:Nat} {o o':Obj} (h:w.heap[D]? = some o) (h1:o.isCells=false) (h2:o'.isCells=false):Same w (w.putObj D o'):=by
 refine⟨fun b off _=>lS h h1 h2 b off,fun k cs e m hk=>World.putObj_heap_other ?_,by simp[World.putObj]⟩
 rintro rfl
 rw[h]at hk;cases hk;cases h1
theorem Same.below {w w':World} (h:Below w.heap.size w w'):Same w w':=
 ⟨fun b o hb=>bj (h.block b hb),fun k cs e m hk=>h.block k (Array.getElem?_eq_some_iff.1 hk).1,h.size⟩
theorem Same.keep {G:Gh} {w w':World} (s:Same w w') (hF:∀ b,G.F b→b < w.heap.size):iF G w G w' []:=⟨fun _ h=>h,fun b o hb=>s.cell b o (hF b hb),fun _ _=>rfl⟩
theorem bn.same {G:Gh} {w w':World} {h:Nat→Option aA} (hh:bn G w h) (s:Same w w'):bn G w' h:=by
 have K:=s.keep hh.fb
 refine⟨fun l b hl=>bH.keep2 K (by simp) (fun k hk=>?_) (hh.rep l b hl),fun l b hl=>ik.keep2 K (by simp) (fun k hk=>?_) (hh.inn l b hl),hh.sep,hh.inj,fun b hb=>Nat.lt_of_lt_of_le (hh.fb b hb) s.size⟩
 ·obtain⟨cs,e,m,ho⟩:=(hh.rep l b hl).obj hk
  exact s.blk k cs e m ho
 ·rcases hk with hk|hk
  ·obtain⟨cs,e,m,ho⟩:=(hh.rep l b hl).obj hk
   exact s.blk k cs e m ho
  ·obtain⟨cs,e,m,ho⟩:=(hh.inn l b hl).obj hk
   exact s.blk k cs e m ho
structure jS (W:World) (w w':World):Prop extends Same w w' where
 os:w'.os=w.os
 tape:w'.tape=w.tape
 output:w'.output=w.output
 low:∀ b:Nat,b < W.heap.size→w'.heap[b]? = w.heap[b]?
theorem jS.putObj {W w:World} {D:Nat} {o o':Obj} (h:w.heap[D]? = some o) (h1:o.isCells=false) (h2:o'.isCells=false) (hD:W.heap.size≤D):jS W w (w.putObj D o'):=
 {Same.putObj h h1 h2 with os:=rfl,tape:=rfl,output:=rfl,low:=fun b hb=>World.putObj_heap_other (by omega)}
theorem jS.below {W w w':World} (h:Below w.heap.size w w') (hW:W.heap.size≤w.heap.size):jS W w w':=
 {Same.below h with os:=h.os,tape:=h.tape,output:=h.output,low:=fun b hb=>h.block b (by omega)}
theorem lh.same' {W:World} {G0:Gh} {A:Nat→Prop} {G:Gh} {w w':World} {h:Nat→Option aA} (f:lh W G0 A G w h) (s:jS W w w'):lh W G0 A G w' h:=
 ⟨s.os.trans f.os,s.tape.trans f.tape,s.output.trans f.output,Nat.le_trans f.size s.size,fun b hb hA=>(s.low b hb).trans (f.block b hb hA),f.own,f.fin,f.fout,f.same⟩
theorem oV {P:Program} {fn:Func} {tmps:Array Value} {R:Ending→World→Prop} {W:World} {n:Nat}:∀ (Ds:List Nat) (w:World),Ds.Nodup→(∀ D∈Ds,w.heap[D]? = some (Obj.deferred (some []))∧W.heap.size≤D)→
  (∀ w',jS W w w'→∃ v,(results fn tmps).run P w' = .ok v w'∧R (.returned v) w')→
  LeavesInM Fence.wide n P fn tmps R (Ds.map (fun D=>{target:=.collected D,args:=#[]})) .returning w
 | [],w,_,_,hR=>by
  simp only[List.map_nil]
  exact hR w {cell:=fun _ _ _=>rfl,blk:=fun _ _ _ _ _=>rfl,size:=Nat.le_refl _,os:=rfl,tape:=rfl,output:=rfl,low:=fun _ _=>rfl}
 | D :: Ds,w,hn,hd,hR=>by
  rw[List.nodup_cons]at hn
  obtain⟨h1,h2⟩:=hd D (by simp)
  have s1:jS W w (w.putObj D (.deferred none)):=jS.putObj h1 rfl rfl h2
  simp only[List.map_cons]
  refine⟨by simp,.inl ⟨D,_,rfl,run_takeDeferred h1,oV (W:=W) Ds _ hn.2 (fun D' hD'=>?_) fun w' s2=>hR w' ?_⟩⟩
  ·have hne:D'≠D:=by rintro rfl;exact hn.1 hD'
   obtain⟨h3,h4⟩:=hd D' (by simp[hD'])
   exact⟨(World.putObj_heap_other hne).trans h3,h4⟩
  ·exact {
       cell:=fun b o hb=>(s2.cell b o (Nat.lt_of_lt_of_le hb s1.size)).trans (s1.cell b o hb),blk:=fun k cs e m hk=>by
        have:=s1.blk k cs e m hk
        exact (s2.blk k cs e m (this.trans hk)).trans this,
       size:=Nat.le_trans s1.size s2.size,os:=s2.os.trans s1.os,tape:=s2.tape.trans s1.tape,output:=s2.output.trans s1.output,low:=fun b hb=>(s2.low b hb).trans (s1.low b hb)}
theorem aj.intro {f:FuncId} {fn:Func} {c:Code} {ss:List S} {pre post:List (Nat×aA)} {r:S} {N:Nat} (hm:P.follows .mixedOrders=true) (hf:P.funcs[f]? = some fn) (hb:fn.body=some c) (hN:fn.ntmps=N) (hok:bE N c=true) (hlen:ss.length≤N)
  (h:CW N P c (uQ P fn.results.toList r post) ⟨nu 0 ss,pre⟩):aj P f ss pre r post:=by
 intro G w us hh hr
 have hul:=hr.length
 refine (callsIn_wide (n:=9)).1 (callsIn_of_wp_marks hf hb trivial (wpIn_wide.2 ?_) rfl)
 refine wp_mono (h hm hok w G (l6 G pre) _ w ⟨G,?_,kh.nil _ _,?_,hh,?_⟩) ?_
 ·simp only[Array.size_append,Array.size_replicate,List.size_toArray];omega
 ·intro t
  have he:=wG (k:=0) (t:=t) hr
  by_cases ht:t < ss.length
  ·obtain⟨u,h1,h2⟩:=he.2 t (by omega) ht
   have:(us.toArray++Array.replicate (fn.ntmps - us.toArray.size) undef).getD t undef=u:=by
    rw[Array.getD_eq_getD_getElem?,Array.getElem?_append_left (by simp;omega)]
    simp[h1]
   rw[this];exact h2
  ·rw[he.1 (by omega)]
   unfold ar;trivial
 ·exact⟨rfl,rfl,rfl,Nat.le_refl _,fun _ _ _=>rfl,fun l b k h1 h2=> .inl ⟨l,b,h1,h2⟩,fun _ h=>h,fun _ h=> .inl h,fun _ _=>rfl⟩
 ·rintro e a' w' ⟨σ',hq,G',hs⟩
  have fin:∀ ρ,mY P (cQ σ'.g) (bc σ'.h) fn.results.toList (fun l=>eh ρ=true∧kD ρ (bc σ'.h) (oneOf l) r∧vR ρ (bc σ'.h) post)→
    LeavesInM Fence.wide 9 P fn a'.tmps (fun e w'=>∃ v G',e = .returned v∧lh w G (l6 G pre) G' w' (bc post)∧bn G' w' (bc post)∧ar G' w' r v) a'.defers .returning w':=by
   intro ρ h1
   obtain⟨Ds,hD1,hD2,hD3⟩:=hs.defers
   rw[hD1]
   refine oV (W:=w) Ds w' hD2 hD3 fun w2 s=>?_
   have hh2:=hs.heap.same s.toSame
   have hsl:∀ t,ar G' w2 (cQ σ'.g t) (a'.tmps.getD t undef):=fun t=>ar.keep (s.toSame.keep hs.heap.fb) _ _ (by simp) (hs.slots t)
   obtain⟨l,us,⟨h2,h3,h4⟩,h5,h6⟩:=pG hh2 hsl h1
   obtain⟨v,h7,h8⟩:=yg (P:=P) (fn:=fn) h5 h6
   exact⟨v,h7,v,eK ρ (bc σ'.h) G',rfl,sr h2 h4 (hs.frm.same' s),pd h2 hh2 h4,iQ hh2 _ _ _ h3 h8⟩
  cases e with
  | ret=>
   obtain⟨ρ,hq⟩:=hq
   exact fin ρ hq
  | normal=>
   obtain⟨ρ,hq⟩:=hq
   exact fin ρ hq
  | exit _=>exact hq.elim
  | goto _=>exact hq.elim
  | panic _=>exact hq.elim
  | outgrown=>exact hq.elim
end
def rn:List (Nat×Nat)→Nat→Nat
 | [],k=>k
 | (l,r) :: q,k=>if k=l then r else rn q k
mutual
def S.ren (ρ:List (Nat×Nat)):S→S
 | .dead=> .dead
 | .t x=> .t x
 | .rp x=> .rp x
 | .own l=> .own (rn ρ l)
 | .pt l p o=> .pt (rn ρ l) p o
 | .wn l p o n=> .wn (rn ρ l) p o n
 | .cl s xs=> .cl s xs
 | .ag fs=> .ag (S.rens ρ fs)
 | .tup fs=> .tup (S.rens ρ fs)
 | .fn f fs=> .fn f (S.rens ρ fs)
 | .fb f fs=> .fb f (S.rens ρ fs)
def S.rens (ρ:List (Nat×Nat)):List S→List S
 | []=>[]
 | x :: r=>x.ren ρ :: S.rens ρ r
end
def aA.ren (ρ:List (Nat×Nat)):aA→aA
 | .list e s xs=> .list e s xs
 | .box e c=> .box e (c.ren ρ)
 | .rows e s us ex=> .rows e s us (ex.map fun q=>(q.1,q.2.ren ρ))
mutual
def S.within (ls:List Nat):S→Bool
 | .own l=>ls.contains l
 | .pt l _ _=>ls.contains l
 | .wn l _ _ _=>ls.contains l
 | .ag fs=>S.withins ls fs
 | .tup fs=>S.withins ls fs
 | .fn _ fs=>S.withins ls fs
 | .fb _ fs=>S.withins ls fs
 | _=>true
def S.withins (ls:List Nat):List S→Bool
 | []=>true
 | x :: r=>x.within ls && S.withins ls r
end
def aA.within (ls:List Nat):aA→Bool
 | .list _ _ _=>true
 | .box _ c=>c.within ls
 | .rows _ _ _ ex=>ex.all fun q=>q.2.within ls
mutual
def jj:T→Prop
 | .lit _=>True
 | .sl _ _=>False
 | .agg fs=>dG fs
def dG:List T→Prop
 | []=>True
 | x :: r=>jj x∧dG r
end
mutual
def dQ:S→Prop
 | .dead=>True
 | .t x=>jj x
 | .rp _=>False
 | .own _=>True
 | .pt _ _ _=>True
 | .wn _ _ _ _=>True
 | .cl _ _=>False
 | .ag fs=>fF fs
 | .tup fs=>fF fs
 | .fn _ fs=>fF fs
 | .fb _ fs=>fF fs
def fF:List S→Prop
 | []=>True
 | x :: r=>dQ x∧fF r
end
def xq:aA→Prop
 | .list _ _ xs=>dG xs
 | .box _ c=>dQ c
 | .rows _ _ _ _=>False
def ng:List (Nat×aA)→Prop
 | []=>True
 | (_,b) :: r=>xq b∧ng r
mutual
theorem aO.flat {F F':Nat→Prop} {w w':World}:∀ (x:T) (u:Value),jj x→aO F w x u→aO F' w' x u
 | .lit v,u,_,h=>by unfold aO at *;exact h
 | .sl _ _,u,hf,h=>by unfold jj at hf;exact hf.elim
 | .agg fs,u,hf,h=>by
  unfold jj at hf
  unfold aO at *
  obtain⟨cells,h1,h2⟩:=h
  exact⟨cells,h1,ay.flat fs cells hf h2⟩
theorem ay.flat {F F':Nat→Prop} {w w':World}:∀ (xs:List T) (cs:List Value),dG xs→ay F w xs cs→ay F' w' xs cs
 | [],cs,_,h=>by unfold ay at *;exact h
 | x :: r,cs,hf,h=>by
  unfold dG at hf
  unfold ay at *
  obtain⟨v,cs',h1,h2,h3⟩:=h
  exact⟨v,cs',h1,aO.flat x v hf.1 h2,ay.flat r cs' hf.2 h3⟩
end
section
variable {G G':Gh} {w:World} {ρ:List (Nat×Nat)} {ls:List Nat}
mutual
theorem gx:∀ (s:S),(s.ren ρ).width=s.width
 | .dead=>rfl
 | .t _=>rfl
 | .rp _=>rfl
 | .own _=>rfl
 | .pt _ _ _=>rfl
 | .wn _ _ _ _=>rfl
 | .cl _ _=>rfl
 | .tup _=>rfl
 | .fn _ _=>rfl
 | .fb _ _=>rfl
 | .ag fs=>by simp only[S.ren,S.width];exact tX fs
theorem tX:∀ (fs:List S),S.widths (S.rens ρ fs)=S.widths fs
 | []=>rfl
 | x :: r=>by simp only[S.rens,S.widths];rw[gx x,tX r]
end
structure To (G G':Gh) (ρ:List (Nat×Nat)) (ls:List Nat):Prop where
 β:∀ l,ls.contains l=true→G'.β (rn ρ l)=G.β l
mutual
theorem ar.to (h:To G G' ρ ls):∀ (s:S) (u:Value),s.within ls=true→((∀ b,G.F b→G'.F b)∨dQ s)→ar G w s u→ar G' w (s.ren ρ) u
 | .dead,u,_,_,hr=>by simp only[S.ren];unfold ar;trivial
 | .t x,u,_,hF,hr=>by
  simp only[S.ren]
  unfold ar at *
  rcases hF with hF|hF
  ·exact aO.mono hF (fun _ _ _=>rfl) x u hr
  ·unfold dQ at hF;exact aO.flat x u hF hr
 | .rp x,u,_,hF,hr=>by
  simp only[S.ren]
  unfold ar at *
  rcases hF with hF|hF
  ·obtain⟨b,off,v,h1,h2,h3,h4⟩:=hr
   exact⟨b,off,v,h1,hF b h2,aO.mono hF (fun _ _ _=>rfl) x v h3,h4⟩
  ·unfold dQ at hF;exact hF.elim
 | .own l,u,hl,hF,hr=>by
  simp only[S.ren]
  unfold ar at *
  refine⟨?_,hr.2⟩
  rw[hr.1,h.β l (by simpa [S.within] using hl)]
 | .pt l p o,u,hl,hF,hr=>by
  simp only[S.ren]
  unfold ar at *
  obtain⟨b,h1,h2⟩:=hr
  exact⟨b,by rw[h.β l (by simpa [S.within] using hl)];exact h1,h2⟩
 | .cl s xs,u,hl,hF,hr=>by
  simp only[S.ren]
  unfold ar at *
  obtain⟨x,cells,h1,h2,h3,h4⟩:=hr
  rcases hF with hF|hF
  ·exact⟨x,cells,h1,ay.mono hF (fun _ _ _=>rfl) xs cells h2,h3,h4.mono hF (fun _ _ _=>rfl)⟩
  ·exact absurd hF (by simp[dQ])
 | .wn l p o n,u,hl,hF,hr=>by
  simp only[S.ren]
  unfold ar at *
  rw[h.β l (by simpa [S.within] using hl)]
  exact hr
 | .ag fs,u,hl,hF,hr=>by
  simp only[S.ren]
  unfold ar at *
  obtain⟨cells,h1,h2⟩:=hr
  exact⟨cells,h1,aE.to h fs cells (by simpa [S.within] using hl) (by simpa [dQ] using hF) h2⟩
 | .tup fs,u,hl,hF,hr=>by
  simp only[S.ren]
  unfold ar at *
  obtain⟨us,h1,h2⟩:=hr
  exact⟨us,h1,aD.to h fs us (by simpa [S.within] using hl) (by simpa [dQ] using hF) h2⟩
 | .fn f fs,u,hl,hF,hr=>by
  simp only[S.ren]
  unfold ar at *
  obtain⟨us,h1,h2⟩:=hr
  exact⟨us,h1,aD.to h fs us (by simpa [S.within] using hl) (by simpa [dQ] using hF) h2⟩
 | .fb f fs,u,hl,hF,hr=>by
  simp only[S.ren]
  unfold ar at *
  obtain⟨us,h1,h2⟩:=hr
  exact⟨us,h1,aD.to h fs us (by simpa [S.within] using hl) (by simpa [dQ] using hF) h2⟩
theorem aE.to (h:To G G' ρ ls):∀ (fs:List S) (cs:List Value),S.withins ls fs=true→((∀ b,G.F b→G'.F b)∨fF fs)→aE G w fs cs→aE G' w (S.rens ρ fs) cs
 | [],cs,_,_,hr=>by simp only[S.rens];unfold aE at *;exact hr
 | x :: r,cs,hl,hF,hr=>by
  simp only[S.rens]
  simp only[S.withins,Bool.and_eq_true]at hl
  unfold aE at *
  obtain⟨v,cs',h1,h2,h3,h4,h5⟩:=hr
  exact⟨v,cs',h1,by rw[h2,gx x],h3,ar.to h x v hl.1 (hF.imp id fun hf=>by unfold fF at hf;exact hf.1) h4,aE.to h r cs' hl.2 (hF.imp id fun hf=>by unfold fF at hf;exact hf.2) h5⟩
theorem aD.to (h:To G G' ρ ls):∀ (fs:List S) (us:List Value),S.withins ls fs=true→((∀ b,G.F b→G'.F b)∨fF fs)→aD G w fs us→aD G' w (S.rens ρ fs) us
 | [],us,_,_,hr=>by simp only[S.rens];unfold aD at *;exact hr
 | x :: r,us,hl,hF,hr=>by
  simp only[S.rens]
  simp only[S.withins,Bool.and_eq_true]at hl
  unfold aD at *
  obtain⟨v,us',h1,h4,h5⟩:=hr
  exact⟨v,us',h1,ar.to h x v hl.1 (hF.imp id fun hf=>by unfold fF at hf;exact hf.1) h4,aD.to h r us' hl.2 (hF.imp id fun hf=>by unfold fF at hf;exact hf.2) h5⟩
end
theorem bH.to (h:To G G' ρ ls) {b:aA} {u:Value} (hl:b.within ls=true) (hF:(∀ b,G.F b→G'.F b)∨xq b) (hr:bH G w b u):bH G' w (b.ren ρ) u:=by
 cases b with
 | list e s xs=>
  obtain⟨x,cap,cells,h1,h2,h3,h4⟩:=hr
  refine⟨x,cap,cells,h1,?_,h3,h4⟩
  rcases hF with hF|hF
  ·exact ay.mono hF (fun _ _ _=>rfl) _ _ h2
  ·exact ay.flat _ _ hF h2
 | box e c=>
  obtain⟨b,v,h4,h5,h6,h7,h8⟩:=hr
  exact⟨b,v,h4,ar.to h c v hl hF h5,by rw[h6,gx c],h7,h8⟩
 | rows e s us ex=>
  obtain⟨x,cap,cells,h1,h2⟩:=hr
  exact⟨x,cap,cells,h1,h2⟩
theorem xT {ρ:List (Nat×Nat)} {i:Nat}:∀ {ex:List (Nat×S)},ko (ex.map fun q=>(q.1,q.2.ren ρ)) i=(ko ex i).map (S.ren ρ)
 | []=>rfl
 | (j,c) :: r=>by
  simp only[List.map_cons,ko]
  split
  ·rfl
  ·exact xT
theorem EO {i:Nat} {c:S}:∀ {ex:List (Nat×S)},ko ex i=some c→(i,c)∈ex
 | [],h=>by simp[ko]at h
 | (j,c0) :: r,h=>by
  simp only[ko]at h
  split at h
  ·subst_vars;cases h;exact List.mem_cons_self ..
  ·exact List.mem_cons_of_mem _ (EO h)
theorem ik.to (h:To G G' ρ ls) {b:aA} {u:Value} {f:Nat→Prop} (hl:b.within ls=true) (hF:(∀ b,G.F b→G'.F b)∨xq b) (hr:ik G w b u f):ik G' w (b.ren ρ) u f:=by
 cases b with
 | list e s xs=>exact hr
 | box e c=>exact hr
 | rows e s us ex=>
  rcases hF with hF|hF
  ·obtain⟨cells,κ,h1,h2,h3,h4,h5,h6⟩:=hr
   refine⟨cells,κ,h1,fun i x hx=>?_,h3,h4,h5,h6⟩
   obtain⟨v,g1,g2,g3,g4⟩:=h2 i x hx
   refine⟨v,g1,g2,g3,?_⟩
   unfold fV at *
   rw[xT]
   cases hc:ko ex i with
   | none=>
    rw[hc]at g4
    exact g4.mono hF
   | some c=>
    rw[hc]at g4
    simp only[aA.within,List.all_eq_true]at hl
    exact⟨ar.to h c v (hl _ (EO hc)) (.inl hF) g4.1,by rw[gx c];exact g4.2.1,g4.2.2⟩
  ·exact hF.elim
mutual
theorem ar.back (hF:∀ b,G.F b→G'.F b) (hβ:∀ l,G'.β l=G.β (rn ρ l)):∀ (s:S) (u:Value),ar G w (s.ren ρ) u→ar G' w s u
 | .dead,u,hr=>by unfold ar;trivial
 | .t x,u,hr=>by simp only[S.ren]at hr;unfold ar at *;exact aO.mono hF (fun _ _ _=>rfl) x u hr
 | .rp x,u,hr=>by
  simp only[S.ren]at hr
  unfold ar at *
  obtain⟨b,off,v,h1,h2,h3,h4⟩:=hr
  exact⟨b,off,v,h1,hF b h2,aO.mono hF (fun _ _ _=>rfl) x v h3,h4⟩
 | .own l,u,hr=>by simp only[S.ren]at hr;unfold ar at *;exact⟨by rw[hr.1,hβ],hr.2⟩
 | .pt l p o,u,hr=>by
  simp only[S.ren]at hr
  unfold ar at *
  obtain⟨b,h1,h2⟩:=hr
  exact⟨b,by rw[hβ];exact h1,h2⟩
 | .cl s xs,u,hr=>by
  simp only[S.ren]at hr
  unfold ar at *
  obtain⟨x,cells,h1,h2,h3,h4⟩:=hr
  exact⟨x,cells,h1,ay.mono hF (fun _ _ _=>rfl) xs cells h2,h3,h4.mono hF (fun _ _ _=>rfl)⟩
 | .wn l p o n,u,hr=>by
  simp only[S.ren]at hr
  unfold ar at *
  rw[hβ]
  exact hr
 | .ag fs,u,hr=>by
  simp only[S.ren]at hr
  unfold ar at *
  obtain⟨cells,h1,h2⟩:=hr
  exact⟨cells,h1,aE.back hF hβ fs cells h2⟩
 | .tup fs,u,hr=>by
  simp only[S.ren]at hr
  unfold ar at *
  obtain⟨us,h1,h2⟩:=hr
  exact⟨us,h1,aD.back hF hβ fs us h2⟩
 | .fn f fs,u,hr=>by
  simp only[S.ren]at hr
  unfold ar at *
  obtain⟨us,h1,h2⟩:=hr
  exact⟨us,h1,aD.back hF hβ fs us h2⟩
 | .fb f fs,u,hr=>by
  simp only[S.ren]at hr
  unfold ar at *
  obtain⟨us,h1,h2⟩:=hr
  exact⟨us,h1,aD.back hF hβ fs us h2⟩
theorem aE.back (hF:∀ b,G.F b→G'.F b) (hβ:∀ l,G'.β l=G.β (rn ρ l)):∀ (fs:List S) (cs:List Value),aE G w (S.rens ρ fs) cs→aE G' w fs cs
 | [],cs,hr=>by simp only[S.rens]at hr;unfold aE at *;exact hr
 | x :: r,cs,hr=>by
  simp only[S.rens]at hr
  unfold aE at *
  obtain⟨v,cs',h1,h2,h3,h4,h5⟩:=hr
  exact⟨v,cs',h1,by rw[h2,gx x],h3,ar.back hF hβ x v h4,aE.back hF hβ r cs' h5⟩
theorem aD.back (hF:∀ b,G.F b→G'.F b) (hβ:∀ l,G'.β l=G.β (rn ρ l)):∀ (fs:List S) (us:List Value),aD G w (S.rens ρ fs) us→aD G' w fs us
 | [],us,hr=>by simp only[S.rens]at hr;unfold aD at *;exact hr
 | x :: r,us,hr=>by
  simp only[S.rens]at hr
  unfold aD at *
  obtain⟨v,us',h1,h4,h5⟩:=hr
  exact⟨v,us',h1,ar.back hF hβ x v h4,aD.back hF hβ r us' h5⟩
end
theorem bH.back (hF:∀ b,G.F b→G'.F b) (hβ:∀ l,G'.β l=G.β (rn ρ l)) {b:aA} {u:Value} (hr:bH G w (b.ren ρ) u):bH G' w b u:=by
 cases b with
 | list e s xs=>
  obtain⟨x,cap,cells,h1,h2,h3,h4⟩:=hr
  exact⟨x,cap,cells,h1,ay.mono hF (fun _ _ _=>rfl) _ _ h2,h3,h4⟩
 | box e c=>
  obtain⟨b,v,h4,h5,h6,h7,h8⟩:=hr
  exact⟨b,v,h4,ar.back hF hβ c v h5,by rw[h6,gx c],h7,h8⟩
 | rows e s us ex=>
  obtain⟨x,cap,cells,h1,h2⟩:=hr
  exact⟨x,cap,cells,h1,h2⟩
theorem ik.back (hF:∀ b,G.F b→G'.F b) (hβ:∀ l,G'.β l=G.β (rn ρ l)) {b:aA} {u:Value} {f:Nat→Prop} (hr:ik G w (b.ren ρ) u f):ik G' w b u f:=by
 cases b with
 | list e s xs=>exact hr
 | box e c=>exact hr
 | rows e s us ex=>
  obtain⟨cells,κ,h1,h2,h3,h4,h5,h6⟩:=hr
  refine⟨cells,κ,h1,fun i x hx=>?_,h3,h4,h5,h6⟩
  obtain⟨v,g1,g2,g3,g4⟩:=h2 i x hx
  refine⟨v,g1,g2,g3,?_⟩
  unfold fV at *
  rw[xT]at g4
  cases hc:ko ex i with
  | none=>
   rw[hc]at g4
   exact g4.mono hF
  | some c=>
   rw[hc]at g4
   exact⟨ar.back hF hβ c v g4.1,by rw[←gx (ρ:=ρ) c];exact g4.2.1,g4.2.2⟩
end
mutual
def im (ρ:List (Nat×Nat)) (h:Nat→Option aA) (bor:List Nat):S→S→Prop
 | .own l,.t (.sl s xs)=>l∈bor∧match h l with
  | some (.list _ s' ys)=>s'=s∧ys=xs
  | some (.rows _ s' us ex)=>s'=s∧ex=[]∧us.map U.toT=xs
  | _=>False
 | .wn l p o n,.t (.sl s xs)=>l∈bor∧s=1∧match h l with
  | some (.box _ c)=>match S.at c p with
   | some (o',.t (.agg ys))=>o'=o∧n≤ys.length∧(∀ y∈ys,y.width=1)∧ys.take n=xs
   | _=>False
  | _=>False
 | .t x,.t y=>Ie x y
 | .ag fs,.t (.agg xs)=>nq ρ h bor fs (xs.map S.t)
 | a,s=>a=s.ren ρ
def nq (ρ:List (Nat×Nat)) (h:Nat→Option aA) (bor:List Nat):List S→List S→Prop
 | [],[]=>True
 | a :: az,s :: ss=>s.width=a.width∧im ρ h bor a s∧nq ρ h bor az ss
 | _,_=>False
end
def fm (ρ:List (Nat×Nat)) (h:Nat→Option aA) (bor:List Nat):List S→List S→Prop
 | [],[]=>True
 | a :: az,s :: ss=>im ρ h bor a s∧fm ρ h bor az ss
 | _,_=>False
section
variable {G:Gh} {w:World} {ρ:List (Nat×Nat)} {h:Nat→Option aA} {bor:List Nat}
def oK (G:Gh) (ρ:List (Nat×Nat)) (bor:List Nat):Gh:=⟨fun b=>G.F b∨∃ l∈bor,G.ft l b,fun l=>G.β (rn ρ l),fun l=>G.φ (rn ρ l)⟩
mutual
theorem wF (hh:∀ l∈bor,∀ b,h l=some b→bH G w b (G.β l)∧ik G w b (G.β l) (G.φ l)):∀ (a s:S) (u:Value),im ρ h bor a s→ar G w a u→ar (oK G ρ bor) w s u
 | a,s,u,ha,hr=>by
  have hF:∀ b,G.F b→(oK G ρ bor).F b:=fun b hb=> .inl hb
  unfold im at ha
  split at ha
  ·rename_i l s xs
   obtain⟨h1,h2⟩:=ha
   split at h2
   ·rename_i e s' ys hl
    obtain⟨rfl,rfl⟩:=h2
    unfold ar at hr ⊢
    rw[hr.1]
    exact fJ (hh l h1 _ hl).1 hF (fun b hb=> .inr ⟨l,h1,.inl hb⟩)
   ·rename_i e s' us ex hl
    obtain⟨rfl,rfl,rfl⟩:=h2
    unfold ar at hr ⊢
    rw[hr.1]
    exact qI (hh l h1 _ hl).1 (hh l h1 _ hl).2 hF (fun b hb=> .inr ⟨l,h1,hb⟩)
   ·exact h2.elim
  ·rename_i l p o n s xs
   obtain⟨h1,rfl,h2⟩:=ha
   split at h2
   ·rename_i e c hl
    split at h2
    ·rename_i o' ys hat
     obtain⟨rfl,hn,hw,rfl⟩:=h2
     unfold ar at hr ⊢
     obtain⟨b,off,cap,g1,rfl,g3,g4,_,g6⟩:=hr
     obtain⟨v0,h7,h8,h9,h10⟩:=bH.at_spec (p:=p) (off:=o') (y:=.t (.agg ys)) (hh l h1 _ hl).1 (hh l h1 _ hl).2 (by simp only[aA.at];exact hat) g1
     unfold ar at h7
     unfold aO at h7
     obtain⟨cells,rfl,h11⟩:=h7
     have hcl:=ay.widths _ _ h11
     rw[bt hw,Nat.mul_one]at hcl
     have h12:=(ay.split n h11).1
     rw[aG hw hn,Nat.mul_one]at h12
     have hlen:(ys.take n).length=n:=by rw[List.length_take];omega
     unfold aO
     refine⟨some ⟨b,off,none⟩,cap,cells.take n,by rw[hlen],ay.mono hF (fun _ _ _=>rfl) _ _ h12,fun y hy=>hw y (List.mem_of_mem_take hy),?_⟩
     rw[hlen]
     refine⟨g3,g6,by rw[List.length_take];omega,(fun e=>by cases e),?_⟩
     by_cases h0:n=0
     ·exact .inl h0
     ·right
      obtain rfl:=g4 (.inl (by omega))
      refine⟨b,off,rfl,.inr ⟨l,h1,.inl g1⟩,fun j u hu=>?_⟩
      rw[List.getElem?_take]at hu
      split at hu
      ·exact h10 j u (by simpa [Value.cells] using hu)
      ·cases hu
    ·exact h2.elim
   ·exact h2.elim
  ·rename_i x y
   unfold ar at hr ⊢
   exact aO.mono hF (fun _ _ _=>rfl) y u (o6 x y u ha hr)
  ·rename_i fs xs
   unfold ar at hr ⊢
   obtain⟨cells,h1,h2⟩:=hr
   have h3:=tS hh fs (xs.map S.t) cells ha h2
   unfold aO
   refine⟨cells,h1,?_⟩
   have:∀ {ys:List T} {cs:List Value},aE (oK G ρ bor) w (ys.map S.t) cs→ay (oK G ρ bor).F w ys cs:=by
    intro ys
    induction ys with
    | nil=>intro cs h;simp only[List.map_nil]at h;unfold aE at h;unfold ay;exact h
    | cons y ys ih=>
     intro cs h
     simp only[List.map_cons]at h
     unfold aE at h
     obtain⟨v,cs',h4,_,_,h5,h6⟩:=h
     unfold ay
     unfold ar at h5
     exact⟨v,cs',h4,h5,ih h6⟩
   exact this h3
  ·subst ha
   exact ar.back hF (fun _=>rfl) s u hr
theorem tS (hh:∀ l∈bor,∀ b,h l=some b→bH G w b (G.β l)∧ik G w b (G.β l) (G.φ l)):∀ (az ss:List S) (cs:List Value),nq ρ h bor az ss→aE G w az cs→aE (oK G ρ bor) w ss cs
 | [],ss,cs,ha,hr=>by
  cases ss with
  | nil=>unfold aE at *;exact hr
  | cons s ss=>unfold nq at ha;exact ha.elim
 | a :: az,ss,cs,ha,hr=>by
  cases ss with
  | nil=>unfold nq at ha;exact ha.elim
  | cons s ss=>
   unfold nq at ha
   unfold aE at hr ⊢
   obtain⟨v,cs',h1,h2,h3,h4,h5⟩:=hr
   exact⟨v,cs',h1,by rw[h2,ha.1],h3,wF hh a s v ha.2.1 h4,tS hh az ss cs' ha.2.2 h5⟩
end
theorem tq (hh:∀ l∈bor,∀ b,h l=some b→bH G w b (G.β l)∧ik G w b (G.β l) (G.φ l)):∀ (az ss:List S) (us:List Value),fm ρ h bor az ss→aD G w az us→aD (oK G ρ bor) w ss us
 | [],ss,us,ha,hr=>by
  cases ss with
  | nil=>unfold aD at *;exact hr
  | cons s ss=>unfold fm at ha;exact ha.elim
 | a :: az,ss,us,ha,hr=>by
  cases ss with
  | nil=>unfold fm at ha;exact ha.elim
  | cons s ss=>
   unfold fm at ha
   unfold aD at hr ⊢
   obtain⟨v,us',h1,h4,h5⟩:=hr
   exact⟨v,us',h1,wF hh a s v ha.1 h4,tq hh az ss us' ha.2 h5⟩
end
def m0 (ρ:List (Nat×Nat)) (h:Nat→Option aA):List (Nat×aA)→Prop
 | []=>True
 | (l,b) :: r=>h (rn ρ l)=some (b.ren ρ)∧m0 ρ h r
def pV (h:Nat→Option aA):List Nat→Prop
 | []=>True
 | l :: r=>(h l).isSome=true∧pV h r
def nU (pre post:List (Nat×aA)):List Nat:=(post.map (·.1)).filter fun l=>!(pre.map (·.1)).contains l
def rB (ρ:List (Nat×Nat)):List (Nat×aA)→List (Nat×Option aA)
 | []=>[]
 | (l,b) :: r=>(rn ρ l,some (b.ren ρ)) :: rB ρ r
def wP (pre post:List (Nat×aA)):List Nat:=(pre.map (·.1)).filter fun l=>!(post.map (·.1)).contains l
def qv (pre post:List (Nat×aA)):List Nat:=post.map (·.1)++wP pre post
def NR:List Nat→List (Nat×Option aA)
 | []=>[]
 | l :: r=>(l,none) :: NR r
def eQ (ρ:List (Nat×Nat)) (bor fr:List Nat) (pre post:List (Nat×aA)) (r:S):aM:=⟨r.ren ρ,rB ρ post++NR ((wP pre post).map (rn ρ)++fr),(pre.map fun q=>rn ρ q.1)++(bor++fr),(nU pre post).map (rn ρ)⟩
theorem zf {h:Nat→Option aA} {k:Nat}:∀ {fr:List Nat} {x:aA},dK (NR fr) h k=some x→k∉fr∧h k=some x
 | [],x,e=>⟨by simp,e⟩
 | l :: r,x,e=>by
  simp only[NR,dK,cY]at e
  split at e
  ·cases e
  ·obtain⟨h1,h2⟩:=zf e
   exact⟨by simp_all,h2⟩
def eD (ρ:List (Nat×Nat)) (bor:List Nat) (pre post:List (Nat×aA)) (r:S):Bool:=
 di ((qv pre post).map (rn ρ)) && (pre.all fun q=>decide (q.1 < 100)) && ((nU pre post).all fun l=>decide (100≤rn ρ l)) &&
 (bor.all fun l=>!((qv pre post).map (rn ρ)).contains l) && r.within (post.map (·.1)) && (post.all fun q=>q.2.within (post.map (·.1)))
theorem BT {ρ:List (Nat×Nat)} {h:Nat→Option aA}:∀ {pre:List (Nat×aA)} {l:Nat} {b:aA},m0 ρ h pre→bc pre l=some b→h (rn ρ l)=some (b.ren ρ)
 | [],l,b,_,e=>by simp[bc]at e
 | (k,b0) :: r,l,b,hp,e=>by
  simp only[bc]at e
  split at e
  ·subst_vars;simp at e;subst e;exact hp.1
  ·exact BT hp.2 e
theorem ke {h:Nat→Option aA}:∀ {bor:List Nat} {l:Nat},pV h bor→l∈bor→∃ b,h l=some b
 | [],l,_,e=>by cases e
 | k :: r,l,hb,e=>by
  rcases List.mem_cons.1 e with rfl|e
  ·exact Option.isSome_iff_exists.1 hb.1
  ·exact ke hb.2 e
theorem jl {l:Nat} {b:aA}:∀ {hs:List (Nat×aA)},bc hs l=some b→(l,b)∈hs
 | [],e=>by simp[bc]at e
 | (k,b0) :: r,e=>by
  simp only[bc]at e
  split at e
  ·subst_vars;simp at e;subst e;simp
  ·simp[jl e]
theorem zQ {l:Nat}:∀ {hs:List (Nat×aA)},l∈hs.map (·.1)→∃ b,bc hs l=some b
 | [],e=>by simp at e
 | (k,b0) :: r,e=>by
  simp only[bc]
  by_cases h:l=k
  ·rw[if_pos h];exact⟨b0,rfl⟩
  ·rw[if_neg h]
   simp only[List.map_cons,List.mem_cons]at e
   exact zQ (e.resolve_left h)
theorem w7 {α:Type} {f:α→Nat}:∀ {l:List α},di (l.map f)=true→∀ {x y:α},x∈l→y∈l→f x=f y→x=y
 | [],_,x,y,hx,_,_=>by cases hx
 | a :: r,h,x,y,hx,hy,e=>by
  simp only[List.map_cons,di,Bool.and_eq_true,Bool.not_eq_true',List.contains_eq_mem,decide_eq_false_iff_not]at h
  rcases List.mem_cons.1 hx with hx1|hx1<;>rcases List.mem_cons.1 hy with hy1|hy1
  ·rw[hx1,hy1]
  ·exact (h.1 (by rw[←hx1,e];exact List.mem_map_of_mem hy1)).elim
  ·exact (h.1 (by rw[←hy1,←e];exact List.mem_map_of_mem hx1)).elim
  ·exact w7 h.2 hx1 hy1 e
theorem xI {ρ:List (Nat×Nat)} {h:Nat→Option aA} {k:Nat}:∀ {post:List (Nat×aA)},di (post.map fun q=>rn ρ q.1)=true→
  (∃ l b,bc post l=some b∧rn ρ l=k∧dK (rB ρ post) h k=some (b.ren ρ))∨((∀ q∈post,rn ρ q.1≠k)∧dK (rB ρ post) h k=h k)
 | [],_=> .inr ⟨by simp,rfl⟩
 | (l,b) :: r,hn=>by
  have hn':=hn
  simp only[List.map_cons,di,Bool.and_eq_true,Bool.not_eq_true',List.contains_eq_mem,decide_eq_false_iff_not]at hn'
  simp only[rB,dK,cY]
  by_cases e:k=rn ρ l
  ·subst e
   rw[if_pos rfl]
   exact .inl ⟨l,b,by simp[bc],rfl,rfl⟩
  ·rw[if_neg e]
   rcases xI (k:=k) (h:=h) hn'.2 with ⟨l',b',h1,h2,h3⟩|⟨h1,h2⟩
   ·refine .inl ⟨l',b',?_,h2,h3⟩
    simp only[bc]
    rw[if_neg ?_]
    ·exact h1
    ·rintro rfl;exact e h2.symm
   ·refine .inr ⟨?_,h2⟩
    intro q hq
    rcases List.mem_cons.1 hq with rfl|hq
    ·exact fun h=>e h.symm
    ·exact h1 q hq
theorem qV:∀ {a b:List Nat},di (a++b)=true→di a=true
 | [],b,_=>rfl
 | x :: a,b,h=>by
  simp only[List.cons_append,di,Bool.and_eq_true,Bool.not_eq_true',List.contains_eq_mem,decide_eq_false_iff_not,List.mem_append]at h ⊢
  exact⟨fun hx=>h.1 (.inl hx),qV h.2⟩
def N4 (C:List Value→World→(Ending→World→Prop)→Prop) (ss:List S) (pre:List (Nat×aA)) (r:S) (post:List (Nat×aA)):Prop:=
 ∀ (G:Gh) (w:World) (us:List Value),bn G w (bc pre)→aD G w ss us→
  C us w fun e w'=>∃ v G',e = .returned v∧lh w G (l6 G pre) G' w' (bc post)∧bn G' w' (bc post)∧ar G' w' r v
def r8 (C:List Value→World→(Ending→World→Prop)→Prop) (az:List S) (h:Nat→Option aA) (E:aM):Prop:=
 ∀ (G:Gh) (h':Nat→Option aA) (w:World) (us:List Value),bn G w h'→aD G w az us→(∀ l∈E.fp,h' l=h l)→(∀ l∈E.nw,h' l=none∧∀ k b,h' k=some b→b.free l=true)→
  C us w fun e w'=>∃ v G',e = .returned v∧Ext G w h' G' w' (dK E.u h') E.nw∧ar G' w' E.r v
theorem r8.fn {C:List Value→World→(Ending→World→Prop)→Prop} (hmono:∀ us w (R R':Ending→World→Prop),C us w R→(∀ e w',R e w'→R' e w')→C us w R') {ss:List S} {pre post:List (Nat×aA)} {r:S} (hfn:N4 C ss pre r post) (ρ:List (Nat×Nat)) (bor fr:List Nat) {az:List S} {h:Nat→Option aA}
  (hchk:eD ρ (bor++fr) pre post r=true) (hargs:fm ρ h (bor++fr) az ss) (hpre:m0 ρ h pre) (hbor:pV h (bor++fr)) (hflat:bor=[]∨(dQ r∧ng post)):r8 C az h (eQ ρ bor fr pre post r)∧∀ l∈(eQ ρ bor fr pre post r).nw,100≤l:=by
 simp only[eD,Bool.and_eq_true,List.all_eq_true,decide_eq_true_eq,Bool.not_eq_true',List.contains_eq_mem,decide_eq_false_iff_not]at hchk
 obtain⟨⟨⟨⟨⟨hnd,hpp⟩,hnew⟩,hbo⟩,hrw⟩,hpw⟩:=hchk
 refine⟨?_,?_⟩
 ·intro G h' w us hh hr hfp hnw
  have hp':∀ l b,bc pre l=some b→h' (rn ρ l)=some (b.ren ρ):=by
   intro l b hl
   rw[hfp (rn ρ l) (List.mem_append.2 (.inl (List.mem_map.2 ⟨(l,b),jl hl,rfl⟩)))]
   exact BT hpre hl
  have hb':∀ l∈bor++fr,h' l=h l:=fun l hl=>hfp l (List.mem_append.2 (.inr hl))
  have hnd':di (post.map fun q=>rn ρ q.1)=true:=by
   have h1:=hnd
   unfold qv at h1
   rw[List.map_append,List.map_map]at h1
   exact qV h1
  have hpm:∀ {x:Nat},x∈post.map (·.1)→x∈qv pre post:=fun hx=>List.mem_append.2 (.inl hx)
  have hpl:∀ l b,bc pre l=some b→l∈qv pre post∧l < 100:=fun l b hl=>by
   refine⟨?_,hpp (l,b) (jl hl)⟩
   by_cases hm:l∈post.map (·.1)
   ·exact hpm hm
   ·exact List.mem_append.2 (.inr (List.mem_filter.2 ⟨List.mem_map.2 ⟨(l,b),jl hl,rfl⟩,by simpa using hm⟩))
  have hbp:∀ l∈bor++fr,∀ k b,bc pre k=some b→rn ρ k≠l:=by
   intro l hl k b hk e
   exact hbo l hl (List.mem_map.2 ⟨k,(hpl k b hk).1,e⟩)
  have hinj:∀ {x y:Nat},x∈qv pre post→y∈qv pre post→rn ρ x=rn ρ y→x=y:=fun hx hy e=>w7 hnd hx hy e
  have hcal:bn (oK G ρ (bor++fr)) w (bc pre):=by
   refine⟨?_,?_,?_,?_,?_⟩
   ·intro l b hl
    exact bH.back (G':=oK G ρ (bor++fr)) (fun b hb=>Or.inl hb) (fun _=>rfl) (hh.rep _ _ (hp' l b hl))
   ·intro l b hl
    exact ik.back (G':=oK G ρ (bor++fr)) (fun b hb=>Or.inl hb) (fun _=>rfl) (hh.inn _ _ (hp' l b hl))
   ·intro l b k hl hk hF
    rcases hF with hF|⟨l2,h2,h3⟩
    ·exact hh.sep _ _ k (hp' l b hl) hk hF
    ·obtain⟨b2,h4⟩:=ke hbor h2
     exact hbp l2 h2 l b hl (hh.inj _ _ _ _ k (hp' l b hl) (by rw[hb' l2 h2];exact h4) hk h3)
   ·intro l l' b b' k hl hl' hk hk'
    exact hinj (hpl l b hl).1 (hpl l' b' hl').1 (hh.inj _ _ _ _ k (hp' l b hl) (hp' l' b' hl') hk hk')
   ·intro b hb
    rcases hb with hb|⟨l,h2,h3⟩
    ·exact hh.fb b hb
    ·obtain⟨b2,h4⟩:=ke hbor h2
     exact hh.lt (l:=l) (b:=b2) (by rw[hb' l h2];exact h4) h3
  have hus:aD (oK G ρ (bor++fr)) w ss us:=tq (fun l hl b hb=>⟨hh.rep l b (by rw[hb' l hl];exact hb),hh.inn l b (by rw[hb' l hl];exact hb)⟩) az ss us hargs hr
  refine hmono _ _ _ _ (hfn (oK G ρ (bor++fr)) w us hcal hus) ?_
  rintro e w' ⟨v,G1,rfl,hfr,hh1,hr1⟩
  let β':Nat→Value:=fun l=>match (nU pre post).find? (fun x=>rn ρ x == l) with
   | some x=>G1.β x
   | none=>G.β l
  let φ':Nat→Nat→Prop:=fun l=>match (post.map (·.1)).find? (fun x=>rn ρ x == l) with
   | some x=>G1.φ x
   | none=>G.φ l
  let G':Gh:=⟨fun b=>G1.F b∧∀ l∈bor,¬ G.ft l b,β',φ'⟩
  have hφpost:∀ x,x∈post.map (·.1)→φ' (rn ρ x)=G1.φ x:=by
   intro x hx
   show (match (post.map (·.1)).find? (fun y=>rn ρ y == rn ρ x) with|some y=>G1.φ y|none=>G.φ (rn ρ x))=G1.φ x
   cases hf:(post.map (·.1)).find? (fun y=>rn ρ y == rn ρ x) with
   | none=>
    have:=List.find?_eq_none.1 hf x hx
    simp at this
   | some y=>
    have h1:=List.find?_some hf
    have h2:=List.mem_of_find?_eq_some hf
    simp at h1
    have:=hinj (hpm h2) (hpm hx) h1
    subst this
    rfl
  have hφother:∀ l,(∀ q∈qv pre post,rn ρ q≠l)→φ' l=G.φ l:=by
   intro l hl
   show (match (post.map (·.1)).find? (fun x=>rn ρ x == l) with|some x=>G1.φ x|none=>G.φ l)=G.φ l
   cases hf:(post.map (·.1)).find? (fun x=>rn ρ x == l) with
   | none=>rfl
   | some x=>
    have h1:=List.find?_some hf
    have h2:=List.mem_of_find?_eq_some hf
    simp at h1
    exact (hl x (hpm h2) h1).elim
  have hnewmem:∀ x,x∈nU pre post→x∈post.map (·.1)∧x∉pre.map (·.1):=by
   intro x hx
   have:=List.mem_filter.1 hx
   refine⟨this.1,?_⟩
   simpa using this.2
  have hβnew:∀ l,l∉(nU pre post).map (rn ρ)→β' l=G.β l:=by
   intro l hl
   show (match (nU pre post).find? (fun x=>rn ρ x == l) with|some x=>G1.β x|none=>G.β l)=G.β l
   cases hf:(nU pre post).find? (fun x=>rn ρ x == l) with
   | none=>rfl
   | some x=>
    have h1:=List.find?_some hf
    have h2:=List.mem_of_find?_eq_some hf
    simp at h1
    exact (hl (List.mem_map.2 ⟨x,h2,h1⟩)).elim
  have hβpost:∀ x,x∈post.map (·.1)→β' (rn ρ x)=G1.β x:=by
   intro x hx
   by_cases hxp:x∈pre.map (·.1)
   ·rw[hβnew]
    ·obtain⟨b,hb⟩:=zQ hxp
     exact (hfr.same x (hpl x b hb).2).symm
    ·intro hm
     obtain⟨y,hy,hy2⟩:=List.mem_map.1 hm
     have:=hinj (hpm (hnewmem y hy).1) (hpm hx) hy2
     subst this
     exact (hnewmem y hy).2 hxp
   ·have hxn:x∈nU pre post:=List.mem_filter.2 ⟨hx,by simpa using hxp⟩
    show (match (nU pre post).find? (fun y=>rn ρ y == rn ρ x) with|some y=>G1.β y|none=>G.β (rn ρ x))=G1.β x
    cases hf:(nU pre post).find? (fun y=>rn ρ y == rn ρ x) with
    | none=>
     have:=List.find?_eq_none.1 hf x hxn
     simp at this
    | some y=>
     have h1:=List.find?_some hf
     have h2:=List.mem_of_find?_eq_some hf
     simp at h1
     have:=hinj (hpm (hnewmem y h2).1) (hpm hx) h1
     subst this
     rfl
  have hto:To G1 G' ρ (post.map (·.1)):=⟨fun l hl=>hβpost l (by simpa using hl)⟩
  have hFto:bor=[]→∀ b,G1.F b→G'.F b:=by
   intro hb b hF
   exact⟨hF,by rw[hb];simp⟩
  have hownA:∀ b,l6 (oK G ρ (bor++fr)) pre b→∃ l x,h' l=some x∧G.ft l b∧∃ l0,bc pre l0=some (Classical.choice ⟨x⟩)∨rn ρ l0=l:=by
   rintro b ⟨l,x,h1,h2⟩
   exact⟨rn ρ l,_,hp' l x h1,h2,l,.inr rfl⟩
  have hownA':∀ b,l6 (oK G ρ (bor++fr)) pre b→∃ l0 x0,bc pre l0=some x0∧G.ft (rn ρ l0) b:=by
   rintro b ⟨l,x,h1,h2⟩
   exact⟨l,x,h1,h2⟩
  have hkeep:iF G w G' w' ((nU pre post).map (rn ρ)):=by
   refine⟨fun b hb=>⟨hfr.fin b (.inl hb),fun l hl e=>?_⟩,fun b o hb=>bj (hfr.block b (hh.fb b hb) ?_),hβnew⟩
   ·have hl:=List.mem_append_left fr hl
    obtain⟨b2,h4⟩:=ke hbor hl
    exact hh.sep l b2 b (by rw[hb' l hl];exact h4) e hb
   ·intro hA
    obtain⟨l0,x0,h1,h2⟩:=hownA' b hA
    exact hh.sep _ _ b (hp' l0 x0 h1) h2 hb
  have hother:∀ {k:Nat} {x:aA} {b:Nat},(∀ q∈qv pre post,rn ρ q≠k)→h' k=some x→G.ft k b→¬ l6 (oK G ρ (bor++fr)) pre b:=by
   intro k x b hk hx hb hA
   obtain⟨l0,x0,h1,h2⟩:=hownA' b hA
   have:=hh.inj _ _ _ _ b hx (hp' l0 x0 h1) hb h2
   exact hk l0 (hpl l0 x0 h1).1 this.symm
  have hknew:∀ {k:Nat},(∀ q∈qv pre post,rn ρ q≠k)→k∉(nU pre post).map (rn ρ):=by
   intro k hk hm
   obtain⟨y,hy,hy2⟩:=List.mem_map.1 hm
   exact hk y (hpm (hnewmem y hy).1) hy2
  have cases':∀ k x,dK (rB ρ post++NR ((wP pre post).map (rn ρ)++fr)) h' k=some x→(∃ l b,bc post l=some b∧rn ρ l=k∧x=b.ren ρ)∨(((∀ q∈qv pre post,rn ρ q≠k)∧k∉fr)∧h' k=some x):=by
   intro k x hx
   rw[uc]at hx
   rcases xI (k:=k) (h:=dK (NR ((wP pre post).map (rn ρ)++fr)) h') hnd' with ⟨l,b,h1,h2,h3⟩|⟨h1,h2⟩
   ·rw[h3]at hx
    simp at hx
    exact .inl ⟨l,b,h1,h2,hx.symm⟩
   ·rw[h2]at hx
    have h3:=(zf hx).1
    simp only[List.mem_append,not_or]at h3
    refine .inr ⟨⟨?_,h3.2⟩,(zf hx).2⟩
    intro q hq
    rcases List.mem_append.1 hq with hq|hq
    ·obtain⟨p,hp,rfl⟩:=List.mem_map.1 hq
     exact h1 p hp
    ·exact fun e=>h3.1 (List.mem_map.2 ⟨q,hq,e⟩)
  have hmemp:∀ l b,bc post l=some b→l∈post.map (·.1):=fun l b hl=>List.mem_map.2 ⟨(l,b),jl hl,rfl⟩
  have hflatB:∀ l b,bc post l=some b→(∀ b,G1.F b→G'.F b)∨xq b:=by
   intro l b hl
   rcases hflat with h1|⟨_,h1⟩
   ·exact .inl (hFto h1)
   ·right
    have:∀ {hs:List (Nat×aA)},ng hs→bc hs l=some b→xq b:=by
     intro hs
     induction hs with
     | nil=>intro _ e;simp[bc]at e
     | cons q rs ih=>
      obtain⟨k,b0⟩:=q
      intro hf e
      simp only[bc]at e
      split at e
      ·simp at e;subst e;exact hf.1
      ·exact ih hf.2 e
    exact this h1 hl
  have ftp:∀ l b0,bc post l=some b0→∀ b,G'.ft (rn ρ l) b→G1.ft l b:=by
   intro l b0 h1 b hb
   have e1:β' (rn ρ l)=G1.β l:=hβpost l (hmemp l b0 h1)
   have e2:φ' (rn ρ l)=G1.φ l:=hφpost l (hmemp l b0 h1)
   rcases hb with hb|hb
   ·left
    have hb2:aW (β' (rn ρ l))=some b:=hb
    rw[e1]at hb2;exact hb2
   ·right
    have hb2:φ' (rn ρ l) b:=hb
    rw[e2]at hb2;exact hb2
  have fto:∀ k,(∀ q∈qv pre post,rn ρ q≠k)→∀ b,G'.ft k b→G.ft k b:=by
   intro k h1 b hb
   rcases hb with hb|hb
   ·left
    have hb2:aW (β' k)=some b:=hb
    rw[hβnew k (hknew h1)]at hb2;exact hb2
   ·right
    have hb2:φ' k b:=hb
    rw[hφother k h1]at hb2;exact hb2
  have hheap:bn G' w' (dK (rB ρ post++NR ((wP pre post).map (rn ρ)++fr)) h'):=by
   refine⟨?_,?_,?_,?_,fun b hb=>hh1.fb b hb.1⟩
   ·intro k x hx
    rcases cases' k x hx with ⟨l,b,h1,rfl,rfl⟩|⟨⟨h1,h1f⟩,h2⟩
    ·show bH G' w' (b.ren ρ) (β' (rn ρ l))
     rw[hβpost l (hmemp l b h1)]
     exact bH.to hto (hpw (l,b) (jl h1)) (hflatB l b h1) (hh1.rep l b h1)
    ·show bH G' w' x (β' k)
     rw[hβnew k (hknew h1)]
     refine bH.keep2 hkeep (fun l hl=>(hnw l hl).2 k x h2) ?_ (hh.rep k x h2)
     intro b hb
     exact hfr.block b ((hh.rep k x h2).lt hb) (hother h1 h2 (.inl hb))
   ·intro k x hx
    rcases cases' k x hx with ⟨l,b,h1,rfl,rfl⟩|⟨⟨h1,h1f⟩,h2⟩
    ·show ik G' w' (b.ren ρ) (β' (rn ρ l)) (φ' (rn ρ l))
     rw[hβpost l (hmemp l b h1),hφpost l (hmemp l b h1)]
     exact ik.to hto (hpw (l,b) (jl h1)) (hflatB l b h1) (hh1.inn l b h1)
    ·show ik G' w' x (β' k) (φ' k)
     rw[hβnew k (hknew h1),hφother k h1]
     refine ik.keep2 hkeep (fun l hl=>(hnw l hl).2 k x h2) ?_ (hh.inn k x h2)
     intro b hb
     exact hfr.block b (hh.lt h2 hb) (hother h1 h2 hb)
   ·intro k x b hx hb hF
    rcases cases' k x hx with ⟨l,b0,h1,rfl,rfl⟩|⟨⟨h1,h1f⟩,h2⟩
    ·exact hh1.sep l b0 b h1 (ftp l b0 h1 b hb) hF.1
    ·have hb2:=fto k h1 b hb
     rcases hfr.fout b hF.1 with h3|h3|h3
     ·rcases h3 with h3|⟨l2,h4,h5⟩
      ·exact hh.sep k x b h2 hb2 h3
      ·rcases List.mem_append.1 h4 with h6|h6
       ·exact hF.2 l2 h6 h5
       ·obtain⟨b2,h7⟩:=ke hbor h4
        have:=hh.inj k l2 _ _ b h2 (by rw[hb' l2 h4];exact h7) hb2 h5
        exact h1f (this ▸ h6)
     ·exact hother h1 h2 hb2 h3
     ·have:=hh.lt h2 hb2
      omega
   ·have cross:∀ k x l b0 b,(∀ q∈qv pre post,rn ρ q≠k)→h' k=some x→bc post l=some b0→G.ft k b→G1.ft l b→False:=by
     intro k x l b0 b h1 h2 h3 h4 h5
     rcases hfr.own l b0 b h3 h5 with h6|h6
     ·exact hother h1 h2 h4 h6
     ·have:=hh.lt h2 h4
      omega
    intro k k' x x' b hx hx' hb hb'
    rcases cases' k x hx with ⟨l,b0,h1,rfl,rfl⟩|⟨⟨h1,h1f⟩,h2⟩<;>rcases cases' k' x' hx' with ⟨l',b0',h1',rfl,rfl⟩|⟨⟨h1',h1f'⟩,h2'⟩
    ·rw[hh1.inj l l' b0 b0' b h1 h1' (ftp l b0 h1 b hb) (ftp l' b0' h1' b hb')]
    ·exact (cross k' x' l b0 b h1' h2' h1 (fto k' h1' b hb') (ftp l b0 h1 b hb)).elim
    ·exact (cross k x l' b0' b h1 h2 h1' (fto k h1 b hb) (ftp l' b0' h1' b hb')).elim
    ·exact hh.inj k k' x x' b h2 h2' (fto k h1 b hb) (fto k' h1' b hb')
  refine⟨v,G',rfl,⟨hkeep,hheap,hfr.os,hfr.tape,hfr.output,hfr.size,?_,?_,?_⟩,?_⟩
  ·intro b hb hno
   refine hfr.block b hb ?_
   intro hA
   obtain⟨l0,x0,h1,h2⟩:=hownA' b hA
   exact hno _ _ (hp' l0 x0 h1) h2
  ·intro k x b hx hb
   rcases cases' k x hx with ⟨l,b0,h1,rfl,rfl⟩|⟨⟨h1,h1f⟩,h2⟩
   ·rcases hfr.own l b0 b h1 (ftp l b0 h1 b hb) with h3|h3
    ·obtain⟨l0,x0,h4,h5⟩:=hownA' b h3
     exact .inl ⟨_,_,hp' l0 x0 h4,h5⟩
    ·exact .inr h3
   ·exact .inl ⟨k,x,h2,fto k h1 b hb⟩
  ·intro b hb
   rcases hfr.fout b hb.1 with h3|h3|h3
   ·rcases h3 with h3|⟨l2,h4,h5⟩
    ·exact .inl h3
    ·rcases List.mem_append.1 h4 with h6|h6
     ·exact (hb.2 l2 h6 h5).elim
     ·obtain⟨b2,h7⟩:=ke hbor h4
      exact .inr (.inl ⟨l2,b2,by rw[hb' l2 h4];exact h7,h5⟩)
   ·obtain⟨l0,x0,h4,h5⟩:=hownA' b h3
    exact .inr (.inl ⟨_,_,hp' l0 x0 h4,h5⟩)
   ·exact .inr (.inr h3)
  ·exact ar.to hto r v hrw (hflat.imp (fun h=>hFto h) fun h=>h.1) hr1
 ·intro l hl
  obtain⟨x,hx,rfl⟩:=List.mem_map.1 hl
  exact hnew x hx
theorem aY.fn {P:Program} {f:FuncId} {ss:List S} {pre post:List (Nat×aA)} {r:S} (hfn:aj P f ss pre r post) (ρ:List (Nat×Nat)) (bor fr:List Nat) {az:List S} {h:Nat→Option aA} {d:Nat} {K:aM→Prop}
  (hchk:eD ρ (bor++fr) pre post r=true) (hargs:fm ρ h (bor++fr) az ss) (hpre:m0 ρ h pre) (hbor:pV h (bor++fr)) (hflat:bor=[]∨(dQ r∧ng post)) (hK:K (eQ ρ bor fr pre post r)):aY P f az h d K:=by
 obtain⟨h1,h2⟩:=r8.fn (C:=fun us w R=>Calls P f us.toArray w R) (fun us w R R' h hR=>Calls.mono h hR) hfn ρ bor fr hchk hargs hpre hbor hflat
 exact⟨_,h1,h2,hK⟩
end Go.Proofs.YtocndodilpimnaaGreat.Sy
