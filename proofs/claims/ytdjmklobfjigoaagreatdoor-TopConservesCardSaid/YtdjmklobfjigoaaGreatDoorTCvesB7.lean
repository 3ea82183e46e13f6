import Derived.Test.YtdjmklobfjigoaaGreatDoorTCvesB6
import Derived.Scope
import Derived.RangeFuncNested
set_option maxRecDepth 100000
set_option maxHeartbeats 16000000
set_option linter.unusedVariables false
set_option linter.unusedSimpArgs false
namespace Go.Proofs.YtdjmklobfjigoaaGreatDoor.Sy
open Go.RowKit
def lab (o:Oper):Nat:=100+(match o.dst with|some t=>t|none=>0)
def nwOk (σ:St):List Nat→Bool
 | []=>true
 | l :: r=>allFreeS l σ.g && allFreeB l σ.h && nwOk σ r
def KN (σ:St) (dst:Option Tmp) (acc:List (Option Eff)) (rest:St→List (Option Eff)→Prop) (E:Eff):Prop:=nwOk σ E.nw=true∧rest ⟨putS dst E.r σ.g,updB E.u σ.h⟩ (some E :: acc)
def gslot (all:List Oper) (j:Nat):Option Tmp:=match all[j]? with
 | some o=>o.dst
 | none=>none
def opsK (P:Program) (all:List Oper) (K:St→List (Option Eff)→Prop):List Oper→St→List (Option Eff)→Prop
 | [],σ,acc=>K σ acc
 | o :: r,σ,acc=>match o.guard with
  | none=>opK P o.op (lab o) (rdS (lkS σ.g)) (lkB σ.h) (KN σ o.dst acc (opsK P all K r))
  | some (
      j,b)=>match gslot all j with
   | some t=>match lkS σ.g t with
    | .t (.lit (.bool c))=>if c=b then opK P o.op (lab o) (rdS (lkS ((t,.t (.bool b)) :: σ.g))) (lkB σ.h) (KN ⟨(t,.t (.bool b)) :: σ.g,σ.h⟩ o.dst acc (opsK P all K r))
      else opsK P all K r ⟨putS o.dst (.tup []) ((t,.t (.bool (!b))) :: σ.g),σ.h⟩ (none :: acc)
    | .tup []=>opsK P all K r ⟨putS o.dst (.tup []) σ.g,σ.h⟩ (none :: acc)
    | _=>False
   | none=>False
theorem lkS_again {g:List (Nat×S)} {t:Nat} {s:S} (h:lkS g t=s):lkS ((t,s) :: g)=lkS g:=by
 funext k
 simp only[lkS]
 split
 ·subst_vars;rfl
 ·rfl
theorem nwOk_spec {σ:St}:∀ {ls:List Nat},nwOk σ ls=true→∀ l∈ls,Fresh (lkS σ.g) (lkB σ.h) l
 | [],_,l,hl=>by cases hl
 | k :: r,h,l,hl=>by
  simp only[nwOk,Bool.and_eq_true]at h
  rcases List.mem_cons.1 hl with rfl|hl
  ·have:=allFreeB_spec h.1.2
   exact⟨this.1,allFreeS_spec h.1.1,this.2⟩
  ·exact nwOk_spec h.2 l hl
section
variable {N:Nat} {P:Program}
theorem opsK_spec {all:List Oper} {K:St→List (Option Eff)→Prop}:∀ {r:List Oper} {σ:St} {acc:List (Option Eff)},(∀ o∈r,∀ t,o.dst=some t→t < N)→opsK P all K r σ acc→
  ∃ es σ',Chain N P all r (lkS σ.g) (lkB σ.h) es (lkS σ'.g) (lkB σ'.h)∧K σ' (es.reverse++acc)
 | [],σ,acc,_,hk=>⟨[],σ,.nil _ _,hk⟩
 | o :: r,σ,acc,hN,hk=>by
  have hdst:∀ t,o.dst=some t→t < N:=hN o (by simp)
  have hlab:100≤lab o:=by unfold lab;omega
  have hrest:=fun o' ho'=>hN o' (List.mem_cons_of_mem _ ho')
  simp only[opsK]at hk
  have run:∀ σ2:St,lkS σ2.g=lkS σ.g→σ2.h=σ.h→(∀ E,Does N P o (rdS (lkS σ.g)) (lkB σ.h) E→Step1 N P all o (lkS σ.g) (lkB σ.h) (some E))→
    opK P o.op (lab o) (rdS (lkS σ2.g)) (lkB σ2.h) (KN σ2 o.dst acc (opsK P all K r))→∃ es σ',Chain N P all (o :: r) (lkS σ.g) (lkB σ.h) es (lkS σ'.g) (lkB σ'.h)∧K σ' (es.reverse++acc):=by
   intro σ2 hg hh hst hk
   obtain⟨E,h1,h2,h3,h4⟩:=opK_spec (N:=N) (o:=o) hk
   obtain⟨es,σ',h5,h6⟩:=opsK_spec hrest h4
   rw[lkS_putS,hg]at h5
   have hu:lkB (updB E.u σ2.h)=hupd E.u (lkB σ.h):=by funext k;rw[lkB_updB,hh]
   rw[hu]at h5
   rw[hg,hh]at h1
   refine⟨some E :: es,σ',.cons o r _ _ (some E) es _ _ (hst E h1) ?_ h5,by simpa using h6⟩
   intro l hl
   have hf:=nwOk_spec h3 l hl
   rw[hg,hh]at hf
   refine⟨?_,hf⟩
   rcases h2 l hl with h7|h7
   ·omega
   ·exact h7
  cases hg:o.guard with
  | none=>
   rw[hg]at hk
   exact run σ rfl rfl (fun E hE=>⟨hdst,by rw[hg];exact⟨E,rfl,hE⟩⟩) hk
  | some q=>
   obtain⟨j,b⟩:=q
   rw[hg]at hk
   simp only at hk
   unfold gslot at hk
   split at hk
   ·rename_i t0 t ht
    split at hk
    ·rename_i c hc
     obtain⟨oj,hoj,htj⟩:∃ oj,all[j]? = some oj∧oj.dst=some t:=by
      split at ht
      ·rename_i oj hoj
       exact⟨oj,hoj,ht⟩
      ·cases ht
     split at hk
     ·rename_i hcb
      subst hcb
      refine run ⟨(t,.t (.bool c)) :: σ.g,σ.h⟩ (lkS_again hc) rfl (fun E hE=>⟨hdst,?_⟩) hk
      rw[hg]
      exact⟨oj,t,some c,hoj,htj,hc,.inl ⟨rfl,E,rfl,hE⟩⟩
     ·rename_i hcb
      have hc':lkS σ.g t = .t (.bool (!b)):=by
       rw[hc];cases c<;>cases b<;>first|rfl|exact (hcb rfl).elim
      obtain⟨es,σ',h5,h6⟩:=opsK_spec hrest hk
      rw[lkS_putS,lkS_again hc']at h5
      refine⟨none :: es,σ',.cons o r _ _ none es _ _ ⟨hdst,?_⟩ (by simp[eff,deadE]) h5,by simpa using h6⟩
      rw[hg]
      exact⟨oj,t,some c,hoj,htj,hc,.inr ⟨fun h=>hcb (Option.some.inj h),rfl⟩⟩
    ·rename_i hc
     obtain⟨es,σ',h5,h6⟩:=opsK_spec hrest hk
     rw[lkS_putS]at h5
     obtain⟨oj,hoj,htj⟩:∃ oj,all[j]? = some oj∧oj.dst=some t:=by
      split at ht
      ·rename_i oj hoj
       exact⟨oj,hoj,ht⟩
      ·cases ht
     refine⟨none :: es,σ',.cons o r _ _ none es _ _ ⟨hdst,?_⟩ (by simp[eff,deadE]) h5,by simpa using h6⟩
     rw[hg]
     exact⟨oj,t,none,hoj,htj,hc,.inr ⟨by simp,rfl⟩⟩
    ·exact hk.elim
   ·exact hk.elim
end
def okOps (N:Nat) (ops:List Oper):Bool:=ops.all fun o=>match o.dst with|some t=>decide (t < N)|none=>true
def okCode (N:Nat):Code→Bool
 | .region _ ops _=>okOps N ops.toList
 | .seq a b=>okCode N a && okCode N b
 | .cond _ a b=>okCode N a && okCode N b
 | .block _ c=>okCode N c
 | .loop c=>okCode N c
 | .scope c=>okCode N c
 | _=>true
def CW (N:Nat) (P:Program) (c:Code) (Q:Exit→St→Prop) (σ:St):Prop:=
 P.follows .mixedOrders=true→okCode N c=true→∀ (W:World) (G0:Gh) (A:Nat→Prop) (a:Act) (w:World),Sat N W G0 A σ a w→c.wp P (fun e a' w'=>∃ σ',Q e σ'∧Sat N W G0 A σ' a' w') a w
def SeqQ (F:St→Prop) (Q:Exit→St→Prop) (e:Exit) (σ:St):Prop:=match e with
 | .normal=>F σ
 | e=>Q e σ
def BlockQ (id:Nat) (Q:Exit→St→Prop) (e:Exit) (σ:St):Prop:=match e with
 | .exit i=>if i=id then Q .normal σ else Q (.exit i) σ
 | e=>Q e σ
def ScopeQ (Q:Exit→St→Prop) (e:Exit) (σ:St):Prop:=match e with
 | .goto _=>False
 | e=>Q e σ
def PlainK (F:St→Prop) (σ:St) (acc:List (Option Eff)):Prop:=F σ
def nwsOk (σ:St):List (Option Eff)→Bool
 | []=>true
 | e :: r=>nwOk σ (eff e).nw && nwsOk σ r
def DrawChk (ops:List Oper) (σ0:St) (acc:List (Option Eff)):Prop:=(drawOk ops acc.reverse && nwsOk σ0 acc)=true
def DrawK (ops:List Oper) (σ0:St) (F:St→Prop) (σ:St) (acc:List (Option Eff)):Prop:=DrawChk ops σ0 acc∧F σ
def firstReg:Code→Option Nat
 | .region id _ _=>some id
 | .seq a _=>firstReg a
 | .block _ c=>firstReg c
 | .loop c=>firstReg c
 | .scope c=>firstReg c
 | .skip=>none
 | .cond _ _ _=>none
 | .exit _=>none
 | .ret=>none
 | .rangeFunc _ _ _ _=>none
 | .label _=>none
 | .goto _=>none
 | .refuse _=>none
def stops (l:List Nat) (c:Code):Bool:=match firstReg c with
 | some i=>l.contains i
 | none=>false
def nf (N:Nat) (P:Program) (stop:List Nat):Code→(Exit→St→Prop)→St→Prop
 | .skip,Q,σ=>Q .normal σ
 | .region id ops false,Q,σ=>opsK P ops.toList (PlainK (Q .normal)) ops.toList σ []
 | .region id ops true,Q,σ=>opsK P ops.toList (DrawK ops.toList σ (Q .normal)) ops.toList σ []
 | .seq a b,Q,σ=>if stops stop a=true then CW N P (.seq a b) Q σ else nf N P stop a (SeqQ (nf N P stop b Q) Q) σ
 | .cond c x y,Q,σ=>match rdS (lkS σ.g) c with
  | .t (.lit (.bool v))=>if v=true then nf N P stop x Q σ else nf N P stop y Q σ
  | _=>False
 | .block id c,Q,σ=>nf N P stop c (BlockQ id Q) σ
 | .exit id,Q,σ=>Q (.exit id) σ
 | .ret,Q,σ=>Q .ret σ
 | .loop c,Q,σ=>CW N P (.loop c) Q σ
 | .rangeFunc f ps a b,Q,σ=>CW N P (.rangeFunc f ps a b) Q σ
 | .scope c,Q,σ=>nf N P stop c (ScopeQ Q) σ
 | .label l,Q,σ=>Q .normal σ
 | .goto l,Q,σ=>CW N P (.goto l) Q σ
 | .refuse w,Q,σ=>CW N P (.refuse w) Q σ
def nf1 (N:Nat) (P:Program):Code→(Exit→St→Prop)→St→Prop
 | .skip,Q,σ=>Q .normal σ
 | .region _ ops false,Q,σ=>opsK P ops.toList (PlainK (Q .normal)) ops.toList σ []
 | .region _ ops true,Q,σ=>opsK P ops.toList (DrawK ops.toList σ (Q .normal)) ops.toList σ []
 | .seq a b,Q,σ=>nf1 N P a (SeqQ (CW N P b Q) Q) σ
 | .cond c x y,Q,σ=>match rdS (lkS σ.g) c with
  | .t (.lit (.bool v))=>if v=true then CW N P x Q σ else CW N P y Q σ
  | _=>False
 | .block id c,Q,σ=>nf1 N P c (BlockQ id Q) σ
 | .exit id,Q,σ=>Q (.exit id) σ
 | .ret,Q,σ=>Q .ret σ
 | .loop c,Q,σ=>CW N P (.loop c) Q σ
 | .rangeFunc f ps a b,Q,σ=>CW N P (.rangeFunc f ps a b) Q σ
 | .scope c,Q,σ=>nf1 N P c (ScopeQ Q) σ
 | .label l,Q,σ=>Q .normal σ
 | .goto l,Q,σ=>CW N P (.goto l) Q σ
 | .refuse w,Q,σ=>CW N P (.refuse w) Q σ
def goes:Code→Bool
 | .skip=>true
 | .region _ _ _=>true
 | .seq a _=>goes a
 | .cond _ _ _=>true
 | .block _ c=>goes c
 | .exit _=>true
 | .ret=>true
 | .scope c=>goes c
 | .label _=>true
 | _=>false
section
variable {N:Nat} {P:Program} {Q Q':Exit→St→Prop}
theorem CW.mono {c:Code} {σ:St} (h:CW N P c Q σ) (hq:∀ e σ,Q e σ→Q' e σ):CW N P c Q' σ:=by
 intro hm hc W G0 A a w hs
 exact wp_mono (h hm hc W G0 A a w hs) fun e a w ⟨σ',h1,h2⟩=>⟨σ',hq e σ' h1,h2⟩
theorem CW.seq {x y:Code} {σ:St} (h:CW N P x (SeqQ (CW N P y Q) Q) σ):CW N P (.seq x y) Q σ:=by
 intro hm hc W G0 A a w hs
 simp only[okCode,Bool.and_eq_true]at hc
 refine wp_seq (wp_mono (h hm hc.1 W G0 A a w hs) ?_)
 rintro e a w ⟨σ',h1,h2⟩
 cases e<;>first|exact h1 hm hc.2 W G0 A a w h2|exact⟨σ',h1,h2⟩
theorem CW.scope {c:Code} {σ:St} (h:CW N P c (ScopeQ Q) σ):CW N P (.scope c) Q σ:=by
 intro hm hc W G0 A a w hs
 simp only[okCode]at hc
 refine wp_scope_straight (wp_mono (h hm hc W G0 A a w hs) ?_)
 rintro e a w ⟨σ',h1,h2⟩
 cases e<;>first|exact h1.elim|exact⟨σ',h1,h2⟩
theorem okOps_spec {ops:List Oper} (h:okOps N ops=true):∀ o∈ops,∀ t,o.dst=some t→t < N:=by
 intro o ho t ht
 unfold okOps at h
 rw[List.all_eq_true]at h
 have:=h o ho
 rw[ht]at this
 simpa using this
theorem okOps_get {ops:List Oper} (h:okOps N ops=true) {j:Nat} {o:Oper} {t:Nat} (hj:ops[j]? = some o) (ht:o.dst=some t):t < N:=okOps_spec h o (List.mem_of_getElem? hj) t ht
theorem CW.region {id:Nat} {ops:Array Oper} {σ:St} (h:opsK P ops.toList (PlainK (Q .normal)) ops.toList σ []):CW N P (.region id ops false) Q σ:=by
 intro hm hc W G0 A a w hs
 obtain⟨G,hs⟩:=hs
 simp only[okCode]at hc
 obtain⟨es,σ',h1,h2⟩:=opsK_spec (okOps_spec hc) h
 exact wp_region_chain (fun j oj t hj ht=>okOps_get hc (by simpa using hj) ht) h1 (fun G a w hs'=>⟨σ',h2,G,hs'⟩) hs
theorem nwsOk_spec {σ:St}:∀ {es:List (Option Eff)},nwsOk σ es=true→∀ e∈es,∀ l∈(eff e).nw,Fresh (lkS σ.g) (lkB σ.h) l
 | [],_,e,he=>by cases he
 | x :: r,h,e,he=>by
  simp only[nwsOk,Bool.and_eq_true]at h
  rcases List.mem_cons.1 he with rfl|he
  ·exact nwOk_spec h.1
  ·exact nwsOk_spec h.2 e he
theorem chain_nw {all:List Oper}:∀ {r:List Oper} {g g':Nat→S} {h h':Nat→Option Blk} {es:List (Option Eff)},Chain N P all r g h es g' h'→∀ e∈es,∀ l∈(eff e).nw,100≤l
 | [],_,_,_,_,_,hc,e,he=>by cases hc;cases he
 | o :: r,_,_,_,_,_,hc,e,he=>by
  cases hc with
  | cons _ _ _ _ e' es _ _ hst hn hr=>
   rcases List.mem_cons.1 he with rfl|he
   ·exact fun l hl=>(hn l hl).1
   ·exact chain_nw hr e he
theorem CW.draws {id:Nat} {ops:Array Oper} {σ:St} (h:opsK P ops.toList (DrawK ops.toList σ (Q .normal)) ops.toList σ []):CW N P (.region id ops true) Q σ:=by
 intro hm hc W G0 A a w hs
 obtain⟨G,hs⟩:=hs
 simp only[okCode]at hc
 obtain⟨es,σ',h1,h2,h3⟩:=opsK_spec (okOps_spec hc) h
 simp only[DrawChk,List.append_nil,List.reverse_reverse,Bool.and_eq_true]at h2
 have:=wp_region_draws (id:=id) (Q:=fun e a' w'=>∃ σ',Q e σ'∧Sat N W G0 A σ' a' w') hm (fun j oj t hj ht=>okOps_get hc hj ht) h1 h2.1
  (fun e he l hl=>⟨chain_nw h1 e he l hl,nwsOk_spec h2.2 e (by simpa using he) l hl⟩) (fun G a w hs'=>⟨σ',h3,G,hs'⟩) hs
 exact this
theorem CW.cond {c:Operand} {x y:Code} {σ:St} {v:Bool} (hc:rdS (lkS σ.g) c = .t (.lit (.bool v))) (h:if v=true then CW N P x Q σ else CW N P y Q σ):CW N P (.cond c x y) Q σ:=by
 intro hm hok W G0 A a w hs
 simp only[okCode,Bool.and_eq_true]at hok
 obtain⟨G,hs'⟩:=hs
 have h1:=hs'.eval c
 rw[hc]at h1
 unfold RepS at h1;unfold Rep at h1
 refine wp_cond h1.1 ?_
 cases v
 ·exact h hm hok.2 W G0 A a w ⟨G,hs'⟩
 ·exact h hm hok.1 W G0 A a w ⟨G,hs'⟩
theorem CW.block {id:Nat} {c:Code} {σ:St} (h:CW N P c (BlockQ id Q) σ):CW N P (.block id c) Q σ:=by
 intro hm hc W G0 A a w hs
 simp only[okCode]at hc
 refine wp_block (wp_mono (h hm hc W G0 A a w hs) ?_)
 rintro e a w ⟨σ',h1,h2⟩
 cases e with
 | exit i=>
  simp only[BlockQ]at h1
  simp only[Exit.inBlock]
  split
  ·rename_i e;rw[if_pos e]at h1;exact⟨σ',h1,h2⟩
  ·rename_i e;rw[if_neg e]at h1;exact⟨σ',h1,h2⟩
 | _=>exact⟨σ',h1,h2⟩
theorem nf_sound (stop:List Nat):∀ (c:Code) (Q:Exit→St→Prop) (σ:St),nf N P stop c Q σ→CW N P c Q σ
 | .skip,Q,σ,h=>fun _ _ W G0 A a w hs=>wp_skip ⟨σ,h,hs⟩
 | .region id ops false,Q,σ,h=>CW.region h
 | .region id ops true,Q,σ,h=>CW.draws h
 | .seq x y,Q,σ,h=>by
  simp only[nf]at h
  split at h
  ·exact h
  ·refine CW.seq ((nf_sound stop x _ σ h).mono ?_)
   intro e σ' hq
   cases e<;>first|exact nf_sound stop y Q σ' hq|exact hq
 | .cond c x y,Q,σ,h=>by
  simp only[nf]at h
  split at h
  ·rename_i v hc
   refine CW.cond hc ?_
   split at h
   ·rename_i hv;rw[if_pos hv];exact nf_sound stop x Q σ h
   ·rename_i hv;rw[if_neg hv];exact nf_sound stop y Q σ h
  ·exact h.elim
 | .block id c,Q,σ,h=>CW.block (nf_sound stop c _ σ h)
 | .exit id,Q,σ,h=>fun _ _ W G0 A a w hs=>wp_exit ⟨σ,h,hs⟩
 | .ret,Q,σ,h=>fun _ _ W G0 A a w hs=>wp_ret ⟨σ,h,hs⟩
 | .loop c,Q,σ,h=>h
 | .rangeFunc _ _ _ _,Q,σ,h=>h
 | .scope c,Q,σ,h=>CW.scope (nf_sound stop c _ σ h)
 | .label _,Q,σ,h=>fun _ _ W G0 A a w hs=>wp_label ⟨σ,h,hs⟩
 | .goto _,Q,σ,h=>h
 | .refuse _,Q,σ,h=>h
theorem nf1_sound':∀ (c:Code) (Q:Exit→St→Prop) (σ:St),nf1 N P c Q σ→CW N P c Q σ
 | .skip,Q,σ,h=>fun _ _ W G0 A a w hs=>wp_skip ⟨σ,h,hs⟩
 | .region id ops false,Q,σ,h=>CW.region h
 | .region id ops true,Q,σ,h=>CW.draws h
 | .seq x y,Q,σ,h=>by
  simp only[nf1]at h
  exact CW.seq (nf1_sound' x _ σ h)
 | .cond c x y,Q,σ,h=>by
  simp only[nf1]at h
  split at h
  ·rename_i v hc
   exact CW.cond hc h
  ·exact h.elim
 | .block id c,Q,σ,h=>CW.block (nf1_sound' c _ σ h)
 | .exit id,Q,σ,h=>fun _ _ W G0 A a w hs=>wp_exit ⟨σ,h,hs⟩
 | .ret,Q,σ,h=>fun _ _ W G0 A a w hs=>wp_ret ⟨σ,h,hs⟩
 | .loop c,Q,σ,h=>h
 | .rangeFunc _ _ _ _,Q,σ,h=>h
 | .scope c,Q,σ,h=>CW.scope (nf1_sound' c _ σ h)
 | .label _,Q,σ,h=>fun _ _ W G0 A a w hs=>wp_label ⟨σ,h,hs⟩
 | .goto _,Q,σ,h=>h
 | .refuse _,Q,σ,h=>h
theorem n1s {c:Code} {σ:St} (hg:goes c=true) (h:nf1 N P c Q σ):CW N P c Q σ:=nf1_sound' c Q σ h
end
end Go.Proofs.YtdjmklobfjigoaaGreatDoor.Sy
namespace Go.Proofs.YtdjmklobfjigoaaGreatDoor.Sy
open Go.RowKit
def U.toT:U→T
 | .t x=>x
 | .ow _ s xs=> .sl s xs
 | .fw fs _ s xs=> .agg (fs++[.sl s xs])
theorem RepU.toT {G:Gh} {w:World} {F:Nat→Prop} {u:U} {v:Value} {k:Option Nat} (h:RepU G w u v k) (hF:∀ b,G.F b→F b) (hk:∀ b,k=some b→F b):Rep F w u.toT v:=by
 cases u with
 | t x=>exact Rep.mono hF (fun _ _ _=>rfl) x v h.1
 | ow e s xs=>
  obtain⟨h1,rfl⟩:=h
  exact rep_of_list h1 hF hk
 | fw fs e s xs=>
  obtain⟨cs,v',rfl,h2,h3,rfl⟩:=h
  have h4:=rep_of_list h3 hF hk
  obtain⟨x,cap,cells,h5,_⟩:=h3
  show Rep F w (.agg (fs++[.sl s xs])) _
  unfold Rep
  refine⟨_,rfl,Reps.append (Reps.mono hF (fun _ _ _=>rfl) fs cs h2) ?_⟩
  unfold Reps
  exact⟨v',[],by rw[h5];rfl,h4,by unfold Reps;rfl⟩
theorem reps_rows {F:Nat→Prop} {w:World} {s:Nat}:∀ {xs:List T} {cells:List Value},cells.length=xs.length * s→(∀ i x,xs[i]? = some x→∃ v:Value,(∀ j c,v.cells.toList[j]? = some c→cells[i * s+j]? = some c)∧v.cells.size=s∧Rep F w x v)→Reps F w xs cells
 | [],cells,hl,_=>by
  have:cells=[]:=List.eq_nil_of_length_eq_zero (by simpa using hl)
  subst this;unfold Reps;rfl
 | x :: r,cells,hl,h=>by
  obtain⟨v,h1,h2,h3⟩:=h 0 x rfl
  simp only[List.length_cons,Nat.succ_mul]at hl
  have e1:cells.take s=v.cells.toList:=by
   apply List.ext_getElem?
   intro j
   by_cases hj:j < s
   ·rw[List.getElem?_take,if_pos hj]
    have hj2:j < v.cells.toList.length:=by rw[Array.length_toList];omega
    have:=h1 j _ (List.getElem?_eq_getElem hj2)
    rw[Nat.zero_mul,Nat.zero_add]at this
    rw[this,List.getElem?_eq_getElem hj2]
   ·rw[List.getElem?_eq_none (by rw[List.length_take];omega),List.getElem?_eq_none (by rw[Array.length_toList];omega)]
  have ih:=reps_rows (F:=F) (w:=w) (s:=s) (xs:=r) (cells:=cells.drop s) (by rw[List.length_drop];omega) (fun i y hy=>by
   obtain⟨u,g1,g2,g3⟩:=h (i+1) y (by simpa using hy)
   refine⟨u,fun j c hj=>?_,g2,g3⟩
   have:=g1 j c hj
   rw[List.getElem?_drop]
   rw[←this];congr 1;rw[Nat.succ_mul];omega)
  unfold Reps
  exact⟨v,cells.drop s,by rw[←e1,List.take_append_drop],h3,ih⟩
theorem rep_of_rows {G:Gh} {w:World} {F:Nat→Prop} {e s:Nat} {us:List U} {u:Value} {f:Nat→Prop} (h:RepB G w (.rows e s us []) u) (hi:Inn G w (.rows e s us []) u f) (hF:∀ b,G.F b→F b) (hu:∀ b,(hblk u=some b∨f b)→F b):Rep F w (.sl s (us.map U.toT)) u:=by
 obtain⟨x,cap,_,rfl,_⟩:=h
 obtain⟨cells,κ,h1,h2,h3,_,_,_⟩:=hi
 have key:∀ i x,(us.map U.toT)[i]? = some x→∃ v:Value,(∀ j c,v.cells.toList[j]? = some c→cells[i * s+j]? = some c)∧v.cells.size=s∧Rep F w x v:=by
  intro i x hx
  rw[List.getElem?_map]at hx
  obtain⟨g,hg,rfl⟩:=Option.map_eq_some_iff.1 hx
  obtain⟨v,h4,h5,_,h6⟩:=h2 i g hg
  exact⟨v,h4,h5,RepU.toT h6 hF (fun b hb=>hu b (.inr ((h3 b).2 ⟨i,hb⟩)))⟩
 unfold Rep
 refine⟨x,cap,cells,by rw[List.length_map],reps_rows (by rw[List.length_map];exact h1.1) key,?_,?_⟩
 ·intro y hy
  obtain⟨i,hi⟩:=List.getElem?_of_mem hy
  obtain⟨v,_,h5,h6⟩:=key i y hi
  rw[←Rep.width _ _ h6];exact h5
 ·rw[List.length_map]
  exact Seg.of_own h1 (fun b hb=>hu b (.inl hb))
def lkR:List (Nat×Option Nat)→Nat→Option (Option Nat)
 | [],_=>none
 | (l,r) :: q,k=>if k=l then some r else lkR q k
def offR (l:Nat):List (Nat×Option Nat)→Bool
 | []=>true
 | (_,r) :: q=>r != some l && offR l q
def rhoOk:List (Nat×Option Nat)→Bool
 | []=>true
 | (l,r) :: q=>(match r with|some k=>offR k q|none=>true) && (decide (100≤l) || r == some l) && rhoOk q
mutual
def wkT:T→T→Prop
 | .lit (.slice none 0 0),.sl _ []=>True
 | .agg xs,.agg ys=>wkTs xs ys
 | x,y=>x=y
def wkTs:List T→List T→Prop
 | [],[]=>True
 | x :: xs,y :: ys=>wkT x y∧wkTs xs ys
 | _,_=>False
end
mutual
theorem wkT_refl:∀ x:T,wkT x x
 | .lit v=>by unfold wkT;first|rfl|(split<;>simp_all)
 | .sl s xs=>by unfold wkT;first|rfl|(split<;>simp_all)
 | .agg xs=>by unfold wkT;exact wkTs_refl xs
theorem wkTs_refl:∀ xs:List T,wkTs xs xs
 | []=>by unfold wkTs;trivial
 | x :: r=>by unfold wkTs;exact⟨wkT_refl x,wkTs_refl r⟩
end
theorem wkT_same (x:T):wkT x x=True:=eq_true (wkT_refl x)
theorem wkTs_same (xs:List T):wkTs xs xs=True:=eq_true (wkTs_refl xs)
mutual
def wkS (ρ:List (Nat×Option Nat)) (h:Nat→Option Blk):S→S→Prop
 | _,.dead=>True
 | .t x,.t y=>wkT x y
 | .t (.lit (.slice none 0 0)),.own l'=>lkR ρ l'=some none
 | .own l,.own l'=>lkR ρ l'=some (some l)
 | .own l,.t (.sl s xs)=>offR l ρ=true∧match h l with
  | some (.list _ s' ys)=>s'=s∧ys=xs
  | some (.rows _ s' us ex)=>s'=s∧ex=[]∧us.map U.toT=xs
  | _=>False
 | .own l,.wn l' p o n=>lkR ρ l'=some (some l)∧o=0∧0 < n∧match h l with
  | some (.list _ _ ys)=>ys.length=n
  | _=>False
 | .pt l p o,.pt l' p' o'=>lkR ρ l'=some (some l)∧p'=p∧o'=o
 | .wn l p o n,.wn l' p' o' n'=>lkR ρ l'=some (some l)∧p'=p∧o'=o∧n'=n
 | .wn l p o n,.t (.sl s xs)=>offR l ρ=true∧o=0∧0 < n∧match h l with
  | some (.list _ s' ys)=>s'=s∧n≤ys.length∧ys.take n=xs
  | _=>False
 | .rp x,.rp y=>x=y
 | .ag fs,.ag gs=>wkSs ρ h fs gs
 | .ag fs,.t (.agg xs)=>wkSs ρ h fs (xs.map S.t)
 | .t (.agg xs),.ag gs=>wkXs ρ xs gs
 | .tup fs,.tup gs=>wkPs ρ h fs gs
 | .fn f fs,.fn f' gs=>f'=f∧wkPs ρ h fs gs
 | .fb f fs,.fb f' gs=>f'=f∧wkPs ρ h fs gs
 | _,_=>False
def wkSs (ρ:List (Nat×Option Nat)) (h:Nat→Option Blk):List S→List S→Prop
 | [],[]=>True
 | x :: xs,y :: ys=>y.width=x.width∧wkS ρ h x y∧wkSs ρ h xs ys
 | _,_=>False
def wkPs (ρ:List (Nat×Option Nat)) (h:Nat→Option Blk):List S→List S→Prop
 | [],[]=>True
 | x :: xs,y :: ys=>wkS ρ h x y∧wkPs ρ h xs ys
 | _,_=>False
def wkXs (ρ:List (Nat×Option Nat)):List T→List S→Prop
 | [],[]=>True
 | x :: xs,y :: ys=>(match x,y with|.lit (.slice none 0 0),.own l'=>lkR ρ l'=some none|x,.t y=>wkT x y|_,_=>False)∧y.width=x.width∧wkXs ρ xs ys
 | _,_=>False
end
def wkE (ρ:List (Nat×Option Nat)) (h:Nat→Option Blk):List (Nat×S)→List (Nat×S)→Prop
 | [],[]=>True
 | (i,c) :: r,(i',c') :: r'=>i'=i∧c'.width=c.width∧wkS ρ h c c'∧wkE ρ h r r'
 | _,_=>False
def wkB (ρ:List (Nat×Option Nat)) (h:Nat→Option Blk):Blk→Blk→Prop
 | .list e s xs,.list e' s' ys=>e'=e∧s'=s∧ys=xs
 | .rows e s us ex,.rows e' s' us' ex'=>e'=e∧s'=s∧us'=us∧wkE ρ h ex ex'
 | .box e c,.box e' c'=>e'=e∧c'.width=c.width∧c'.solid=true∧wkS ρ h c c'
 | _,_=>False
def wkG (ρ:List (Nat×Option Nat)) (h:Nat→Option Blk) (g:Nat→S):List (Nat×S)→Prop
 | []=>True
 | (t,s) :: r=>wkS ρ h (g t) s∧wkG ρ h g r
def wkH (ρ:List (Nat×Option Nat)) (h:Nat→Option Blk):List (Nat×Blk)→Prop
 | []=>True
 | (l',b') :: r=>(match lkR ρ l' with
  | some (some l)=>(match h l with|some b=>wkB ρ h b b'|none=>False)
  | some none=>(match b' with|.list _ _ []=>True|_=>False)
  | none=>False)∧wkH ρ h r
def Wk (ρ:List (Nat×Option Nat)) (σ σ':St):Prop:=rhoOk ρ=true∧wkG ρ (lkB σ.h) (lkS σ.g) σ'.g∧wkH ρ (lkB σ.h) σ'.h
def wkGh (ρ:List (Nat×Option Nat)) (h:Nat→Option Blk) (G:Gh):Gh where
 F:=fun b=>G.F b∨∃ l x,h l=some x∧offR l ρ=true∧G.ft l b
 β:=fun l=>match lkR ρ l with
  | some (some k)=>G.β k
  | some none=> .slice none 0 0
  | none=>G.β l
 φ:=fun l=>match lkR ρ l with
  | some (some k)=>G.φ k
  | some none=>noF
  | none=>G.φ l
section
variable {ρ:List (Nat×Option Nat)} {h:Nat→Option Blk} {G:Gh} {w:World}
theorem offR_spec {l:Nat}:∀ {ρ:List (Nat×Option Nat)},offR l ρ=true→∀ k,lkR ρ k≠some (some l)
 | [],_,k,e=>by simp[lkR]at e
 | (j,r) :: q,h,k,e=>by
  simp only[offR,Bool.and_eq_true,bne_iff_ne]at h
  simp only[lkR]at e
  split at e
  ·exact h.1 (by simpa using e)
  ·exact offR_spec h.2 k e
theorem rhoOk_inj:∀ {ρ:List (Nat×Option Nat)},rhoOk ρ=true→∀ {k k' l:Nat},lkR ρ k=some (some l)→lkR ρ k'=some (some l)→k=k'
 | [],_,k,k',l,e,_=>by simp[lkR]at e
 | (j,r) :: q,h,k,k',l,e,e'=>by
  simp only[rhoOk,Bool.and_eq_true]at h
  simp only[lkR]at e e'
  split at e<;>split at e'
  ·omega
  ·simp at e
   subst e
   exact (offR_spec h.1.1 k' e').elim
  ·simp at e'
   subst e'
   exact (offR_spec h.1.1 k e).elim
  ·exact rhoOk_inj h.2 e e'
theorem rhoOk_low:∀ {ρ:List (Nat×Option Nat)},rhoOk ρ=true→∀ {k:Nat} {r:Option Nat},lkR ρ k=some r→k < 100→r=some k
 | [],_,k,r,e,_=>by simp[lkR]at e
 | (j,r0) :: q,h,k,r,e,hk=>by
  simp only[rhoOk,Bool.and_eq_true,Bool.or_eq_true,decide_eq_true_eq,beq_iff_eq]at h
  simp only[lkR]at e
  split at e
  ·rename_i hj
   subst hj
   simp at e
   subst e
   rcases h.1.2 with h1|h1
   ·omega
   ·exact h1
  ·exact rhoOk_low h.2 e hk
theorem rep_nil {F:Nat→Prop} (s:Nat):Rep F w (.sl s []) (.slice none 0 0):=by
 unfold Rep
 exact⟨none,0,[],rfl,by unfold Reps;rfl,by simp,⟨Nat.le_refl _,by unfold maxLen;omega,by simp,fun _=>rfl,.inl rfl⟩⟩
mutual
theorem wkT_spec {F:Nat→Prop}:∀ (x y:T) (u:Value),wkT x y→Rep F w x u→Rep F w y u
 | x,y,u,hw,hr=>by
  unfold wkT at hw
  split at hw
  ·unfold Rep at hr;rw[hr.1];exact rep_nil _
  ·rename_i xs ys
   unfold Rep at hr ⊢
   obtain⟨cells,h1,h2⟩:=hr
   exact⟨cells,h1,wkTs_spec xs ys cells hw h2⟩
  ·subst hw;exact hr
theorem wkTs_spec {F:Nat→Prop}:∀ (xs ys:List T) (cs:List Value),wkTs xs ys→Reps F w xs cs→Reps F w ys cs
 | [],ys,cs,hw,hr=>by
  cases ys with
  | nil=>exact hr
  | cons y ys=>unfold wkTs at hw;exact hw.elim
 | x :: xs,ys,cs,hw,hr=>by
  cases ys with
  | nil=>unfold wkTs at hw;exact hw.elim
  | cons y ys=>
   unfold wkTs at hw
   unfold Reps at hr ⊢
   obtain⟨v,cs',h1,h2,h3⟩:=hr
   exact⟨v,cs',h1,wkT_spec x y v hw.1 h2,wkTs_spec xs ys cs' hw.2 h3⟩
end
theorem fsub_wk:∀ b,G.F b→(wkGh ρ h G).F b:=fun b hb=> .inl hb
mutual
theorem wkS_spec (hh:HeapOk G w h):∀ (a b:S) (u:Value),wkS ρ h a b→RepS G w a u→RepS (wkGh ρ h G) w b u
 | a,b,u,hw,hr=>by
  unfold wkS at hw
  split at hw
  ·unfold RepS;trivial
  ·rename_i x y
   unfold RepS at hr ⊢
   exact Rep.mono fsub_wk (fun _ _ _=>rfl) y u (wkT_spec x y u hw hr)
  ·rename_i l'
   unfold RepS at hr ⊢
   unfold Rep at hr
   refine⟨?_,none,0,0,hr.1⟩
   rw[hr.1]
   simp only[wkGh,hw]
  ·rename_i l l'
   unfold RepS at hr ⊢
   refine⟨?_,hr.2⟩
   rw[hr.1]
   simp only[wkGh,hw]
  ·rename_i l s xs
   obtain⟨h1,h2⟩:=hw
   split at h2
   ·rename_i e s' ys hl
    obtain⟨rfl,rfl⟩:=h2
    unfold RepS at hr ⊢
    rw[hr.1]
    exact rep_of_list (hh.rep l _ hl) fsub_wk (fun b hb=> .inr ⟨l,_,hl,h1,.inl hb⟩)
   ·rename_i e s' us ex hl
    obtain⟨rfl,rfl,rfl⟩:=h2
    unfold RepS at hr ⊢
    rw[hr.1]
    exact rep_of_rows (hh.rep l _ hl) (hh.inn l _ hl) fsub_wk (fun b hb=> .inr ⟨l,_,hl,h1,hb⟩)
   ·exact h2.elim
  ·rename_i l l' p o n
   obtain⟨h1,rfl,h0,h2⟩:=hw
   split at h2
   ·rename_i e s' ys hl
    unfold RepS at hr ⊢
    have hb:(wkGh ρ h G).β l'=G.β l:=by simp only[wkGh,h1]
    rw[hb,hr.1]
    obtain⟨x1,c1,cells,h7,_,_,h10⟩:=hh.rep l _ hl
    rw[h7]at h10 ⊢
    rcases h10.2 with ⟨hv,hn⟩|⟨g,cap',cur,hv,_,_,hc,_,_,_⟩
    ·omega
    ·cases hv
     refine⟨g,0,c1,rfl,by rw[h2],by omega,fun _=>rfl,fun x N cap e _=>?_,by assumption⟩
     cases e
     omega
   ·exact h2.elim
  ·rename_i l p o l' p' o'
   obtain⟨h1,rfl,rfl⟩:=hw
   unfold RepS at hr ⊢
   obtain⟨b,h2,h3⟩:=hr
   refine⟨b,?_,h3⟩
   simp only[wkGh,h1]
   exact h2
  ·rename_i l p o n l' p' o' n'
   obtain⟨h1,rfl,rfl,rfl⟩:=hw
   unfold RepS at hr ⊢
   have hb:(wkGh ρ h G).β l'=G.β l:=by simp only[wkGh,h1]
   rw[hb]
   exact hr
  ·rename_i l p o n s xs
   obtain⟨h1,rfl,h0,h2⟩:=hw
   split at h2
   ·rename_i e s' ys hl
    obtain⟨rfl,hn,rfl⟩:=h2
    unfold RepS at hr ⊢
    obtain⟨b,o',c,g1,g2,g3,g4,_,g6⟩:=hr
    obtain rfl:=g4 (.inr rfl)
    obtain⟨x1,c1,cells,h7,h8,h9,h10⟩:=hh.rep l _ hl
    have hx:x1=some ⟨b,0,none⟩:=by
     rw[h7]at g1 h10
     rcases h10.2 with ⟨hv,hn⟩|⟨g',cap',cur,hv,_⟩
     ·simp only[Value.slice.injEq]at hv
      rw[hv.1]at g1
      simp[hblk]at g1
     ·simp only[Value.slice.injEq]at hv
      rw[hv.1]at g1
      simp[hblk]at g1
      rw[hv.1,g1]
    subst hx
    rw[h7]at h10
    have hta:=(Reps.split n h8).1
    rw[widths_take_const h9 hn]at hta
    have hcl:=Reps.widths _ _ h8
    rw[widths_const h9]at hcl
    have hns:n * s'≤ys.length * s':=Nat.mul_le_mul_right _ hn
    unfold Rep
    refine⟨_,c,cells.take (n * s'),by rw[g2,List.length_take,Nat.min_eq_left hn],Reps.mono fsub_wk (fun _ _ _=>rfl) _ _ hta,fun y hy=>h9 y (List.mem_of_mem_take hy),?_⟩
    rw[List.length_take,Nat.min_eq_left hn]
    refine⟨g3,g6,by rw[List.length_take];omega,(fun e=>by cases e),.inr ⟨b,0,rfl,.inr ⟨l,_,hl,h1,.inl g1⟩,fun j u hu=>?_⟩⟩
    rw[List.getElem?_take]at hu
    split at hu
    ·rw[←addr_add];exact World.ownsRow.cells h10 (g:=b) rfl _ _ hu
    ·cases hu
   ·exact h2.elim
  ·rename_i x y
   subst hw
   unfold RepS at hr ⊢
   obtain⟨b,off,v,h1,h2,h3,h4⟩:=hr
   exact⟨b,off,v,h1,.inl h2,Rep.mono fsub_wk (fun _ _ _=>rfl) _ v h3,h4⟩
  ·rename_i fs gs
   unfold RepS at hr ⊢
   obtain⟨cells,h1,h2⟩:=hr
   exact⟨cells,h1,wkSs_spec hh fs gs cells hw h2⟩
  ·rename_i fs xs
   unfold RepS at hr ⊢
   obtain⟨cells,h1,h2⟩:=hr
   have h3:=wkSs_spec hh fs (xs.map S.t) cells hw h2
   unfold Rep
   refine⟨cells,h1,?_⟩
   have:∀ {ys:List T} {cs:List Value},RepSs (wkGh ρ h G) w (ys.map S.t) cs→Reps (wkGh ρ h G).F w ys cs:=by
    intro ys
    induction ys with
    | nil=>intro cs h;simp only[List.map_nil]at h;unfold RepSs at h;unfold Reps;exact h
    | cons y ys ih=>
     intro cs h
     simp only[List.map_cons]at h
     unfold RepSs at h
     obtain⟨v,cs',h4,_,_,h5,h6⟩:=h
     unfold Reps
     unfold RepS at h5
     exact⟨v,cs',h4,h5,ih h6⟩
   exact this h3
  ·rename_i xs gs
   unfold RepS at hr
   unfold Rep at hr
   obtain⟨cells,h1,h2⟩:=hr
   unfold RepS
   refine⟨cells,h1,?_⟩
   have:∀ (xs:List T) (gs:List S) (cs:List Value),wkXs ρ xs gs→Reps G.F w xs cs→RepSs (wkGh ρ h G) w gs cs:=by
    intro xs
    induction xs with
    | nil=>
     intro gs cs hx hc
     cases gs with
     | nil=>unfold Reps at hc;unfold RepSs;exact hc
     | cons g gs=>unfold wkXs at hx;exact hx.elim
    | cons x xs ih=>
     intro gs cs hx hc
     cases gs with
     | nil=>unfold wkXs at hx;exact hx.elim
     | cons g gs=>
      unfold wkXs at hx
      unfold Reps at hc
      obtain⟨v,cs',h3,h4,h5⟩:=hc
      obtain⟨h6,h7,h8⟩:=hx
      unfold RepSs
      refine⟨v,cs',h3,by rw[Rep.width _ _ h4,h7],Rep.one _ _ h4,?_,ih gs cs' h8 h5⟩
      split at h6
      ·rename_i l'
       unfold Rep at h4
       unfold RepS
       refine⟨?_,none,0,0,h4.1⟩
       rw[h4.1]
       simp only[wkGh,h6]
      ·rename_i y
       unfold RepS
       exact Rep.mono fsub_wk (fun _ _ _=>rfl) y v (wkT_spec x y v h6 h4)
      ·exact h6.elim
   exact this xs gs cells hw h2
  ·rename_i fs gs
   unfold RepS at hr ⊢
   obtain⟨us,h1,h2⟩:=hr
   exact⟨us,h1,wkPs_spec hh fs gs us hw h2⟩
  ·rename_i f fs f' gs
   obtain⟨rfl,hw⟩:=hw
   unfold RepS at hr ⊢
   obtain⟨us,h1,h2⟩:=hr
   exact⟨us,h1,wkPs_spec hh fs gs us hw h2⟩
  ·rename_i f fs f' gs
   obtain⟨rfl,hw⟩:=hw
   unfold RepS at hr ⊢
   obtain⟨us,h1,h2⟩:=hr
   exact⟨us,h1,wkPs_spec hh fs gs us hw h2⟩
  ·exact hw.elim
theorem wkSs_spec (hh:HeapOk G w h):∀ (xs ys:List S) (cs:List Value),wkSs ρ h xs ys→RepSs G w xs cs→RepSs (wkGh ρ h G) w ys cs
 | [],ys,cs,hw,hr=>by
  cases ys with
  | nil=>unfold RepSs at *;exact hr
  | cons y ys=>unfold wkSs at hw;exact hw.elim
 | x :: xs,ys,cs,hw,hr=>by
  cases ys with
  | nil=>unfold wkSs at hw;exact hw.elim
  | cons y ys=>
   unfold wkSs at hw
   unfold RepSs at hr ⊢
   obtain⟨v,cs',h1,h2,h3,h4,h5⟩:=hr
   exact⟨v,cs',h1,by rw[h2,hw.1],h3,wkS_spec hh x y v hw.2.1 h4,wkSs_spec hh xs ys cs' hw.2.2 h5⟩
theorem wkPs_spec (hh:HeapOk G w h):∀ (xs ys:List S) (us:List Value),wkPs ρ h xs ys→RepPs G w xs us→RepPs (wkGh ρ h G) w ys us
 | [],ys,us,hw,hr=>by
  cases ys with
  | nil=>unfold RepPs at *;exact hr
  | cons y ys=>unfold wkPs at hw;exact hw.elim
 | x :: xs,ys,us,hw,hr=>by
  cases ys with
  | nil=>unfold wkPs at hw;exact hw.elim
  | cons y ys=>
   unfold wkPs at hw
   unfold RepPs at hr ⊢
   obtain⟨v,us',h1,h2,h3⟩:=hr
   exact⟨v,us',h1,wkS_spec hh x y v hw.1 h2,wkPs_spec hh xs ys us' hw.2 h3⟩
end
theorem wkE_get (hh:HeapOk G w h):∀ {ex ex':List (Nat×S)},wkE ρ h ex ex'→∀ i,(lkE ex i=none∧lkE ex' i=none)∨∃ c c',lkE ex i=some c∧lkE ex' i=some c'∧c'.width=c.width∧∀ u,RepS G w c u→RepS (wkGh ρ h G) w c' u
 | [],[],_,i=> .inl ⟨rfl,rfl⟩
 | (j,c) :: r,(j',c') :: r',hw,i=>by
  obtain⟨rfl,h1,h2,h3⟩:=hw
  simp only[lkE]
  by_cases e:i=j'
  ·rw[if_pos e,if_pos e]
   exact .inr ⟨c,c',rfl,rfl,h1,fun u hr=>wkS_spec hh c c' u h2 hr⟩
  ·rw[if_neg e,if_neg e]
   exact wkE_get hh h3 i
 | [],(_,_) :: _,hw,_=>hw.elim
 | (_,_) :: _,[],hw,_=>hw.elim
theorem RepU.mono {G G':Gh} {w:World} (hF:∀ b,G.F b→G'.F b) {u:U} {v:Value} {k:Option Nat} (h:RepU G w u v k):RepU G' w u v k:=by
 cases u with
 | t x=>exact⟨Rep.mono hF (fun _ _ _=>rfl) x v h.1,h.2⟩
 | ow e s xs=>
  obtain⟨⟨x,cap,cells,h1,h2,h3⟩,rfl⟩:=h
  exact⟨⟨x,cap,cells,h1,Reps.mono hF (fun _ _ _=>rfl) xs cells h2,h3⟩,rfl⟩
 | fw fs e s xs=>
  obtain⟨cs,v',h0,h5,⟨x,cap,cells,h1,h2,h3⟩,rfl⟩:=h
  exact⟨cs,v',h0,Reps.mono hF (fun _ _ _=>rfl) fs cs h5,⟨x,cap,cells,h1,Reps.mono hF (fun _ _ _=>rfl) xs cells h2,h3⟩,rfl⟩
theorem wkB_inn (hh:HeapOk G w h) {b b':Blk} {u:Value} {f:Nat→Prop} (hw:wkB ρ h b b') (hr:Inn G w b u f):Inn (wkGh ρ h G) w b' u f:=by
 cases b with
 | list e s xs=>
  cases b' with
  | list e' s' ys=>exact hr
  | box _ _=>exact hw.elim
  | rows _ _ _ _=>exact hw.elim
 | box e c=>
  cases b' with
  | list _ _ _=>exact hw.elim
  | box e' c'=>exact hr
  | rows _ _ _ _=>exact hw.elim
 | rows e s us ex=>
  cases b' with
  | list _ _ _=>exact hw.elim
  | box _ _=>exact hw.elim
  | rows e' s' us' ex'=>
   obtain⟨rfl,rfl,rfl,he⟩:=hw
   obtain⟨cells,κ,h1,h2,h3,h4,h5,h6⟩:=hr
   refine⟨cells,κ,h1,fun i x hx=>?_,h3,h4,h5,h6⟩
   obtain⟨v,g1,g2,g3,g4⟩:=h2 i x hx
   refine⟨v,g1,g2,g3,?_⟩
   unfold RowOk at *
   rcases wkE_get hh he i with ⟨e1,e2⟩|⟨c,c',e1,e2,e3,e4⟩
   ·rw[e1]at g4
    rw[e2]
    exact g4.mono fsub_wk
   ·rw[e1]at g4
    rw[e2]
    exact⟨e4 v g4.1,by rw[e3];exact g4.2.1,g4.2.2⟩
theorem wkB_spec (hh:HeapOk G w h) {b b':Blk} {u:Value} (hw:wkB ρ h b b') (hr:RepB G w b u):RepB (wkGh ρ h G) w b' u:=by
 cases b with
 | rows e s us ex=>
  cases b' with
  | list _ _ _=>exact hw.elim
  | box _ _=>exact hw.elim
  | rows e' s' us' ex'=>
   obtain⟨rfl,rfl,rfl,he⟩:=hw
   obtain⟨x,cap,cells,h1,h2⟩:=hr
   exact⟨x,cap,cells,h1,h2⟩
 | list e s xs=>
  cases b' with
  | list e' s' ys=>
   obtain⟨rfl,rfl,rfl⟩:=hw
   obtain⟨x,cap,cells,h1,h2,h3,h4⟩:=hr
   exact⟨x,cap,cells,h1,Reps.mono fsub_wk (fun _ _ _=>rfl) _ _ h2,h3,h4⟩
  | box _ _=>exact hw.elim
  | rows _ _ _ _=>exact hw.elim
 | box e c=>
  cases b' with
  | list _ _ _=>exact hw.elim
  | rows _ _ _ _=>exact hw.elim
  | box e' c'=>
   obtain⟨rfl,h1,h2,h3⟩:=hw
   obtain⟨b,v,h4,h5,h6,h7,h8⟩:=hr
   exact⟨b,v,h4,wkS_spec hh c c' v h3 h5,by rw[h6,h1],h7,h8⟩
theorem wkH_get:∀ {hs:List (Nat×Blk)} {l':Nat} {b':Blk},wkH ρ h hs→lkB hs l'=some b'→(∃ l b,lkR ρ l'=some (some l)∧h l=some b∧wkB ρ h b b')∨(lkR ρ l'=some none∧∃ e s,b' = .list e s [])
 | [],l',b',_,e=>by simp[lkB]at e
 | (k,b0) :: r,l',b',hw,e=>by
  simp only[lkB]at e
  split at e
  ·rename_i hk
   subst hk
   simp at e
   subst e
   have h1:=hw.1
   split at h1
   ·rename_i l hl
    split at h1
    ·rename_i b hb
     exact .inl ⟨l,b,hl,hb,h1⟩
    ·exact h1.elim
   ·rename_i hl
    split at h1
    ·exact .inr ⟨hl,_,_,rfl⟩
    ·exact h1.elim
   ·exact h1.elim
  ·exact wkH_get hw.2 e
theorem wk_heap {hs:List (Nat×Blk)} (hρ:rhoOk ρ=true) (hh:HeapOk G w h) (hw:wkH ρ h hs):HeapOk (wkGh ρ h G) w (lkB hs):=by
 have blk:∀ l' b' k,lkB hs l'=some b'→(wkGh ρ h G).ft l' k→∃ l b,lkR ρ l'=some (some l)∧h l=some b∧G.ft l k:=by
  intro l' b' k hl hk
  rcases wkH_get hw hl with ⟨l,b,h1,h2,_⟩|⟨h1,_⟩
  ·simp only[Gh.ft,wkGh,h1]at hk
   exact⟨l,b,h1,h2,hk⟩
  ·simp[Gh.ft,wkGh,h1,hblk]at hk
 refine⟨?_,?_,?_,?_,?_⟩
 ·intro l' b' hl
  rcases wkH_get hw hl with ⟨l,b,h1,h2,h3⟩|⟨h1,e,s,rfl⟩
  ·have:=wkB_spec hh h3 (hh.rep l b h2)
   simpa only[wkGh,h1] using this
  ·simp only[wkGh,h1]
   exact⟨none,0,[],rfl,by unfold Reps;rfl,by simp,World.ownsRow_nil _ _ _ _⟩
 ·intro l' b' hl
  rcases wkH_get hw hl with ⟨l,b,h1,h2,h3⟩|⟨h1,e,s,rfl⟩
  ·have:=wkB_inn hh h3 (hh.inn l b h2)
   simpa only[wkGh,h1] using this
  ·simp only[wkGh,h1]
   exact fun _ h=>h
 ·intro l' b' k hl hk hF
  obtain⟨l,b,h1,h2,h3⟩:=blk l' b' k hl hk
  rcases hF with hF|⟨l2,x,h4,h5,h6⟩
  ·exact hh.sep l b k h2 h3 hF
  ·have:=hh.inj l l2 b x k h2 h4 h3 h6
   subst this
   exact offR_spec h5 l' h1
 ·intro l' l'' b' b'' k hl hl' hk hk'
  obtain⟨l,b,h1,h2,h3⟩:=blk l' b' k hl hk
  obtain⟨l2,b2,h4,h5,h6⟩:=blk l'' b'' k hl' hk'
  have:=hh.inj l l2 b b2 k h2 h5 h3 h6
  subst this
  exact rhoOk_inj hρ h1 h4
 ·intro b hb
  rcases hb with hb|⟨l,x,h1,_,h3⟩
  ·exact hh.fb b hb
  ·exact hh.lt h1 h3
theorem wk_from {hs:List (Nat×Blk)} {W:World} {G0:Gh} {A:Nat→Prop} (hρ:rhoOk ρ=true) (hw:wkH ρ h hs) (f:From W G0 A G w h):From W G0 A (wkGh ρ h G) w (lkB hs):=by
 refine⟨f.os,f.tape,f.output,f.size,f.block,?_,fun b hb=> .inl (f.fin b hb),?_,?_⟩
 ·intro l' b' k hl hk
  rcases wkH_get hw hl with ⟨l,b,h1,h2,_⟩|⟨h1,_⟩
  ·simp only[Gh.ft,wkGh,h1]at hk
   exact f.own l b k h2 hk
  ·simp[Gh.ft,wkGh,h1,hblk]at hk
 ·intro b hb
  rcases hb with hb|⟨l,x,h1,_,h3⟩
  ·exact f.fout b hb
  ·rcases f.own l x b h1 h3 with h4|h4
   ·exact .inr (.inl h4)
   ·exact .inr (.inr h4)
 ·intro l hl
  simp only[wkGh]
  split
  ·rename_i k hk
   have:=rhoOk_low hρ hk hl
   simp at this
   subst this
   exact f.same _ hl
  ·rename_i hk
   have:=rhoOk_low hρ hk hl
   cases this
  ·exact f.same l hl
theorem wkG_get {g:Nat→S}:∀ {gs:List (Nat×S)} (t:Nat),wkG ρ h g gs→wkS ρ h (g t) (lkS gs t)
 | [],t,_=>by simp only[lkS];unfold wkS;trivial
 | (k,s) :: r,t,hw=>by
  simp only[lkS]
  split
  ·subst_vars;exact hw.1
  ·exact wkG_get t hw.2
theorem Sat.weak {N:Nat} {W:World} {G0:Gh} {A:Nat→Prop} {σ σ':St} {a:Act} (hs:Sat N W G0 A σ a w) (hw:Wk ρ σ σ'):Sat N W G0 A σ' a w:=by
 obtain⟨G,hs⟩:=hs
 obtain⟨h1,h2,h3⟩:=hw
 exact⟨wkGh ρ (lkB σ.h) G,hs.size,hs.defers,fun t=>wkS_spec hs.heap _ _ _ (wkG_get t h2) (hs.slots t),wk_heap h1 hs.heap h3,wk_from h1 h3 hs.frm⟩
end
section
variable {N:Nat} {P:Program} {Q:Exit→St→Prop}
theorem CW.weak {c:Code} {σ σ':St} {ρ:List (Nat×Option Nat)} (hw:Wk ρ σ σ') (h:CW N P c Q σ'):CW N P c Q σ:=
 fun hm hc W G0 A a w hs=>h hm hc W G0 A a w (hs.weak hw)
def RoundQ {ι:Type} (I:ι→St) (Inv:ι→Prop) (μ:ι→Nat) (i:ι) (Q:Exit→St→Prop) (e:Exit) (σ:St):Prop:=match e with
 | .normal=>∃ j ρ,Inv j∧μ j < μ i∧Wk ρ σ (I j)
 | e=>Q e σ
theorem CW.loop {ι:Type} (I:ι→St) (Inv:ι→Prop) (μ:ι→Nat) (i0:ι) (ρ:List (Nat×Option Nat)) {c:Code} {σ:St} (h0:Inv i0) (hstart:Wk ρ σ (I i0))
  (round:∀ i,Inv i→CW N P c (RoundQ I Inv μ i Q) (I i)):CW N P (.loop c) Q σ:=by
 intro hm hc W G0 A a w hs
 simp only[okCode]at hc
 classical
 let J:Act→World→ι→Prop:=fun a w i=>Inv i∧Sat N W G0 A (I i) a w
 have key:∀ n,∀ a w i,J a w i→μ i=n→∀ (b:Frame) (k:List Item) (cs:List Frame),∃ e a' w',(∃ σ',Q e σ'∧Sat N W G0 A σ' a' w')∧Arrives P (lone (b.at a (.code c :: .inLoop c :: k)) cs w) b k cs e a' w':=by
  intro n
  induction n using Nat.strongRecOn with
  | _ n ih=>
   rintro a w i ⟨hi,hs⟩ hn b k cs
   obtain⟨e,a₁,w₁,⟨σ',hq,hs'⟩,harr⟩:=round i hi hm hc W G0 A a w hs b (.inLoop c :: k) cs
   cases e with
   | normal=>
    obtain⟨j,ρ',hj,hlt,hw⟩:=hq
    obtain⟨e₂,a₂,w₂,hq₂,harr₂⟩:=ih (μ j) (by omega) a₁ w₁ j ⟨hj,hs'.weak hw⟩ rfl b k cs
    exact⟨e₂,a₂,w₂,hq₂,.of_steps (Steps.trans harr (.one step_inLoop)) harr₂⟩
   | exit id=>exact⟨_,a₁,w₁,⟨σ',hq,hs'⟩,.pass (x:=.inLoop c) rfl (fun _ _=> .inl (by simp)) harr⟩
   | goto l=>exact⟨_,a₁,w₁,⟨σ',hq,hs'⟩,.pass (x:=.inLoop c) rfl (fun _ _=> .inl (by simp)) harr⟩
   | ret=>exact⟨_,a₁,w₁,⟨σ',hq,hs'⟩,.pass (x:=.inLoop c) rfl (fun _ _=> .inl (by simp)) harr⟩
   | panic ch=>exact⟨_,a₁,w₁,⟨σ',hq,hs'⟩,.pass (x:=.inLoop c) rfl (fun _ _=> .inl (by simp)) harr⟩
   | outgrown=>exact⟨_,a₁,w₁,⟨σ',hq,hs'⟩,.pass (x:=.inLoop c) rfl (fun _ _=> .inl (by simp)) harr⟩
 intro b k cs
 obtain⟨e,a',w',hq,harr⟩:=key _ a w i0 ⟨h0,hs.weak hstart⟩ rfl b k cs
 exact⟨e,a',w',hq,.of_steps (.one step_loop) harr⟩
def CutQ {ι:Type} (I:ι→St) (Inv:ι→Prop) (Q:Exit→St→Prop) (e:Exit) (σ:St):Prop:=match e with
 | .normal=>∃ j ρ,Inv j∧Wk ρ σ (I j)
 | e=>Q e σ
theorem CW.cut {ι:Type} (I:ι→St) (Inv:ι→Prop) {x y:Code} {σ:St} (h:CW N P x (CutQ I Inv Q) σ) (h2:∀ j,Inv j→CW N P y Q (I j)):CW N P (.seq x y) Q σ:=by
 refine CW.seq (h.mono ?_)
 intro e σ' hq
 cases e with
 | normal=>
  obtain⟨j,ρ,hj,hw⟩:=hq
  exact (h2 j hj).weak hw
 | _=>exact hq
def ownA (G:Gh) (pre:List (Nat×Blk)) (b:Nat):Prop:=∃ l x,lkB pre l=some x∧G.ft l b
def FnOk (P:Program) (f:FuncId) (ss:List S) (pre:List (Nat×Blk)) (r:S) (post:List (Nat×Blk)):Prop:=
 ∀ (G:Gh) (w:World) (us:List Value),HeapOk G w (lkB pre)→RepPs G w ss us→
  Calls P f us.toArray w fun e w'=>∃ v G',e = .returned v∧From w G (ownA G pre) G' w' (lkB post)∧HeapOk G' w' (lkB post)∧RepS G' w' r v
def enumS:Nat→List S→List (Nat×S)
 | _,[]=>[]
 | k,s :: r=>(k,s) :: enumS (k+1) r
def retK (P:Program) (g:Nat→S) (h:Nat→Option Blk):List ResultVar→(List S→Prop)→Prop
 | [],K=>K []
 | .tmp t :: r,K=>retK P g h r fun l=>K (g t :: l)
 | .cell a t :: r,K=>match g a with
  | .pt l p off=>match h l with
   | some blk=>match blk.at p with
    | some (o,y)=>o=off∧y.solid=true∧okLd P t y∧retK P g h r fun l=>K (y :: l)
    | none=>False
   | none=>False
  | _=>False
def oneOf:List S→S
 | [s]=>s
 | l=> .tup l
def RetQ (P:Program) (rs:List ResultVar) (r:S) (post:List (Nat×Blk)) (e:Exit) (σ:St):Prop:=match e with
 | .ret=>∃ ρ,retK P (lkS σ.g) (lkB σ.h) rs fun l=>rhoOk ρ=true∧wkS ρ (lkB σ.h) (oneOf l) r∧wkH ρ (lkB σ.h) post
 | .normal=>∃ ρ,retK P (lkS σ.g) (lkB σ.h) rs fun l=>rhoOk ρ=true∧wkS ρ (lkB σ.h) (oneOf l) r∧wkH ρ (lkB σ.h) post
 | _=>False
theorem enumS_get {G:Gh} {w:World}:∀ {ss:List S} {us:List Value} {k t:Nat},RepPs G w ss us→(t < k∨¬ t < k+ss.length→lkS (enumS k ss) t = .dead)∧(∀ i,t=k+i→i < ss.length→∃ u,us[i]? = some u∧RepS G w (lkS (enumS k ss) t) u)
 | [],us,k,t,h=>⟨fun _=>rfl,fun i _ hi=>by simp at hi⟩
 | s :: r,us,k,t,h=>by
  unfold RepPs at h
  obtain⟨v,us',rfl,h1,h2⟩:=h
  have ih:=enumS_get (k:=k+1) (t:=t) h2
  refine⟨fun ht=>?_,fun i hi hl=>?_⟩
  ·simp only[enumS,lkS]
   rw[if_neg (by simp only[List.length_cons]at ht;omega)]
   refine ih.1 ?_
   simp only[List.length_cons]at ht
   omega
  ·cases i with
   | zero=>
    refine⟨v,rfl,?_⟩
    simp only[enumS,lkS]
    rw[if_pos (by omega)]
    exact h1
   | succ i=>
    obtain⟨u,h3,h4⟩:=ih.2 i (by omega) (by simpa using hl)
    refine⟨u,by simpa using h3,?_⟩
    simp only[enumS,lkS]
    rw[if_neg (by omega)]
    exact h4
theorem RepPs.length {G:Gh} {w:World}:∀ {ss:List S} {us:List Value},RepPs G w ss us→us.length=ss.length
 | [],us,h=>by unfold RepPs at h;subst h;rfl
 | s :: r,us,h=>by
  unfold RepPs at h
  obtain⟨v,us',rfl,h1,h2⟩:=h
  simp[RepPs.length h2]
def resV (tmps:Array Value) (x:ResultVar):Sem Value:=match x with
 | .tmp t=>pure (tmps.getD t undef)
 | .cell a t=>do loadVar t (←asAddr (tmps.getD a undef))
theorem results_eq (fn:Func) (tmps:Array Value):results fn tmps=(do
  let vs←fn.results.mapM (resV tmps)
  pure (if h:vs.size=1 then vs[0] else .tuple vs)):=by
 unfold results
 congr 1
theorem retK_spec {G:Gh} {w:World} {g:Nat→S} {h:Nat→Option Blk} {tmps:Array Value} (hh:HeapOk G w h) (hg:∀ t,RepS G w (g t) (tmps.getD t undef)):∀ {rs:List ResultVar} {K:List S→Prop},retK P g h rs K→
  ∃ l us,K l∧(rs.mapM (resV tmps)).run P w = .ok us w∧RepPs G w l us
 | [],K,hk=>⟨[],[],hk,by simp,by unfold RepPs;rfl⟩
 | .tmp t :: r,K,hk=>by
  obtain⟨l,us,h1,h2,h3⟩:=retK_spec hh hg (rs:=r) (K:=fun l=>K (g t :: l)) hk
  refine⟨g t :: l,tmps.getD t undef :: us,h1,?_,by unfold RepPs;exact⟨_,us,rfl,hg t,h3⟩⟩
  rw[List.mapM_cons]
  simp[h2,resV]
 | .cell a t :: r,K,hk=>by
  simp only[retK]at hk
  split at hk
  ·rename_i l0 p off ha
   split at hk
   ·rename_i blk hl
    split at hk
    ·rename_i o y hat
     obtain⟨rfl,hso,hok,hk⟩:=hk
     obtain⟨l,us,h1,h2,h3⟩:=retK_spec hh hg hk
     have h4:=hg a
     rw[ha]at h4
     unfold RepS at h4
     obtain⟨b,h5,h6⟩:=h4
     obtain⟨v,h7,h8,h9,h10⟩:=RepB.at_spec (hh.rep l0 blk hl) (hh.inn l0 blk hl) hat h5
     have h11:=run_load_any (P:=P) h7 hso hok h10
     have h12:(loadVar t ⟨b,o,none⟩).run P w = .ok v w:=by
      simpa only[Instr.loadAt,Instr.sureAddr,Sem.run_bind,Sem.run_pure,Result.andThen_ok] using h11
     refine⟨y :: l,v :: us,h1,?_,by unfold RepPs;exact⟨_,us,rfl,h7,h3⟩⟩
     rw[List.mapM_cons]
     simp[h2,resV,h6,asAddr,h12]
    ·exact hk.elim
   ·exact hk.elim
  ·exact hk.elim
theorem results_spec {G:Gh} {w:World} {fn:Func} {tmps:Array Value} {l:List S} {us:List Value} (h1:(fn.results.toList.mapM (resV tmps)).run P w = .ok us w) (h2:RepPs G w l us) :
  ∃ v,(results fn tmps).run P w = .ok v w∧RepS G w (oneOf l) v:=by
 have h3:(fn.results.mapM (resV tmps)).run P w = .ok us.toArray w:=by
  rw[Array.mapM_eq_mapM_toList]
  simp[h1]
 have hlen:=h2.length
 match l,us,hlen,h2,h3 with
 | [s],[u],_,h2,h3=>
  unfold RepPs at h2
  obtain⟨v,us',h4,h5,_⟩:=h2
  cases h4
  refine⟨u,?_,h5⟩
  rw[results_eq]
  rw[Sem.run_bind,h3]
  simp
 | [],[],_,h2,h3=>
  refine⟨.tuple #[],?_,by unfold oneOf RepS;exact⟨[],rfl,h2⟩⟩
  rw[results_eq]
  rw[Sem.run_bind,h3]
  simp
 | s :: s' :: r,u :: u' :: us,_,h2,h3=>
  refine⟨.tuple (u :: u' :: us).toArray,?_,by unfold oneOf RepS;exact⟨_,rfl,h2⟩⟩
  rw[results_eq]
  rw[Sem.run_bind,h3]
  simp
theorem cell_putObj {w:World} {D:Nat} {o o':Obj} (h:w.heap[D]? = some o) (h1:o.isCells=false) (h2:o'.isCells=false) (b off:Nat):(w.putObj D o').cell? ⟨b,off,none⟩=w.cell? ⟨b,off,none⟩:=by
 by_cases e:b=D
 ·subst e
  have hlt:=(Array.getElem?_eq_some_iff.1 h).1
  unfold World.cell?
  simp only[World.putObj_heap_same hlt,h]
  cases o<;>cases o'<;>simp_all [Obj.isCells]
 ·unfold World.cell?
  simp only[World.putObj_heap_other e]
structure Same (w w':World):Prop where
 cell:∀ b o,b < w.heap.size→w'.cell? ⟨b,o,none⟩=w.cell? ⟨b,o,none⟩
 blk:∀ (k:Nat) cs e m,w.heap[k]? = some (Obj.cells cs e m)→w'.heap[k]? = w.heap[k]?
 size:w.heap.size≤w'.heap.size
theorem Same.putObj {w:World} {D:Nat} {o o':Obj} (h:w.heap[D]? = some o) (h1:o.isCells=false) (h2:o'.isCells=false):Same w (w.putObj D o'):=by
 refine⟨fun b off _=>cell_putObj h h1 h2 b off,fun k cs e m hk=>World.putObj_heap_other ?_,by simp[World.putObj]⟩
 rintro rfl
 rw[h]at hk;cases hk;cases h1
theorem Same.below {w w':World} (h:Below w.heap.size w w'):Same w w':=
 ⟨fun b o hb=>cell_block (h.block b hb),fun k cs e m hk=>h.block k (Array.getElem?_eq_some_iff.1 hk).1,h.size⟩
theorem Same.keep {G:Gh} {w w':World} (s:Same w w') (hF:∀ b,G.F b→b < w.heap.size):Keep G w G w' []:=⟨fun _ h=>h,fun b o hb=>s.cell b o (hF b hb),fun _ _=>rfl⟩
theorem HeapOk.same {G:Gh} {w w':World} {h:Nat→Option Blk} (hh:HeapOk G w h) (s:Same w w'):HeapOk G w' h:=by
 have K:=s.keep hh.fb
 refine⟨fun l b hl=>RepB.keep2 K (by simp) (fun k hk=>?_) (hh.rep l b hl),fun l b hl=>Inn.keep2 K (by simp) (fun k hk=>?_) (hh.inn l b hl),hh.sep,hh.inj,fun b hb=>Nat.lt_of_lt_of_le (hh.fb b hb) s.size⟩
 ·obtain⟨cs,e,m,ho⟩:=(hh.rep l b hl).obj hk
  exact s.blk k cs e m ho
 ·rcases hk with hk|hk
  ·obtain⟨cs,e,m,ho⟩:=(hh.rep l b hl).obj hk
   exact s.blk k cs e m ho
  ·obtain⟨cs,e,m,ho⟩:=(hh.inn l b hl).obj hk
   exact s.blk k cs e m ho
structure SameW (W:World) (w w':World):Prop extends Same w w' where
 os:w'.os=w.os
 tape:w'.tape=w.tape
 output:w'.output=w.output
 low:∀ b:Nat,b < W.heap.size→w'.heap[b]? = w.heap[b]?
theorem SameW.putObj {W w:World} {D:Nat} {o o':Obj} (h:w.heap[D]? = some o) (h1:o.isCells=false) (h2:o'.isCells=false) (hD:W.heap.size≤D):SameW W w (w.putObj D o'):=
 {Same.putObj h h1 h2 with os:=rfl,tape:=rfl,output:=rfl,low:=fun b hb=>World.putObj_heap_other (by omega)}
theorem SameW.below {W w w':World} (h:Below w.heap.size w w') (hW:W.heap.size≤w.heap.size):SameW W w w':=
 {Same.below h with os:=h.os,tape:=h.tape,output:=h.output,low:=fun b hb=>h.block b (by omega)}
theorem From.same' {W:World} {G0:Gh} {A:Nat→Prop} {G:Gh} {w w':World} {h:Nat→Option Blk} (f:From W G0 A G w h) (s:SameW W w w'):From W G0 A G w' h:=
 ⟨s.os.trans f.os,s.tape.trans f.tape,s.output.trans f.output,Nat.le_trans f.size s.size,fun b hb hA=>(s.low b hb).trans (f.block b hb hA),f.own,f.fin,f.fout,f.same⟩
theorem leaves_marks {P:Program} {fn:Func} {tmps:Array Value} {R:Ending→World→Prop} {W:World} {n:Nat}:∀ (Ds:List Nat) (w:World),Ds.Nodup→(∀ D∈Ds,w.heap[D]? = some (Obj.deferred (some []))∧W.heap.size≤D)→
  (∀ w',SameW W w w'→∃ v,(results fn tmps).run P w' = .ok v w'∧R (.returned v) w')→
  LeavesInM Fence.wide n P fn tmps R (Ds.map (fun D=>{target:=.collected D,args:=#[]})) .returning w
 | [],w,_,_,hR=>by
  simp only[List.map_nil]
  exact hR w {cell:=fun _ _ _=>rfl,blk:=fun _ _ _ _ _=>rfl,size:=Nat.le_refl _,os:=rfl,tape:=rfl,output:=rfl,low:=fun _ _=>rfl}
 | D :: Ds,w,hn,hd,hR=>by
  rw[List.nodup_cons]at hn
  obtain⟨h1,h2⟩:=hd D (by simp)
  have s1:SameW W w (w.putObj D (.deferred none)):=SameW.putObj h1 rfl rfl h2
  simp only[List.map_cons]
  refine⟨by simp,.inl ⟨D,_,rfl,run_takeDeferred h1,leaves_marks (W:=W) Ds _ hn.2 (fun D' hD'=>?_) fun w' s2=>hR w' ?_⟩⟩
  ·have hne:D'≠D:=by rintro rfl;exact hn.1 hD'
   obtain⟨h3,h4⟩:=hd D' (by simp[hD'])
   exact⟨(World.putObj_heap_other hne).trans h3,h4⟩
  ·exact {
       cell:=fun b o hb=>(s2.cell b o (Nat.lt_of_lt_of_le hb s1.size)).trans (s1.cell b o hb),blk:=fun k cs e m hk=>by
        have:=s1.blk k cs e m hk
        exact (s2.blk k cs e m (this.trans hk)).trans this,
       size:=Nat.le_trans s1.size s2.size,os:=s2.os.trans s1.os,tape:=s2.tape.trans s1.tape,output:=s2.output.trans s1.output,low:=fun b hb=>(s2.low b hb).trans (s1.low b hb)}
theorem FnOk.intro {f:FuncId} {fn:Func} {c:Code} {ss:List S} {pre post:List (Nat×Blk)} {r:S} {N:Nat} (hm:P.follows .mixedOrders=true) (hf:P.funcs[f]? = some fn) (hb:fn.body=some c) (hN:fn.ntmps=N) (hok:okCode N c=true) (hlen:ss.length≤N)
  (h:CW N P c (RetQ P fn.results.toList r post) ⟨enumS 0 ss,pre⟩):FnOk P f ss pre r post:=by
 intro G w us hh hr
 have hul:=hr.length
 refine (callsIn_wide (n:=9)).1 (callsIn_of_wp_marks hf hb trivial (wpIn_wide.2 ?_) rfl)
 refine wp_mono (h hm hok w G (ownA G pre) _ w ⟨G,?_,DefOk.nil _ _,?_,hh,?_⟩) ?_
 ·simp only[Array.size_append,Array.size_replicate,List.size_toArray];omega
 ·intro t
  have he:=enumS_get (k:=0) (t:=t) hr
  by_cases ht:t < ss.length
  ·obtain⟨u,h1,h2⟩:=he.2 t (by omega) ht
   have:(us.toArray++Array.replicate (fn.ntmps - us.toArray.size) undef).getD t undef=u:=by
    rw[Array.getD_eq_getD_getElem?,Array.getElem?_append_left (by simp;omega)]
    simp[h1]
   rw[this];exact h2
  ·rw[he.1 (by omega)]
   unfold RepS;trivial
 ·exact⟨rfl,rfl,rfl,Nat.le_refl _,fun _ _ _=>rfl,fun l b k h1 h2=> .inl ⟨l,b,h1,h2⟩,fun _ h=>h,fun _ h=> .inl h,fun _ _=>rfl⟩
 ·rintro e a' w' ⟨σ',hq,G',hs⟩
  have fin:∀ ρ,retK P (lkS σ'.g) (lkB σ'.h) fn.results.toList (fun l=>rhoOk ρ=true∧wkS ρ (lkB σ'.h) (oneOf l) r∧wkH ρ (lkB σ'.h) post)→
    LeavesInM Fence.wide 9 P fn a'.tmps (fun e w'=>∃ v G',e = .returned v∧From w G (ownA G pre) G' w' (lkB post)∧HeapOk G' w' (lkB post)∧RepS G' w' r v) a'.defers .returning w':=by
   intro ρ h1
   obtain⟨Ds,hD1,hD2,hD3⟩:=hs.defers
   rw[hD1]
   refine leaves_marks (W:=w) Ds w' hD2 hD3 fun w2 s=>?_
   have hh2:=hs.heap.same s.toSame
   have hsl:∀ t,RepS G' w2 (lkS σ'.g t) (a'.tmps.getD t undef):=fun t=>RepS.keep (s.toSame.keep hs.heap.fb) _ _ (by simp) (hs.slots t)
   obtain⟨l,us,⟨h2,h3,h4⟩,h5,h6⟩:=retK_spec hh2 hsl h1
   obtain⟨v,h7,h8⟩:=results_spec (P:=P) (fn:=fn) h5 h6
   exact⟨v,h7,v,wkGh ρ (lkB σ'.h) G',rfl,wk_from h2 h4 (hs.frm.same' s),wk_heap h2 hh2 h4,wkS_spec hh2 _ _ _ h3 h8⟩
  cases e with
  | ret=>
   obtain⟨ρ,hq⟩:=hq
   exact fin ρ hq
  | normal=>
   obtain⟨ρ,hq⟩:=hq
   exact fin ρ hq
  | exit _=>exact hq.elim
  | goto _=>exact hq.elim
  | panic _=>exact hq.elim
  | outgrown=>exact hq.elim
end
end Go.Proofs.YtdjmklobfjigoaaGreatDoor.Sy
namespace Go.Proofs.YtdjmklobfjigoaaGreatDoor.Sy
open Go.RowKit
def rn:List (Nat×Nat)→Nat→Nat
 | [],k=>k
 | (l,r) :: q,k=>if k=l then r else rn q k
mutual
def S.ren (ρ:List (Nat×Nat)):S→S
 | .dead=> .dead
 | .t x=> .t x
 | .rp x=> .rp x
 | .own l=> .own (rn ρ l)
 | .pt l p o=> .pt (rn ρ l) p o
 | .wn l p o n=> .wn (rn ρ l) p o n
 | .cl s xs=> .cl s xs
 | .ag fs=> .ag (S.rens ρ fs)
 | .tup fs=> .tup (S.rens ρ fs)
 | .fn f fs=> .fn f (S.rens ρ fs)
 | .fb f fs=> .fb f (S.rens ρ fs)
def S.rens (ρ:List (Nat×Nat)):List S→List S
 | []=>[]
 | x :: r=>x.ren ρ :: S.rens ρ r
end
def Blk.ren (ρ:List (Nat×Nat)):Blk→Blk
 | .list e s xs=> .list e s xs
 | .box e c=> .box e (c.ren ρ)
 | .rows e s us ex=> .rows e s us (ex.map fun q=>(q.1,q.2.ren ρ))
mutual
def S.within (ls:List Nat):S→Bool
 | .own l=>ls.contains l
 | .pt l _ _=>ls.contains l
 | .wn l _ _ _=>ls.contains l
 | .ag fs=>S.withins ls fs
 | .tup fs=>S.withins ls fs
 | .fn _ fs=>S.withins ls fs
 | .fb _ fs=>S.withins ls fs
 | _=>true
def S.withins (ls:List Nat):List S→Bool
 | []=>true
 | x :: r=>x.within ls && S.withins ls r
end
def Blk.within (ls:List Nat):Blk→Bool
 | .list _ _ _=>true
 | .box _ c=>c.within ls
 | .rows _ _ _ ex=>ex.all fun q=>q.2.within ls
mutual
def flatT:T→Prop
 | .lit _=>True
 | .sl _ _=>False
 | .agg fs=>flatTs fs
def flatTs:List T→Prop
 | []=>True
 | x :: r=>flatT x∧flatTs r
end
mutual
def flatS:S→Prop
 | .dead=>True
 | .t x=>flatT x
 | .rp _=>False
 | .own _=>True
 | .pt _ _ _=>True
 | .wn _ _ _ _=>True
 | .cl _ _=>False
 | .ag fs=>flatSs fs
 | .tup fs=>flatSs fs
 | .fn _ fs=>flatSs fs
 | .fb _ fs=>flatSs fs
def flatSs:List S→Prop
 | []=>True
 | x :: r=>flatS x∧flatSs r
end
def flatB:Blk→Prop
 | .list _ _ xs=>flatTs xs
 | .box _ c=>flatS c
 | .rows _ _ _ _=>False
def flatH:List (Nat×Blk)→Prop
 | []=>True
 | (_,b) :: r=>flatB b∧flatH r
mutual
theorem Rep.flat {F F':Nat→Prop} {w w':World}:∀ (x:T) (u:Value),flatT x→Rep F w x u→Rep F' w' x u
 | .lit v,u,_,h=>by unfold Rep at *;exact h
 | .sl _ _,u,hf,h=>by unfold flatT at hf;exact hf.elim
 | .agg fs,u,hf,h=>by
  unfold flatT at hf
  unfold Rep at *
  obtain⟨cells,h1,h2⟩:=h
  exact⟨cells,h1,Reps.flat fs cells hf h2⟩
theorem Reps.flat {F F':Nat→Prop} {w w':World}:∀ (xs:List T) (cs:List Value),flatTs xs→Reps F w xs cs→Reps F' w' xs cs
 | [],cs,_,h=>by unfold Reps at *;exact h
 | x :: r,cs,hf,h=>by
  unfold flatTs at hf
  unfold Reps at *
  obtain⟨v,cs',h1,h2,h3⟩:=h
  exact⟨v,cs',h1,Rep.flat x v hf.1 h2,Reps.flat r cs' hf.2 h3⟩
end
section
variable {G G':Gh} {w:World} {ρ:List (Nat×Nat)} {ls:List Nat}
mutual
theorem width_ren:∀ (s:S),(s.ren ρ).width=s.width
 | .dead=>rfl
 | .t _=>rfl
 | .rp _=>rfl
 | .own _=>rfl
 | .pt _ _ _=>rfl
 | .wn _ _ _ _=>rfl
 | .cl _ _=>rfl
 | .tup _=>rfl
 | .fn _ _=>rfl
 | .fb _ _=>rfl
 | .ag fs=>by simp only[S.ren,S.width];exact widths_ren fs
theorem widths_ren:∀ (fs:List S),S.widths (S.rens ρ fs)=S.widths fs
 | []=>rfl
 | x :: r=>by simp only[S.rens,S.widths];rw[width_ren x,widths_ren r]
end
structure To (G G':Gh) (ρ:List (Nat×Nat)) (ls:List Nat):Prop where
 β:∀ l,ls.contains l=true→G'.β (rn ρ l)=G.β l
mutual
theorem RepS.to (h:To G G' ρ ls):∀ (s:S) (u:Value),s.within ls=true→((∀ b,G.F b→G'.F b)∨flatS s)→RepS G w s u→RepS G' w (s.ren ρ) u
 | .dead,u,_,_,hr=>by simp only[S.ren];unfold RepS;trivial
 | .t x,u,_,hF,hr=>by
  simp only[S.ren]
  unfold RepS at *
  rcases hF with hF|hF
  ·exact Rep.mono hF (fun _ _ _=>rfl) x u hr
  ·unfold flatS at hF;exact Rep.flat x u hF hr
 | .rp x,u,_,hF,hr=>by
  simp only[S.ren]
  unfold RepS at *
  rcases hF with hF|hF
  ·obtain⟨b,off,v,h1,h2,h3,h4⟩:=hr
   exact⟨b,off,v,h1,hF b h2,Rep.mono hF (fun _ _ _=>rfl) x v h3,h4⟩
  ·unfold flatS at hF;exact hF.elim
 | .own l,u,hl,hF,hr=>by
  simp only[S.ren]
  unfold RepS at *
  refine⟨?_,hr.2⟩
  rw[hr.1,h.β l (by simpa [S.within] using hl)]
 | .pt l p o,u,hl,hF,hr=>by
  simp only[S.ren]
  unfold RepS at *
  obtain⟨b,h1,h2⟩:=hr
  exact⟨b,by rw[h.β l (by simpa [S.within] using hl)];exact h1,h2⟩
 | .cl s xs,u,hl,hF,hr=>by
  simp only[S.ren]
  unfold RepS at *
  obtain⟨x,cells,h1,h2,h3,h4⟩:=hr
  rcases hF with hF|hF
  ·exact⟨x,cells,h1,Reps.mono hF (fun _ _ _=>rfl) xs cells h2,h3,h4.mono hF (fun _ _ _=>rfl)⟩
  ·exact absurd hF (by simp[flatS])
 | .wn l p o n,u,hl,hF,hr=>by
  simp only[S.ren]
  unfold RepS at *
  rw[h.β l (by simpa [S.within] using hl)]
  exact hr
 | .ag fs,u,hl,hF,hr=>by
  simp only[S.ren]
  unfold RepS at *
  obtain⟨cells,h1,h2⟩:=hr
  exact⟨cells,h1,RepSs.to h fs cells (by simpa [S.within] using hl) (by simpa [flatS] using hF) h2⟩
 | .tup fs,u,hl,hF,hr=>by
  simp only[S.ren]
  unfold RepS at *
  obtain⟨us,h1,h2⟩:=hr
  exact⟨us,h1,RepPs.to h fs us (by simpa [S.within] using hl) (by simpa [flatS] using hF) h2⟩
 | .fn f fs,u,hl,hF,hr=>by
  simp only[S.ren]
  unfold RepS at *
  obtain⟨us,h1,h2⟩:=hr
  exact⟨us,h1,RepPs.to h fs us (by simpa [S.within] using hl) (by simpa [flatS] using hF) h2⟩
 | .fb f fs,u,hl,hF,hr=>by
  simp only[S.ren]
  unfold RepS at *
  obtain⟨us,h1,h2⟩:=hr
  exact⟨us,h1,RepPs.to h fs us (by simpa [S.within] using hl) (by simpa [flatS] using hF) h2⟩
theorem RepSs.to (h:To G G' ρ ls):∀ (fs:List S) (cs:List Value),S.withins ls fs=true→((∀ b,G.F b→G'.F b)∨flatSs fs)→RepSs G w fs cs→RepSs G' w (S.rens ρ fs) cs
 | [],cs,_,_,hr=>by simp only[S.rens];unfold RepSs at *;exact hr
 | x :: r,cs,hl,hF,hr=>by
  simp only[S.rens]
  simp only[S.withins,Bool.and_eq_true]at hl
  unfold RepSs at *
  obtain⟨v,cs',h1,h2,h3,h4,h5⟩:=hr
  exact⟨v,cs',h1,by rw[h2,width_ren x],h3,RepS.to h x v hl.1 (hF.imp id fun hf=>by unfold flatSs at hf;exact hf.1) h4,RepSs.to h r cs' hl.2 (hF.imp id fun hf=>by unfold flatSs at hf;exact hf.2) h5⟩
theorem RepPs.to (h:To G G' ρ ls):∀ (fs:List S) (us:List Value),S.withins ls fs=true→((∀ b,G.F b→G'.F b)∨flatSs fs)→RepPs G w fs us→RepPs G' w (S.rens ρ fs) us
 | [],us,_,_,hr=>by simp only[S.rens];unfold RepPs at *;exact hr
 | x :: r,us,hl,hF,hr=>by
  simp only[S.rens]
  simp only[S.withins,Bool.and_eq_true]at hl
  unfold RepPs at *
  obtain⟨v,us',h1,h4,h5⟩:=hr
  exact⟨v,us',h1,RepS.to h x v hl.1 (hF.imp id fun hf=>by unfold flatSs at hf;exact hf.1) h4,RepPs.to h r us' hl.2 (hF.imp id fun hf=>by unfold flatSs at hf;exact hf.2) h5⟩
end
theorem RepB.to (h:To G G' ρ ls) {b:Blk} {u:Value} (hl:b.within ls=true) (hF:(∀ b,G.F b→G'.F b)∨flatB b) (hr:RepB G w b u):RepB G' w (b.ren ρ) u:=by
 cases b with
 | list e s xs=>
  obtain⟨x,cap,cells,h1,h2,h3,h4⟩:=hr
  refine⟨x,cap,cells,h1,?_,h3,h4⟩
  rcases hF with hF|hF
  ·exact Reps.mono hF (fun _ _ _=>rfl) _ _ h2
  ·exact Reps.flat _ _ hF h2
 | box e c=>
  obtain⟨b,v,h4,h5,h6,h7,h8⟩:=hr
  exact⟨b,v,h4,RepS.to h c v hl hF h5,by rw[h6,width_ren c],h7,h8⟩
 | rows e s us ex=>
  obtain⟨x,cap,cells,h1,h2⟩:=hr
  exact⟨x,cap,cells,h1,h2⟩
theorem lkE_ren {ρ:List (Nat×Nat)} {i:Nat}:∀ {ex:List (Nat×S)},lkE (ex.map fun q=>(q.1,q.2.ren ρ)) i=(lkE ex i).map (S.ren ρ)
 | []=>rfl
 | (j,c) :: r=>by
  simp only[List.map_cons,lkE]
  split
  ·rfl
  ·exact lkE_ren
theorem lkE_mem {i:Nat} {c:S}:∀ {ex:List (Nat×S)},lkE ex i=some c→(i,c)∈ex
 | [],h=>by simp[lkE]at h
 | (j,c0) :: r,h=>by
  simp only[lkE]at h
  split at h
  ·subst_vars;cases h;exact List.mem_cons_self ..
  ·exact List.mem_cons_of_mem _ (lkE_mem h)
theorem Inn.to (h:To G G' ρ ls) {b:Blk} {u:Value} {f:Nat→Prop} (hl:b.within ls=true) (hF:(∀ b,G.F b→G'.F b)∨flatB b) (hr:Inn G w b u f):Inn G' w (b.ren ρ) u f:=by
 cases b with
 | list e s xs=>exact hr
 | box e c=>exact hr
 | rows e s us ex=>
  rcases hF with hF|hF
  ·obtain⟨cells,κ,h1,h2,h3,h4,h5,h6⟩:=hr
   refine⟨cells,κ,h1,fun i x hx=>?_,h3,h4,h5,h6⟩
   obtain⟨v,g1,g2,g3,g4⟩:=h2 i x hx
   refine⟨v,g1,g2,g3,?_⟩
   unfold RowOk at *
   rw[lkE_ren]
   cases hc:lkE ex i with
   | none=>
    rw[hc]at g4
    exact g4.mono hF
   | some c=>
    rw[hc]at g4
    simp only[Blk.within,List.all_eq_true]at hl
    exact⟨RepS.to h c v (hl _ (lkE_mem hc)) (.inl hF) g4.1,by rw[width_ren c];exact g4.2.1,g4.2.2⟩
  ·exact hF.elim
mutual
theorem RepS.back (hF:∀ b,G.F b→G'.F b) (hβ:∀ l,G'.β l=G.β (rn ρ l)):∀ (s:S) (u:Value),RepS G w (s.ren ρ) u→RepS G' w s u
 | .dead,u,hr=>by unfold RepS;trivial
 | .t x,u,hr=>by simp only[S.ren]at hr;unfold RepS at *;exact Rep.mono hF (fun _ _ _=>rfl) x u hr
 | .rp x,u,hr=>by
  simp only[S.ren]at hr
  unfold RepS at *
  obtain⟨b,off,v,h1,h2,h3,h4⟩:=hr
  exact⟨b,off,v,h1,hF b h2,Rep.mono hF (fun _ _ _=>rfl) x v h3,h4⟩
 | .own l,u,hr=>by simp only[S.ren]at hr;unfold RepS at *;exact⟨by rw[hr.1,hβ],hr.2⟩
 | .pt l p o,u,hr=>by
  simp only[S.ren]at hr
  unfold RepS at *
  obtain⟨b,h1,h2⟩:=hr
  exact⟨b,by rw[hβ];exact h1,h2⟩
 | .cl s xs,u,hr=>by
  simp only[S.ren]at hr
  unfold RepS at *
  obtain⟨x,cells,h1,h2,h3,h4⟩:=hr
  exact⟨x,cells,h1,Reps.mono hF (fun _ _ _=>rfl) xs cells h2,h3,h4.mono hF (fun _ _ _=>rfl)⟩
 | .wn l p o n,u,hr=>by
  simp only[S.ren]at hr
  unfold RepS at *
  rw[hβ]
  exact hr
 | .ag fs,u,hr=>by
  simp only[S.ren]at hr
  unfold RepS at *
  obtain⟨cells,h1,h2⟩:=hr
  exact⟨cells,h1,RepSs.back hF hβ fs cells h2⟩
 | .tup fs,u,hr=>by
  simp only[S.ren]at hr
  unfold RepS at *
  obtain⟨us,h1,h2⟩:=hr
  exact⟨us,h1,RepPs.back hF hβ fs us h2⟩
 | .fn f fs,u,hr=>by
  simp only[S.ren]at hr
  unfold RepS at *
  obtain⟨us,h1,h2⟩:=hr
  exact⟨us,h1,RepPs.back hF hβ fs us h2⟩
 | .fb f fs,u,hr=>by
  simp only[S.ren]at hr
  unfold RepS at *
  obtain⟨us,h1,h2⟩:=hr
  exact⟨us,h1,RepPs.back hF hβ fs us h2⟩
theorem RepSs.back (hF:∀ b,G.F b→G'.F b) (hβ:∀ l,G'.β l=G.β (rn ρ l)):∀ (fs:List S) (cs:List Value),RepSs G w (S.rens ρ fs) cs→RepSs G' w fs cs
 | [],cs,hr=>by simp only[S.rens]at hr;unfold RepSs at *;exact hr
 | x :: r,cs,hr=>by
  simp only[S.rens]at hr
  unfold RepSs at *
  obtain⟨v,cs',h1,h2,h3,h4,h5⟩:=hr
  exact⟨v,cs',h1,by rw[h2,width_ren x],h3,RepS.back hF hβ x v h4,RepSs.back hF hβ r cs' h5⟩
theorem RepPs.back (hF:∀ b,G.F b→G'.F b) (hβ:∀ l,G'.β l=G.β (rn ρ l)):∀ (fs:List S) (us:List Value),RepPs G w (S.rens ρ fs) us→RepPs G' w fs us
 | [],us,hr=>by simp only[S.rens]at hr;unfold RepPs at *;exact hr
 | x :: r,us,hr=>by
  simp only[S.rens]at hr
  unfold RepPs at *
  obtain⟨v,us',h1,h4,h5⟩:=hr
  exact⟨v,us',h1,RepS.back hF hβ x v h4,RepPs.back hF hβ r us' h5⟩
end
theorem RepB.back (hF:∀ b,G.F b→G'.F b) (hβ:∀ l,G'.β l=G.β (rn ρ l)) {b:Blk} {u:Value} (hr:RepB G w (b.ren ρ) u):RepB G' w b u:=by
 cases b with
 | list e s xs=>
  obtain⟨x,cap,cells,h1,h2,h3,h4⟩:=hr
  exact⟨x,cap,cells,h1,Reps.mono hF (fun _ _ _=>rfl) _ _ h2,h3,h4⟩
 | box e c=>
  obtain⟨b,v,h4,h5,h6,h7,h8⟩:=hr
  exact⟨b,v,h4,RepS.back hF hβ c v h5,by rw[h6,width_ren c],h7,h8⟩
 | rows e s us ex=>
  obtain⟨x,cap,cells,h1,h2⟩:=hr
  exact⟨x,cap,cells,h1,h2⟩
theorem Inn.back (hF:∀ b,G.F b→G'.F b) (hβ:∀ l,G'.β l=G.β (rn ρ l)) {b:Blk} {u:Value} {f:Nat→Prop} (hr:Inn G w (b.ren ρ) u f):Inn G' w b u f:=by
 cases b with
 | list e s xs=>exact hr
 | box e c=>exact hr
 | rows e s us ex=>
  obtain⟨cells,κ,h1,h2,h3,h4,h5,h6⟩:=hr
  refine⟨cells,κ,h1,fun i x hx=>?_,h3,h4,h5,h6⟩
  obtain⟨v,g1,g2,g3,g4⟩:=h2 i x hx
  refine⟨v,g1,g2,g3,?_⟩
  unfold RowOk at *
  rw[lkE_ren]at g4
  cases hc:lkE ex i with
  | none=>
   rw[hc]at g4
   exact g4.mono hF
  | some c=>
   rw[hc]at g4
   exact⟨RepS.back hF hβ c v g4.1,by rw[←width_ren (ρ:=ρ) c];exact g4.2.1,g4.2.2⟩
end
mutual
def argR (ρ:List (Nat×Nat)) (h:Nat→Option Blk) (bor:List Nat):S→S→Prop
 | .own l,.t (.sl s xs)=>l∈bor∧match h l with
  | some (.list _ s' ys)=>s'=s∧ys=xs
  | some (.rows _ s' us ex)=>s'=s∧ex=[]∧us.map U.toT=xs
  | _=>False
 | .wn l p o n,.t (.sl s xs)=>l∈bor∧s=1∧match h l with
  | some (.box _ c)=>match S.at c p with
   | some (o',.t (.agg ys))=>o'=o∧n≤ys.length∧(∀ y∈ys,y.width=1)∧ys.take n=xs
   | _=>False
  | _=>False
 | .t x,.t y=>wkT x y
 | .ag fs,.t (.agg xs)=>argRs ρ h bor fs (xs.map S.t)
 | a,s=>a=s.ren ρ
def argRs (ρ:List (Nat×Nat)) (h:Nat→Option Blk) (bor:List Nat):List S→List S→Prop
 | [],[]=>True
 | a :: as,s :: ss=>s.width=a.width∧argR ρ h bor a s∧argRs ρ h bor as ss
 | _,_=>False
end
def argPs (ρ:List (Nat×Nat)) (h:Nat→Option Blk) (bor:List Nat):List S→List S→Prop
 | [],[]=>True
 | a :: as,s :: ss=>argR ρ h bor a s∧argPs ρ h bor as ss
 | _,_=>False
section
variable {G:Gh} {w:World} {ρ:List (Nat×Nat)} {h:Nat→Option Blk} {bor:List Nat}
def calG (G:Gh) (ρ:List (Nat×Nat)) (bor:List Nat):Gh:=⟨fun b=>G.F b∨∃ l∈bor,G.ft l b,fun l=>G.β (rn ρ l),fun l=>G.φ (rn ρ l)⟩
mutual
theorem argR_spec (hh:∀ l∈bor,∀ b,h l=some b→RepB G w b (G.β l)∧Inn G w b (G.β l) (G.φ l)):∀ (a s:S) (u:Value),argR ρ h bor a s→RepS G w a u→RepS (calG G ρ bor) w s u
 | a,s,u,ha,hr=>by
  have hF:∀ b,G.F b→(calG G ρ bor).F b:=fun b hb=> .inl hb
  unfold argR at ha
  split at ha
  ·rename_i l s xs
   obtain⟨h1,h2⟩:=ha
   split at h2
   ·rename_i e s' ys hl
    obtain⟨rfl,rfl⟩:=h2
    unfold RepS at hr ⊢
    rw[hr.1]
    exact rep_of_list (hh l h1 _ hl).1 hF (fun b hb=> .inr ⟨l,h1,.inl hb⟩)
   ·rename_i e s' us ex hl
    obtain⟨rfl,rfl,rfl⟩:=h2
    unfold RepS at hr ⊢
    rw[hr.1]
    exact rep_of_rows (hh l h1 _ hl).1 (hh l h1 _ hl).2 hF (fun b hb=> .inr ⟨l,h1,hb⟩)
   ·exact h2.elim
  ·rename_i l p o n s xs
   obtain⟨h1,rfl,h2⟩:=ha
   split at h2
   ·rename_i e c hl
    split at h2
    ·rename_i o' ys hat
     obtain⟨rfl,hn,hw,rfl⟩:=h2
     unfold RepS at hr ⊢
     obtain⟨b,off,cap,g1,rfl,g3,g4,_,g6⟩:=hr
     obtain⟨v0,h7,h8,h9,h10⟩:=RepB.at_spec (p:=p) (off:=o') (y:=.t (.agg ys)) (hh l h1 _ hl).1 (hh l h1 _ hl).2 (by simp only[Blk.at];exact hat) g1
     unfold RepS at h7
     unfold Rep at h7
     obtain⟨cells,rfl,h11⟩:=h7
     have hcl:=Reps.widths _ _ h11
     rw[widths_const hw,Nat.mul_one]at hcl
     have h12:=(Reps.split n h11).1
     rw[widths_take_const hw hn,Nat.mul_one]at h12
     have hlen:(ys.take n).length=n:=by rw[List.length_take];omega
     unfold Rep
     refine⟨some ⟨b,off,none⟩,cap,cells.take n,by rw[hlen],Reps.mono hF (fun _ _ _=>rfl) _ _ h12,fun y hy=>hw y (List.mem_of_mem_take hy),?_⟩
     rw[hlen]
     refine⟨g3,g6,by rw[List.length_take];omega,(fun e=>by cases e),?_⟩
     by_cases h0:n=0
     ·exact .inl h0
     ·right
      obtain rfl:=g4 (.inl (by omega))
      refine⟨b,off,rfl,.inr ⟨l,h1,.inl g1⟩,fun j u hu=>?_⟩
      rw[List.getElem?_take]at hu
      split at hu
      ·exact h10 j u (by simpa [Value.cells] using hu)
      ·cases hu
    ·exact h2.elim
   ·exact h2.elim
  ·rename_i x y
   unfold RepS at hr ⊢
   exact Rep.mono hF (fun _ _ _=>rfl) y u (wkT_spec x y u ha hr)
  ·rename_i fs xs
   unfold RepS at hr ⊢
   obtain⟨cells,h1,h2⟩:=hr
   have h3:=argRs_spec hh fs (xs.map S.t) cells ha h2
   unfold Rep
   refine⟨cells,h1,?_⟩
   have:∀ {ys:List T} {cs:List Value},RepSs (calG G ρ bor) w (ys.map S.t) cs→Reps (calG G ρ bor).F w ys cs:=by
    intro ys
    induction ys with
    | nil=>intro cs h;simp only[List.map_nil]at h;unfold RepSs at h;unfold Reps;exact h
    | cons y ys ih=>
     intro cs h
     simp only[List.map_cons]at h
     unfold RepSs at h
     obtain⟨v,cs',h4,_,_,h5,h6⟩:=h
     unfold Reps
     unfold RepS at h5
     exact⟨v,cs',h4,h5,ih h6⟩
   exact this h3
  ·subst ha
   exact RepS.back hF (fun _=>rfl) s u hr
theorem argRs_spec (hh:∀ l∈bor,∀ b,h l=some b→RepB G w b (G.β l)∧Inn G w b (G.β l) (G.φ l)):∀ (as ss:List S) (cs:List Value),argRs ρ h bor as ss→RepSs G w as cs→RepSs (calG G ρ bor) w ss cs
 | [],ss,cs,ha,hr=>by
  cases ss with
  | nil=>unfold RepSs at *;exact hr
  | cons s ss=>unfold argRs at ha;exact ha.elim
 | a :: as,ss,cs,ha,hr=>by
  cases ss with
  | nil=>unfold argRs at ha;exact ha.elim
  | cons s ss=>
   unfold argRs at ha
   unfold RepSs at hr ⊢
   obtain⟨v,cs',h1,h2,h3,h4,h5⟩:=hr
   exact⟨v,cs',h1,by rw[h2,ha.1],h3,argR_spec hh a s v ha.2.1 h4,argRs_spec hh as ss cs' ha.2.2 h5⟩
end
theorem argPs_spec (hh:∀ l∈bor,∀ b,h l=some b→RepB G w b (G.β l)∧Inn G w b (G.β l) (G.φ l)):∀ (as ss:List S) (us:List Value),argPs ρ h bor as ss→RepPs G w as us→RepPs (calG G ρ bor) w ss us
 | [],ss,us,ha,hr=>by
  cases ss with
  | nil=>unfold RepPs at *;exact hr
  | cons s ss=>unfold argPs at ha;exact ha.elim
 | a :: as,ss,us,ha,hr=>by
  cases ss with
  | nil=>unfold argPs at ha;exact ha.elim
  | cons s ss=>
   unfold argPs at ha
   unfold RepPs at hr ⊢
   obtain⟨v,us',h1,h4,h5⟩:=hr
   exact⟨v,us',h1,argR_spec hh a s v ha.1 h4,argPs_spec hh as ss us' ha.2 h5⟩
end
def preR (ρ:List (Nat×Nat)) (h:Nat→Option Blk):List (Nat×Blk)→Prop
 | []=>True
 | (l,b) :: r=>h (rn ρ l)=some (b.ren ρ)∧preR ρ h r
def borR (h:Nat→Option Blk):List Nat→Prop
 | []=>True
 | l :: r=>(h l).isSome=true∧borR h r
def newL (pre post:List (Nat×Blk)):List Nat:=(post.map (·.1)).filter fun l=>!(pre.map (·.1)).contains l
def postU (ρ:List (Nat×Nat)):List (Nat×Blk)→List (Nat×Option Blk)
 | []=>[]
 | (l,b) :: r=>(rn ρ l,some (b.ren ρ)) :: postU ρ r
def lostL (pre post:List (Nat×Blk)):List Nat:=(pre.map (·.1)).filter fun l=>!(post.map (·.1)).contains l
def namL (pre post:List (Nat×Blk)):List Nat:=post.map (·.1)++lostL pre post
def frU:List Nat→List (Nat×Option Blk)
 | []=>[]
 | l :: r=>(l,none) :: frU r
def callE (ρ:List (Nat×Nat)) (bor fr:List Nat) (pre post:List (Nat×Blk)) (r:S):Eff:=⟨r.ren ρ,postU ρ post++frU ((lostL pre post).map (rn ρ)++fr),(pre.map fun q=>rn ρ q.1)++(bor++fr),(newL pre post).map (rn ρ)⟩
theorem hupd_fr {h:Nat→Option Blk} {k:Nat}:∀ {fr:List Nat} {x:Blk},hupd (frU fr) h k=some x→k∉fr∧h k=some x
 | [],x,e=>⟨by simp,e⟩
 | l :: r,x,e=>by
  simp only[frU,hupd,hput]at e
  split at e
  ·cases e
  ·obtain⟨h1,h2⟩:=hupd_fr e
   exact⟨by simp_all,h2⟩
def callChk (ρ:List (Nat×Nat)) (bor:List Nat) (pre post:List (Nat×Blk)) (r:S):Bool:=
 nodupB ((namL pre post).map (rn ρ)) && (pre.all fun q=>decide (q.1 < 100)) && ((newL pre post).all fun l=>decide (100≤rn ρ l)) &&
 (bor.all fun l=>!((namL pre post).map (rn ρ)).contains l) && r.within (post.map (·.1)) && (post.all fun q=>q.2.within (post.map (·.1)))
theorem preR_get {ρ:List (Nat×Nat)} {h:Nat→Option Blk}:∀ {pre:List (Nat×Blk)} {l:Nat} {b:Blk},preR ρ h pre→lkB pre l=some b→h (rn ρ l)=some (b.ren ρ)
 | [],l,b,_,e=>by simp[lkB]at e
 | (k,b0) :: r,l,b,hp,e=>by
  simp only[lkB]at e
  split at e
  ·subst_vars;simp at e;subst e;exact hp.1
  ·exact preR_get hp.2 e
theorem borR_get {h:Nat→Option Blk}:∀ {bor:List Nat} {l:Nat},borR h bor→l∈bor→∃ b,h l=some b
 | [],l,_,e=>by cases e
 | k :: r,l,hb,e=>by
  rcases List.mem_cons.1 e with rfl|e
  ·exact Option.isSome_iff_exists.1 hb.1
  ·exact borR_get hb.2 e
theorem lkB_mem {l:Nat} {b:Blk}:∀ {hs:List (Nat×Blk)},lkB hs l=some b→(l,b)∈hs
 | [],e=>by simp[lkB]at e
 | (k,b0) :: r,e=>by
  simp only[lkB]at e
  split at e
  ·subst_vars;simp at e;subst e;simp
  ·simp[lkB_mem e]
theorem lkB_some {l:Nat}:∀ {hs:List (Nat×Blk)},l∈hs.map (·.1)→∃ b,lkB hs l=some b
 | [],e=>by simp at e
 | (k,b0) :: r,e=>by
  simp only[lkB]
  by_cases h:l=k
  ·rw[if_pos h];exact⟨b0,rfl⟩
  ·rw[if_neg h]
   simp only[List.map_cons,List.mem_cons]at e
   exact lkB_some (e.resolve_left h)
theorem nodup_inj {α:Type} {f:α→Nat}:∀ {l:List α},nodupB (l.map f)=true→∀ {x y:α},x∈l→y∈l→f x=f y→x=y
 | [],_,x,y,hx,_,_=>by cases hx
 | a :: r,h,x,y,hx,hy,e=>by
  simp only[List.map_cons,nodupB,Bool.and_eq_true,Bool.not_eq_true',List.contains_eq_mem,decide_eq_false_iff_not]at h
  rcases List.mem_cons.1 hx with hx1|hx1<;>rcases List.mem_cons.1 hy with hy1|hy1
  ·rw[hx1,hy1]
  ·exact (h.1 (by rw[←hx1,e];exact List.mem_map_of_mem hy1)).elim
  ·exact (h.1 (by rw[←hy1,←e];exact List.mem_map_of_mem hx1)).elim
  ·exact nodup_inj h.2 hx1 hy1 e
theorem hupd_post {ρ:List (Nat×Nat)} {h:Nat→Option Blk} {k:Nat}:∀ {post:List (Nat×Blk)},nodupB (post.map fun q=>rn ρ q.1)=true→
  (∃ l b,lkB post l=some b∧rn ρ l=k∧hupd (postU ρ post) h k=some (b.ren ρ))∨((∀ q∈post,rn ρ q.1≠k)∧hupd (postU ρ post) h k=h k)
 | [],_=> .inr ⟨by simp,rfl⟩
 | (l,b) :: r,hn=>by
  have hn':=hn
  simp only[List.map_cons,nodupB,Bool.and_eq_true,Bool.not_eq_true',List.contains_eq_mem,decide_eq_false_iff_not]at hn'
  simp only[postU,hupd,hput]
  by_cases e:k=rn ρ l
  ·subst e
   rw[if_pos rfl]
   exact .inl ⟨l,b,by simp[lkB],rfl,rfl⟩
  ·rw[if_neg e]
   rcases hupd_post (k:=k) (h:=h) hn'.2 with ⟨l',b',h1,h2,h3⟩|⟨h1,h2⟩
   ·refine .inl ⟨l',b',?_,h2,h3⟩
    simp only[lkB]
    rw[if_neg ?_]
    ·exact h1
    ·rintro rfl;exact e h2.symm
   ·refine .inr ⟨?_,h2⟩
    intro q hq
    rcases List.mem_cons.1 hq with rfl|hq
    ·exact fun h=>e h.symm
    ·exact h1 q hq
theorem nodupB_left:∀ {a b:List Nat},nodupB (a++b)=true→nodupB a=true
 | [],b,_=>rfl
 | x :: a,b,h=>by
  simp only[List.cons_append,nodupB,Bool.and_eq_true,Bool.not_eq_true',List.contains_eq_mem,decide_eq_false_iff_not,List.mem_append]at h ⊢
  exact⟨fun hx=>h.1 (.inl hx),nodupB_left h.2⟩
def FnOkG (C:List Value→World→(Ending→World→Prop)→Prop) (ss:List S) (pre:List (Nat×Blk)) (r:S) (post:List (Nat×Blk)):Prop:=
 ∀ (G:Gh) (w:World) (us:List Value),HeapOk G w (lkB pre)→RepPs G w ss us→
  C us w fun e w'=>∃ v G',e = .returned v∧From w G (ownA G pre) G' w' (lkB post)∧HeapOk G' w' (lkB post)∧RepS G' w' r v
def CallOkG (C:List Value→World→(Ending→World→Prop)→Prop) (as:List S) (h:Nat→Option Blk) (E:Eff):Prop:=
 ∀ (G:Gh) (h':Nat→Option Blk) (w:World) (us:List Value),HeapOk G w h'→RepPs G w as us→(∀ l∈E.fp,h' l=h l)→(∀ l∈E.nw,h' l=none∧∀ k b,h' k=some b→b.free l=true)→
  C us w fun e w'=>∃ v G',e = .returned v∧Ext G w h' G' w' (hupd E.u h') E.nw∧RepS G' w' E.r v
theorem CallOkG.fn {C:List Value→World→(Ending→World→Prop)→Prop} (hmono:∀ us w (R R':Ending→World→Prop),C us w R→(∀ e w',R e w'→R' e w')→C us w R') {ss:List S} {pre post:List (Nat×Blk)} {r:S} (hfn:FnOkG C ss pre r post) (ρ:List (Nat×Nat)) (bor fr:List Nat) {as:List S} {h:Nat→Option Blk}
  (hchk:callChk ρ (bor++fr) pre post r=true) (hargs:argPs ρ h (bor++fr) as ss) (hpre:preR ρ h pre) (hbor:borR h (bor++fr)) (hflat:bor=[]∨(flatS r∧flatH post)):CallOkG C as h (callE ρ bor fr pre post r)∧∀ l∈(callE ρ bor fr pre post r).nw,100≤l:=by
 simp only[callChk,Bool.and_eq_true,List.all_eq_true,decide_eq_true_eq,Bool.not_eq_true',List.contains_eq_mem,decide_eq_false_iff_not]at hchk
 obtain⟨⟨⟨⟨⟨hnd,hpp⟩,hnew⟩,hbo⟩,hrw⟩,hpw⟩:=hchk
 refine⟨?_,?_⟩
 ·intro G h' w us hh hr hfp hnw
  have hp':∀ l b,lkB pre l=some b→h' (rn ρ l)=some (b.ren ρ):=by
   intro l b hl
   rw[hfp (rn ρ l) (List.mem_append.2 (.inl (List.mem_map.2 ⟨(l,b),lkB_mem hl,rfl⟩)))]
   exact preR_get hpre hl
  have hb':∀ l∈bor++fr,h' l=h l:=fun l hl=>hfp l (List.mem_append.2 (.inr hl))
  have hnd':nodupB (post.map fun q=>rn ρ q.1)=true:=by
   have h1:=hnd
   unfold namL at h1
   rw[List.map_append,List.map_map]at h1
   exact nodupB_left h1
  have hpm:∀ {x:Nat},x∈post.map (·.1)→x∈namL pre post:=fun hx=>List.mem_append.2 (.inl hx)
  have hpl:∀ l b,lkB pre l=some b→l∈namL pre post∧l < 100:=fun l b hl=>by
   refine⟨?_,hpp (l,b) (lkB_mem hl)⟩
   by_cases hm:l∈post.map (·.1)
   ·exact hpm hm
   ·exact List.mem_append.2 (.inr (List.mem_filter.2 ⟨List.mem_map.2 ⟨(l,b),lkB_mem hl,rfl⟩,by simpa using hm⟩))
  have hbp:∀ l∈bor++fr,∀ k b,lkB pre k=some b→rn ρ k≠l:=by
   intro l hl k b hk e
   exact hbo l hl (List.mem_map.2 ⟨k,(hpl k b hk).1,e⟩)
  have hinj:∀ {x y:Nat},x∈namL pre post→y∈namL pre post→rn ρ x=rn ρ y→x=y:=fun hx hy e=>nodup_inj hnd hx hy e
  have hcal:HeapOk (calG G ρ (bor++fr)) w (lkB pre):=by
   refine⟨?_,?_,?_,?_,?_⟩
   ·intro l b hl
    exact RepB.back (G':=calG G ρ (bor++fr)) (fun b hb=>Or.inl hb) (fun _=>rfl) (hh.rep _ _ (hp' l b hl))
   ·intro l b hl
    exact Inn.back (G':=calG G ρ (bor++fr)) (fun b hb=>Or.inl hb) (fun _=>rfl) (hh.inn _ _ (hp' l b hl))
   ·intro l b k hl hk hF
    rcases hF with hF|⟨l2,h2,h3⟩
    ·exact hh.sep _ _ k (hp' l b hl) hk hF
    ·obtain⟨b2,h4⟩:=borR_get hbor h2
     exact hbp l2 h2 l b hl (hh.inj _ _ _ _ k (hp' l b hl) (by rw[hb' l2 h2];exact h4) hk h3)
   ·intro l l' b b' k hl hl' hk hk'
    exact hinj (hpl l b hl).1 (hpl l' b' hl').1 (hh.inj _ _ _ _ k (hp' l b hl) (hp' l' b' hl') hk hk')
   ·intro b hb
    rcases hb with hb|⟨l,h2,h3⟩
    ·exact hh.fb b hb
    ·obtain⟨b2,h4⟩:=borR_get hbor h2
     exact hh.lt (l:=l) (b:=b2) (by rw[hb' l h2];exact h4) h3
  have hus:RepPs (calG G ρ (bor++fr)) w ss us:=argPs_spec (fun l hl b hb=>⟨hh.rep l b (by rw[hb' l hl];exact hb),hh.inn l b (by rw[hb' l hl];exact hb)⟩) as ss us hargs hr
  refine hmono _ _ _ _ (hfn (calG G ρ (bor++fr)) w us hcal hus) ?_
  rintro e w' ⟨v,G1,rfl,hfr,hh1,hr1⟩
  let β':Nat→Value:=fun l=>match (newL pre post).find? (fun x=>rn ρ x == l) with
   | some x=>G1.β x
   | none=>G.β l
  let φ':Nat→Nat→Prop:=fun l=>match (post.map (·.1)).find? (fun x=>rn ρ x == l) with
   | some x=>G1.φ x
   | none=>G.φ l
  let G':Gh:=⟨fun b=>G1.F b∧∀ l∈bor,¬ G.ft l b,β',φ'⟩
  have hφpost:∀ x,x∈post.map (·.1)→φ' (rn ρ x)=G1.φ x:=by
   intro x hx
   show (match (post.map (·.1)).find? (fun y=>rn ρ y == rn ρ x) with|some y=>G1.φ y|none=>G.φ (rn ρ x))=G1.φ x
   cases hf:(post.map (·.1)).find? (fun y=>rn ρ y == rn ρ x) with
   | none=>
    have:=List.find?_eq_none.1 hf x hx
    simp at this
   | some y=>
    have h1:=List.find?_some hf
    have h2:=List.mem_of_find?_eq_some hf
    simp at h1
    have:=hinj (hpm h2) (hpm hx) h1
    subst this
    rfl
  have hφother:∀ l,(∀ q∈namL pre post,rn ρ q≠l)→φ' l=G.φ l:=by
   intro l hl
   show (match (post.map (·.1)).find? (fun x=>rn ρ x == l) with|some x=>G1.φ x|none=>G.φ l)=G.φ l
   cases hf:(post.map (·.1)).find? (fun x=>rn ρ x == l) with
   | none=>rfl
   | some x=>
    have h1:=List.find?_some hf
    have h2:=List.mem_of_find?_eq_some hf
    simp at h1
    exact (hl x (hpm h2) h1).elim
  have hnewmem:∀ x,x∈newL pre post→x∈post.map (·.1)∧x∉pre.map (·.1):=by
   intro x hx
   have:=List.mem_filter.1 hx
   refine⟨this.1,?_⟩
   simpa using this.2
  have hβnew:∀ l,l∉(newL pre post).map (rn ρ)→β' l=G.β l:=by
   intro l hl
   show (match (newL pre post).find? (fun x=>rn ρ x == l) with|some x=>G1.β x|none=>G.β l)=G.β l
   cases hf:(newL pre post).find? (fun x=>rn ρ x == l) with
   | none=>rfl
   | some x=>
    have h1:=List.find?_some hf
    have h2:=List.mem_of_find?_eq_some hf
    simp at h1
    exact (hl (List.mem_map.2 ⟨x,h2,h1⟩)).elim
  have hβpost:∀ x,x∈post.map (·.1)→β' (rn ρ x)=G1.β x:=by
   intro x hx
   by_cases hxp:x∈pre.map (·.1)
   ·rw[hβnew]
    ·obtain⟨b,hb⟩:=lkB_some hxp
     exact (hfr.same x (hpl x b hb).2).symm
    ·intro hm
     obtain⟨y,hy,hy2⟩:=List.mem_map.1 hm
     have:=hinj (hpm (hnewmem y hy).1) (hpm hx) hy2
     subst this
     exact (hnewmem y hy).2 hxp
   ·have hxn:x∈newL pre post:=List.mem_filter.2 ⟨hx,by simpa using hxp⟩
    show (match (newL pre post).find? (fun y=>rn ρ y == rn ρ x) with|some y=>G1.β y|none=>G.β (rn ρ x))=G1.β x
    cases hf:(newL pre post).find? (fun y=>rn ρ y == rn ρ x) with
    | none=>
     have:=List.find?_eq_none.1 hf x hxn
     simp at this
    | some y=>
     have h1:=List.find?_some hf
     have h2:=List.mem_of_find?_eq_some hf
     simp at h1
     have:=hinj (hpm (hnewmem y h2).1) (hpm hx) h1
     subst this
     rfl
  have hto:To G1 G' ρ (post.map (·.1)):=⟨fun l hl=>hβpost l (by simpa using hl)⟩
  have hFto:bor=[]→∀ b,G1.F b→G'.F b:=by
   intro hb b hF
   exact⟨hF,by rw[hb];simp⟩
  have hownA:∀ b,ownA (calG G ρ (bor++fr)) pre b→∃ l x,h' l=some x∧G.ft l b∧∃ l0,lkB pre l0=some (Classical.choice ⟨x⟩)∨rn ρ l0=l:=by
   rintro b ⟨l,x,h1,h2⟩
   exact⟨rn ρ l,_,hp' l x h1,h2,l,.inr rfl⟩
  have hownA':∀ b,ownA (calG G ρ (bor++fr)) pre b→∃ l0 x0,lkB pre l0=some x0∧G.ft (rn ρ l0) b:=by
   rintro b ⟨l,x,h1,h2⟩
   exact⟨l,x,h1,h2⟩
  have hkeep:Keep G w G' w' ((newL pre post).map (rn ρ)):=by
   refine⟨fun b hb=>⟨hfr.fin b (.inl hb),fun l hl e=>?_⟩,fun b o hb=>cell_block (hfr.block b (hh.fb b hb) ?_),hβnew⟩
   ·have hl:=List.mem_append_left fr hl
    obtain⟨b2,h4⟩:=borR_get hbor hl
    exact hh.sep l b2 b (by rw[hb' l hl];exact h4) e hb
   ·intro hA
    obtain⟨l0,x0,h1,h2⟩:=hownA' b hA
    exact hh.sep _ _ b (hp' l0 x0 h1) h2 hb
  have hother:∀ {k:Nat} {x:Blk} {b:Nat},(∀ q∈namL pre post,rn ρ q≠k)→h' k=some x→G.ft k b→¬ ownA (calG G ρ (bor++fr)) pre b:=by
   intro k x b hk hx hb hA
   obtain⟨l0,x0,h1,h2⟩:=hownA' b hA
   have:=hh.inj _ _ _ _ b hx (hp' l0 x0 h1) hb h2
   exact hk l0 (hpl l0 x0 h1).1 this.symm
  have hknew:∀ {k:Nat},(∀ q∈namL pre post,rn ρ q≠k)→k∉(newL pre post).map (rn ρ):=by
   intro k hk hm
   obtain⟨y,hy,hy2⟩:=List.mem_map.1 hm
   exact hk y (hpm (hnewmem y hy).1) hy2
  have cases':∀ k x,hupd (postU ρ post++frU ((lostL pre post).map (rn ρ)++fr)) h' k=some x→(∃ l b,lkB post l=some b∧rn ρ l=k∧x=b.ren ρ)∨(((∀ q∈namL pre post,rn ρ q≠k)∧k∉fr)∧h' k=some x):=by
   intro k x hx
   rw[hupd_app]at hx
   rcases hupd_post (k:=k) (h:=hupd (frU ((lostL pre post).map (rn ρ)++fr)) h') hnd' with ⟨l,b,h1,h2,h3⟩|⟨h1,h2⟩
   ·rw[h3]at hx
    simp at hx
    exact .inl ⟨l,b,h1,h2,hx.symm⟩
   ·rw[h2]at hx
    have h3:=(hupd_fr hx).1
    simp only[List.mem_append,not_or]at h3
    refine .inr ⟨⟨?_,h3.2⟩,(hupd_fr hx).2⟩
    intro q hq
    rcases List.mem_append.1 hq with hq|hq
    ·obtain⟨p,hp,rfl⟩:=List.mem_map.1 hq
     exact h1 p hp
    ·exact fun e=>h3.1 (List.mem_map.2 ⟨q,hq,e⟩)
  have hmemp:∀ l b,lkB post l=some b→l∈post.map (·.1):=fun l b hl=>List.mem_map.2 ⟨(l,b),lkB_mem hl,rfl⟩
  have hflatB:∀ l b,lkB post l=some b→(∀ b,G1.F b→G'.F b)∨flatB b:=by
   intro l b hl
   rcases hflat with h1|⟨_,h1⟩
   ·exact .inl (hFto h1)
   ·right
    have:∀ {hs:List (Nat×Blk)},flatH hs→lkB hs l=some b→flatB b:=by
     intro hs
     induction hs with
     | nil=>intro _ e;simp[lkB]at e
     | cons q rs ih=>
      obtain⟨k,b0⟩:=q
      intro hf e
      simp only[lkB]at e
      split at e
      ·simp at e;subst e;exact hf.1
      ·exact ih hf.2 e
    exact this h1 hl
  have ftp:∀ l b0,lkB post l=some b0→∀ b,G'.ft (rn ρ l) b→G1.ft l b:=by
   intro l b0 h1 b hb
   have e1:β' (rn ρ l)=G1.β l:=hβpost l (hmemp l b0 h1)
   have e2:φ' (rn ρ l)=G1.φ l:=hφpost l (hmemp l b0 h1)
   rcases hb with hb|hb
   ·left
    have hb2:hblk (β' (rn ρ l))=some b:=hb
    rw[e1]at hb2;exact hb2
   ·right
    have hb2:φ' (rn ρ l) b:=hb
    rw[e2]at hb2;exact hb2
  have fto:∀ k,(∀ q∈namL pre post,rn ρ q≠k)→∀ b,G'.ft k b→G.ft k b:=by
   intro k h1 b hb
   rcases hb with hb|hb
   ·left
    have hb2:hblk (β' k)=some b:=hb
    rw[hβnew k (hknew h1)]at hb2;exact hb2
   ·right
    have hb2:φ' k b:=hb
    rw[hφother k h1]at hb2;exact hb2
  have hheap:HeapOk G' w' (hupd (postU ρ post++frU ((lostL pre post).map (rn ρ)++fr)) h'):=by
   refine⟨?_,?_,?_,?_,fun b hb=>hh1.fb b hb.1⟩
   ·intro k x hx
    rcases cases' k x hx with ⟨l,b,h1,rfl,rfl⟩|⟨⟨h1,h1f⟩,h2⟩
    ·show RepB G' w' (b.ren ρ) (β' (rn ρ l))
     rw[hβpost l (hmemp l b h1)]
     exact RepB.to hto (hpw (l,b) (lkB_mem h1)) (hflatB l b h1) (hh1.rep l b h1)
    ·show RepB G' w' x (β' k)
     rw[hβnew k (hknew h1)]
     refine RepB.keep2 hkeep (fun l hl=>(hnw l hl).2 k x h2) ?_ (hh.rep k x h2)
     intro b hb
     exact hfr.block b ((hh.rep k x h2).lt hb) (hother h1 h2 (.inl hb))
   ·intro k x hx
    rcases cases' k x hx with ⟨l,b,h1,rfl,rfl⟩|⟨⟨h1,h1f⟩,h2⟩
    ·show Inn G' w' (b.ren ρ) (β' (rn ρ l)) (φ' (rn ρ l))
     rw[hβpost l (hmemp l b h1),hφpost l (hmemp l b h1)]
     exact Inn.to hto (hpw (l,b) (lkB_mem h1)) (hflatB l b h1) (hh1.inn l b h1)
    ·show Inn G' w' x (β' k) (φ' k)
     rw[hβnew k (hknew h1),hφother k h1]
     refine Inn.keep2 hkeep (fun l hl=>(hnw l hl).2 k x h2) ?_ (hh.inn k x h2)
     intro b hb
     exact hfr.block b (hh.lt h2 hb) (hother h1 h2 hb)
   ·intro k x b hx hb hF
    rcases cases' k x hx with ⟨l,b0,h1,rfl,rfl⟩|⟨⟨h1,h1f⟩,h2⟩
    ·exact hh1.sep l b0 b h1 (ftp l b0 h1 b hb) hF.1
    ·have hb2:=fto k h1 b hb
     rcases hfr.fout b hF.1 with h3|h3|h3
     ·rcases h3 with h3|⟨l2,h4,h5⟩
      ·exact hh.sep k x b h2 hb2 h3
      ·rcases List.mem_append.1 h4 with h6|h6
       ·exact hF.2 l2 h6 h5
       ·obtain⟨b2,h7⟩:=borR_get hbor h4
        have:=hh.inj k l2 _ _ b h2 (by rw[hb' l2 h4];exact h7) hb2 h5
        exact h1f (this ▸ h6)
     ·exact hother h1 h2 hb2 h3
     ·have:=hh.lt h2 hb2
      omega
   ·have cross:∀ k x l b0 b,(∀ q∈namL pre post,rn ρ q≠k)→h' k=some x→lkB post l=some b0→G.ft k b→G1.ft l b→False:=by
     intro k x l b0 b h1 h2 h3 h4 h5
     rcases hfr.own l b0 b h3 h5 with h6|h6
     ·exact hother h1 h2 h4 h6
     ·have:=hh.lt h2 h4
      omega
    intro k k' x x' b hx hx' hb hb'
    rcases cases' k x hx with ⟨l,b0,h1,rfl,rfl⟩|⟨⟨h1,h1f⟩,h2⟩<;>rcases cases' k' x' hx' with ⟨l',b0',h1',rfl,rfl⟩|⟨⟨h1',h1f'⟩,h2'⟩
    ·rw[hh1.inj l l' b0 b0' b h1 h1' (ftp l b0 h1 b hb) (ftp l' b0' h1' b hb')]
    ·exact (cross k' x' l b0 b h1' h2' h1 (fto k' h1' b hb') (ftp l b0 h1 b hb)).elim
    ·exact (cross k x l' b0' b h1 h2 h1' (fto k h1 b hb) (ftp l' b0' h1' b hb')).elim
    ·exact hh.inj k k' x x' b h2 h2' (fto k h1 b hb) (fto k' h1' b hb')
  refine⟨v,G',rfl,⟨hkeep,hheap,hfr.os,hfr.tape,hfr.output,hfr.size,?_,?_,?_⟩,?_⟩
  ·intro b hb hno
   refine hfr.block b hb ?_
   intro hA
   obtain⟨l0,x0,h1,h2⟩:=hownA' b hA
   exact hno _ _ (hp' l0 x0 h1) h2
  ·intro k x b hx hb
   rcases cases' k x hx with ⟨l,b0,h1,rfl,rfl⟩|⟨⟨h1,h1f⟩,h2⟩
   ·rcases hfr.own l b0 b h1 (ftp l b0 h1 b hb) with h3|h3
    ·obtain⟨l0,x0,h4,h5⟩:=hownA' b h3
     exact .inl ⟨_,_,hp' l0 x0 h4,h5⟩
    ·exact .inr h3
   ·exact .inl ⟨k,x,h2,fto k h1 b hb⟩
  ·intro b hb
   rcases hfr.fout b hb.1 with h3|h3|h3
   ·rcases h3 with h3|⟨l2,h4,h5⟩
    ·exact .inl h3
    ·rcases List.mem_append.1 h4 with h6|h6
     ·exact (hb.2 l2 h6 h5).elim
     ·obtain⟨b2,h7⟩:=borR_get hbor h4
      exact .inr (.inl ⟨l2,b2,by rw[hb' l2 h4];exact h7,h5⟩)
   ·obtain⟨l0,x0,h4,h5⟩:=hownA' b h3
    exact .inr (.inl ⟨_,_,hp' l0 x0 h4,h5⟩)
   ·exact .inr (.inr h3)
  ·exact RepS.to hto r v hrw (hflat.imp (fun h=>hFto h) fun h=>h.1) hr1
 ·intro l hl
  obtain⟨x,hx,rfl⟩:=List.mem_map.1 hl
  exact hnew x hx
theorem CallK.fn {P:Program} {f:FuncId} {ss:List S} {pre post:List (Nat×Blk)} {r:S} (hfn:FnOk P f ss pre r post) (ρ:List (Nat×Nat)) (bor fr:List Nat) {as:List S} {h:Nat→Option Blk} {d:Nat} {K:Eff→Prop}
  (hchk:callChk ρ (bor++fr) pre post r=true) (hargs:argPs ρ h (bor++fr) as ss) (hpre:preR ρ h pre) (hbor:borR h (bor++fr)) (hflat:bor=[]∨(flatS r∧flatH post)) (hK:K (callE ρ bor fr pre post r)):CallK P f as h d K:=by
 obtain⟨h1,h2⟩:=CallOkG.fn (C:=fun us w R=>Calls P f us.toArray w R) (fun us w R R' h hR=>Calls.mono h hR) hfn ρ bor fr hchk hargs hpre hbor hflat
 exact⟨_,h1,h2,hK⟩
theorem cF {P:Program} {f:FuncId} {ss:List S} {pre post:List (Nat×Blk)} {r:S} (hfn:FnOk P f ss pre r post) (ρ:List (Nat×Nat)) {as:List S} {h:Nat→Option Blk} {d:Nat} {K:Eff→Prop}
  (hargs:argPs ρ h ([]++[]) as ss) (hpre:preR ρ h pre) (hbor:borR h ([]++[])) (hK:K (callE ρ [] [] pre post r)) (hchk:callChk ρ ([]++[]) pre post r=true:=by kernel_rfl):CallK P f as h d K:=CallK.fn hfn ρ [] [] hchk hargs hpre hbor (Or.inl rfl) hK
end Go.Proofs.YtdjmklobfjigoaaGreatDoor.Sy
