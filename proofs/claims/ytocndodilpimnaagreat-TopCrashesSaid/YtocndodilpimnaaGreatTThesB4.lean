/- Several texts of this proof, one behind the other. No condition. -/
import Derived.Test.YtocndodilpimnaaGreatTThesB3
set_option maxRecDepth 100000
set_option maxHeartbeats 16000000
set_option linter.unusedVariables false
set_option linter.unusedSimpArgs false
namespace Go.Proofs.YtocndodilpimnaaGreat.Sy
open Go.RowKit
section
variable {N:Nat} {P:Program} {o:Oper} {R:Operand→S} {h:Nat→Option aA}
def jP (P:Program) (e:TypeId):Option (Nat×Nat):=match P.info? e with
 | some i=>match i.zero with
  | some z=>if z.cells.size=i.size∧0 < i.size∧0 < i.bytes then some (i.size,i.bytes) else none
  | none=>none
 | none=>none
theorem iV {e s b:Nat} (hz:jP P e=some (s,b)):∃ i z,P.info? e=some i∧i.zero=some z∧z.cells.size=s∧i.size=s∧i.bytes=b∧0 < s∧0 < b:=by
 unfold jP at hz
 cases hi:P.info? e with
 | none=>rw[hi]at hz;simp at hz
 | some i=>
  rw[hi]at hz
  simp only at hz
  cases hzz:i.zero with
  | none=>rw[hzz]at hz;simp at hz
  | some z=>
   rw[hzz]at hz
   simp only at hz
   split at hz
   ·rename_i hc
    simp at hz
    exact⟨i,z,rfl,hzz,by omega,hz.1,hz.2,by omega,by omega⟩
   ·cases hz
def kz (R:Operand→S):Nat→List (Nat×Operand)→Option (List T)
 | _,[]=>some []
 | k,(i,x) :: r=>if i=k then match R x with
  | .t y=>match kz R (k+1) r with
   | some ys=>some (y :: ys)
   | none=>none
  | _=>none
  else none
theorem qU {G:Gh} {w:World} {ev:Operand→Value}:∀ {l:List (Nat×Operand)} {k:Nat} {ys:List T},(∀ q∈l,ar G w (R q.2) (ev q.2))→kz R k l=some ys→
  ∃ vs:List Value,l.map (fun q=>(q.1,ev q.2))=((vs.zipIdx k).map fun x=>(x.2,x.1))∧ay G.F w ys (vs.flatMap fun v=>v.cells.toList)∧vs.length=ys.length∧∀ s,(∀ y∈ys,y.width=s)→∀ v∈vs,v.cells.size=s
 | [],k,ys,_,e=>by
  simp[kz]at e;subst e
  exact⟨[],rfl,by simp only[List.flatMap_nil];unfold ay;rfl,rfl,by simp⟩
 | (i,x) :: r,k,ys,hr,e=>by
  unfold kz at e
  split at e
  ·rename_i hik
   split at e
   ·rename_i y hy
    split at e
    ·rename_i ys' hys
     simp at e
     subst e hik
     obtain⟨vs,h1,h2,h3,h4⟩:=qU (G:=G) (w:=w) (ev:=ev) (fun q hq=>hr q (by simp[hq])) hys
     have h5:=hr (i,x) (by simp)
     rw[hy]at h5
     unfold ar at h5
     refine⟨ev x :: vs,by simp[h1],?_,by simp[h3],?_⟩
     ·simp only[List.flatMap_cons]
      unfold ay
      exact⟨ev x,_,rfl,h5,h2⟩
     ·intro s hs v hv
      rcases List.mem_cons.1 hv with rfl|hv
      ·rw[aO.width y _ h5];exact hs y (by simp)
      ·exact h4 s (fun z hz=>hs z (by simp[hz])) v hv
    ·cases e
   ·cases e
  ·cases e
theorem lX {s:Nat}:∀ {vs:List Value},(∀ v∈vs,v.cells.size=s)→(vs.flatMap fun v=>v.cells.toList).length=vs.length * s
 | [],_=>by simp
 | v :: r,h=>by
  have:=lX (s:=s) (vs:=r) fun x hx=>h x (by simp[hx])
  have h1:=h v (by simp)
  simp only[List.flatMap_cons,List.length_append,Array.length_toList,List.length_cons,this,h1,Nat.add_mul]
  omega
theorem rJ {t e:TypeId} {n s b d:Nat} {parts:Array (Nat×Operand)} {ys:List T} (ho:o.op = .buildSlice t n parts) (he:aK P t=some e) (hs:jP P e=some (s,b)) (hp:kz R 0 parts.toList=some ys) (hn:n=ys.length) (hw:∀ y∈ys,y.width=s) (hsm:n * s≤2 ^ 24) :
  bm N P o R h ⟨.own d,[(d,some (.list e s ys))],[],[d]⟩:=
 lI fun G a w hop hF=>by
  obtain⟨i,z,h1,h2,h3,h4,h5,h6,h7⟩:=iV hs
  obtain⟨vs,h8,h9,h10,h11⟩:=qU (R:=R) (G:=G) (w:=w) (ev:=a.eval) (l:=parts.toList) (fun q hq=>hop q.2 (by simp[ho,Op.operands];exact⟨q.1,by simpa using hq⟩)) hp
  have h12:=h11 s hw
  have hrun:(Instr.buildSlice t n (parts.map fun (i,x)=>(i,a.eval x))).run P w = .ok (.slice (some ⟨w.heap.size,0,none⟩) n n) (w.alloc (.cells (vs.flatMap fun v=>v.cells.toList).toArray e)):=by
   have hpl:(parts.map fun (i,x)=>(i,a.eval x)).toList=((vs.zipIdx 0).map fun x=>(x.2,x.1)):=by
    rw[Array.toList_map,←h8]
   by_cases hn0:n=0
   ·have hv0:vs=[]:=List.eq_nil_of_length_eq_zero (by omega)
    subst hv0
    subst hn0
    have hpe:parts=#[]:=by
     have:=congrArg List.length h8
     simpa using this
    subst hpe
    simp[Instr.buildSlice,run_underlying (bp he),sizeOf,typeInfo,h1,Instr.fill,newRow]
    congr 2
    exact Array.eq_empty_of_size_eq_zero (by simp)
   ·refine run_buildSlice w t e n _ _ i z (bp he) h1 h2 (by rw[h4];omega) (by rw[h4];intro h0;rcases Nat.mul_eq_zero.1 h0 with h0|h0<;>omega) ?_
    rw[hpl,h4]
    exact Great.fill_whole h6 vs _ h12 (by simp;rw[h10,hn])
  refine⟨(vs.flatMap fun v=>v.cells.toList).toArray,e,.slice (some ⟨w.heap.size,0,none⟩) n n,?_,rfl,fun G' hGF hd hk=>?_⟩
  ·unfold execOp
   simp only[ho]
   exact bh hrun
  ·have hlen:=lX h12
   have hmax:n≤maxLen:=by
    unfold maxLen
    have:n * 1≤n * s:=Nat.mul_le_mul_left n h6
    omega
   refine⟨⟨some ⟨w.heap.size,0,none⟩,n,(vs.flatMap fun v=>v.cells.toList),by rw[hn],?_,hw,?_⟩,?_⟩
   ·refine ay.mono (fun b hb=>by rw[hGF];exact hb) (fun b o hb=>bj (Below.heap_alloc w _ b (hF b hb))) _ _ h9
   ·have:=World.ownsRow_lit (base:=0) (size:=s) (e:=e) w (vs.flatMap fun v=>v.cells.toList).toArray n (Nat.zero_le _) hmax (by simp only[List.size_toArray];rw[hlen,h10,hn])
    rw[hn]at this ⊢
    simpa using this
   ·unfold ar
    exact⟨hd.symm,_,_,_,rfl⟩
theorem gk {F:Nat→Prop} {w:World} {t ty e:TypeId} {s b n m c:Nat} {v:Value} {x:Option Addr} {cells news:List Value} (he:aK P t=some e) (hs:jP P e=some (s,b)) (hown:w.ownsRow 0 e s v n cells)
  (hseg:Du F w x m c s news) (h1:∀ u∈news,u.oneCell'=true) (hb:(n+m) * b≤140737488355328) :
  ∃ v' w',(Builtin.append_ #[t,t] ty #[v,.slice x m c]).run P w = .ok v' w'∧w'.ownsRow 0 e s v' (n+m) (cells++news)∧w.grownBy w' (aW v)∧((aW v'=aW v)∨aW v'=some w.heap.size)∧∃ x' c',v' = .slice x' (n+m) c':=by
 obtain⟨i,z,h2,h3,h4,h5,h6,h7,h8⟩:=iV hs
 have hmax:n+m≤maxLen:=by
  unfold maxLen
  have:(n+m) * 1≤(n+m) * b:=Nat.mul_le_mul_left _ h8
  omega
 have hblk_own:∀ {u:Value} {k:Nat} {cs:List Value} {w:World},w.ownsRow 0 e s u k cs→aW u=u.ownBlock:=by
  intro u k cs w hu
  rcases hu.2 with ⟨rfl,_⟩|⟨g,_,_,rfl,_⟩<;>rfl
 have shape:∀ {w':World} {v':Value} {cs:List Value},w'.ownsRow 0 e s v' (n+m) cs→∃ x' c',v' = .slice x' (n+m) c':=by
  intro w' v' cs h
  rcases h.2 with ⟨hv,hn⟩|⟨g,cap',cur,hv,_⟩
  ·exact⟨_,_,by rw[hv,hn]⟩
  ·exact⟨_,_,hv⟩
 cases x with
 | none=>
  have hc:=hseg.nil rfl
  have hm:m=0:=by have:=hseg.le;omega
  subst hc hm
  have hnews:news=[]:=List.eq_nil_of_length_eq_zero (by have:=hseg.len;simpa using this)
  subst hnews
  have:=run_append_owned_none (P:=P) (w:=w) 0 t ty e i s (bp he) h2 v n cells hown
  refine⟨v,w,this,by simpa using hown,World.grownBy.refl w _,.inl rfl,?_⟩
  exact shape (by simpa using hown)
 | some ad=>
  have hnews:∀ j u,news[j]? = some u→w.cell? (ad.add j)=some u:=by
   intro j u hj
   rcases hseg.cells with h0|⟨b',off,hx,_,hcell⟩
   ·have:=hseg.len
    rw[h0,Nat.zero_mul]at this
    have:news=[]:=List.eq_nil_of_length_eq_zero this
    subst this
    simp at hj
   ·cases hx
    rw[bU]
    exact hcell j u hj
  obtain⟨v',w',h9,h10,h11,_,h12⟩:=run_append_own_at (P:=P) w 0 t ty e i z s b (bp he) h2 h3 h5 h6 h4 h7 v n cells hown ad m c news hseg.len hnews h1 hmax hb (Nat.zero_le _)
  rw[←hblk_own hown,←hblk_own h10]at h12
  rw[←hblk_own hown]at h11
  exact⟨v',w',h9,h10,h11,h12,shape h10⟩
inductive Src (R:Operand→S) (h:Nat→Option aA) (y:Operand) (s:Nat) (ys:List T):List Nat→Prop
 | sl (hy:R y = .t (.sl s ys)):Src R h y s ys []
 | own (l:Nat) (e:TypeId) (hy:R y = .own l) (hl:h l=some (.list e s ys)):Src R h y s ys [l]
 | nil (hy:R y = .t (.lit (.slice none 0 0))) (he:ys=[]):Src R h y s ys []
theorem Src.spec {y:Operand} {s:Nat} {ys:List T} {fp:List Nat} (hsrc:Src R h y s ys fp) {G:Gh} {w:World} {h':Nat→Option aA} {u:Value} (hh:bn G w h') (hr:ar G w (R y) u) (hfp:∀ l∈fp,h' l=h l) :
  ∃ x c news,u = .slice x ys.length c∧ay G.F w ys news∧(∀ z∈ys,z.width=s)∧Du (fun b=>b < w.heap.size) w x ys.length c s news:=by
 cases hsrc with
 | sl hy=>
  rw[hy]at hr
  unfold ar at hr;unfold aO at hr
  obtain⟨x,c,news,h1,h2,h3,h4⟩:=hr
  exact⟨x,c,news,h1,h2,h3,h4.mono (fun b hb=>hh.fb b hb) (fun _ _ _=>rfl)⟩
 | own l e hy hl=>
  rw[hy]at hr
  unfold ar at hr
  have h1:=hh.rep l _ (by rw[hfp l (by simp)];exact hl)
  obtain⟨x,c,news,h2,h3,h4,h5⟩:=h1
  rw[h2]at h5
  refine⟨x,c,news,by rw[hr.1,h2],h3,h4,Du.of_own h5 fun b hb=>?_⟩
  rcases h5.2 with ⟨hv,_⟩|⟨g,_,_,hv,_,hg,_⟩
  ·simp only[Value.slice.injEq]at hv;rw[hv.1]at hb;simp[aW]at hb
  ·simp only[Value.slice.injEq]at hv;rw[hv.1]at hb;simp[aW]at hb;subst hb;exact lt_of_block hg
 | nil hy he=>
  subst he
  rw[hy]at hr
  unfold ar at hr;unfold aO at hr
  exact⟨none,0,[],hr.1,by unfold ay;rfl,by simp,⟨Nat.le_refl _,by unfold maxLen;omega,by simp,fun _=>rfl,.inl rfl⟩⟩
theorem rP {t ty e:TypeId} {x y:Operand} {s b l d:Nat} {xs ys:List T} {fp:List Nat} (ho:o.op = .call {callee:=.builtin .append,args:=#[x,y],argTypes:=#[t,t]}) (he:aK P t=some e) (hs:jP P e=some (s,b))
  (hx:R x = .own l) (hl:h l=some (.list e s xs)) (hsrc:Src R h y s ys fp) (hb:(xs.length+ys.length) * b≤140737488355328) (hdl:d≠l):bm N P o R h ⟨.own d,[(d,some (.list e s (xs++ys))),(l,none)],l :: fp,[d]⟩:=by
 intro W G0 A G g h' a w Q K hsat hop hfp hnw hK
 obtain⟨hd,hfg,hfh⟩:=hnw d (by simp)
 have h1:=hsat.eval x
 rw[hop x (by simp[ho,Op.operands,Call.operands]),hx]at h1
 unfold ar at h1
 have h2:=hsat.eval y
 rw[hop y (by simp[ho,Op.operands,Call.operands])]at h2
 obtain⟨x2,c2,news,h3,h4,h5,h6⟩:=hsrc.spec hsat.heap h2 (fun k hk=>hfp k (by simp[hk]))
 have hl':h' l=some (.list e s xs):=by rw[hfp l (by simp)];exact hl
 obtain⟨x1,c1,cells,h7,h8,h9,h10⟩:=hsat.heap.rep l _ hl'
 obtain⟨v',w',h11,h12,h13,h14,x',c',h15⟩:=gk (P:=P) (ty:=o.type) he hs h10 h6 (fun u hu=>ay.one ys news h4 u hu) hb
 have hnF:∀ k,aW (G.β l)=some k→¬ G.F k:=fun k hk=>hsat.heap.sep l _ k hl' (.inl hk)
 have hcell:∀ b o,G.F b→w'.cell? ⟨b,o,none⟩=w.cell? ⟨b,o,none⟩:=fun b o hF=>bj (h13.block b (hsat.heap.fb b hF) (fun e=>hnF b e.symm hF))
 have hrun:(execOp a.eval o).run P w = .ok (.value v') w':=by
  unfold execOp
  simp only[ho,resolve,invoke,builtin,Sem.run_bind,Sem.run_pure,Result.andThen_ok,List.map_toArray,List.map_cons,List.map_nil,h1.1,h3,h11]
 have hx:=Ext.mk' hsat.heap (aW (G.β l)) h13 (some l) (fun k hk=>⟨_,by cases hk;exact hl'⟩) (fun k hk=>⟨l,rfl,hk⟩) d v' (.list e s (xs++ys)) (.inr hd) [d] (.inl rfl)
  (fun k hk l b hl=>by simp at hk;subst hk;exact hfh l b hl) (fun k hk=>by
   rcases h14 with h14|h14
   ·exact .inl ⟨l,rfl,by rw[←h14];exact hk⟩
   ·right;rw[h14]at hk;cases hk;exact Nat.le_refl _)
  (by
   refine⟨x',c',cells++news,by rw[h15];simp,?_,?_,by rw[List.length_append];exact h12⟩
   ·exact ay.append (ay.mono (fun _ h=>h) hcell _ _ h8) (ay.mono (fun _ h=>h) hcell _ _ h4)
   ·intro z hz
    rcases List.mem_append.1 hz with hz|hz
    ·exact h9 z hz
    ·exact h5 z hz) (ik.plain rfl)
 rw[lG h' d l]at hx
 exact dm hrun (hK v' _ _ hx (by unfold ar;exact⟨(dw _ _ _).symm,_,_,_,h15⟩))
theorem rU {t ty e:TypeId} {x y:Operand} {s b d:Nat} {ys:List T} {fp:List Nat} (ho:o.op = .call {callee:=.builtin .append,args:=#[x,y],argTypes:=#[t,t]}) (he:aK P t=some e) (hs:jP P e=some (s,b))
  (hx:R x = .t (.lit (.slice none 0 0))) (hsrc:Src R h y s ys fp) (hb:ys.length * b≤140737488355328):bm N P o R h ⟨.own d,[(d,some (.list e s ys))],fp,[d]⟩:=by
 intro W G0 A G g h' a w Q K hsat hop hfp hnw hK
 obtain⟨hd,hfg,hfh⟩:=hnw d (by simp)
 have h1:=hsat.eval x
 rw[hop x (by simp[ho,Op.operands,Call.operands]),hx]at h1
 unfold ar at h1;unfold aO at h1
 have h2:=hsat.eval y
 rw[hop y (by simp[ho,Op.operands,Call.operands])]at h2
 obtain⟨x2,c2,news,h3,h4,h5,h6⟩:=hsrc.spec hsat.heap h2 hfp
 obtain⟨v',w',h11,h12,h13,h14,x',c',h15⟩:=gk (P:=P) (ty:=o.type) he hs (World.ownsRow_nil w 0 e s) h6 (fun u hu=>ay.one ys news h4 u hu) (by rw[Nat.zero_add];exact hb)
 rw[Nat.zero_add,List.nil_append]at h12
 rw[Nat.zero_add]at h15
 have hcell:∀ b o,G.F b→w'.cell? ⟨b,o,none⟩=w.cell? ⟨b,o,none⟩:=fun b o hF=>bj (h13.block b (hsat.heap.fb b hF) (fun e=>by simp[aW]at e))
 have hrun:(execOp a.eval o).run P w = .ok (.value v') w':=by
  unfold execOp
  simp only[ho,resolve,invoke,builtin,Sem.run_bind,Sem.run_pure,Result.andThen_ok,List.map_toArray,List.map_cons,List.map_nil,h1.1,h3,h11]
 have hx:=Ext.mk' hsat.heap none h13 none (fun k hk=>by cases hk) (fun k hk=>by cases hk) d v' (.list e s ys) (.inr hd) [d] (.inl rfl)
  (fun k hk l b hl=>by simp at hk;subst hk;exact hfh l b hl) (fun k hk=>by
   right
   rcases h14 with h14|h14
   ·rw[h14]at hk;simp[aW]at hk
   ·rw[h14]at hk;cases hk;exact Nat.le_refl _)
  ⟨x',c',news,h15,ay.mono (fun _ h=>h) hcell _ _ h4,h5,h12⟩ (ik.plain rfl)
 rw[dZ h' d _ none (.inr rfl)]at hx
 exact dm hrun (hK v' _ _ hx (by unfold ar;exact⟨(dw _ _ _).symm,_,_,_,h15⟩))
theorem vS {t:TypeId} {e e':TypeId} {x:Operand} {l s:Nat} {us:List U} {ex:List (Nat×S)} (ho:o.op = .call {callee:=.builtin .len,args:=#[x],argTypes:=#[t]}) (he:aK P t=some e) (hx:R x = .own l) (hl:h l=some (.rows e' s us ex)):bm N P o R h ⟨.t (.int us.length),[],[l],[]⟩:=
 aH fun G h' a w hh hop hfp=>by
  have h1:=hop x (by simp[ho,Op.operands,Call.operands])
  rw[hx]at h1
  unfold ar at h1
  obtain⟨ad,cap,cells,h5,h8⟩:=hh.rep l _ (by rw[hfp l (by simp)];exact hl)
  refine⟨.int .i64 us.length,?_,by unfold ar;unfold aO;exact⟨rfl,rfl⟩⟩
  unfold execOp
  simp[ho,resolve,invoke,builtin,h1.1,h5,Builtin.len_,run_underlying (bp he),goInt]
theorem tC {t:TypeId} {e:TypeId} {x:Operand} {s:Nat} {xs:List T} {fp:List Nat} (ho:o.op = .call {callee:=.builtin .len,args:=#[x],argTypes:=#[t]}) (he:aK P t=some e) (hsrc:Src R h x s xs fp):bm N P o R h ⟨.t (.int xs.length),[],fp,[]⟩:=
 aH fun G h' a w hh hop hfp=>by
  have h1:=hop x (by simp[ho,Op.operands,Call.operands])
  obtain⟨ad,c,news,h2,_⟩:=hsrc.spec hh h1 hfp
  refine⟨.int .i64 xs.length,?_,by unfold ar;unfold aO;exact⟨rfl,rfl⟩⟩
  unfold execOp
  simp[ho,resolve,invoke,builtin,h2,Builtin.len_,run_underlying (bp he),goInt]
def iS (P:Program) (t:TypeId):Bool:=match P.underlying t with|some .string=>true|_=>false
theorem eZ {t:TypeId} (hz:iS P t=true):P.underlying t=some .string:=by
 unfold iS at hz;split at hz<;>simp_all
theorem xZ {t:TypeId} {x:Operand} {s:ByteArray} (ho:o.op = .call {callee:=.builtin .len,args:=#[x],argTypes:=#[t]}) (he:iS P t=true) (hx:R x = .t (.lit (.string s))):bm N P o R h ⟨.t (.int s.size),[],[],[]⟩:=
 aH fun G h' a w hh hop hfp=>by
  have h1:=hop x (by simp[ho,Op.operands,Call.operands])
  rw[hx]at h1
  unfold ar at h1;unfold aO at h1
  refine⟨.int .i64 s.size,?_,by unfold ar;unfold aO;exact⟨rfl,rfl⟩⟩
  unfold execOp
  simp[ho,resolve,invoke,builtin,h1.1,Builtin.len_,run_underlying (eZ he),goInt]
theorem IG {ts:Array TypeId} {x y:Operand} {k k':IntKind} {m n:Int} (ho:o.op = .call {callee:=.builtin .min,args:=#[x,y],argTypes:=ts}) (hx:R x = .t (.lit (.int k m))) (hy:R y = .t (.lit (.int k' n))):bm N P o R h ⟨.t (.lit (.int k (min m n))),[],[],[]⟩:=
 aH fun G h' a w hh hop hfp=>by
  have h1:=hop x (by simp[ho,Op.operands,Call.operands])
  have h2:=hop y (by simp[ho,Op.operands,Call.operands])
  rw[hx]at h1
  rw[hy]at h2
  unfold ar at h1 h2;unfold aO at h1 h2
  refine⟨.int k (min m n),?_,by unfold ar;unfold aO;exact⟨rfl,rfl⟩⟩
  unfold execOp
  simp[ho,resolve,invoke,builtin,h1.1,h2.1,run_min_int2]
  omega
theorem Kw {ts:Array TypeId} {x y:Operand} {k k':IntKind} {m n:Int} (ho:o.op = .call {callee:=.builtin .max,args:=#[x,y],argTypes:=ts}) (hx:R x = .t (.lit (.int k m))) (hy:R y = .t (.lit (.int k' n))):bm N P o R h ⟨.t (.lit (.int k (max m n))),[],[],[]⟩:=
 aH fun G h' a w hh hop hfp=>by
  have h1:=hop x (by simp[ho,Op.operands,Call.operands])
  have h2:=hop y (by simp[ho,Op.operands,Call.operands])
  rw[hx]at h1
  rw[hy]at h2
  unfold ar at h1 h2;unfold aO at h1 h2
  refine⟨.int k (max m n),?_,by unfold ar;unfold aO;exact⟨rfl,rfl⟩⟩
  unfold execOp
  simp[ho,resolve,invoke,builtin,h1.1,h2.1,run_max_int2]
  omega
theorem aD.get {G:Gh} {w:World}:∀ {ss:List S} {us:List Value} {i:Nat} {s:S},aD G w ss us→ss[i]? = some s→∃ u,us[i]? = some u∧ar G w s u
 | [],us,i,s,h,e=>by simp at e
 | x :: r,us,0,s,h,e=>by
  simp at e;subst e
  unfold aD at h
  obtain⟨v,us',rfl,h1,h2⟩:=h
  exact⟨v,rfl,h1⟩
 | x :: r,us,i+1,s,h,e=>by
  unfold aD at h
  obtain⟨v,us',rfl,h1,h2⟩:=h
  obtain⟨u,h3,h4⟩:=aD.get (i:=i) (s:=s) h2 (by simpa using e)
  exact⟨u,by simpa using h3,h4⟩
theorem yY {x:Operand} {i:Nat} {ss:List S} {s:S} (ho:o.op = .extract x i) (hx:R x = .tup ss) (hs:ss[i]? = some s):bm N P o R h ⟨s,[],[],[]⟩:=
 aH fun G h' a w hh hop hfp=>by
  have h1:=hop x (by simp[ho,Op.operands])
  rw[hx]at h1
  unfold ar at h1
  obtain⟨us,h2,h3⟩:=h1
  obtain⟨u,h4,h5⟩:=aD.get h3 hs
  refine⟨u,?_,h5⟩
  unfold execOp
  simp only[ho]
  exact bh (by simp[Instr.extract,h2,h4])
theorem Ai {G:Gh} {w:World} {t:TypeId} {s:S} {v:Value} {cs:Array Value} {off:Nat} (hs:ar G w s v) (hso:s.solid=true) (hok:kO P t s) (hc:∀ j c,v.cells.toList[j]? = some c→cs[off+j]? = some c) (hle:off+s.width≤cs.size) :
  (part t cs off).run P w = .ok v w:=by
 obtain⟨h1,h2⟩:=hok
 have hw:=(ar.lens hs hso).1
 simp only[part,Sem.run_bind,oO h2,Result.andThen_ok]
 cases hi:s.isAg with
 | true=>
  have hv:=uS hs hi
  simp only[if_true,fA h1,Sem.run_bind,Result.andThen_ok,Sem.run_pure]
  rw[hv]
  congr 2
  apply Array.ext_getElem?
  intro j
  by_cases hj:j < v.cells.size
  ·have:=hc j v.cells[j] (by simp[hj])
   rw[Array.getElem?_extract,if_pos (by omega),this]
   simp[hj]
  ·rw[Array.getElem?_eq_none (by simp;omega),Array.getElem?_eq_none (by omega)]
 | false=>
  have hv:=q9 hs hi hso
  have:=hc 0 v (by rw[hv.2];rfl)
  simp at this
  simp[this]
theorem CD {t:TypeId} {x:Operand} {f:Nat} {xs:List T} {y:T} {q:Nat×TypeId} (ho:o.op = .field t x f) (hx:R x = .t (.agg xs)) (hy:xs[f]? = some y) (hf:aX P t f=some q) (hq:T.widths (xs.take f)=q.1) (hok:kO P q.2 (.t y)) :
  bm N P o R h ⟨.t y,[],[],[]⟩:=
 aH fun G h' a w hh hop _=>by
  have h1:=hop x (by simp[ho,Op.operands])
  rw[hx]at h1
  unfold ar at h1
  unfold aO at h1
  obtain⟨cells,h2,h3⟩:=h1
  obtain⟨v,h4,h5,_⟩:=ay.get h3 hy
  have h6:ar G w (.t y) v:=by unfold ar;exact h4
  refine⟨v,?_,h6⟩
  obtain⟨fs,fd,h7,h8,h9,h10⟩:=F7 hf
  have hlen:=ay.widths _ _ h3
  have hle:q.1+y.width≤cells.length:=by
   have h8:=b9 hy
   have h9:T.widths xs=T.widths (xs.take (f+1))+T.widths (xs.drop (f+1)):=by rw[←dD,List.take_append_drop]
   omega
  have:=Ai (P:=P) (cs:=cells.toArray) (off:=q.1) h6 rfl hok (fun j c hj=>by rw[←hq];simpa using h5 j c hj) (by show q.1+y.width≤_;simpa using hle)
  unfold execOp
  simp only[ho,h2]
  exact bh (by simp[Instr.field,run_underlying h7,h8,asAgg,h9,h10,this])
theorem J1 {t:TypeId} {x:Operand} {b:Bool} (ho:o.op = .unOp .not t x) (hx:R x = .t (.lit (.bool b))):bm N P o R h ⟨.t (.lit (.bool (!b))),[],[],[]⟩:=
 aH fun G h' a w hh hop hfp=>by
  have h1:=hop x (by simp[ho,Op.operands])
  rw[hx]at h1
  unfold ar at h1;unfold aO at h1
  refine⟨.bool (!b),?_,by unfold ar;unfold aO;exact⟨rfl,rfl⟩⟩
  unfold execOp
  simp only[ho,h1.1]
  exact bh (by simp[Op.unary])
theorem JU {t:TypeId} {x:Operand} {k:IntKind} {n:Int} (ho:o.op = .unOp .neg t x) (hx:R x = .t (.lit (.int k n))):bm N P o R h ⟨.t (.lit (.int k (k.wrap (0 - n)))),[],[],[]⟩:=
 aH fun G h' a w hh hop hfp=>by
  have h1:=hop x (by simp[ho,Op.operands])
  rw[hx]at h1
  unfold ar at h1;unfold aO at h1
  refine⟨.int k (k.wrap (0 - n)),?_,by unfold ar;unfold aO;exact⟨rfl,rfl⟩⟩
  unfold execOp
  simp only[ho,h1.1]
  exact bh (by simp[Op.unary,Op.intArith])
theorem HO {t:TypeId} {x:Operand} {k:IntKind} {n:Int} (ho:o.op = .unOp .xor t x) (hx:R x = .t (.lit (.int k n))):bm N P o R h ⟨.t (.lit (.int k (bits .xor k (if k.signed then -1 else k.max) n))),[],[],[]⟩:=
 aH fun G h' a w hh hop hfp=>by
  have h1:=hop x (by simp[ho,Op.operands])
  rw[hx]at h1
  unfold ar at h1;unfold aO at h1
  refine⟨.int k (bits .xor k (if k.signed then -1 else k.max) n),?_,by unfold ar;unfold aO;exact⟨rfl,rfl⟩⟩
  unfold execOp
  simp only[ho,h1.1]
  exact bh (by simp[Op.unary,intBits_xor])
def jh (n:Nat):T:=.lit (.int .u8 n)
def gA:List T→List Nat
 | []=>[]
 | .lit (.int .u8 n) :: r=>n.toNat :: gA r
 | _ :: r=>0 :: gA r
def mb:List T→Prop
 | []=>True
 | .lit (.int .u8 n) :: r=>0≤n∧mb r
 | _ :: _=>False
def QY (k:IntKind) (n:Int):T:=.lit (.int k n)
def Rh (n:Nat):T:=.lit (.int .u32 n)
theorem iA:∀ l:List Nat,gA (l.map jh)=l
 | []=>rfl
 | x :: r=>by simp[gA,jh,iA r]
theorem qg:∀ l:List Nat,mb (l.map jh)=True
 | []=>rfl
 | x :: r=>by simp[mb,jh,qg r]
theorem CB (n m:Nat) (l:List Nat):gA (((l.map jh).take n).drop m)=(l.take n).drop m:=by rw[←List.map_take,←List.map_drop,iA]
theorem HQ (n m:Nat) (l:List Nat):mb (((l.map jh).take n).drop m)=True:=by rw[←List.map_take,←List.map_drop,qg]
theorem AI:∀ {xs:List T},mb xs→xs=(gA xs).map jh
 | [],_=>rfl
 | x :: r,h=>by
  cases x with
  | lit v=>cases v with
   | int k n=>cases k<;>simp[mb]at h<;>simp[gA,jh,←AI h.2];omega
   | _=>simp[mb]at h
  | _=>simp[mb]at h
theorem uJ {F:Nat→Prop} {w:World}:∀ {bs:List Nat} {cells:List Value},ay F w (bs.map jh) cells→cells=vk .u8 bs
 | [],cells,h=>by simp only[List.map_nil]at h;unfold ay at h;exact h
 | c :: r,cells,h=>by
  simp only[List.map_cons]at h
  unfold ay at h
  obtain⟨u,us,rfl,h1,h2⟩:=h
  unfold jh at h1
  unfold aO at h1
  rw[h1.1,uJ h2]
  rfl
theorem gZ {s t e:TypeId} {x:Operand} {xs:List T} {fp:List Nat} (ho:o.op = .convert s t x) (he:aK P s=some e) (hu:mV P e=some .u8) (hk:iS P t=true) (hsrc:Src R h x 1 xs fp) (hb:mb xs):bm N P o R h ⟨.t (.lit (.string (str (gA xs)))),[],fp,[]⟩:=
 aH fun G h' a w hh hop hfp=>by
  have h1:=hop x (by simp[ho,Op.operands])
  obtain⟨ad,c,news,h2,h3,_,h4⟩:=hsrc.spec hh h1 hfp
  have hxs:=AI hb
  obtain⟨bs,hbs⟩:∃ bs,gA xs=bs:=⟨_,rfl⟩
  rw[hbs]at hxs ⊢
  subst hxs
  have h5:=uJ h3
  subst h5
  refine⟨.string (str bs),?_,by unfold ar;unfold aO;exact⟨rfl,rfl⟩⟩
  unfold execOp
  simp only[ho,h2]
  refine bh ?_
  have hl:(bs.map jh).length=bs.length:=by simp
  rw[hl]at h4 ⊢
  refine LL w s e t (bp he) (gN hu) (eZ hk) (x:=ad) (n:=bs.length) (cap:=c) (bs:=bs) ?_
  refine⟨h4.le,h4.capLe,by rw[lF];omega,h4.nil,?_⟩
  rcases h4.cells with h5|⟨b,off,rfl,h5,h6⟩
  ·exact .inl h5
  ·refine .inr ⟨b,off,rfl,h5,fun j u hj=>?_⟩
   exact h6 j u hj
theorem vy {s t:TypeId} {x:Operand} {k k' k2:IntKind} {n:Int} (ho:o.op = .convert s t x) (hs:mV P s=some k2) (hk:mV P t=some k') (hx:R x = .t (.lit (.int k n))):bm N P o R h ⟨.t (.lit (.int k' (k'.wrap n))),[],[],[]⟩:=
 aH fun G h' a w hh hop hfp=>by
  have h1:=hop x (by simp[ho,Op.operands])
  rw[hx]at h1
  unfold ar at h1;unfold aO at h1
  refine⟨.int k' (k'.wrap n),?_,by unfold ar;unfold aO;exact⟨rfl,rfl⟩⟩
  unfold execOp
  simp only[ho,h1.1]
  exact bh (by simp[convert,run_underlying (gN hs),run_underlying (gN hk),Conv.intToInt])
theorem vA {s t:TypeId} {x:Operand} {b:ByteArray} (ho:o.op = .convert s t x) (hs:iS P s=true) (hk:iS P t=true) (hx:R x = .t (.lit (.string b))):bm N P o R h ⟨.t (.lit (.string b)),[],[],[]⟩:=
 aH fun G h' a w hh hop hfp=>by
  have h1:=hop x (by simp[ho,Op.operands])
  rw[hx]at h1
  unfold ar at h1;unfold aO at h1
  refine⟨.string b,?_,by unfold ar;unfold aO;exact⟨rfl,rfl⟩⟩
  unfold execOp
  simp only[ho,h1.1]
  exact bh (by simp[convert,run_underlying (eZ hs),run_underlying (eZ hk)])
theorem aD.map {G:Gh} {w:World} {ev:Operand→Value}:∀ {l:List Operand},(∀ x∈l,ar G w (R x) (ev x))→aD G w (l.map R) (l.map ev)
 | [],_=>by simp only[List.map_nil];unfold aD;rfl
 | x :: r,h=>by
  simp only[List.map_cons]
  unfold aD
  exact⟨ev x,_,rfl,h x (by simp),aD.map fun y hy=>h y (by simp[hy])⟩
theorem v8 {f:FuncId} {caps:Array Operand} (ho:o.op = .makeFunc (.func f) #[] caps):bm N P o R h ⟨.fn f (caps.toList.map R),[],[],[]⟩:=
 aH fun G h' a w hh hop hfp=>by
  refine⟨.func (.func f) #[] (caps.map a.eval),?_,?_⟩
  ·unfold execOp
   simp only[ho]
   exact bh (by simp[Instr.makeFunc])
  ·unfold ar
   refine⟨caps.toList.map a.eval,by rw[←Array.toList_map],?_⟩
   exact aD.map fun x hx=>hop x (by simp[ho,Op.operands];exact Array.mem_toList_iff.1 hx)
theorem td {f:FuncId} {first:Array Operand} (ho:o.op = .makeFunc (.func f) first #[]):bm N P o R h ⟨.fb f (first.toList.map R),[],[],[]⟩:=
 aH fun G h' a w hh hop hfp=>by
  refine⟨.func (.func f) (first.map a.eval) #[],?_,?_⟩
  ·unfold execOp
   simp only[ho]
   exact bh (by simp[Instr.makeFunc])
  ·unfold ar
   refine⟨first.toList.map a.eval,by rw[←Array.toList_map],?_⟩
   exact aD.map fun x hx=>hop x (by simp[ho,Op.operands];exact Array.mem_toList_iff.1 hx)
end
def oD (P:Program) (t:TypeId):Bool:=match P.underlying t with|some .bool=>true|_=>false
theorem oL {P:Program} {t:TypeId} (hz:oD P t=true):P.underlying t=some .bool:=by
 unfold oD at hz;split at hz<;>simp_all
def oH (P:Program) (t:TypeId):Option (List (Nat×TypeId)):=match P.underlying t with
 | some (.struct fs)=>if fs.toList.all (fun f=>f.name != "_") then some (fs.toList.map fun f=>(f.offset,f.type)) else none
 | _=>none
def qk (P:Program) (t:TypeId):Option (List (Nat×Nat)):=match P.underlying t with
 | some (.struct fs)=>fs.toList.mapM fun f=>(P.info? f.type).map fun i=>(f.offset,i.size)
 | _=>none
section
variable {N:Nat} {P:Program} {o:Oper} {R:Operand→S} {h:Nat→Option aA}
theorem pB {x:Operand} {l off:Nat} {p:List Nat} (ho:o.op = .nilCheck x) (hx:R x = .pt l p off):bm N P o R h ⟨R x,[],[],[]⟩:=
 aH fun G h' a w hh hop _=>by
  have h1:=hop x (by simp[ho,Op.operands])
  refine⟨a.eval x,?_,h1⟩
  rw[hx]at h1
  unfold ar at h1
  obtain⟨b,h2,h3⟩:=h1
  unfold execOp
  simp[ho,h3]
theorem pC {x:Operand} {y:T} (ho:o.op = .nilCheck x) (hx:R x = .rp y):bm N P o R h ⟨R x,[],[],[]⟩:=
 aH fun G h' a w hh hop _=>by
  have h1:=hop x (by simp[ho,Op.operands])
  refine⟨a.eval x,?_,h1⟩
  rw[hx]at h1
  unfold ar at h1
  obtain⟨b,off,v,h3,_⟩:=h1
  unfold execOp
  simp[ho,h3]
theorem tI {F:Nat→Prop} {w:World} {s l h n cap:Nat} {xs:List T} {a:Option Addr} (hr:aO F w (.sl s xs) (.slice a n cap)) (hlh:l≤h) (hh:h≤xs.length) :
  aO F w (.sl s ((xs.take h).drop l)) (.slice (if cap=l then a else a.map (·.add (l * s))) (h - l) (cap - l)):=by
 unfold aO at hr ⊢
 obtain⟨x,cap',cells,h1,h2,h3,h4⟩:=hr
 simp only[Value.slice.injEq]at h1
 obtain⟨rfl,rfl,rfl⟩:=h1
 have hcl:=ay.widths _ _ h2
 rw[bt h3]at hcl
 have hlen:((xs.take h).drop l).length=h - l:=by simp;omega
 have hr1:=(ay.split h h2).1
 have h3':∀ y∈xs.take h,y.width=s:=fun y hy=>h3 y (List.mem_of_mem_take hy)
 have hr2:=(ay.split l hr1).2
 rw[aG h3' (by simp;omega),aG h3 hh]at hr2
 have hlh':=Nat.mul_le_mul_right s hlh
 have hh':=Nat.mul_le_mul_right s hh
 refine⟨_,cap - l,_,by rw[hlen],hr2,fun y hy=>h3' y (List.mem_of_mem_drop hy),?_⟩
 have hle:=h4.le
 refine⟨by rw[hlen];omega,by have:=h4.capLe;omega,?_,?_,?_⟩
 ·rw[hlen,List.length_drop,List.length_take,hcl,Nat.min_eq_left hh',Nat.sub_mul]
 ·intro e
  split at e
  ·omega
  ·have hx:a=none:=by simpa using e
   have:=h4.nil hx
   omega
 ·rw[hlen]
  by_cases h0:h - l=0
  ·exact .inl h0
  ·right
   rcases h4.cells with h5|⟨b,off,hx,hF,hc⟩
   ·omega
   ·refine⟨b,off+l * s,?_,hF,?_⟩
    ·rw[if_neg (by omega),hx]
     simp[bU]
    ·intro j u hu
     rw[List.getElem?_drop,List.getElem?_take]at hu
     split at hu
     ·have:=hc _ _ hu
      rw[Nat.add_assoc];exact this
     ·cases hu
def ia (R:Operand→S) (d:Int):Option Operand→Option Int
 | none=>some d
 | some x=>match R x with
  | .t (.lit (.int _ n))=>some n
  | _=>none
theorem gY {G:Gh} {ev:Operand→Value} {w:World} {t e:TypeId} {s n cap:Nat} {a:Option Addr} {lo hi:Option Operand} {l hb:Int} (he:aK P t=some e) (hs:bY P e=some s)
  (hop:∀ x,lo=some x∨hi=some x→ar G w (R x) (ev x)) (hlo:ia R 0 lo=some l) (hhi:ia R n hi=some hb) (h0:0≤l) (h1:l≤hb) (h2:hb≤n) (hc:n≤cap) :
  (Instr.sliceAt t (.slice a n cap) (lo.map ev) (hi.map ev) none).run P w = .ok (.slice (if cap=l.toNat then a else a.map (·.add (l.toNat * s))) (hb.toNat - l.toNat) (cap - l.toNat)) w:=by
 have hv:∀ (q:Option Operand) (dd m:Int),(∀ x,q=some x→ar G w (R x) (ev x))→ia R dd q=some m→(q=none∧m=dd)∨∃ x k,q=some x∧ev x = .int k m:=by
  intro q dd m hq hm
  cases q with
  | none=>simp[ia]at hm;exact .inl ⟨rfl,hm.symm⟩
  | some x=>
   simp only[ia]at hm
   split at hm
   ·rename_i k n hx
    simp at hm
    subst hm
    have:=hq x rfl
    rw[hx]at this
    unfold ar at this;unfold aO at this
    exact .inr ⟨x,k,rfl,this.1⟩
   ·cases hm
 have hz:=fA (P:=P) hs w
 have hlt:l.toNat≤cap:=by omega
 have e1:∀ k,(Instr.sliceBound (.int k hb) cap .sliceAcap).run P w = .ok hb.toNat w:=by
  intro k
  simp[Instr.sliceBound,asIntOf,show (0:Int)≤hb by omega,show hb≤(cap:Int) by omega]
 have e2:∀ k,(Instr.sliceBound (.int k l) hb.toNat .sliceB).run P w = .ok l.toNat w:=by
  intro k
  simp[Instr.sliceBound,asIntOf,h0,show l≤((hb.toNat:Nat):Int) by omega]
  try (intro hq;exact absurd hq (by omega))
 rcases hv lo 0 l (fun x hx=>hop x (.inl hx)) hlo with ⟨rfl,rfl⟩|⟨x,k,rfl,hx⟩<;>rcases hv hi n hb (fun x hx=>hop x (.inr hx)) hhi with ⟨rfl,rfl⟩|⟨y,k',rfl,hy⟩
 ·simp[Instr.sliceAt,Instr.slice,run_underlying (bp he),Instr.sliceBounds,hz]
 ·simp[Instr.sliceAt,Instr.slice,run_underlying (bp he),Instr.sliceBounds,hz,hy,e1]
 ·have e2':(Instr.sliceBound (.int k l) n .sliceB).run P w = .ok l.toNat w:=by have:=e2 k;simpa using this
  simp[Instr.sliceAt,Instr.slice,run_underlying (bp he),Instr.sliceBounds,hz,hx,e2']
 ·simp[Instr.sliceAt,Instr.slice,run_underlying (bp he),Instr.sliceBounds,hz,hx,hy,e1,e2]
theorem Cp {t e:TypeId} {x:Operand} {lo hi:Option Operand} {s:Nat} {l hb:Int} {xs:List T} (ho:o.op = .slice t x lo hi none) (he:aK P t=some e) (hs:bY P e=some s) (hx:R x = .t (.sl s xs))
  (hlo:ia R 0 lo=some l) (hhi:ia R xs.length hi=some hb) (h0:0≤l) (h1:l≤hb) (h2:hb≤xs.length):bm N P o R h ⟨.t (.sl s ((xs.take hb.toNat).drop l.toNat)),[],[],[]⟩:=
 aH fun G h' a w hh hop _=>by
  have h3:=hop x (by simp[ho,Op.operands])
  rw[hx]at h3
  unfold ar at h3
  have h3':=h3
  unfold aO at h3'
  obtain⟨ad,cap,cells,h4,_,_,h5⟩:=h3'
  rw[h4]at h3
  refine⟨_,?_,by unfold ar;exact tI (l:=l.toNat) (h:=hb.toNat) h3 (by omega) (by omega)⟩
  unfold execOp
  simp only[ho,h4]
  exact bh (gY (R:=R) (G:=G) he hs (fun y hy=>hop y (by simp[ho,Op.operands];rcases hy with hy|hy<;>simp[hy])) hlo hhi h0 h1 h2 h5.le)
theorem uD {t e e':TypeId} {x:Operand} {lo hi:Option Operand} {s k:Nat} {l hb:Int} {xs:List T} (ho:o.op = .slice t x lo hi none) (he:aK P t=some e) (hs:bY P e=some s) (hx:R x = .own k) (hk:h k=some (.list e' s xs))
  (hlo:ia R 0 lo=some l) (hhi:ia R xs.length hi=some hb) (h0:0≤l) (h1:l≤hb) (h2:hb≤xs.length):bm N P o R h ⟨.t (.sl s ((xs.take hb.toNat).drop l.toNat)),[(k,none)],[k],[]⟩:=by
 intro W G0 A G g h' a w Q K hsat hop hfp _ hK
 have h3:=hsat.eval x
 rw[hop x (by simp[ho,Op.operands]),hx]at h3
 unfold ar at h3
 have hk':h' k=some (.list e' s xs):=by rw[hfp k (by simp)];exact hk
 have hrep:=hsat.heap.rep k _ hk'
 have hx:=Ext.freeze hsat.heap hk'
 have h4:aO (fun b=>G.F b∨G.ft k b) w (.sl s xs) (G.β k):=fJ hrep (fun b hb=> .inl hb) (fun b hb=> .inr (.inl hb))
 have h4':=h4
 unfold aO at h4'
 obtain⟨ad,cap,cells,h5b,_,_,h6⟩:=h4'
 have h5:a.eval x = .slice ad xs.length cap:=by rw[h3.1,h5b]
 have h7:aO (fun b=>G.F b∨G.ft k b) w (.sl s xs) (.slice ad xs.length cap):=by rw[←h5b];exact h4
 refine dm (v:=.slice (if cap=l.toNat then ad else ad.map (·.add (l.toNat * s))) (hb.toNat - l.toNat) (cap - l.toNat)) (w':=w) ?_ (hK _ _ w hx ?_)
 ·unfold execOp
  simp only[ho,h5]
  exact bh (gY (R:=R) (G:=G) he hs (fun y hy=>by
   rw[←hop y (by simp[ho,Op.operands];rcases hy with hy|hy<;>simp[hy])]
   exact hsat.eval y) hlo hhi h0 h1 h2 h6.le)
 ·unfold ar
  exact tI h7 (by omega) (by omega)
def sW (pls:List (Nat×Nat)) (R:Operand→S):List (Nat×Operand)→List S→Option (List S)
 | [],fs=>some fs
 | (i,x) :: r,fs=>match fs[i]?,pls[i]? with
  | some f,some (off,sz)=>if off=S.widths (fs.take i)∧sz=f.width∧(R x).solid=true∧(R x).width=f.width then sW pls R r (fs.set i (R x)) else none
  | _,_=>none
def GA:List S→Option (List T)
 | []=>some []
 | .t x :: r=>match GA r with
  | some xs=>some (x :: xs)
  | none=>none
 | _ :: _=>none
def Gm (fs:List S):S:=match GA fs with
 | some xs=> .t (.agg xs)
 | none=> .ag fs
theorem pD:∀ {fs:List S} {xs:List T},GA fs=some xs→fs=xs.map S.t
 | [],xs,e=>by simp[GA]at e;subst e;rfl
 | s :: r,xs,e=>by
  cases s<;>simp only[GA]at e<;>try (cases e)
  split at e
  ·rename_i x xs' hx
   simp at e
   subst e
   rw[pD hx];rfl
  ·cases e
theorem wD {G:Gh} {w:World}:∀ {ys:List T} {cs:List Value},aE G w (ys.map S.t) cs→ay G.F w ys cs
 | [],cs,h=>by simp only[List.map_nil]at h;unfold aE at h;unfold ay;exact h
 | y :: ys,cs,h=>by
  simp only[List.map_cons]at h
  unfold aE at h
  obtain⟨v,cs',h4,_,_,h5,h6⟩:=h
  unfold ay
  unfold ar at h5
  exact⟨v,cs',h4,h5,wD h6⟩
theorem yS {G:Gh} {w:World} {fs:List S} {cells:List Value} (hr:aE G w fs cells):ar G w (Gm fs) (.agg cells.toArray):=by
 unfold Gm
 split
 ·rename_i xs hx
  rw[pD hx]at hr
  unfold ar;unfold aO
  exact⟨cells,rfl,wD hr⟩
 ·unfold ar
  exact⟨cells,rfl,hr⟩
theorem yK {cells:Array Value} {vs:List Value} {off:Nat} (h:off+vs.length≤cells.size) :
  ((vs.zipIdx 0).foldl (fun cs (x:Value×Nat)=>cs.setIfInBounds (off+x.2) x.1) cells).toList=bS cells.toList off vs:=by
 obtain⟨h1,h2⟩:=Great.foldl_set off vs 0 cells
 apply List.ext_getElem?
 intro k
 have h3:=h2 k
 simp only[Nat.add_zero]at h3
 rw[Array.getElem?_toList,h3]
 unfold bS
 by_cases hk1:k < off
 ·rw[if_neg (by omega),List.getElem?_append_left (by simp;omega),List.getElem?_take,if_pos hk1]
  simp
 ·by_cases hk2:k < off+vs.length
  ·rw[if_pos (by omega),List.getElem?_append_right (by simp;omega)]
   rw[List.getElem?_append_left (by simp;omega)]
   simp[Nat.min_eq_left (show off≤cells.size by omega)]
  ·rw[if_neg (by omega),List.getElem?_append_right (by simp;omega),List.getElem?_append_right (by simp;omega),List.getElem?_drop]
   simp only[List.length_take,Array.length_toList,Nat.min_eq_left (show off≤cells.size by omega)]
   rw[show off+vs.length+(k - off - vs.length)=k by omega]
   simp
theorem qt {G:Gh} {w:World} {ev:Operand→Value} {pls:List (Nat×Nat)}:∀ {parts:List (Nat×Operand)} {fs fs':List S} {cells:Array Value},aE G w fs cells.toList→(∀ q∈parts,ar G w (R q.2) (ev q.2))→sW pls R parts fs=some fs'→
  ∃ cells',Instr.fill (fun i=>pls[i]?) cells (parts.map fun q=>(q.1,ev q.2))=some cells'∧aE G w fs' cells'.toList
 | [],fs,fs',cells,hr,_,e=>by
  simp[sW]at e
  subst e
  exact⟨cells,rfl,hr⟩
 | (i,x) :: r,fs,fs',cells,hr,hp,e=>by
  simp only[sW]at e
  split at e
  ·rename_i f off sz hf hpl
   split at e
   ·rename_i hc
    obtain⟨h1,h2,h3,h4⟩:=hc
    have hx:=hp (i,x) (by simp)
    have hlx:=ar.lens hx h3
    have hset:=aE.set hr hf hx hlx.1 hlx.2 h4
    have hlen:=(aE.lens hr).1
    have h8:=cW hf
    have h9:=fq fs (i+1)
    have hfit:off+(ev x).cells.toList.length≤cells.size:=by
     simp only[Array.length_toList]at *
     omega
    have hsp:=yK hfit
    have hin:aE G w (fs.set i (R x)) (((ev x).cells.toList.zipIdx 0).foldl (fun cs (y:Value×Nat)=>cs.setIfInBounds (off+y.2) y.1) cells).toList:=by
     rw[hsp]
     unfold bS
     rw[h1,Array.length_toList,hlx.1,h4]
     exact hset
    obtain⟨cells',h5,h6⟩:=qt (ev:=ev) hin (fun q hq=>hp q (by simp[hq])) e
    refine⟨cells',?_,h6⟩
    simp only[List.map_cons]
    unfold Instr.fill
    simp only[hpl]
    have hsz:(ev x).cells.size=sz:=by rw[hlx.1,h4,h2]
    rw[if_neg (by simp only[Array.length_toList,hsz]at hfit;simp[hsz];omega)]
    rw[←h5]
    congr 1
    rw[←Array.foldl_toList,Array.toList_zipIdx]
   ·cases e
  ·cases e
def IM:S→S
 | .fn f []=> .t (.lit (.func (.func f) #[] #[]))
 | .fn f (c :: cs)=> .fn f (c :: cs)
 | .fb f cs=> .fb f cs
 | .t x=> .t x
 | .own l=> .own l
 | .pt l p o=> .pt l p o
 | .wn l p o n=> .wn l p o n
 | .cl s xs=> .cl s xs
 | .rp x=> .rp x
 | .ag fs=> .ag fs
 | .tup fs=> .tup fs
 | .dead=> .dead
theorem FF {G:Gh} {w:World} {s:S} {u:Value} (h:ar G w s u):ar G w (IM s) u:=by
 cases s with
 | fn f cs=>
  cases cs with
  | nil=>
   unfold ar at h
   obtain⟨us,rfl,h2⟩:=h
   unfold aD at h2
   subst h2
   unfold IM ar aO
   exact⟨rfl,rfl⟩
  | cons c cs=>exact h
 | _=>exact h
theorem Ei {t:TypeId} {parts:Array (Nat×Operand)} {zs:List T} {pls:List (Nat×Nat)} {fs:List S} (ho:o.op = .build t parts) (hz:zeroOf P t=some (.agg zs)) (hpl:qk P t=some pls) (hb:sW pls (fun x=>IM (R x)) parts.toList (zs.map S.t)=some fs) :
  bm N P o R h ⟨Gm fs,[],[],[]⟩:=
 aH fun G h' a w hh hop _=>by
  obtain⟨v,u,h1,h2,h3⟩:=gR hz G.F w
  unfold aO at h2
  obtain⟨cs,rfl,h4⟩:=h2
  have h5:aE G w (zs.map S.t) v.cells.toList:=by rw[h3];exact aE.of_t h4
  obtain⟨cells',h6,h7⟩:=qt (R:=fun x=>IM (R x)) (ev:=a.eval) h5 (fun q hq=>FF (hop q.2 (by simp[ho,Op.operands];exact⟨q.1,by simpa using hq⟩))) hb
  refine⟨.agg cells',?_,by have:=yS h7;simpa using this⟩
  unfold qk at hpl
  split at hpl
  ·rename_i fields hu
   have hpm:=run_places (P:=P) w _ _ hpl
   have hparts:(parts.map fun (i,x)=>(i,a.eval x)).toList=parts.toList.map fun q=>(q.1,a.eval q.2):=by rw[Array.toList_map]
   unfold execOp
   simp only[ho]
   refine bh ?_
   simp[Instr.build,h1,run_underlying hu,Array.mapM_eq_mapM_toList,hpm,hparts,h6]
  ·cases hpl
theorem wY {g g':Nat→Option (Nat×Nat)} (hg:∀ i v,g i=some v→g' i=some v):∀ {parts:List (Nat×Value)} {cells c:Array Value},Instr.fill g cells parts=some c→Instr.fill g' cells parts=some c
 | [],cells,c,h=>by unfold Instr.fill at *;exact h
 | (i,v) :: r,cells,c,h=>by
  unfold Instr.fill at *
  cases hi:g i with
  | none=>simp[hi]at h
  | some q=>
   rw[hi]at h
   rw[hg i q hi]
   dsimp only at h ⊢
   split at h
   ·cases h
   ·rename_i hc
    rw[if_neg hc]
    exact wY hg h
def Qj (n s:Nat):List (Nat×Nat):=(List.range n).map fun i=>(i * s,s)
theorem tJ {t e:TypeId} {n s:Nat} {parts:Array (Nat×Operand)} {zs:List T} {fs:List S} (ho:o.op = .build t parts) (hz:zeroOf P t=some (.agg zs)) (ha:dn P t=some (n,e)) (hs:bY P e=some s) (hb:sW (Qj n s) (fun x=>IM (R x)) parts.toList (zs.map S.t)=some fs) :
  bm N P o R h ⟨Gm fs,[],[],[]⟩:=
 aH fun G h' a w hh hop _=>by
  obtain⟨v,u,h1,h2,h3⟩:=gR hz G.F w
  unfold aO at h2
  obtain⟨cs,rfl,h4⟩:=h2
  have h5:aE G w (zs.map S.t) v.cells.toList:=by rw[h3];exact aE.of_t h4
  obtain⟨cells',h6,h7⟩:=qt (R:=fun x=>IM (R x)) (ev:=a.eval) h5 (fun q hq=>FF (hop q.2 (by simp[ho,Op.operands];exact⟨q.1,by simpa using hq⟩))) hb
  have h8:=wY (g':=fun i=>some (i * s,s)) (fun i v hv=>by
   unfold Qj at hv
   rw[List.getElem?_map]at hv
   cases hr:(List.range n)[i]? with
   | none=>rw[hr]at hv;cases hv
   | some j=>
    rw[hr]at hv
    obtain⟨hlt,he⟩:=List.getElem?_eq_some_iff.1 hr
    simp at he
    subst he
    simpa using hv) h6
  refine⟨.agg cells',?_,by have:=yS h7;simpa using this⟩
  have hparts:(parts.map fun (i,x)=>(i,a.eval x)).toList=parts.toList.map fun q=>(q.1,a.eval q.2):=by rw[Array.toList_map]
  unfold execOp
  simp only[ho]
  refine bh ?_
  simp[Instr.build,h1,run_underlying (jv ha),fA hs,hparts,h8]
def PU (P:Program) (t:TypeId) (x y:T):Option Bool:=match x,y with
 | .lit (.int k a),.lit (.int k' b)=>if k=k'∧(mV P t).isSome=true then some (decide (a=b)) else none
 | .lit (.bool a),.lit (.bool b)=>if oD P t=true then some (a == b) else none
 | .lit (.string a),.lit (.string b)=>if iS P t=true then some (a.toList == b.toList) else none
 | _,_=>none
def vW (P:Program):List (Nat×TypeId)→Nat→List T→List T→Option Bool
 | [],_,[],[]=>some true
 | (off,ft) :: r,k,x :: xs,y :: ys=>if off=k then match PU P ft x y with
   | some b=>match vW P r (k+1) xs ys with
    | some c=>some (b && c)
    | none=>none
   | none=>none
  else none
 | _,_,_,_=>none
theorem Bn {t:TypeId} {x y:T} {b:Bool} (hz:PU P t x y=some b):∃ u v,x = .lit u∧y = .lit v∧cM P t=some false∧∀ d w,(Op.equalIn (d+1) t u v).run P w = .ok b w:=by
 unfold PU at hz
 split at hz
 ·split at hz
  ·rename_i k a k' b' hc
   obtain⟨rfl,h2⟩:=hc
   obtain⟨k2,hk2⟩:=Option.isSome_iff_exists.1 h2
   simp at hz
   subst hz
   refine⟨_,_,rfl,rfl,by simp[cM,gN hk2],fun d w=>?_⟩
   rw[run_equalIn_int w d t _ k2 _ _ (gN hk2)]
   congr 1
  ·cases hz
 ·split at hz
  ·rename_i a b' hc
   simp at hz
   subst hz
   exact⟨_,_,rfl,rfl,by simp[cM,oL hc],fun d w=>run_equalIn_bool' w d t _ _ (oL hc)⟩
  ·cases hz
 ·split at hz
  ·rename_i a b' hc
   simp at hz
   subst hz
   exact⟨_,_,rfl,rfl,by simp[cM,eZ hc],fun d w=>run_equalIn_string w d t _ _ (eZ hc)⟩
  ·cases hz
 ·cases hz
theorem xz {w:World} {F:Nat→Prop} {xa ya:Array Value}:∀ {fs:List Field} {k:Nat} {xs ys:List T} {b:Bool},(∀ f∈fs,f.name≠ "_")→vW P (fs.map fun f=>(f.offset,f.type)) k xs ys=some b→
  (∃ cs,xa.toList.drop k=cs∧ay F w xs cs)→(∃ cs,ya.toList.drop k=cs∧ay F w ys cs)→∀ d,(Op.eqFields (d+1) xa ya fs).run P w = .ok b w
 | [],k,xs,ys,b,_,e,_,_,d=>by
  cases xs<;>cases ys<;>simp[vW]at e
  subst e
  simp[Op.eqFields]
 | f :: fs,k,xs,ys,b,hn,e,hx,hy,d=>by
  cases xs with
  | nil=>simp[vW]at e
  | cons x xs=>
   cases ys with
   | nil=>simp[vW]at e
   | cons y ys=>
    simp only[List.map_cons,vW]at e
    split at e
    ·rename_i hk
     split at e
     ·rename_i b1 h1
      split at e
      ·rename_i c h2
       simp at e
       obtain⟨u,v,rfl,rfl,h3,h4⟩:=Bn h1
       obtain⟨cs,h5,h6⟩:=hx
       obtain⟨ds,h7,h8⟩:=hy
       unfold ay at h6 h8
       obtain⟨u',cs',h9,h10,h11⟩:=h6
       obtain⟨v',ds',h12,h13,h14⟩:=h8
       unfold aO at h10 h13
       obtain⟨rfl,h10⟩:=h10
       obtain⟨rfl,h13⟩:=h13
       have hcu:=dR h10
       have hcv:=dR h13
       rw[hcu]at h9
       rw[hcv]at h12
       have ha:=oO (P:=P) h3 w
       have hxa:xa[f.offset]? = some u':=by
        rw[hk,←Array.getElem?_toList,←Nat.add_zero k,←List.getElem?_drop,h5,h9];rfl
       have hya:ya[f.offset]? = some v':=by
        rw[hk,←Array.getElem?_toList,←Nat.add_zero k,←List.getElem?_drop,h7,h12];rfl
       have hp1:(part f.type xa f.offset).run P w = .ok u' w:=by simp[part,ha,hxa]
       have hp2:(part f.type ya f.offset).run P w = .ok v' w:=by simp[part,ha,hya]
       have ih:=xz (xa:=xa) (ya:=ya) (F:=F) (fun g hg=>hn g (by simp[hg])) h2 ⟨cs',by rw[←List.drop_drop,h5,h9];rfl,h11⟩ ⟨ds',by rw[←List.drop_drop,h7,h12];rfl,h14⟩ d
       simp only[Op.eqFields]
       rw[if_pos (hn f (by simp))]
       simp only[Sem.run_bind,hp1,hp2,Result.andThen_ok,h4]
       cases b1
       ·simp[←e]
       ·simp[ih,←e]
      ·cases e
     ·cases e
    ·cases e
theorem rj {op:BinOp} {t t':TypeId} {x y:Operand} {xs ys:List T} {fl:List (Nat×TypeId)} {b:Bool} (ho:o.op = .binOp op t x y t') (hop':op = .eql∨op = .neq) (hx:R x = .t (.agg xs)) (hy:R y = .t (.agg ys)) (hf:oH P t=some fl)
  (h1:P.stoodInHeld t=false) (h2:P.eqGuardType P.depth t=false) (hb:vW P fl 0 xs ys=some b):bm N P o R h ⟨.t (.lit (.bool (if op = .eql then b else !b))),[],[],[]⟩:=
 aH fun G h' a w hh hop _=>by
  have h3:=hop x (by simp[ho,Op.operands])
  have h4:=hop y (by simp[ho,Op.operands])
  rw[hx]at h3
  rw[hy]at h4
  unfold ar at h3 h4;unfold aO at h3 h4
  obtain⟨cs,h5,h6⟩:=h3
  obtain⟨ds,h7,h8⟩:=h4
  unfold oH at hf
  split at hf
  ·rename_i fs hu
   split at hf
   ·rename_i hall
    simp at hf
    subst hf
    have hne:∀ f∈fs.toList,f.name≠ "_":=by
     intro f hf
     have:=List.all_eq_true.1 hall f hf
     simpa using this
    have hfo:P.underlying t=some (.struct (P.fieldsOf t)):=by unfold Program.fieldsOf;rw[hu]
    have hfs:P.fieldsOf t=fs:=by unfold Program.fieldsOf;rw[hu]
    have hrun:(Op.equalIn 10000 t (.agg cs.toArray) (.agg ds.toArray)).run P w = .ok b w:=by
     rw[run_equalIn_agg w 9999 t _ _ hfo h1,hfs]
     exact xz (F:=G.F) hne hb ⟨cs,by simp,h6⟩ ⟨ds,by simp,h8⟩ 9998
    refine⟨.bool (if op = .eql then b else !b),?_,by unfold ar;unfold aO;exact⟨rfl,rfl⟩⟩
    unfold execOp
    simp only[ho,h5,h7]
    refine bh ?_
    have hg:=run_eqGuard_agg (P:=P) w op t x y cs.toArray ds.toArray h2
    rcases hop' with rfl|rfl
    ·simp[hg,run_eql_struct,hrun]
    ·simp[hg,run_neq_struct,hrun]
   ·cases hf
  ·cases hf
theorem oU {op:BinOp} {t t':TypeId} {x y:Operand} {p q:Bool} (ho:o.op = .binOp op t x y t') (hop':op = .eql∨op = .neq) (hx:R x = .t (.lit (.bool p))) (hy:R y = .t (.lit (.bool q))) (hb:oD P t=true) :
  bm N P o R h ⟨.t (.lit (.bool (if op = .eql then p == q else !(p == q)))),[],[],[]⟩:=
 aH fun G h' a w hh hop _=>by
  have h3:=hop x (by simp[ho,Op.operands])
  have h4:=hop y (by simp[ho,Op.operands])
  rw[hx]at h3
  rw[hy]at h4
  unfold ar at h3 h4;unfold aO at h3 h4
  refine⟨.bool (if op = .eql then p == q else !(p == q)),?_,by unfold ar;unfold aO;exact⟨rfl,rfl⟩⟩
  unfold execOp
  simp only[ho,h3.1,h4.1]
  refine bh ?_
  rcases hop' with rfl|rfl
  ·simp[eqGuard,run_eql_bool w t p q (oL hb)]
  ·simp[eqGuard,run_neq_bool w t p q (oL hb)]
end
end Go.Proofs.YtocndodilpimnaaGreat.Sy
