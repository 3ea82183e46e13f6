/- Several texts of this proof, one behind the other. No condition. -/
import Derived.Test.YtocndodilpimnaaGreatTThesB2
import Derived.Great.BuildSlice
set_option maxRecDepth 100000
set_option maxHeartbeats 16000000
set_option linter.unusedVariables false
set_option linter.unusedSimpArgs false
namespace Go.Proofs.YtocndodilpimnaaGreat.Sy
open Go.RowKit
section
variable {N:Nat} {P:Program} {o:Oper} {R:Operand→S} {h:Nat→Option aA}
theorem GY (β:Nat→Value) (l:Nat):zm β l (β l)=β:=by
 funext k;unfold zm;split
 ·subst_vars;rfl
 ·rfl
theorem eO (G:Gh) (l:Nat):e9 G l (G.β l) (G.φ l)=G:=by
 have h1:qc G.φ l (G.φ l)=G.φ:=by
  funext k
  by_cases h:k=l
  ·subst h;exact iv _ _ _
  ·exact fD _ h
 unfold e9
 rw[GY,h1]
theorem dZ (h:Nat→Option aA) (d:Nat) (b:aA) (l0:Option Nat) (hl:l0=some d∨l0=none):(fun k=>if k=d then some b else if l0=some k then none else h k)=dK [(d,some b)] h:=by
 funext k
 simp only[dK,cY]
 split
 ·rfl
 ·rename_i hk
  rcases hl with rfl|rfl
  ·rw[if_neg (by intro e;simp at e;exact hk e.symm)]
  ·rw[if_neg (by simp)]
theorem lG (h:Nat→Option aA) (d l:Nat) (b:aA):(fun k=>if k=d then some b else if some l=some k then none else h k)=dK [(d,some b),(l,none)] h:=by
 funext k
 simp only[dK,cY,Option.some.injEq]
 split
 ·rfl
 ·by_cases e:k=l
  ·subst e;simp
  ·rw[if_neg (fun h=>e h.symm),if_neg e]
theorem CL {t:TypeId} {x y:Operand} {l off:Nat} {p:List Nat} {blk blk':aA} {z:S} (ho:o.op = .store t x y) (hx:R x = .pt l p off) (hl:h l=some blk) (hp:blk.at p=some (off,z))
  (hset:blk.set p (R y)=some blk') (hso:(R y).solid=true) (hw:(R y).width=z.width) (hsz:bY P t=some (R y).width):bm N P o R h ⟨.dead,[(l,some blk')],[l],[]⟩:=by
 intro W G0 A G g h' a w Q K hs hop hfp _ hK
 have h1:=hs.eval x
 rw[hop x (by simp[ho,Op.operands]),hx]at h1
 unfold ar at h1
 obtain⟨b,hb,hxv⟩:=h1
 have h2:=hs.eval y
 rw[hop y (by simp[ho,Op.operands])]at h2
 have hl':h' l=some blk:=by rw[hfp l (by simp)];exact hl
 have hrep:=hs.heap.rep l blk hl'
 have hlen:=ar.lens h2 hso
 have hnF:=hs.heap.sep l blk b hl' (.inl hb)
 obtain⟨cur,ty,cs',hcur,hcs,hfit,hnew,hnewi⟩:=bH.set_spec hrep (hs.heap.inn l blk hl') hp hset hb h2 hlen.1 hlen.2 hw hnF hs.heap.fb
 have hrun:(execOp a.eval o).run P w = .ok .skip (w.setRow b cs'.toArray):=by
  unfold execOp
  simp only[ho,hxv]
  have hst:=run_storeCells_at (P:=P) b off ty (a.eval y).cells.toList 0 cur w hcur (by simpa using hfit) hlen.2
  simp only[Nat.add_zero]at hst
  have hcs2:cs'=cur.toList.take off++(a.eval y).cells.toList++cur.toList.drop (off+(a.eval y).cells.toList.length):=by rw[hcs,bS,List.append_assoc]
  rw[←hcs2]at hst
  simp[Instr.storeAt,Instr.sureAddr,storeVar,fA hsz,hlen.1,hst]
 unfold Oper.wp
 rw[hrun]
 show K (a.put o.dst undef) _
 have hx:=Ext.mkG hs.heap (some b) (cj w b cs'.toArray) (some l) (fun k hk=>⟨blk,by cases hk;exact hl'⟩) (fun k hk=>⟨l,rfl,by cases hk;exact .inl hb⟩) l (G.β l) blk' (G.φ l) (.inl rfl) [] (.inr ⟨rfl,rfl⟩) (by simp) (fun k hk=> .inl ⟨l,rfl,hk⟩) (by rw[eO];exact hnew) (by rw[eO];exact hnewi)
 rw[dZ h' l blk' (some l) (.inl rfl)]at hx
 exact hK undef _ _ hx (by unfold ar;trivial)
theorem lI {d:Nat} {r:S} {blk:aA} (H:∀ (G:Gh) (a:Act) (w:World),(∀ x∈o.op.operands.toList,ar G w (R x) (a.eval x))→(∀ b,G.F b→b < w.heap.size)→
   ∃ cs e v,(execOp a.eval o).run P w = .ok (.value v) (w.alloc (.cells cs e))∧aW v=some w.heap.size∧
    ∀ G':Gh,G'.F=G.F→G'.β d=v→(∀ s u,s.free d=true→ar G w s u→ar G' (w.alloc (.cells cs e)) s u)→bH G' (w.alloc (.cells cs e)) blk v∧ar G' (w.alloc (.cells cs e)) r v) (hpl:blk.plain=true:=by rfl) :
  bm N P o R h ⟨r,[(d,some blk)],[],[d]⟩:=by
 intro W G0 A G g h' a w Q K hs hop _ hnw hK
 obtain⟨hd,hfg,hfh⟩:=hnw d (by simp)
 obtain⟨cs,e,v,h1,h2,h3⟩:=H G a w (fun x hx=>by rw[←hop x hx];exact hs.eval x) hs.heap.fb
 have K0:iF G w (e9 G d v Cj) (w.alloc (.cells cs e)) [d]:=⟨fun _ h=>h,fun b o hb=>bj (Below.heap_alloc w _ b (hs.heap.fb b hb)),fun l hl=>eN v (by simpa using hl)⟩
 obtain⟨h4,h5⟩:=h3 (e9 G d v Cj) rfl (dw _ _ _) (fun s u hf hr=>ar.keep K0 s u (fun l hl=>by simp at hl;subst hl;exact hf) hr)
 have hx:=Ext.mk' hs.heap none (World.grownBy_alloc w (.cells cs e)) none (by simp) (by simp) d v blk (.inr hd) [d] (.inl rfl) (fun k hk l b hl=>by simp at hk;subst hk;exact hfh l b hl) (fun k hk=> .inr (by rw[h2]at hk;cases hk;exact Nat.le_refl _)) h4 (ik.plain hpl)
 rw[dZ h' d blk none (.inr rfl)]at hx
 exact dm h1 (hK v _ _ hx h5)
mutual
def uM (P:Program):Nat→TypeId→List Value→Option (T×List Value)
 | 0,_,_=>none
 | n+1,t,cs=>match P.underlying t with
  | some (.struct fs)=>match nK P n (fs.toList.map (·.type)) cs with
   | some (xs,r)=>some (.agg xs,r)
   | none=>none
  | some (.array k e)=>match nK P n (List.replicate k e) cs with
   | some (xs,r)=>some (.agg xs,r)
   | none=>none
  | some _=>match cs with
   | c :: r=>if c.oneCell' then some (.lit c,r) else none
   | []=>none
  | none=>none
def nK (P:Program):Nat→List TypeId→List Value→Option (List T×List Value)
 | 0,_,_=>none
 | _+1,[],cs=>some ([],cs)
 | n+1,t :: ts,cs=>match uM P n t cs with
  | some (x,r)=>match nK P n ts r with
   | some (xs,r')=>some (x :: xs,r')
   | none=>none
  | none=>none
end
mutual
theorem rm {F:Nat→Prop} {w:World}:∀ {n:Nat} {t:TypeId} {cs r:List Value} {x:T},uM P n t cs=some (x,r)→∃ u,aO F w x u∧cs=u.cells.toList++r
 | 0,t,cs,r,x,e=>by simp[uM]at e
 | n+1,t,cs,r,x,e=>by
  unfold uM at e
  split at e
  ·split at e
   ·rename_i h1
    simp at e
    obtain⟨rfl,rfl⟩:=e
    obtain⟨us,h2,h3⟩:=lY (F:=F) (w:=w) h1
    exact⟨.agg us.toArray,by unfold aO;exact⟨us,rfl,h2⟩,h3⟩
   ·cases e
  ·split at e
   ·rename_i h1
    simp at e
    obtain⟨rfl,rfl⟩:=e
    obtain⟨us,h2,h3⟩:=lY (F:=F) (w:=w) h1
    exact⟨.agg us.toArray,by unfold aO;exact⟨us,rfl,h2⟩,h3⟩
   ·cases e
  ·split at e
   ·split at e
    ·rename_i h1
     simp at e
     obtain⟨rfl,rfl⟩:=e
     exact⟨_,by unfold aO;exact⟨rfl,h1⟩,by rw[dR h1];rfl⟩
    ·cases e
   ·cases e
  ·cases e
theorem lY {F:Nat→Prop} {w:World}:∀ {n:Nat} {ts:List TypeId} {cs r:List Value} {xs:List T},nK P n ts cs=some (xs,r)→∃ us,ay F w xs us∧cs=us++r
 | 0,ts,cs,r,xs,e=>by simp[nK]at e
 | n+1,[],cs,r,xs,e=>by
  simp[nK]at e
  obtain⟨rfl,rfl⟩:=e
  exact⟨[],by unfold ay;rfl,rfl⟩
 | n+1,t :: ts,cs,r,xs,e=>by
  unfold nK at e
  split at e
  ·rename_i h1
   split at e
   ·rename_i h2
    simp at e
    obtain⟨rfl,rfl⟩:=e
    obtain⟨u,h3,rfl⟩:=rm (F:=F) (w:=w) h1
    obtain⟨us,h4,rfl⟩:=lY (F:=F) (w:=w) h2
    exact⟨u.cells.toList++us,by unfold ay;exact⟨u,us,rfl,h3,h4⟩,by simp⟩
   ·cases e
  ·cases e
end
def zeroOf (P:Program) (t:TypeId):Option T:=match (P.info? t).bind (·.zero) with
 | some v=>match uM P 600 t v.cells.toList with
  | some (x,[])=>some x
  | _=>none
 | none=>none
theorem gR {t:TypeId} {z:T} (hz:zeroOf P t=some z) (F:Nat→Prop) (w:World):∃ v u,(zeroValue t).run P w = .ok v w∧aO F w z u∧v.cells=u.cells:=by
 unfold zeroOf at hz
 split at hz
 ·rename_i v hv
  obtain⟨i,hi,hzz⟩:=Option.bind_eq_some_iff.1 hv
  split at hz
  ·rename_i hx
   simp at hz
   subst hz
   obtain⟨u,h1,h2⟩:=rm (F:=F) (w:=w) hx
   refine⟨v,u,by simp[zeroValue,typeInfo,hi,hzz],h1,?_⟩
   rw[←Array.toList_inj]
   simpa using h2
  ·cases hz
 ·cases hz
theorem DS {e:TypeId} {d:Nat} {z:T} (ho:o.op = .alloc e) (hz:zeroOf P e=some z):bm N P o R h ⟨.pt d [] 0,[(d,some (.box e (.t z)))],[],[d]⟩:=
 lI fun G a w _ _=>by
  obtain⟨v,u,h1,h2,h3⟩:=gR hz G.F w
  refine⟨v.cells,e,.pointer (some ⟨w.heap.size,0,none⟩),?_,rfl,fun G' hF hd hk=>?_⟩
  ·unfold execOp
   simp only[ho]
   exact bh (by simp[Instr.alloc,h1,newVar,newRow])
  ·have h4:ar G w (.t z) u:=by unfold ar;exact h2
   refine⟨⟨w.heap.size,u,rfl,hk (.t z) u rfl h4,aO.width _ _ h2,aO.one _ _ h2,by rw[←h3];exact heap_alloc_new w _⟩,?_⟩
   unfold ar
   exact⟨w.heap.size,by rw[hd];rfl,rfl⟩
theorem Lm {e:TypeId} {d:Nat} {x:Operand} (ho:o.op = .box e x) (hso:(R x).solid=true) (hf:(R x).free d=true):bm N P o R h ⟨.pt d [] 0,[(d,some (.box e (R x)))],[],[d]⟩:=
 lI fun G a w hop _=>by
  have h2:=hop x (by simp[ho,Op.operands])
  have h3:=ar.lens h2 hso
  refine⟨(a.eval x).cells,e,.pointer (some ⟨w.heap.size,0,none⟩),?_,rfl,fun G' hF hd hk=>?_⟩
  ·unfold execOp
   simp only[ho]
   exact bh (by simp[Instr.box,newVar,newRow])
  ·refine⟨⟨w.heap.size,a.eval x,rfl,hk _ _ hf h2,h3.1,h3.2,heap_alloc_new w _⟩,?_⟩
   unfold ar
   exact⟨w.heap.size,by rw[hd];rfl,rfl⟩
theorem tf {b off:Nat} {fd:Field} {n:Nat} (hn:bY P fd.type=some (n+1)) (w:World):(fieldPlace ⟨b,off,none⟩ fd).run P w = .ok ⟨b,off+fd.offset,none⟩ w:=by
 simp[fieldPlace,fA hn,bU]
theorem qN {s:TypeId} {b off f:Nat} {q:Nat×TypeId} {n:Nat} (hf:aX P s f=some q) (hn:bY P q.2=some (n+1)) (w:World) :
  (Instr.fieldAt s (.pointer (some ⟨b,off,none⟩)) f).run P w = .ok (.pointer (some ⟨b,off+q.1,none⟩)) w:=by
 obtain⟨fs,fd,h1,h2,h3,h4⟩:=F7 hf
 have:=tf (P:=P) (b:=b) (off:=off) (fd:=fd) (n:=n) (by rw[h4];exact hn) w
 simp[Instr.fieldAt,run_underlying h1,h2,Instr.sureAddr,this,h3]
theorem oe {t:TypeId} {x:Operand} {f l off:Nat} {p:List Nat} {q:Nat×TypeId} {n:Nat} (ho:o.op = .fieldAddr t x f) (hx:R x = .pt l p off) (hf:aX P t f=some q) (hn:bY P q.2=some (n+1)) :
  bm N P o R h ⟨.pt l (p++[f]) (off+q.1),[],[],[]⟩:=
 aH fun G h' a w hh hop _=>by
  have h1:=hop x (by simp[ho,Op.operands])
  rw[hx]at h1
  unfold ar at h1
  obtain⟨b,h2,h3⟩:=h1
  refine⟨.pointer (some ⟨b,off+q.1,none⟩),?_,by unfold ar;exact⟨b,h2,rfl⟩⟩
  unfold execOp
  simp only[ho,h3]
  exact bh (qN hf hn w)
theorem oc {t:TypeId} {x:Operand} {f:Nat} {xs:List T} {y:T} {q:Nat×TypeId} {n:Nat} (ho:o.op = .fieldAddr t x f) (hx:R x = .rp (.agg xs)) (hy:xs[f]? = some y) (hf:aX P t f=some q) (hq:T.widths (xs.take f)=q.1) (hn:bY P q.2=some (n+1)) :
  bm N P o R h ⟨.rp y,[],[],[]⟩:=
 aH fun G h' a w hh hop _=>by
  have h1:=hop x (by simp[ho,Op.operands])
  rw[hx]at h1
  unfold ar at h1
  obtain⟨b,off,v,h2,h3,h4,h5⟩:=h1
  unfold aO at h4
  obtain⟨cells,rfl,h6⟩:=h4
  obtain⟨v',h7,h8,_⟩:=ay.get h6 hy
  refine⟨.pointer (some ⟨b,off+q.1,none⟩),?_,?_⟩
  ·unfold execOp
   simp only[ho,h2]
   exact bh (qN hf hn w)
  ·unfold ar
   refine⟨b,off+q.1,v',rfl,h3,h7,fun j c hj=>?_⟩
   rw[←hq,Nat.add_assoc]
   exact h5 _ _ (h8 j c hj)
theorem jn {t e:TypeId} {k:IntKind} {n:Int} {b off len cap s:Nat} (he:aK P t=some e) (hs:bY P e=some s) (h0:0≤n) (h1:n < len) (w:World) :
  (Instr.indexAt t (.slice (some ⟨b,off,none⟩) len cap) (.int k n)).run P w = .ok (.pointer (some ⟨b,off+n.toNat * s,none⟩)) w:=by
 simp[Instr.indexAt,asIntOf,run_underlying (bp he),h0,h1,fA hs,bU]
theorem vZ {t e:TypeId} {x i:Operand} {s:Nat} {k:IntKind} {n:Int} {xs:List T} {y:T} (ho:o.op = .indexAddr t x i) (hx:R x = .t (.sl s xs)) (hi:R i = .t (.lit (.int k n))) (he:aK P t=some e) (hs:bY P e=some s)
  (h0:0≤n) (hy:xs[n.toNat]? = some y):bm N P o R h ⟨.rp y,[],[],[]⟩:=
 aH fun G h' a w hh hop _=>by
  have h1:=hop x (by simp[ho,Op.operands])
  have h2:=hop i (by simp[ho,Op.operands])
  rw[hx]at h1
  rw[hi]at h2
  unfold ar at h1 h2
  unfold aO at h1 h2
  obtain⟨ad,cap,cells,h3,h4,h5,h6⟩:=h1
  have hlt:=(List.getElem?_eq_some_iff.1 hy).1
  rcases h6.cells with h7|⟨b,off,rfl,hF,h7⟩
  ·omega
  ·obtain⟨v,h8,h9,_⟩:=ay.get h4 hy
   refine⟨.pointer (some ⟨b,off+n.toNat * s,none⟩),?_,?_⟩
   ·unfold execOp
    simp only[ho,h3,h2.1]
    exact bh (jn he hs h0 (by omega) w)
   ·unfold ar
    refine⟨b,_,v,rfl,hF,h8,fun j c hj=>?_⟩
    have:=h9 j c hj
    rw[aG h5 (Nat.le_of_lt hlt)]at this
    rw[Nat.add_assoc]
    exact h7 _ _ this
theorem tF {t e e':TypeId} {x i:Operand} {l s:Nat} {k:IntKind} {n:Int} {xs:List T} (ho:o.op = .indexAddr t x i) (hx:R x = .own l) (hl:h l=some (.list e' s xs)) (hi:R i = .t (.lit (.int k n))) (he:aK P t=some e) (hs:bY P e=some s)
  (h0:0≤n) (h1:n < xs.length):bm N P o R h ⟨.pt l [n.toNat] (n.toNat * s),[],[l],[]⟩:=
 aH fun G h' a w hh hop hfp=>by
  have h2:=hop x (by simp[ho,Op.operands])
  have h3:=hop i (by simp[ho,Op.operands])
  rw[hx]at h2
  rw[hi]at h3
  unfold ar at h2 h3
  unfold aO at h3
  have h4:=hh.rep l _ (by rw[hfp l (by simp)];exact hl)
  obtain⟨ad,cap,cells,h5,h6,h7,h8⟩:=h4
  rw[h5]at h8
  rcases h8.2 with ⟨hv,hn⟩|⟨g,cap',cur,hv,hB,hh',hc,hm,hs',ht⟩
  ·omega
  ·simp only[Value.slice.injEq]at hv
   obtain⟨rfl,_,rfl⟩:=hv
   refine⟨.pointer (some ⟨g,n.toNat * s,none⟩),?_,?_⟩
   ·unfold execOp
    simp only[ho,h2.1,h5,h3.1]
    have:=jn (P:=P) (b:=g) (off:=0) (cap:=cap) (k:=k) he hs h0 h1 w
    rw[Nat.zero_add]at this
    exact bh this
   ·unfold ar
    exact⟨g,by rw[h5];rfl,rfl⟩
theorem rG {t e e':TypeId} {x i:Operand} {l s:Nat} {k:IntKind} {n:Int} {us:List U} {ex:List (Nat×S)} (ho:o.op = .indexAddr t x i) (hx:R x = .own l) (hl:h l=some (.rows e' s us ex)) (hi:R i = .t (.lit (.int k n))) (he:aK P t=some e) (hs:bY P e=some s)
  (h0:0≤n) (h1:n < us.length):bm N P o R h ⟨.pt l [n.toNat] (n.toNat * s),[],[l],[]⟩:=
 aH fun G h' a w hh hop hfp=>by
  have h2:=hop x (by simp[ho,Op.operands])
  have h3:=hop i (by simp[ho,Op.operands])
  rw[hx]at h2
  rw[hi]at h3
  unfold ar at h2 h3
  unfold aO at h3
  have h4:=hh.rep l _ (by rw[hfp l (by simp)];exact hl)
  obtain⟨ad,cap,cells,h5,h8⟩:=h4
  rw[h5]at h8
  rcases h8.2 with ⟨hv,hn⟩|⟨g,cap',cur,hv,hB,hh',hc,hm,hs',ht⟩
  ·omega
  ·simp only[Value.slice.injEq]at hv
   obtain⟨rfl,_,rfl⟩:=hv
   refine⟨.pointer (some ⟨g,n.toNat * s,none⟩),?_,?_⟩
   ·unfold execOp
    simp only[ho,h2.1,h5,h3.1]
    have:=jn (P:=P) (b:=g) (off:=0) (cap:=cap) (k:=k) he hs h0 h1 w
    rw[Nat.zero_add]at this
    exact bh this
   ·unfold ar
    exact⟨g,by rw[h5];rfl,rfl⟩
theorem rK {t e:TypeId} {k:IntKind} {m:Int} {b off n s:Nat} (ha:dn P t=some (n,e)) (hs:bY P e=some s) (h0:0≤m) (h1:m < n) (w:World) :
  (Instr.indexAt t (.pointer (some ⟨b,off,none⟩)) (.int k m)).run P w = .ok (.pointer (some ⟨b,off+m.toNat * s,none⟩)) w:=by
 simp[Instr.indexAt,asIntOf,run_underlying (jv ha),Instr.sureAddr,h0,h1,fA hs,bU]
theorem tT {t e:TypeId} {x i:Operand} {l off n s:Nat} {p:List Nat} {k:IntKind} {m:Int} (ho:o.op = .indexAddr t x i) (hx:R x = .pt l p off) (hi:R i = .t (.lit (.int k m))) (ha:dn P t=some (n,e)) (hs:bY P e=some s)
  (h0:0≤m) (h1:m < n):bm N P o R h ⟨.pt l (p++[m.toNat]) (off+m.toNat * s),[],[],[]⟩:=
 aH fun G h' a w hh hop _=>by
  have h2:=hop x (by simp[ho,Op.operands])
  have h3:=hop i (by simp[ho,Op.operands])
  rw[hx]at h2
  rw[hi]at h3
  unfold ar at h2 h3
  unfold aO at h3
  obtain⟨b,h4,h5⟩:=h2
  refine⟨.pointer (some ⟨b,off+m.toNat * s,none⟩),?_,by unfold ar;exact⟨b,h4,rfl⟩⟩
  unfold execOp
  simp only[ho,h5,h3.1]
  exact bh (rK ha hs h0 h1 w)
def Fc (P:Program) (op:BinOp) (t:TypeId) (a b v:Value):Prop:=
 v.oneCell'=true∧∀ (w:World) (x y:Operand),(do eqGuard op t x y a b;binOp op t a b:Sem Value).run P w = .ok v w
theorem th {op:BinOp} {t t':TypeId} {x y:Operand} {a b v:Value} (ho:o.op = .binOp op t x y t') (hx:R x = .t (.lit a)) (hy:R y = .t (.lit b)) (hv:Fc P op t a b v):bm N P o R h ⟨.t (.lit v),[],[],[]⟩:=
 aH fun G h' ac w hh hop _=>by
  have h1:=hop x (by simp[ho,Op.operands])
  have h2:=hop y (by simp[ho,Op.operands])
  rw[hx]at h1
  rw[hy]at h2
  unfold ar at h1 h2
  unfold aO at h1 h2
  refine⟨v,?_,by unfold ar;unfold aO;exact⟨rfl,hv.1⟩⟩
  unfold execOp
  simp only[ho,h1.1,h2.1]
  exact bh (hv.2 w x y)
def Cc:IntKind→Int→Prop
 | .i8,n=>-128≤n∧n≤127
 | .i16,n=>-32768≤n∧n≤32767
 | .i32,n=>-2147483648≤n∧n≤2147483647
 | .i64,n=>-9223372036854775808≤n∧n≤9223372036854775807
 | .u8,n=>0≤n∧n≤255
 | .u16,n=>0≤n∧n≤65535
 | .u32,n=>0≤n∧n≤4294967295
 | .u64,n=>0≤n∧n≤18446744073709551615
instance (k:IntKind) (n:Int):Decidable (Cc k n):=by cases k<;>(unfold Cc;infer_instance)
theorem FA {k:IntKind} {n:Int} (h:Cc k n):k.wrap n=n:=by
 cases k
 ·exact IntWalk.i8_in n h
 ·exact IntWalk.i16_in n h
 ·exact IntWalk.i32_in n h
 ·exact IntWalk.i64_in n h
 ·exact IntWalk.u8_in n h
 ·exact IntWalk.u16_in n h
 ·exact IntWalk.u32_in n h
 ·exact IntWalk.u64_in n h
def E4 (k:IntKind) (e:Int) (K:Value→Prop):Prop:=match k with
 | .i64=>if -9223372036854775808≤e∧e≤9223372036854775807 then K (.int .i64 e) else False
 | k=>if Cc k e then K (.int k e) else K (.int k (k.wrap e))
theorem iE {k:IntKind} {e:Int} {K:Value→Prop} (h:E4 k e K):K (.int k (k.wrap e)):=by
 unfold E4 at h
 split at h
 ·split at h
  ·rename_i hr
   rw[IntWalk.i64_in e hr];exact h
  ·exact h.elim
 ·split at h
  ·rename_i hr
   rw[FA hr];exact h
  ·exact h
def kB:IntKind→Int
 | .i8=>8
 | .i16=>16
 | .i32=>32
 | .i64=>64
 | .u8=>8
 | .u16=>16
 | .u32=>32
 | .u64=>64
def kX:IntKind→Int
 | .u8=>255
 | .u16=>65535
 | .u32=>4294967295
 | .u64=>18446744073709551615
 | _=>-1
theorem P9 (k:IntKind):kX k=if k.signed then -1 else k.max:=by cases k<;>rfl
theorem FK (k:IntKind):kB k=k.bits:=by cases k<;>rfl
def qe (op:BinOp) (a b:Value) (K:Value→Prop):Prop:=
 match op,a,b with
 | .add,.int k x,.int k' y=>k=k'∧E4 k (x+y) K
 | .sub,.int k x,.int k' y=>k=k'∧E4 k (x - y) K
 | .mul,.int k x,.int k' y=>k=k'∧E4 k (x * y) K
 | .quo,.int k x,.int k' y=>k=k'∧(if 0≤x∧1≤y then (if Cc k x then K (.int k (x / y)) else False) else if y=0 then False else E4 k (x.tdiv y) K)
 | .rem,.int k x,.int k' y=>k=k'∧(if 0≤x∧1≤y then K (.int k (x % y)) else if y=0 then False else K (.int k (x.tmod y)))
 | .lss,.int k x,.int k' y=>k=k'∧K (.bool (decide (x < y)))
 | .leq,.int k x,.int k' y=>k=k'∧K (.bool (decide (x≤y)))
 | .gtr,.int k x,.int k' y=>k=k'∧K (.bool (decide (y < x)))
 | .geq,.int k x,.int k' y=>k=k'∧K (.bool (decide (y≤x)))
 | .eql,.int k x,.int k' y=>k=k'∧K (.bool (decide (x=y)))
 | .neq,.int k x,.int k' y=>k=k'∧K (.bool (decide (x≠y)))
 | .eql,.string x,.string y=>K (.bool (x.toList == y.toList))
 | .neq,.string x,.string y=>K (.bool (!(x.toList == y.toList)))
 | .add,.string x,.string y=>if x.size+y.size≤9223372036854775807 then K (.string (x++y)) else False
 | .shl,.int k x,.int _ y=>if 0≤y∧y≤kB k then E4 k (x * 2 ^ y.toNat) K else False
 | .shr,.int k x,.int _ y=>if 0≤y∧y≤kB k then K (.int k (x / 2 ^ y.toNat)) else False
 | .and,.int k x,.int k' y=>k=k'∧K (.int k (bits .and k x y))
 | .or,.int k x,.int k' y=>k=k'∧K (.int k (bits .or k x y))
 | .xor,.int k x,.int k' y=>k=k'∧K (.int k (bits .xor k x y))
 | .lss,.string x,.string y=>K (.bool (Op.bytesLess x.toList y.toList))
 | .leq,.string x,.string y=>K (.bool (Op.bytesLess x.toList y.toList || x.toList == y.toList))
 | .gtr,.string x,.string y=>K (.bool !(Op.bytesLess x.toList y.toList || x.toList == y.toList))
 | .geq,.string x,.string y=>K (.bool !(Op.bytesLess x.toList y.toList))
 | _,_,_=>False
theorem Kh {k:IntKind} {x y:Int} (h:0≤x∧1≤y∧Cc k x):k.wrap (x.tdiv y)=x / y:=by
 obtain⟨h0,h1,h2⟩:=h
 rw[Int.tdiv_eq_ediv_of_nonneg h0]
 have h3:=IntWalk.tdiv_le x y h0 h1
 refine FA ?_
 cases k<;>simp only[Cc]at *<;>omega
theorem HG {op:BinOp} {t:TypeId} {a b:Value} {K:Value→Prop} (h:qe op a b K):∃ v,Fc P op t a b v∧K v:=by
 have ok:∀ {v:Value},v.oneCell'=true→(∀ w x y,(do eqGuard op t x y a b;binOp op t a b:Sem Value).run P w = .ok v w)→K v→∃ v,Fc P op t a b v∧K v:=fun h1 h2 h3=>⟨_,⟨h1,h2⟩,h3⟩
 unfold qe at h
 split at h
 ·obtain⟨rfl,h⟩:=h
  exact ok rfl (fun w x y=>by simp[eqGuard,binOp,Op.intArith]) (iE h)
 ·obtain⟨rfl,h⟩:=h
  exact ok rfl (fun w x y=>by simp[eqGuard,binOp,Op.intArith]) (iE h)
 ·obtain⟨rfl,h⟩:=h
  exact ok rfl (fun w x y=>by simp[eqGuard,binOp,Op.intArith]) (iE h)
 ·obtain⟨rfl,h⟩:=h
  split at h
  ·rename_i hr
   split at h
   ·rename_i hi
    exact ok rfl (fun w x y=>by simp[eqGuard,binOp,Op.intDiv,Kh ⟨hr.1,hr.2,hi⟩];intro e;exfalso;omega) h
   ·exact h.elim
  ·split at h
   ·exact h.elim
   ·rename_i hn
    exact ok rfl (fun w x y=>by simp[eqGuard,binOp,Op.intDiv,hn]) (iE h)
 ·obtain⟨rfl,h⟩:=h
  split at h
  ·rename_i hr
   exact ok rfl (fun w x y=>by simp[eqGuard,binOp,Op.intDiv,Int.tmod_eq_emod_of_nonneg hr.1];intro e;exfalso;omega) h
  ·split at h
   ·exact h.elim
   ·rename_i hn
    exact ok rfl (fun w x y=>by simp[eqGuard,binOp,Op.intDiv,hn]) h
 ·obtain⟨rfl,h⟩:=h
  exact ok rfl (fun w x y=>by simp[eqGuard,binOp,Op.intCmp]) h
 ·obtain⟨rfl,h⟩:=h
  exact ok rfl (fun w x y=>by simp[eqGuard,binOp,Op.intCmp]) h
 ·obtain⟨rfl,h⟩:=h
  exact ok rfl (fun w x y=>by simp[eqGuard,binOp,Op.intCmp]) h
 ·obtain⟨rfl,h⟩:=h
  exact ok rfl (fun w x y=>by simp[eqGuard,binOp,Op.intCmp]) h
 ·obtain⟨rfl,h⟩:=h
  exact ok rfl (fun w x y=>by simp[eqGuard,binOp,Op.intCmp];exact Bool.beq_eq_decide_eq _ _) h
 ·obtain⟨rfl,h⟩:=h
  exact ok rfl (fun w x y=>by simp[eqGuard,binOp,Op.intCmp];rfl) h
 ·exact ok rfl (fun w x y=>by simp[eqGuard,binOp,Op.stringOp]) h
 ·exact ok rfl (fun w x y=>by simp[eqGuard,binOp,Op.stringOp]) h
 ·split at h
  ·rename_i hr
   exact ok rfl (fun w x y=>by simp[eqGuard,binOp,Op.stringOp,show IntKind.i64.max=9223372036854775807 from by decide];omega) h
  ·exact h.elim
 ·rename_i k x yk y
  split at h
  ·rename_i hr
   exact ok rfl (fun w _ _=>by simp[eqGuard,binOp,shift_shl k yk x y hr.1 (by have:=hr.2;rw[FK]at this;exact this)]) (iE h)
  ·exact h.elim
 ·rename_i k x yk y
  split at h
  ·rename_i hr
   exact ok rfl (fun w _ _=>by simp[eqGuard,binOp,shift_shr k yk x y hr.1 (by have:=hr.2;rw[FK]at this;exact this)]) h
  ·exact h.elim
 ·obtain⟨rfl,h⟩:=h
  exact ok rfl (fun w x y=>by simp[eqGuard,binOp,intBits_and]) h
 ·obtain⟨rfl,h⟩:=h
  exact ok rfl (fun w x y=>by simp[eqGuard,binOp,intBits_or]) h
 ·obtain⟨rfl,h⟩:=h
  exact ok rfl (fun w x y=>by simp[eqGuard,binOp,intBits_xor]) h
 ·exact ok rfl (fun w x y=>by simp[eqGuard,binOp,Op.stringOp]) h
 ·exact ok rfl (fun w x y=>by simp[eqGuard,binOp,Op.stringOp]) h
 ·exact ok rfl (fun w x y=>by simp[eqGuard,binOp,Op.stringOp]) h
 ·exact ok rfl (fun w x y=>by simp[eqGuard,binOp,Op.stringOp]) h
 ·exact h.elim
end
end Go.Proofs.YtocndodilpimnaaGreat.Sy
