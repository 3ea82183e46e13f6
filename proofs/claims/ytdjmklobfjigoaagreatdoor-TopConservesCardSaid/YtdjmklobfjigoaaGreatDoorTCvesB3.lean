import Derived.Test.YtdjmklobfjigoaaGreatDoorTCvesB2
import Derived.Great.BuildSlice
set_option maxRecDepth 100000
set_option maxHeartbeats 16000000
set_option linter.unusedVariables false
set_option linter.unusedSimpArgs false
namespace Go.Proofs.YtdjmklobfjigoaaGreatDoor.Sy
open Go.RowKit
section
variable {N:Nat} {P:Program} {o:Oper} {R:Operand→S} {h:Nat→Option Blk}
theorem bput_self (β:Nat→Value) (l:Nat):bput β l (β l)=β:=by
 funext k;unfold bput;split
 ·subst_vars;rfl
 ·rfl
theorem newGh_self (G:Gh) (l:Nat):newGh G l (G.β l) (G.φ l)=G:=by
 have h1:pput G.φ l (G.φ l)=G.φ:=by
  funext k
  by_cases h:k=l
  ·subst h;exact pput_same _ _ _
  ·exact pput_other _ h
 unfold newGh
 rw[bput_self,h1]
theorem hput_eq_one (h:Nat→Option Blk) (d:Nat) (b:Blk) (l0:Option Nat) (hl:l0=some d∨l0=none):(fun k=>if k=d then some b else if l0=some k then none else h k)=hupd [(d,some b)] h:=by
 funext k
 simp only[hupd,hput]
 split
 ·rfl
 ·rename_i hk
  rcases hl with rfl|rfl
  ·rw[if_neg (by intro e;simp at e;exact hk e.symm)]
  ·rw[if_neg (by simp)]
theorem hput_eq_two (h:Nat→Option Blk) (d l:Nat) (b:Blk):(fun k=>if k=d then some b else if some l=some k then none else h k)=hupd [(d,some b),(l,none)] h:=by
 funext k
 simp only[hupd,hput,Option.some.injEq]
 split
 ·rfl
 ·by_cases e:k=l
  ·subst e;simp
  ·rw[if_neg (fun h=>e h.symm),if_neg e]
theorem does_store {t:TypeId} {x y:Operand} {l off:Nat} {p:List Nat} {blk blk':Blk} {z:S} (ho:o.op = .store t x y) (hx:R x = .pt l p off) (hl:h l=some blk) (hp:blk.at p=some (off,z))
  (hset:blk.set p (R y)=some blk') (hso:(R y).solid=true) (hw:(R y).width=z.width) (hsz:szB P t=some (R y).width):Does N P o R h ⟨.dead,[(l,some blk')],[l],[]⟩:=by
 intro W G0 A G g h' a w Q K hs hop hfp _ hK
 have h1:=hs.eval x
 rw[hop x (by simp[ho,Op.operands]),hx]at h1
 unfold RepS at h1
 obtain⟨b,hb,hxv⟩:=h1
 have h2:=hs.eval y
 rw[hop y (by simp[ho,Op.operands])]at h2
 have hl':h' l=some blk:=by rw[hfp l (by simp)];exact hl
 have hrep:=hs.heap.rep l blk hl'
 have hlen:=RepS.lens h2 hso
 have hnF:=hs.heap.sep l blk b hl' (.inl hb)
 obtain⟨cur,ty,cs',hcur,hcs,hfit,hnew,hnewi⟩:=RepB.set_spec hrep (hs.heap.inn l blk hl') hp hset hb h2 hlen.1 hlen.2 hw hnF hs.heap.fb
 have hrun:(execOp a.eval o).run P w = .ok .skip (w.setRow b cs'.toArray):=by
  unfold execOp
  simp only[ho,hxv]
  have hst:=run_storeCells_at (P:=P) b off ty (a.eval y).cells.toList 0 cur w hcur (by simpa using hfit) hlen.2
  simp only[Nat.add_zero]at hst
  have hcs2:cs'=cur.toList.take off++(a.eval y).cells.toList++cur.toList.drop (off+(a.eval y).cells.toList.length):=by rw[hcs,splice,List.append_assoc]
  rw[←hcs2]at hst
  simp[Instr.storeAt,Instr.sureAddr,storeVar,run_szB hsz,hlen.1,hst]
 unfold Oper.wp
 rw[hrun]
 show K (a.put o.dst undef) _
 have hx:=Ext.mkG hs.heap (some b) (grownBy_setRow w b cs'.toArray) (some l) (fun k hk=>⟨blk,by cases hk;exact hl'⟩) (fun k hk=>⟨l,rfl,by cases hk;exact .inl hb⟩) l (G.β l) blk' (G.φ l) (.inl rfl) [] (.inr ⟨rfl,rfl⟩) (by simp) (fun k hk=> .inl ⟨l,rfl,hk⟩) (by rw[newGh_self];exact hnew) (by rw[newGh_self];exact hnewi)
 rw[hput_eq_one h' l blk' (some l) (.inl rfl)]at hx
 exact hK undef _ _ hx (by unfold RepS;trivial)
theorem does_new {d:Nat} {r:S} {blk:Blk} (H:∀ (G:Gh) (a:Act) (w:World),(∀ x∈o.op.operands.toList,RepS G w (R x) (a.eval x))→(∀ b,G.F b→b < w.heap.size)→
   ∃ cs e v,(execOp a.eval o).run P w = .ok (.value v) (w.alloc (.cells cs e))∧hblk v=some w.heap.size∧
    ∀ G':Gh,G'.F=G.F→G'.β d=v→(∀ s u,s.free d=true→RepS G w s u→RepS G' (w.alloc (.cells cs e)) s u)→RepB G' (w.alloc (.cells cs e)) blk v∧RepS G' (w.alloc (.cells cs e)) r v) (hpl:blk.plain=true:=by rfl) :
  Does N P o R h ⟨r,[(d,some blk)],[],[d]⟩:=by
 intro W G0 A G g h' a w Q K hs hop _ hnw hK
 obtain⟨hd,hfg,hfh⟩:=hnw d (by simp)
 obtain⟨cs,e,v,h1,h2,h3⟩:=H G a w (fun x hx=>by rw[←hop x hx];exact hs.eval x) hs.heap.fb
 have K0:Keep G w (newGh G d v noF) (w.alloc (.cells cs e)) [d]:=⟨fun _ h=>h,fun b o hb=>cell_block (Below.heap_alloc w _ b (hs.heap.fb b hb)),fun l hl=>bput_other v (by simpa using hl)⟩
 obtain⟨h4,h5⟩:=h3 (newGh G d v noF) rfl (bput_same _ _ _) (fun s u hf hr=>RepS.keep K0 s u (fun l hl=>by simp at hl;subst hl;exact hf) hr)
 have hx:=Ext.mk' hs.heap none (World.grownBy_alloc w (.cells cs e)) none (by simp) (by simp) d v blk (.inr hd) [d] (.inl rfl) (fun k hk l b hl=>by simp at hk;subst hk;exact hfh l b hl) (fun k hk=> .inr (by rw[h2]at hk;cases hk;exact Nat.le_refl _)) h4 (Inn.plain hpl)
 rw[hput_eq_one h' d blk none (.inr rfl)]at hx
 exact wp_of_run h1 (hK v _ _ hx h5)
mutual
def shapeT (P:Program):Nat→TypeId→List Value→Option (T×List Value)
 | 0,_,_=>none
 | n+1,t,cs=>match P.underlying t with
  | some (.struct fs)=>match shapeF P n (fs.toList.map (·.type)) cs with
   | some (xs,r)=>some (.agg xs,r)
   | none=>none
  | some (.array k e)=>match shapeF P n (List.replicate k e) cs with
   | some (xs,r)=>some (.agg xs,r)
   | none=>none
  | some _=>match cs with
   | c :: r=>if c.oneCell' then some (.lit c,r) else none
   | []=>none
  | none=>none
def shapeF (P:Program):Nat→List TypeId→List Value→Option (List T×List Value)
 | 0,_,_=>none
 | _+1,[],cs=>some ([],cs)
 | n+1,t :: ts,cs=>match shapeT P n t cs with
  | some (x,r)=>match shapeF P n ts r with
   | some (xs,r')=>some (x :: xs,r')
   | none=>none
  | none=>none
end
mutual
theorem shapeT_spec {F:Nat→Prop} {w:World}:∀ {n:Nat} {t:TypeId} {cs r:List Value} {x:T},shapeT P n t cs=some (x,r)→∃ u,Rep F w x u∧cs=u.cells.toList++r
 | 0,t,cs,r,x,e=>by simp[shapeT]at e
 | n+1,t,cs,r,x,e=>by
  unfold shapeT at e
  split at e
  ·split at e
   ·rename_i h1
    simp at e
    obtain⟨rfl,rfl⟩:=e
    obtain⟨us,h2,h3⟩:=shapeF_spec (F:=F) (w:=w) h1
    exact⟨.agg us.toArray,by unfold Rep;exact⟨us,rfl,h2⟩,h3⟩
   ·cases e
  ·split at e
   ·rename_i h1
    simp at e
    obtain⟨rfl,rfl⟩:=e
    obtain⟨us,h2,h3⟩:=shapeF_spec (F:=F) (w:=w) h1
    exact⟨.agg us.toArray,by unfold Rep;exact⟨us,rfl,h2⟩,h3⟩
   ·cases e
  ·split at e
   ·split at e
    ·rename_i h1
     simp at e
     obtain⟨rfl,rfl⟩:=e
     exact⟨_,by unfold Rep;exact⟨rfl,h1⟩,by rw[cells_one h1];rfl⟩
    ·cases e
   ·cases e
  ·cases e
theorem shapeF_spec {F:Nat→Prop} {w:World}:∀ {n:Nat} {ts:List TypeId} {cs r:List Value} {xs:List T},shapeF P n ts cs=some (xs,r)→∃ us,Reps F w xs us∧cs=us++r
 | 0,ts,cs,r,xs,e=>by simp[shapeF]at e
 | n+1,[],cs,r,xs,e=>by
  simp[shapeF]at e
  obtain⟨rfl,rfl⟩:=e
  exact⟨[],by unfold Reps;rfl,rfl⟩
 | n+1,t :: ts,cs,r,xs,e=>by
  unfold shapeF at e
  split at e
  ·rename_i h1
   split at e
   ·rename_i h2
    simp at e
    obtain⟨rfl,rfl⟩:=e
    obtain⟨u,h3,rfl⟩:=shapeT_spec (F:=F) (w:=w) h1
    obtain⟨us,h4,rfl⟩:=shapeF_spec (F:=F) (w:=w) h2
    exact⟨u.cells.toList++us,by unfold Reps;exact⟨u,us,rfl,h3,h4⟩,by simp⟩
   ·cases e
  ·cases e
end
def zeroOf (P:Program) (t:TypeId):Option T:=match (P.info? t).bind (·.zero) with
 | some v=>match shapeT P 600 t v.cells.toList with
  | some (x,[])=>some x
  | _=>none
 | none=>none
theorem zeroOf_spec {t:TypeId} {z:T} (hz:zeroOf P t=some z) (F:Nat→Prop) (w:World):∃ v u,(zeroValue t).run P w = .ok v w∧Rep F w z u∧v.cells=u.cells:=by
 unfold zeroOf at hz
 split at hz
 ·rename_i v hv
  obtain⟨i,hi,hzz⟩:=Option.bind_eq_some_iff.1 hv
  split at hz
  ·rename_i hx
   simp at hz
   subst hz
   obtain⟨u,h1,h2⟩:=shapeT_spec (F:=F) (w:=w) hx
   refine⟨v,u,by simp[zeroValue,typeInfo,hi,hzz],h1,?_⟩
   rw[←Array.toList_inj]
   simpa using h2
  ·cases hz
 ·cases hz
theorem does_alloc {e:TypeId} {d:Nat} {z:T} (ho:o.op = .alloc e) (hz:zeroOf P e=some z):Does N P o R h ⟨.pt d [] 0,[(d,some (.box e (.t z)))],[],[d]⟩:=
 does_new fun G a w _ _=>by
  obtain⟨v,u,h1,h2,h3⟩:=zeroOf_spec hz G.F w
  refine⟨v.cells,e,.pointer (some ⟨w.heap.size,0,none⟩),?_,rfl,fun G' hF hd hk=>?_⟩
  ·unfold execOp
   simp only[ho]
   exact exec_v (by simp[Instr.alloc,h1,newVar,newRow])
  ·have h4:RepS G w (.t z) u:=by unfold RepS;exact h2
   refine⟨⟨w.heap.size,u,rfl,hk (.t z) u rfl h4,Rep.width _ _ h2,Rep.one _ _ h2,by rw[←h3];exact heap_alloc_new w _⟩,?_⟩
   unfold RepS
   exact⟨w.heap.size,by rw[hd];rfl,rfl⟩
theorem does_box {e:TypeId} {d:Nat} {x:Operand} (ho:o.op = .box e x) (hso:(R x).solid=true) (hf:(R x).free d=true):Does N P o R h ⟨.pt d [] 0,[(d,some (.box e (R x)))],[],[d]⟩:=
 does_new fun G a w hop _=>by
  have h2:=hop x (by simp[ho,Op.operands])
  have h3:=RepS.lens h2 hso
  refine⟨(a.eval x).cells,e,.pointer (some ⟨w.heap.size,0,none⟩),?_,rfl,fun G' hF hd hk=>?_⟩
  ·unfold execOp
   simp only[ho]
   exact exec_v (by simp[Instr.box,newVar,newRow])
  ·refine⟨⟨w.heap.size,a.eval x,rfl,hk _ _ hf h2,h3.1,h3.2,heap_alloc_new w _⟩,?_⟩
   unfold RepS
   exact⟨w.heap.size,by rw[hd];rfl,rfl⟩
theorem run_fieldPlace {b off:Nat} {fd:Field} {n:Nat} (hn:szB P fd.type=some (n+1)) (w:World):(fieldPlace ⟨b,off,none⟩ fd).run P w = .ok ⟨b,off+fd.offset,none⟩ w:=by
 simp[fieldPlace,run_szB hn,addr_add]
theorem run_fieldAt {s:TypeId} {b off f:Nat} {q:Nat×TypeId} {n:Nat} (hf:fldB P s f=some q) (hn:szB P q.2=some (n+1)) (w:World) :
  (Instr.fieldAt s (.pointer (some ⟨b,off,none⟩)) f).run P w = .ok (.pointer (some ⟨b,off+q.1,none⟩)) w:=by
 obtain⟨fs,fd,h1,h2,h3,h4⟩:=und_fld hf
 have:=run_fieldPlace (P:=P) (b:=b) (off:=off) (fd:=fd) (n:=n) (by rw[h4];exact hn) w
 simp[Instr.fieldAt,run_underlying h1,h2,Instr.sureAddr,this,h3]
theorem does_fieldAddr_pt {t:TypeId} {x:Operand} {f l off:Nat} {p:List Nat} {q:Nat×TypeId} {n:Nat} (ho:o.op = .fieldAddr t x f) (hx:R x = .pt l p off) (hf:fldB P t f=some q) (hn:szB P q.2=some (n+1)) :
  Does N P o R h ⟨.pt l (p++[f]) (off+q.1),[],[],[]⟩:=
 does_pure fun G h' a w hh hop _=>by
  have h1:=hop x (by simp[ho,Op.operands])
  rw[hx]at h1
  unfold RepS at h1
  obtain⟨b,h2,h3⟩:=h1
  refine⟨.pointer (some ⟨b,off+q.1,none⟩),?_,by unfold RepS;exact⟨b,h2,rfl⟩⟩
  unfold execOp
  simp only[ho,h3]
  exact exec_v (run_fieldAt hf hn w)
theorem does_fieldAddr_rp {t:TypeId} {x:Operand} {f:Nat} {xs:List T} {y:T} {q:Nat×TypeId} {n:Nat} (ho:o.op = .fieldAddr t x f) (hx:R x = .rp (.agg xs)) (hy:xs[f]? = some y) (hf:fldB P t f=some q) (hq:T.widths (xs.take f)=q.1) (hn:szB P q.2=some (n+1)) :
  Does N P o R h ⟨.rp y,[],[],[]⟩:=
 does_pure fun G h' a w hh hop _=>by
  have h1:=hop x (by simp[ho,Op.operands])
  rw[hx]at h1
  unfold RepS at h1
  obtain⟨b,off,v,h2,h3,h4,h5⟩:=h1
  unfold Rep at h4
  obtain⟨cells,rfl,h6⟩:=h4
  obtain⟨v',h7,h8,_⟩:=Reps.get h6 hy
  refine⟨.pointer (some ⟨b,off+q.1,none⟩),?_,?_⟩
  ·unfold execOp
   simp only[ho,h2]
   exact exec_v (run_fieldAt hf hn w)
  ·unfold RepS
   refine⟨b,off+q.1,v',rfl,h3,h7,fun j c hj=>?_⟩
   rw[←hq,Nat.add_assoc]
   exact h5 _ _ (h8 j c hj)
theorem run_indexAt {t e:TypeId} {k:IntKind} {n:Int} {b off len cap s:Nat} (he:elemB P t=some e) (hs:szB P e=some s) (h0:0≤n) (h1:n < len) (w:World) :
  (Instr.indexAt t (.slice (some ⟨b,off,none⟩) len cap) (.int k n)).run P w = .ok (.pointer (some ⟨b,off+n.toNat * s,none⟩)) w:=by
 simp[Instr.indexAt,asIntOf,run_underlying (und_elem he),h0,h1,run_szB hs,addr_add]
theorem does_index_sl {t e:TypeId} {x i:Operand} {s:Nat} {k:IntKind} {n:Int} {xs:List T} {y:T} (ho:o.op = .indexAddr t x i) (hx:R x = .t (.sl s xs)) (hi:R i = .t (.lit (.int k n))) (he:elemB P t=some e) (hs:szB P e=some s)
  (h0:0≤n) (hy:xs[n.toNat]? = some y):Does N P o R h ⟨.rp y,[],[],[]⟩:=
 does_pure fun G h' a w hh hop _=>by
  have h1:=hop x (by simp[ho,Op.operands])
  have h2:=hop i (by simp[ho,Op.operands])
  rw[hx]at h1
  rw[hi]at h2
  unfold RepS at h1 h2
  unfold Rep at h1 h2
  obtain⟨ad,cap,cells,h3,h4,h5,h6⟩:=h1
  have hlt:=(List.getElem?_eq_some_iff.1 hy).1
  rcases h6.cells with h7|⟨b,off,rfl,hF,h7⟩
  ·omega
  ·obtain⟨v,h8,h9,_⟩:=Reps.get h4 hy
   refine⟨.pointer (some ⟨b,off+n.toNat * s,none⟩),?_,?_⟩
   ·unfold execOp
    simp only[ho,h3,h2.1]
    exact exec_v (run_indexAt he hs h0 (by omega) w)
   ·unfold RepS
    refine⟨b,_,v,rfl,hF,h8,fun j c hj=>?_⟩
    have:=h9 j c hj
    rw[widths_take_const h5 (Nat.le_of_lt hlt)]at this
    rw[Nat.add_assoc]
    exact h7 _ _ this
theorem does_index_own {t e e':TypeId} {x i:Operand} {l s:Nat} {k:IntKind} {n:Int} {xs:List T} (ho:o.op = .indexAddr t x i) (hx:R x = .own l) (hl:h l=some (.list e' s xs)) (hi:R i = .t (.lit (.int k n))) (he:elemB P t=some e) (hs:szB P e=some s)
  (h0:0≤n) (h1:n < xs.length):Does N P o R h ⟨.pt l [n.toNat] (n.toNat * s),[],[l],[]⟩:=
 does_pure fun G h' a w hh hop hfp=>by
  have h2:=hop x (by simp[ho,Op.operands])
  have h3:=hop i (by simp[ho,Op.operands])
  rw[hx]at h2
  rw[hi]at h3
  unfold RepS at h2 h3
  unfold Rep at h3
  have h4:=hh.rep l _ (by rw[hfp l (by simp)];exact hl)
  obtain⟨ad,cap,cells,h5,h6,h7,h8⟩:=h4
  rw[h5]at h8
  rcases h8.2 with ⟨hv,hn⟩|⟨g,cap',cur,hv,hB,hh',hc,hm,hs',ht⟩
  ·omega
  ·simp only[Value.slice.injEq]at hv
   obtain⟨rfl,_,rfl⟩:=hv
   refine⟨.pointer (some ⟨g,n.toNat * s,none⟩),?_,?_⟩
   ·unfold execOp
    simp only[ho,h2.1,h5,h3.1]
    have:=run_indexAt (P:=P) (b:=g) (off:=0) (cap:=cap) (k:=k) he hs h0 h1 w
    rw[Nat.zero_add]at this
    exact exec_v this
   ·unfold RepS
    exact⟨g,by rw[h5];rfl,rfl⟩
theorem does_index_rows {t e e':TypeId} {x i:Operand} {l s:Nat} {k:IntKind} {n:Int} {us:List U} {ex:List (Nat×S)} (ho:o.op = .indexAddr t x i) (hx:R x = .own l) (hl:h l=some (.rows e' s us ex)) (hi:R i = .t (.lit (.int k n))) (he:elemB P t=some e) (hs:szB P e=some s)
  (h0:0≤n) (h1:n < us.length):Does N P o R h ⟨.pt l [n.toNat] (n.toNat * s),[],[l],[]⟩:=
 does_pure fun G h' a w hh hop hfp=>by
  have h2:=hop x (by simp[ho,Op.operands])
  have h3:=hop i (by simp[ho,Op.operands])
  rw[hx]at h2
  rw[hi]at h3
  unfold RepS at h2 h3
  unfold Rep at h3
  have h4:=hh.rep l _ (by rw[hfp l (by simp)];exact hl)
  obtain⟨ad,cap,cells,h5,h8⟩:=h4
  rw[h5]at h8
  rcases h8.2 with ⟨hv,hn⟩|⟨g,cap',cur,hv,hB,hh',hc,hm,hs',ht⟩
  ·omega
  ·simp only[Value.slice.injEq]at hv
   obtain⟨rfl,_,rfl⟩:=hv
   refine⟨.pointer (some ⟨g,n.toNat * s,none⟩),?_,?_⟩
   ·unfold execOp
    simp only[ho,h2.1,h5,h3.1]
    have:=run_indexAt (P:=P) (b:=g) (off:=0) (cap:=cap) (k:=k) he hs h0 h1 w
    rw[Nat.zero_add]at this
    exact exec_v this
   ·unfold RepS
    exact⟨g,by rw[h5];rfl,rfl⟩
theorem run_indexAt_arr {t e:TypeId} {k:IntKind} {m:Int} {b off n s:Nat} (ha:arrB P t=some (n,e)) (hs:szB P e=some s) (h0:0≤m) (h1:m < n) (w:World) :
  (Instr.indexAt t (.pointer (some ⟨b,off,none⟩)) (.int k m)).run P w = .ok (.pointer (some ⟨b,off+m.toNat * s,none⟩)) w:=by
 simp[Instr.indexAt,asIntOf,run_underlying (und_arr ha),Instr.sureAddr,h0,h1,run_szB hs,addr_add]
theorem does_index_arr {t e:TypeId} {x i:Operand} {l off n s:Nat} {p:List Nat} {k:IntKind} {m:Int} (ho:o.op = .indexAddr t x i) (hx:R x = .pt l p off) (hi:R i = .t (.lit (.int k m))) (ha:arrB P t=some (n,e)) (hs:szB P e=some s)
  (h0:0≤m) (h1:m < n):Does N P o R h ⟨.pt l (p++[m.toNat]) (off+m.toNat * s),[],[],[]⟩:=
 does_pure fun G h' a w hh hop _=>by
  have h2:=hop x (by simp[ho,Op.operands])
  have h3:=hop i (by simp[ho,Op.operands])
  rw[hx]at h2
  rw[hi]at h3
  unfold RepS at h2 h3
  unfold Rep at h3
  obtain⟨b,h4,h5⟩:=h2
  refine⟨.pointer (some ⟨b,off+m.toNat * s,none⟩),?_,by unfold RepS;exact⟨b,h4,rfl⟩⟩
  unfold execOp
  simp only[ho,h5,h3.1]
  exact exec_v (run_indexAt_arr ha hs h0 h1 w)
def BinOk (P:Program) (op:BinOp) (t:TypeId) (a b v:Value):Prop:=
 v.oneCell'=true∧∀ (w:World) (x y:Operand),(do eqGuard op t x y a b;binOp op t a b:Sem Value).run P w = .ok v w
theorem does_bin {op:BinOp} {t t':TypeId} {x y:Operand} {a b v:Value} (ho:o.op = .binOp op t x y t') (hx:R x = .t (.lit a)) (hy:R y = .t (.lit b)) (hv:BinOk P op t a b v):Does N P o R h ⟨.t (.lit v),[],[],[]⟩:=
 does_pure fun G h' ac w hh hop _=>by
  have h1:=hop x (by simp[ho,Op.operands])
  have h2:=hop y (by simp[ho,Op.operands])
  rw[hx]at h1
  rw[hy]at h2
  unfold RepS at h1 h2
  unfold Rep at h1 h2
  refine⟨v,?_,by unfold RepS;unfold Rep;exact⟨rfl,hv.1⟩⟩
  unfold execOp
  simp only[ho,h1.1,h2.1]
  exact exec_v (hv.2 w x y)
def inR:IntKind→Int→Prop
 | .i8,n=>-128≤n∧n≤127
 | .i16,n=>-32768≤n∧n≤32767
 | .i32,n=>-2147483648≤n∧n≤2147483647
 | .i64,n=>-9223372036854775808≤n∧n≤9223372036854775807
 | .u8,n=>0≤n∧n≤255
 | .u16,n=>0≤n∧n≤65535
 | .u32,n=>0≤n∧n≤4294967295
 | .u64,n=>0≤n∧n≤18446744073709551615
instance (k:IntKind) (n:Int):Decidable (inR k n):=by cases k<;>(unfold inR;infer_instance)
theorem wrap_in {k:IntKind} {n:Int} (h:inR k n):k.wrap n=n:=by
 cases k
 ·exact IntWalk.i8_in n h
 ·exact IntWalk.i16_in n h
 ·exact IntWalk.i32_in n h
 ·exact IntWalk.i64_in n h
 ·exact IntWalk.u8_in n h
 ·exact IntWalk.u16_in n h
 ·exact IntWalk.u32_in n h
 ·exact IntWalk.u64_in n h
def arK (k:IntKind) (e:Int) (K:Value→Prop):Prop:=match k with
 | .i64=>if -9223372036854775808≤e∧e≤9223372036854775807 then K (.int .i64 e) else False
 | k=>if inR k e then K (.int k e) else K (.int k (k.wrap e))
theorem arK_spec {k:IntKind} {e:Int} {K:Value→Prop} (h:arK k e K):K (.int k (k.wrap e)):=by
 unfold arK at h
 split at h
 ·split at h
  ·rename_i hr
   rw[IntWalk.i64_in e hr];exact h
  ·exact h.elim
 ·split at h
  ·rename_i hr
   rw[wrap_in hr];exact h
  ·exact h
def kB:IntKind→Int
 | .i8=>8
 | .i16=>16
 | .i32=>32
 | .i64=>64
 | .u8=>8
 | .u16=>16
 | .u32=>32
 | .u64=>64
def kX:IntKind→Int
 | .u8=>255
 | .u16=>65535
 | .u32=>4294967295
 | .u64=>18446744073709551615
 | _=>-1
theorem kX_eq (k:IntKind):kX k=if k.signed then -1 else k.max:=by cases k<;>rfl
theorem kB_bits (k:IntKind):kB k=k.bits:=by cases k<;>rfl
def binV (op:BinOp) (a b:Value) (K:Value→Prop):Prop:=
 match op,a,b with
 | .add,.int k x,.int k' y=>k=k'∧arK k (x+y) K
 | .sub,.int k x,.int k' y=>k=k'∧arK k (x - y) K
 | .mul,.int k x,.int k' y=>k=k'∧arK k (x * y) K
 | .quo,.int k x,.int k' y=>k=k'∧(if 0≤x∧1≤y then (if inR k x then K (.int k (x / y)) else False) else if y=0 then False else arK k (x.tdiv y) K)
 | .rem,.int k x,.int k' y=>k=k'∧(if 0≤x∧1≤y then K (.int k (x % y)) else if y=0 then False else K (.int k (x.tmod y)))
 | .lss,.int k x,.int k' y=>k=k'∧K (.bool (decide (x < y)))
 | .leq,.int k x,.int k' y=>k=k'∧K (.bool (decide (x≤y)))
 | .gtr,.int k x,.int k' y=>k=k'∧K (.bool (decide (y < x)))
 | .geq,.int k x,.int k' y=>k=k'∧K (.bool (decide (y≤x)))
 | .eql,.int k x,.int k' y=>k=k'∧K (.bool (decide (x=y)))
 | .neq,.int k x,.int k' y=>k=k'∧K (.bool (decide (x≠y)))
 | .eql,.string x,.string y=>K (.bool (x.toList == y.toList))
 | .neq,.string x,.string y=>K (.bool (!(x.toList == y.toList)))
 | .add,.string x,.string y=>if x.size+y.size≤9223372036854775807 then K (.string (x++y)) else False
 | .shl,.int k x,.int _ y=>if 0≤y∧y≤kB k then arK k (x * 2 ^ y.toNat) K else False
 | .shr,.int k x,.int _ y=>if 0≤y∧y≤kB k then K (.int k (x / 2 ^ y.toNat)) else False
 | .and,.int k x,.int k' y=>k=k'∧K (.int k (bits .and k x y))
 | .or,.int k x,.int k' y=>k=k'∧K (.int k (bits .or k x y))
 | .xor,.int k x,.int k' y=>k=k'∧K (.int k (bits .xor k x y))
 | _,_,_=>False
theorem wrap_quo {k:IntKind} {x y:Int} (h:0≤x∧1≤y∧inR k x):k.wrap (x.tdiv y)=x / y:=by
 obtain⟨h0,h1,h2⟩:=h
 rw[Int.tdiv_eq_ediv_of_nonneg h0]
 have h3:=IntWalk.tdiv_le x y h0 h1
 refine wrap_in ?_
 cases k<;>simp only[inR]at *<;>omega
theorem binV_spec {op:BinOp} {t:TypeId} {a b:Value} {K:Value→Prop} (h:binV op a b K):∃ v,BinOk P op t a b v∧K v:=by
 have ok:∀ {v:Value},v.oneCell'=true→(∀ w x y,(do eqGuard op t x y a b;binOp op t a b:Sem Value).run P w = .ok v w)→K v→∃ v,BinOk P op t a b v∧K v:=fun h1 h2 h3=>⟨_,⟨h1,h2⟩,h3⟩
 unfold binV at h
 split at h
 ·obtain⟨rfl,h⟩:=h
  exact ok rfl (fun w x y=>by simp[eqGuard,binOp,Op.intArith]) (arK_spec h)
 ·obtain⟨rfl,h⟩:=h
  exact ok rfl (fun w x y=>by simp[eqGuard,binOp,Op.intArith]) (arK_spec h)
 ·obtain⟨rfl,h⟩:=h
  exact ok rfl (fun w x y=>by simp[eqGuard,binOp,Op.intArith]) (arK_spec h)
 ·obtain⟨rfl,h⟩:=h
  split at h
  ·rename_i hr
   split at h
   ·rename_i hi
    exact ok rfl (fun w x y=>by simp[eqGuard,binOp,Op.intDiv,wrap_quo ⟨hr.1,hr.2,hi⟩];intro e;exfalso;omega) h
   ·exact h.elim
  ·split at h
   ·exact h.elim
   ·rename_i hn
    exact ok rfl (fun w x y=>by simp[eqGuard,binOp,Op.intDiv,hn]) (arK_spec h)
 ·obtain⟨rfl,h⟩:=h
  split at h
  ·rename_i hr
   exact ok rfl (fun w x y=>by simp[eqGuard,binOp,Op.intDiv,Int.tmod_eq_emod_of_nonneg hr.1];intro e;exfalso;omega) h
  ·split at h
   ·exact h.elim
   ·rename_i hn
    exact ok rfl (fun w x y=>by simp[eqGuard,binOp,Op.intDiv,hn]) h
 ·obtain⟨rfl,h⟩:=h
  exact ok rfl (fun w x y=>by simp[eqGuard,binOp,Op.intCmp]) h
 ·obtain⟨rfl,h⟩:=h
  exact ok rfl (fun w x y=>by simp[eqGuard,binOp,Op.intCmp]) h
 ·obtain⟨rfl,h⟩:=h
  exact ok rfl (fun w x y=>by simp[eqGuard,binOp,Op.intCmp]) h
 ·obtain⟨rfl,h⟩:=h
  exact ok rfl (fun w x y=>by simp[eqGuard,binOp,Op.intCmp]) h
 ·obtain⟨rfl,h⟩:=h
  exact ok rfl (fun w x y=>by simp[eqGuard,binOp,Op.intCmp];exact Bool.beq_eq_decide_eq _ _) h
 ·obtain⟨rfl,h⟩:=h
  exact ok rfl (fun w x y=>by simp[eqGuard,binOp,Op.intCmp];rfl) h
 ·exact ok rfl (fun w x y=>by simp[eqGuard,binOp,Op.stringOp]) h
 ·exact ok rfl (fun w x y=>by simp[eqGuard,binOp,Op.stringOp]) h
 ·split at h
  ·rename_i hr
   exact ok rfl (fun w x y=>by simp[eqGuard,binOp,Op.stringOp,show IntKind.i64.max=9223372036854775807 from by decide];omega) h
  ·exact h.elim
 ·rename_i k x yk y
  split at h
  ·rename_i hr
   exact ok rfl (fun w _ _=>by simp[eqGuard,binOp,shift_shl k yk x y hr.1 (by have:=hr.2;rw[kB_bits]at this;exact this)]) (arK_spec h)
  ·exact h.elim
 ·rename_i k x yk y
  split at h
  ·rename_i hr
   exact ok rfl (fun w _ _=>by simp[eqGuard,binOp,shift_shr k yk x y hr.1 (by have:=hr.2;rw[kB_bits]at this;exact this)]) h
  ·exact h.elim
 ·obtain⟨rfl,h⟩:=h
  exact ok rfl (fun w x y=>by simp[eqGuard,binOp,intBits_and]) h
 ·obtain⟨rfl,h⟩:=h
  exact ok rfl (fun w x y=>by simp[eqGuard,binOp,intBits_or]) h
 ·obtain⟨rfl,h⟩:=h
  exact ok rfl (fun w x y=>by simp[eqGuard,binOp,intBits_xor]) h
 ·exact h.elim
end
end Go.Proofs.YtdjmklobfjigoaaGreatDoor.Sy
namespace Go.Proofs.YtdjmklobfjigoaaGreatDoor.Sy
open Go.RowKit
section
variable {N:Nat} {P:Program} {o:Oper} {R:Operand→S} {h:Nat→Option Blk}
def elI (P:Program) (e:TypeId):Option (Nat×Nat):=match P.info? e with
 | some i=>match i.zero with
  | some z=>if z.cells.size=i.size∧0 < i.size∧0 < i.bytes then some (i.size,i.bytes) else none
  | none=>none
 | none=>none
theorem elI_spec {e s b:Nat} (hz:elI P e=some (s,b)):∃ i z,P.info? e=some i∧i.zero=some z∧z.cells.size=s∧i.size=s∧i.bytes=b∧0 < s∧0 < b:=by
 unfold elI at hz
 cases hi:P.info? e with
 | none=>rw[hi]at hz;simp at hz
 | some i=>
  rw[hi]at hz
  simp only at hz
  cases hzz:i.zero with
  | none=>rw[hzz]at hz;simp at hz
  | some z=>
   rw[hzz]at hz
   simp only at hz
   split at hz
   ·rename_i hc
    simp at hz
    exact⟨i,z,rfl,hzz,by omega,hz.1,hz.2,by omega,by omega⟩
   ·cases hz
def partsT (R:Operand→S):Nat→List (Nat×Operand)→Option (List T)
 | _,[]=>some []
 | k,(i,x) :: r=>if i=k then match R x with
  | .t y=>match partsT R (k+1) r with
   | some ys=>some (y :: ys)
   | none=>none
  | _=>none
  else none
theorem partsT_spec {G:Gh} {w:World} {ev:Operand→Value}:∀ {l:List (Nat×Operand)} {k:Nat} {ys:List T},(∀ q∈l,RepS G w (R q.2) (ev q.2))→partsT R k l=some ys→
  ∃ vs:List Value,l.map (fun q=>(q.1,ev q.2))=((vs.zipIdx k).map fun x=>(x.2,x.1))∧Reps G.F w ys (vs.flatMap fun v=>v.cells.toList)∧vs.length=ys.length∧∀ s,(∀ y∈ys,y.width=s)→∀ v∈vs,v.cells.size=s
 | [],k,ys,_,e=>by
  simp[partsT]at e;subst e
  exact⟨[],rfl,by simp only[List.flatMap_nil];unfold Reps;rfl,rfl,by simp⟩
 | (i,x) :: r,k,ys,hr,e=>by
  unfold partsT at e
  split at e
  ·rename_i hik
   split at e
   ·rename_i y hy
    split at e
    ·rename_i ys' hys
     simp at e
     subst e hik
     obtain⟨vs,h1,h2,h3,h4⟩:=partsT_spec (G:=G) (w:=w) (ev:=ev) (fun q hq=>hr q (by simp[hq])) hys
     have h5:=hr (i,x) (by simp)
     rw[hy]at h5
     unfold RepS at h5
     refine⟨ev x :: vs,by simp[h1],?_,by simp[h3],?_⟩
     ·simp only[List.flatMap_cons]
      unfold Reps
      exact⟨ev x,_,rfl,h5,h2⟩
     ·intro s hs v hv
      rcases List.mem_cons.1 hv with rfl|hv
      ·rw[Rep.width y _ h5];exact hs y (by simp)
      ·exact h4 s (fun z hz=>hs z (by simp[hz])) v hv
    ·cases e
   ·cases e
  ·cases e
theorem flat_length {s:Nat}:∀ {vs:List Value},(∀ v∈vs,v.cells.size=s)→(vs.flatMap fun v=>v.cells.toList).length=vs.length * s
 | [],_=>by simp
 | v :: r,h=>by
  have:=flat_length (s:=s) (vs:=r) fun x hx=>h x (by simp[hx])
  have h1:=h v (by simp)
  simp only[List.flatMap_cons,List.length_append,Array.length_toList,List.length_cons,this,h1,Nat.add_mul]
  omega
theorem does_buildSlice {t e:TypeId} {n s b d:Nat} {parts:Array (Nat×Operand)} {ys:List T} (ho:o.op = .buildSlice t n parts) (he:elemB P t=some e) (hs:elI P e=some (s,b)) (hp:partsT R 0 parts.toList=some ys) (hn:n=ys.length) (hw:∀ y∈ys,y.width=s) (hsm:n * s≤2 ^ 24) :
  Does N P o R h ⟨.own d,[(d,some (.list e s ys))],[],[d]⟩:=
 does_new fun G a w hop hF=>by
  obtain⟨i,z,h1,h2,h3,h4,h5,h6,h7⟩:=elI_spec hs
  obtain⟨vs,h8,h9,h10,h11⟩:=partsT_spec (R:=R) (G:=G) (w:=w) (ev:=a.eval) (l:=parts.toList) (fun q hq=>hop q.2 (by simp[ho,Op.operands];exact⟨q.1,by simpa using hq⟩)) hp
  have h12:=h11 s hw
  have hrun:(Instr.buildSlice t n (parts.map fun (i,x)=>(i,a.eval x))).run P w = .ok (.slice (some ⟨w.heap.size,0,none⟩) n n) (w.alloc (.cells (vs.flatMap fun v=>v.cells.toList).toArray e)):=by
   have hpl:(parts.map fun (i,x)=>(i,a.eval x)).toList=((vs.zipIdx 0).map fun x=>(x.2,x.1)):=by
    rw[Array.toList_map,←h8]
   by_cases hn0:n=0
   ·have hv0:vs=[]:=List.eq_nil_of_length_eq_zero (by omega)
    subst hv0
    subst hn0
    have hpe:parts=#[]:=by
     have:=congrArg List.length h8
     simpa using this
    subst hpe
    simp[Instr.buildSlice,run_underlying (und_elem he),sizeOf,typeInfo,h1,Instr.fill,newRow]
    congr 2
    exact Array.eq_empty_of_size_eq_zero (by simp)
   ·refine run_buildSlice w t e n _ _ i z (und_elem he) h1 h2 (by rw[h4];omega) (by rw[h4];intro h0;rcases Nat.mul_eq_zero.1 h0 with h0|h0<;>omega) ?_
    rw[hpl,h4]
    exact Great.fill_whole h6 vs _ h12 (by simp;rw[h10,hn])
  refine⟨(vs.flatMap fun v=>v.cells.toList).toArray,e,.slice (some ⟨w.heap.size,0,none⟩) n n,?_,rfl,fun G' hGF hd hk=>?_⟩
  ·unfold execOp
   simp only[ho]
   exact exec_v hrun
  ·have hlen:=flat_length h12
   have hmax:n≤maxLen:=by
    unfold maxLen
    have:n * 1≤n * s:=Nat.mul_le_mul_left n h6
    omega
   refine⟨⟨some ⟨w.heap.size,0,none⟩,n,(vs.flatMap fun v=>v.cells.toList),by rw[hn],?_,hw,?_⟩,?_⟩
   ·refine Reps.mono (fun b hb=>by rw[hGF];exact hb) (fun b o hb=>cell_block (Below.heap_alloc w _ b (hF b hb))) _ _ h9
   ·have:=World.ownsRow_lit (base:=0) (size:=s) (e:=e) w (vs.flatMap fun v=>v.cells.toList).toArray n (Nat.zero_le _) hmax (by simp only[List.size_toArray];rw[hlen,h10,hn])
    rw[hn]at this ⊢
    simpa using this
   ·unfold RepS
    exact⟨hd.symm,_,_,_,rfl⟩
theorem run_append_any {F:Nat→Prop} {w:World} {t ty e:TypeId} {s b n m c:Nat} {v:Value} {x:Option Addr} {cells news:List Value} (he:elemB P t=some e) (hs:elI P e=some (s,b)) (hown:w.ownsRow 0 e s v n cells)
  (hseg:Seg F w x m c s news) (h1:∀ u∈news,u.oneCell'=true) (hb:(n+m) * b≤140737488355328) :
  ∃ v' w',(Builtin.append_ #[t,t] ty #[v,.slice x m c]).run P w = .ok v' w'∧w'.ownsRow 0 e s v' (n+m) (cells++news)∧w.grownBy w' (hblk v)∧((hblk v'=hblk v)∨hblk v'=some w.heap.size)∧∃ x' c',v' = .slice x' (n+m) c':=by
 obtain⟨i,z,h2,h3,h4,h5,h6,h7,h8⟩:=elI_spec hs
 have hmax:n+m≤maxLen:=by
  unfold maxLen
  have:(n+m) * 1≤(n+m) * b:=Nat.mul_le_mul_left _ h8
  omega
 have hblk_own:∀ {u:Value} {k:Nat} {cs:List Value} {w:World},w.ownsRow 0 e s u k cs→hblk u=u.ownBlock:=by
  intro u k cs w hu
  rcases hu.2 with ⟨rfl,_⟩|⟨g,_,_,rfl,_⟩<;>rfl
 have shape:∀ {w':World} {v':Value} {cs:List Value},w'.ownsRow 0 e s v' (n+m) cs→∃ x' c',v' = .slice x' (n+m) c':=by
  intro w' v' cs h
  rcases h.2 with ⟨hv,hn⟩|⟨g,cap',cur,hv,_⟩
  ·exact⟨_,_,by rw[hv,hn]⟩
  ·exact⟨_,_,hv⟩
 cases x with
 | none=>
  have hc:=hseg.nil rfl
  have hm:m=0:=by have:=hseg.le;omega
  subst hc hm
  have hnews:news=[]:=List.eq_nil_of_length_eq_zero (by have:=hseg.len;simpa using this)
  subst hnews
  have:=run_append_owned_none (P:=P) (w:=w) 0 t ty e i s (und_elem he) h2 v n cells hown
  refine⟨v,w,this,by simpa using hown,World.grownBy.refl w _,.inl rfl,?_⟩
  exact shape (by simpa using hown)
 | some ad=>
  have hnews:∀ j u,news[j]? = some u→w.cell? (ad.add j)=some u:=by
   intro j u hj
   rcases hseg.cells with h0|⟨b',off,hx,_,hcell⟩
   ·have:=hseg.len
    rw[h0,Nat.zero_mul]at this
    have:news=[]:=List.eq_nil_of_length_eq_zero this
    subst this
    simp at hj
   ·cases hx
    rw[addr_add]
    exact hcell j u hj
  obtain⟨v',w',h9,h10,h11,_,h12⟩:=run_append_own_at (P:=P) w 0 t ty e i z s b (und_elem he) h2 h3 h5 h6 h4 h7 v n cells hown ad m c news hseg.len hnews h1 hmax hb (Nat.zero_le _)
  rw[←hblk_own hown,←hblk_own h10]at h12
  rw[←hblk_own hown]at h11
  exact⟨v',w',h9,h10,h11,h12,shape h10⟩
inductive Src (R:Operand→S) (h:Nat→Option Blk) (y:Operand) (s:Nat) (ys:List T):List Nat→Prop
 | sl (hy:R y = .t (.sl s ys)):Src R h y s ys []
 | own (l:Nat) (e:TypeId) (hy:R y = .own l) (hl:h l=some (.list e s ys)):Src R h y s ys [l]
 | nil (hy:R y = .t (.lit (.slice none 0 0))) (he:ys=[]):Src R h y s ys []
theorem Src.spec {y:Operand} {s:Nat} {ys:List T} {fp:List Nat} (hsrc:Src R h y s ys fp) {G:Gh} {w:World} {h':Nat→Option Blk} {u:Value} (hh:HeapOk G w h') (hr:RepS G w (R y) u) (hfp:∀ l∈fp,h' l=h l) :
  ∃ x c news,u = .slice x ys.length c∧Reps G.F w ys news∧(∀ z∈ys,z.width=s)∧Seg (fun b=>b < w.heap.size) w x ys.length c s news:=by
 cases hsrc with
 | sl hy=>
  rw[hy]at hr
  unfold RepS at hr;unfold Rep at hr
  obtain⟨x,c,news,h1,h2,h3,h4⟩:=hr
  exact⟨x,c,news,h1,h2,h3,h4.mono (fun b hb=>hh.fb b hb) (fun _ _ _=>rfl)⟩
 | own l e hy hl=>
  rw[hy]at hr
  unfold RepS at hr
  have h1:=hh.rep l _ (by rw[hfp l (by simp)];exact hl)
  obtain⟨x,c,news,h2,h3,h4,h5⟩:=h1
  rw[h2]at h5
  refine⟨x,c,news,by rw[hr.1,h2],h3,h4,Seg.of_own h5 fun b hb=>?_⟩
  rcases h5.2 with ⟨hv,_⟩|⟨g,_,_,hv,_,hg,_⟩
  ·simp only[Value.slice.injEq]at hv;rw[hv.1]at hb;simp[hblk]at hb
  ·simp only[Value.slice.injEq]at hv;rw[hv.1]at hb;simp[hblk]at hb;subst hb;exact lt_of_block hg
 | nil hy he=>
  subst he
  rw[hy]at hr
  unfold RepS at hr;unfold Rep at hr
  exact⟨none,0,[],hr.1,by unfold Reps;rfl,by simp,⟨Nat.le_refl _,by unfold maxLen;omega,by simp,fun _=>rfl,.inl rfl⟩⟩
theorem does_append_own {t ty e:TypeId} {x y:Operand} {s b l d:Nat} {xs ys:List T} {fp:List Nat} (ho:o.op = .call {callee:=.builtin .append,args:=#[x,y],argTypes:=#[t,t]}) (he:elemB P t=some e) (hs:elI P e=some (s,b))
  (hx:R x = .own l) (hl:h l=some (.list e s xs)) (hsrc:Src R h y s ys fp) (hb:(xs.length+ys.length) * b≤140737488355328) (hdl:d≠l):Does N P o R h ⟨.own d,[(d,some (.list e s (xs++ys))),(l,none)],l :: fp,[d]⟩:=by
 intro W G0 A G g h' a w Q K hsat hop hfp hnw hK
 obtain⟨hd,hfg,hfh⟩:=hnw d (by simp)
 have h1:=hsat.eval x
 rw[hop x (by simp[ho,Op.operands,Call.operands]),hx]at h1
 unfold RepS at h1
 have h2:=hsat.eval y
 rw[hop y (by simp[ho,Op.operands,Call.operands])]at h2
 obtain⟨x2,c2,news,h3,h4,h5,h6⟩:=hsrc.spec hsat.heap h2 (fun k hk=>hfp k (by simp[hk]))
 have hl':h' l=some (.list e s xs):=by rw[hfp l (by simp)];exact hl
 obtain⟨x1,c1,cells,h7,h8,h9,h10⟩:=hsat.heap.rep l _ hl'
 obtain⟨v',w',h11,h12,h13,h14,x',c',h15⟩:=run_append_any (P:=P) (ty:=o.type) he hs h10 h6 (fun u hu=>Reps.one ys news h4 u hu) hb
 have hnF:∀ k,hblk (G.β l)=some k→¬ G.F k:=fun k hk=>hsat.heap.sep l _ k hl' (.inl hk)
 have hcell:∀ b o,G.F b→w'.cell? ⟨b,o,none⟩=w.cell? ⟨b,o,none⟩:=fun b o hF=>cell_block (h13.block b (hsat.heap.fb b hF) (fun e=>hnF b e.symm hF))
 have hrun:(execOp a.eval o).run P w = .ok (.value v') w':=by
  unfold execOp
  simp only[ho,resolve,invoke,builtin,Sem.run_bind,Sem.run_pure,Result.andThen_ok,List.map_toArray,List.map_cons,List.map_nil,h1.1,h3,h11]
 have hx:=Ext.mk' hsat.heap (hblk (G.β l)) h13 (some l) (fun k hk=>⟨_,by cases hk;exact hl'⟩) (fun k hk=>⟨l,rfl,hk⟩) d v' (.list e s (xs++ys)) (.inr hd) [d] (.inl rfl)
  (fun k hk l b hl=>by simp at hk;subst hk;exact hfh l b hl) (fun k hk=>by
   rcases h14 with h14|h14
   ·exact .inl ⟨l,rfl,by rw[←h14];exact hk⟩
   ·right;rw[h14]at hk;cases hk;exact Nat.le_refl _)
  (by
   refine⟨x',c',cells++news,by rw[h15];simp,?_,?_,by rw[List.length_append];exact h12⟩
   ·exact Reps.append (Reps.mono (fun _ h=>h) hcell _ _ h8) (Reps.mono (fun _ h=>h) hcell _ _ h4)
   ·intro z hz
    rcases List.mem_append.1 hz with hz|hz
    ·exact h9 z hz
    ·exact h5 z hz) (Inn.plain rfl)
 rw[hput_eq_two h' d l]at hx
 exact wp_of_run hrun (hK v' _ _ hx (by unfold RepS;exact⟨(bput_same _ _ _).symm,_,_,_,h15⟩))
theorem does_append_nil {t ty e:TypeId} {x y:Operand} {s b d:Nat} {ys:List T} {fp:List Nat} (ho:o.op = .call {callee:=.builtin .append,args:=#[x,y],argTypes:=#[t,t]}) (he:elemB P t=some e) (hs:elI P e=some (s,b))
  (hx:R x = .t (.lit (.slice none 0 0))) (hsrc:Src R h y s ys fp) (hb:ys.length * b≤140737488355328):Does N P o R h ⟨.own d,[(d,some (.list e s ys))],fp,[d]⟩:=by
 intro W G0 A G g h' a w Q K hsat hop hfp hnw hK
 obtain⟨hd,hfg,hfh⟩:=hnw d (by simp)
 have h1:=hsat.eval x
 rw[hop x (by simp[ho,Op.operands,Call.operands]),hx]at h1
 unfold RepS at h1;unfold Rep at h1
 have h2:=hsat.eval y
 rw[hop y (by simp[ho,Op.operands,Call.operands])]at h2
 obtain⟨x2,c2,news,h3,h4,h5,h6⟩:=hsrc.spec hsat.heap h2 hfp
 obtain⟨v',w',h11,h12,h13,h14,x',c',h15⟩:=run_append_any (P:=P) (ty:=o.type) he hs (World.ownsRow_nil w 0 e s) h6 (fun u hu=>Reps.one ys news h4 u hu) (by rw[Nat.zero_add];exact hb)
 rw[Nat.zero_add,List.nil_append]at h12
 rw[Nat.zero_add]at h15
 have hcell:∀ b o,G.F b→w'.cell? ⟨b,o,none⟩=w.cell? ⟨b,o,none⟩:=fun b o hF=>cell_block (h13.block b (hsat.heap.fb b hF) (fun e=>by simp[hblk]at e))
 have hrun:(execOp a.eval o).run P w = .ok (.value v') w':=by
  unfold execOp
  simp only[ho,resolve,invoke,builtin,Sem.run_bind,Sem.run_pure,Result.andThen_ok,List.map_toArray,List.map_cons,List.map_nil,h1.1,h3,h11]
 have hx:=Ext.mk' hsat.heap none h13 none (fun k hk=>by cases hk) (fun k hk=>by cases hk) d v' (.list e s ys) (.inr hd) [d] (.inl rfl)
  (fun k hk l b hl=>by simp at hk;subst hk;exact hfh l b hl) (fun k hk=>by
   right
   rcases h14 with h14|h14
   ·rw[h14]at hk;simp[hblk]at hk
   ·rw[h14]at hk;cases hk;exact Nat.le_refl _)
  ⟨x',c',news,h15,Reps.mono (fun _ h=>h) hcell _ _ h4,h5,h12⟩ (Inn.plain rfl)
 rw[hput_eq_one h' d _ none (.inr rfl)]at hx
 exact wp_of_run hrun (hK v' _ _ hx (by unfold RepS;exact⟨(bput_same _ _ _).symm,_,_,_,h15⟩))
theorem does_len_rows {t:TypeId} {e e':TypeId} {x:Operand} {l s:Nat} {us:List U} {ex:List (Nat×S)} (ho:o.op = .call {callee:=.builtin .len,args:=#[x],argTypes:=#[t]}) (he:elemB P t=some e) (hx:R x = .own l) (hl:h l=some (.rows e' s us ex)):Does N P o R h ⟨.t (.int us.length),[],[l],[]⟩:=
 does_pure fun G h' a w hh hop hfp=>by
  have h1:=hop x (by simp[ho,Op.operands,Call.operands])
  rw[hx]at h1
  unfold RepS at h1
  obtain⟨ad,cap,cells,h5,h8⟩:=hh.rep l _ (by rw[hfp l (by simp)];exact hl)
  refine⟨.int .i64 us.length,?_,by unfold RepS;unfold Rep;exact⟨rfl,rfl⟩⟩
  unfold execOp
  simp[ho,resolve,invoke,builtin,h1.1,h5,Builtin.len_,run_underlying (und_elem he),goInt]
theorem does_len {t:TypeId} {e:TypeId} {x:Operand} {s:Nat} {xs:List T} {fp:List Nat} (ho:o.op = .call {callee:=.builtin .len,args:=#[x],argTypes:=#[t]}) (he:elemB P t=some e) (hsrc:Src R h x s xs fp):Does N P o R h ⟨.t (.int xs.length),[],fp,[]⟩:=
 does_pure fun G h' a w hh hop hfp=>by
  have h1:=hop x (by simp[ho,Op.operands,Call.operands])
  obtain⟨ad,c,news,h2,_⟩:=hsrc.spec hh h1 hfp
  refine⟨.int .i64 xs.length,?_,by unfold RepS;unfold Rep;exact⟨rfl,rfl⟩⟩
  unfold execOp
  simp[ho,resolve,invoke,builtin,h2,Builtin.len_,run_underlying (und_elem he),goInt]
def strB (P:Program) (t:TypeId):Bool:=match P.underlying t with|some .string=>true|_=>false
theorem und_str {t:TypeId} (hz:strB P t=true):P.underlying t=some .string:=by
 unfold strB at hz;split at hz<;>simp_all
theorem does_len_str {t:TypeId} {x:Operand} {s:ByteArray} (ho:o.op = .call {callee:=.builtin .len,args:=#[x],argTypes:=#[t]}) (he:strB P t=true) (hx:R x = .t (.lit (.string s))):Does N P o R h ⟨.t (.int s.size),[],[],[]⟩:=
 does_pure fun G h' a w hh hop hfp=>by
  have h1:=hop x (by simp[ho,Op.operands,Call.operands])
  rw[hx]at h1
  unfold RepS at h1;unfold Rep at h1
  refine⟨.int .i64 s.size,?_,by unfold RepS;unfold Rep;exact⟨rfl,rfl⟩⟩
  unfold execOp
  simp[ho,resolve,invoke,builtin,h1.1,Builtin.len_,run_underlying (und_str he),goInt]
theorem does_min {ts:Array TypeId} {x y:Operand} {k k':IntKind} {m n:Int} (ho:o.op = .call {callee:=.builtin .min,args:=#[x,y],argTypes:=ts}) (hx:R x = .t (.lit (.int k m))) (hy:R y = .t (.lit (.int k' n))):Does N P o R h ⟨.t (.lit (.int k (min m n))),[],[],[]⟩:=
 does_pure fun G h' a w hh hop hfp=>by
  have h1:=hop x (by simp[ho,Op.operands,Call.operands])
  have h2:=hop y (by simp[ho,Op.operands,Call.operands])
  rw[hx]at h1
  rw[hy]at h2
  unfold RepS at h1 h2;unfold Rep at h1 h2
  refine⟨.int k (min m n),?_,by unfold RepS;unfold Rep;exact⟨rfl,rfl⟩⟩
  unfold execOp
  simp[ho,resolve,invoke,builtin,h1.1,h2.1,run_min_int2]
  omega
theorem does_max {ts:Array TypeId} {x y:Operand} {k k':IntKind} {m n:Int} (ho:o.op = .call {callee:=.builtin .max,args:=#[x,y],argTypes:=ts}) (hx:R x = .t (.lit (.int k m))) (hy:R y = .t (.lit (.int k' n))):Does N P o R h ⟨.t (.lit (.int k (max m n))),[],[],[]⟩:=
 does_pure fun G h' a w hh hop hfp=>by
  have h1:=hop x (by simp[ho,Op.operands,Call.operands])
  have h2:=hop y (by simp[ho,Op.operands,Call.operands])
  rw[hx]at h1
  rw[hy]at h2
  unfold RepS at h1 h2;unfold Rep at h1 h2
  refine⟨.int k (max m n),?_,by unfold RepS;unfold Rep;exact⟨rfl,rfl⟩⟩
  unfold execOp
  simp[ho,resolve,invoke,builtin,h1.1,h2.1,run_max_int2]
  omega
theorem RepPs.get {G:Gh} {w:World}:∀ {ss:List S} {us:List Value} {i:Nat} {s:S},RepPs G w ss us→ss[i]? = some s→∃ u,us[i]? = some u∧RepS G w s u
 | [],us,i,s,h,e=>by simp at e
 | x :: r,us,0,s,h,e=>by
  simp at e;subst e
  unfold RepPs at h
  obtain⟨v,us',rfl,h1,h2⟩:=h
  exact⟨v,rfl,h1⟩
 | x :: r,us,i+1,s,h,e=>by
  unfold RepPs at h
  obtain⟨v,us',rfl,h1,h2⟩:=h
  obtain⟨u,h3,h4⟩:=RepPs.get (i:=i) (s:=s) h2 (by simpa using e)
  exact⟨u,by simpa using h3,h4⟩
theorem does_extract {x:Operand} {i:Nat} {ss:List S} {s:S} (ho:o.op = .extract x i) (hx:R x = .tup ss) (hs:ss[i]? = some s):Does N P o R h ⟨s,[],[],[]⟩:=
 does_pure fun G h' a w hh hop hfp=>by
  have h1:=hop x (by simp[ho,Op.operands])
  rw[hx]at h1
  unfold RepS at h1
  obtain⟨us,h2,h3⟩:=h1
  obtain⟨u,h4,h5⟩:=RepPs.get h3 hs
  refine⟨u,?_,h5⟩
  unfold execOp
  simp only[ho]
  exact exec_v (by simp[Instr.extract,h2,h4])
theorem run_part {G:Gh} {w:World} {t:TypeId} {s:S} {v:Value} {cs:Array Value} {off:Nat} (hs:RepS G w s v) (hso:s.solid=true) (hok:okLd P t s) (hc:∀ j c,v.cells.toList[j]? = some c→cs[off+j]? = some c) (hle:off+s.width≤cs.size) :
  (part t cs off).run P w = .ok v w:=by
 obtain⟨h1,h2⟩:=hok
 have hw:=(RepS.lens hs hso).1
 simp only[part,Sem.run_bind,run_aggO h2,Result.andThen_ok]
 cases hi:s.isAg with
 | true=>
  have hv:=ag_of_isAg hs hi
  simp only[if_true,run_szB h1,Sem.run_bind,Result.andThen_ok,Sem.run_pure]
  rw[hv]
  congr 2
  apply Array.ext_getElem?
  intro j
  by_cases hj:j < v.cells.size
  ·have:=hc j v.cells[j] (by simp[hj])
   rw[Array.getElem?_extract,if_pos (by omega),this]
   simp[hj]
  ·rw[Array.getElem?_eq_none (by simp;omega),Array.getElem?_eq_none (by omega)]
 | false=>
  have hv:=one_of_isAg hs hi hso
  have:=hc 0 v (by rw[hv.2];rfl)
  simp at this
  simp[this]
theorem does_field {t:TypeId} {x:Operand} {f:Nat} {xs:List T} {y:T} {q:Nat×TypeId} (ho:o.op = .field t x f) (hx:R x = .t (.agg xs)) (hy:xs[f]? = some y) (hf:fldB P t f=some q) (hq:T.widths (xs.take f)=q.1) (hok:okLd P q.2 (.t y)) :
  Does N P o R h ⟨.t y,[],[],[]⟩:=
 does_pure fun G h' a w hh hop _=>by
  have h1:=hop x (by simp[ho,Op.operands])
  rw[hx]at h1
  unfold RepS at h1
  unfold Rep at h1
  obtain⟨cells,h2,h3⟩:=h1
  obtain⟨v,h4,h5,_⟩:=Reps.get h3 hy
  have h6:RepS G w (.t y) v:=by unfold RepS;exact h4
  refine⟨v,?_,h6⟩
  obtain⟨fs,fd,h7,h8,h9,h10⟩:=und_fld hf
  have hlen:=Reps.widths _ _ h3
  have hle:q.1+y.width≤cells.length:=by
   have h8:=widths_take_succ hy
   have h9:T.widths xs=T.widths (xs.take (f+1))+T.widths (xs.drop (f+1)):=by rw[←widths_append,List.take_append_drop]
   omega
  have:=run_part (P:=P) (cs:=cells.toArray) (off:=q.1) h6 rfl hok (fun j c hj=>by rw[←hq];simpa using h5 j c hj) (by show q.1+y.width≤_;simpa using hle)
  unfold execOp
  simp only[ho,h2]
  exact exec_v (by simp[Instr.field,run_underlying h7,h8,asAgg,h9,h10,this])
theorem does_not {t:TypeId} {x:Operand} {b:Bool} (ho:o.op = .unOp .not t x) (hx:R x = .t (.lit (.bool b))):Does N P o R h ⟨.t (.lit (.bool (!b))),[],[],[]⟩:=
 does_pure fun G h' a w hh hop hfp=>by
  have h1:=hop x (by simp[ho,Op.operands])
  rw[hx]at h1
  unfold RepS at h1;unfold Rep at h1
  refine⟨.bool (!b),?_,by unfold RepS;unfold Rep;exact⟨rfl,rfl⟩⟩
  unfold execOp
  simp only[ho,h1.1]
  exact exec_v (by simp[Op.unary])
theorem does_neg {t:TypeId} {x:Operand} {k:IntKind} {n:Int} (ho:o.op = .unOp .neg t x) (hx:R x = .t (.lit (.int k n))):Does N P o R h ⟨.t (.lit (.int k (k.wrap (0 - n)))),[],[],[]⟩:=
 does_pure fun G h' a w hh hop hfp=>by
  have h1:=hop x (by simp[ho,Op.operands])
  rw[hx]at h1
  unfold RepS at h1;unfold Rep at h1
  refine⟨.int k (k.wrap (0 - n)),?_,by unfold RepS;unfold Rep;exact⟨rfl,rfl⟩⟩
  unfold execOp
  simp only[ho,h1.1]
  exact exec_v (by simp[Op.unary,Op.intArith])
theorem does_xor1 {t:TypeId} {x:Operand} {k:IntKind} {n:Int} (ho:o.op = .unOp .xor t x) (hx:R x = .t (.lit (.int k n))):Does N P o R h ⟨.t (.lit (.int k (bits .xor k (if k.signed then -1 else k.max) n))),[],[],[]⟩:=
 does_pure fun G h' a w hh hop hfp=>by
  have h1:=hop x (by simp[ho,Op.operands])
  rw[hx]at h1
  unfold RepS at h1;unfold Rep at h1
  refine⟨.int k (bits .xor k (if k.signed then -1 else k.max) n),?_,by unfold RepS;unfold Rep;exact⟨rfl,rfl⟩⟩
  unfold execOp
  simp only[ho,h1.1]
  exact exec_v (by simp[Op.unary,intBits_xor])
def encU (n:Nat):T:=.lit (.int .u8 n)
def bytesT:List T→List Nat
 | []=>[]
 | .lit (.int .u8 n) :: r=>n.toNat :: bytesT r
 | _ :: r=>0 :: bytesT r
def allU8:List T→Prop
 | []=>True
 | .lit (.int .u8 n) :: r=>0≤n∧allU8 r
 | _ :: _=>False
def encK (k:IntKind) (n:Int):T:=.lit (.int k n)
theorem widths_encK (k:IntKind):∀ l:List Int,T.widths (l.map (encK k))=l.length
 | []=>rfl
 | x :: r=>by simp[T.widths,encK,T.width,widths_encK k r];omega
theorem widths_encK_take (k:IntKind) (n:Nat) (l:List Int):T.widths ((l.map (encK k)).take n)=min n l.length:=by
 rw[←List.map_take,widths_encK,List.length_take]
def encD (n:Nat):T:=.lit (.int .u32 n)
theorem widths_encD:∀ l:List Nat,T.widths (l.map encD)=l.length
 | []=>rfl
 | x :: r=>by simp[T.widths,encD,T.width,widths_encD r];omega
theorem widths_encD_take (n:Nat) (l:List Nat):T.widths ((l.map encD).take n)=min n l.length:=by
 rw[←List.map_take,widths_encD,List.length_take]
theorem bytesT_app:∀ a b:List T,bytesT (a++b)=bytesT a++bytesT b
 | [],b=>rfl
 | x :: r,b=>by
  have:=bytesT_app r b
  cases x with
  | lit v=>cases v with
   | int k n=>cases k<;>simp[bytesT,this]
   | _=>simp[bytesT,this]
  | _=>simp[bytesT,this]
theorem bytesT_map:∀ l:List Nat,bytesT (l.map encU)=l
 | []=>rfl
 | x :: r=>by simp[bytesT,encU,bytesT_map r]
theorem allU8_app:∀ a b:List T,allU8 (a++b)=(allU8 a∧allU8 b)
 | [],b=>by simp[allU8]
 | x :: r,b=>by
  have:=allU8_app r b
  cases x with
  | lit v=>cases v with
   | int k n=>cases k<;>simp[allU8,this,and_assoc]
   | _=>simp[allU8]
  | _=>simp[allU8]
theorem allU8_map:∀ l:List Nat,allU8 (l.map encU)=True
 | []=>rfl
 | x :: r=>by simp[allU8,encU,allU8_map r]
theorem bytesT_take (n:Nat) (l:List Nat):bytesT ((l.map encU).take n)=l.take n:=by rw[←List.map_take,bytesT_map]
theorem bytesT_drop (n:Nat) (l:List Nat):bytesT ((l.map encU).drop n)=l.drop n:=by rw[←List.map_drop,bytesT_map]
theorem bytesT_cut (n m:Nat) (l:List Nat):bytesT (((l.map encU).take n).drop m)=(l.take n).drop m:=by rw[←List.map_take,←List.map_drop,bytesT_map]
theorem allU8_take (n:Nat) (l:List Nat):allU8 ((l.map encU).take n)=True:=by rw[←List.map_take,allU8_map]
theorem allU8_drop (n:Nat) (l:List Nat):allU8 ((l.map encU).drop n)=True:=by rw[←List.map_drop,allU8_map]
theorem allU8_cut (n m:Nat) (l:List Nat):allU8 (((l.map encU).take n).drop m)=True:=by rw[←List.map_take,←List.map_drop,allU8_map]
theorem allU8_eq:∀ {xs:List T},allU8 xs→xs=(bytesT xs).map encU
 | [],_=>rfl
 | x :: r,h=>by
  cases x with
  | lit v=>cases v with
   | int k n=>cases k<;>simp[allU8]at h<;>simp[bytesT,encU,←allU8_eq h.2];omega
   | _=>simp[allU8]at h
  | _=>simp[allU8]at h
theorem reps_bytes {F:Nat→Prop} {w:World}:∀ {bs:List Nat} {cells:List Value},Reps F w (bs.map encU) cells→cells=nats .u8 bs
 | [],cells,h=>by simp only[List.map_nil]at h;unfold Reps at h;exact h
 | c :: r,cells,h=>by
  simp only[List.map_cons]at h
  unfold Reps at h
  obtain⟨u,us,rfl,h1,h2⟩:=h
  unfold encU at h1
  unfold Rep at h1
  rw[h1.1,reps_bytes h2]
  rfl
theorem does_conv_bytes {s t e:TypeId} {x:Operand} {xs:List T} {fp:List Nat} (ho:o.op = .convert s t x) (he:elemB P s=some e) (hu:intB P e=some .u8) (hk:strB P t=true) (hsrc:Src R h x 1 xs fp) (hb:allU8 xs):Does N P o R h ⟨.t (.lit (.string (str (bytesT xs)))),[],fp,[]⟩:=
 does_pure fun G h' a w hh hop hfp=>by
  have h1:=hop x (by simp[ho,Op.operands])
  obtain⟨ad,c,news,h2,h3,_,h4⟩:=hsrc.spec hh h1 hfp
  have hxs:=allU8_eq hb
  obtain⟨bs,hbs⟩:∃ bs,bytesT xs=bs:=⟨_,rfl⟩
  rw[hbs]at hxs ⊢
  subst hxs
  have h5:=reps_bytes h3
  subst h5
  refine⟨.string (str bs),?_,by unfold RepS;unfold Rep;exact⟨rfl,rfl⟩⟩
  unfold execOp
  simp only[ho,h2]
  refine exec_v ?_
  have hl:(bs.map encU).length=bs.length:=by simp
  rw[hl]at h4 ⊢
  refine run_str w s e t (und_elem he) (und_int hu) (und_str hk) (x:=ad) (n:=bs.length) (cap:=c) (bs:=bs) ?_
  refine⟨h4.le,h4.capLe,by rw[nats_length];omega,h4.nil,?_⟩
  rcases h4.cells with h5|⟨b,off,rfl,h5,h6⟩
  ·exact .inl h5
  ·refine .inr ⟨b,off,rfl,h5,fun j u hj=>?_⟩
   exact h6 j u hj
theorem does_conv_int {s t:TypeId} {x:Operand} {k k' k2:IntKind} {n:Int} (ho:o.op = .convert s t x) (hs:intB P s=some k2) (hk:intB P t=some k') (hx:R x = .t (.lit (.int k n))):Does N P o R h ⟨.t (.lit (.int k' (k'.wrap n))),[],[],[]⟩:=
 does_pure fun G h' a w hh hop hfp=>by
  have h1:=hop x (by simp[ho,Op.operands])
  rw[hx]at h1
  unfold RepS at h1;unfold Rep at h1
  refine⟨.int k' (k'.wrap n),?_,by unfold RepS;unfold Rep;exact⟨rfl,rfl⟩⟩
  unfold execOp
  simp only[ho,h1.1]
  exact exec_v (by simp[convert,run_underlying (und_int hs),run_underlying (und_int hk),Conv.intToInt])
theorem does_conv_str {s t:TypeId} {x:Operand} {b:ByteArray} (ho:o.op = .convert s t x) (hs:strB P s=true) (hk:strB P t=true) (hx:R x = .t (.lit (.string b))):Does N P o R h ⟨.t (.lit (.string b)),[],[],[]⟩:=
 does_pure fun G h' a w hh hop hfp=>by
  have h1:=hop x (by simp[ho,Op.operands])
  rw[hx]at h1
  unfold RepS at h1;unfold Rep at h1
  refine⟨.string b,?_,by unfold RepS;unfold Rep;exact⟨rfl,rfl⟩⟩
  unfold execOp
  simp only[ho,h1.1]
  exact exec_v (by simp[convert,run_underlying (und_str hs),run_underlying (und_str hk)])
theorem RepPs.map {G:Gh} {w:World} {ev:Operand→Value}:∀ {l:List Operand},(∀ x∈l,RepS G w (R x) (ev x))→RepPs G w (l.map R) (l.map ev)
 | [],_=>by simp only[List.map_nil];unfold RepPs;rfl
 | x :: r,h=>by
  simp only[List.map_cons]
  unfold RepPs
  exact⟨ev x,_,rfl,h x (by simp),RepPs.map fun y hy=>h y (by simp[hy])⟩
theorem does_makeFunc {f:FuncId} {caps:Array Operand} (ho:o.op = .makeFunc (.func f) #[] caps):Does N P o R h ⟨.fn f (caps.toList.map R),[],[],[]⟩:=
 does_pure fun G h' a w hh hop hfp=>by
  refine⟨.func (.func f) #[] (caps.map a.eval),?_,?_⟩
  ·unfold execOp
   simp only[ho]
   exact exec_v (by simp[Instr.makeFunc])
  ·unfold RepS
   refine⟨caps.toList.map a.eval,by rw[←Array.toList_map],?_⟩
   exact RepPs.map fun x hx=>hop x (by simp[ho,Op.operands];exact Array.mem_toList_iff.1 hx)
theorem does_makeBound {f:FuncId} {first:Array Operand} (ho:o.op = .makeFunc (.func f) first #[]):Does N P o R h ⟨.fb f (first.toList.map R),[],[],[]⟩:=
 does_pure fun G h' a w hh hop hfp=>by
  refine⟨.func (.func f) (first.map a.eval) #[],?_,?_⟩
  ·unfold execOp
   simp only[ho]
   exact exec_v (by simp[Instr.makeFunc])
  ·unfold RepS
   refine⟨first.toList.map a.eval,by rw[←Array.toList_map],?_⟩
   exact RepPs.map fun x hx=>hop x (by simp[ho,Op.operands];exact Array.mem_toList_iff.1 hx)
end
end Go.Proofs.YtdjmklobfjigoaaGreatDoor.Sy
namespace Go.Proofs.YtdjmklobfjigoaaGreatDoor.Sy
open Go.RowKit
def boolB (P:Program) (t:TypeId):Bool:=match P.underlying t with|some .bool=>true|_=>false
theorem und_bool {P:Program} {t:TypeId} (hz:boolB P t=true):P.underlying t=some .bool:=by
 unfold boolB at hz;split at hz<;>simp_all
def fldsB (P:Program) (t:TypeId):Option (List (Nat×TypeId)):=match P.underlying t with
 | some (.struct fs)=>if fs.toList.all (fun f=>f.name != "_") then some (fs.toList.map fun f=>(f.offset,f.type)) else none
 | _=>none
def plB (P:Program) (t:TypeId):Option (List (Nat×Nat)):=match P.underlying t with
 | some (.struct fs)=>fs.toList.mapM fun f=>(P.info? f.type).map fun i=>(f.offset,i.size)
 | _=>none
section
variable {N:Nat} {P:Program} {o:Oper} {R:Operand→S} {h:Nat→Option Blk}
theorem does_nilCheck_pt {x:Operand} {l off:Nat} {p:List Nat} (ho:o.op = .nilCheck x) (hx:R x = .pt l p off):Does N P o R h ⟨R x,[],[],[]⟩:=
 does_pure fun G h' a w hh hop _=>by
  have h1:=hop x (by simp[ho,Op.operands])
  refine⟨a.eval x,?_,h1⟩
  rw[hx]at h1
  unfold RepS at h1
  obtain⟨b,h2,h3⟩:=h1
  unfold execOp
  simp[ho,h3]
theorem does_nilCheck_rp {x:Operand} {y:T} (ho:o.op = .nilCheck x) (hx:R x = .rp y):Does N P o R h ⟨R x,[],[],[]⟩:=
 does_pure fun G h' a w hh hop _=>by
  have h1:=hop x (by simp[ho,Op.operands])
  refine⟨a.eval x,?_,h1⟩
  rw[hx]at h1
  unfold RepS at h1
  obtain⟨b,off,v,h3,_⟩:=h1
  unfold execOp
  simp[ho,h3]
theorem rep_sliced {F:Nat→Prop} {w:World} {s l h n cap:Nat} {xs:List T} {a:Option Addr} (hr:Rep F w (.sl s xs) (.slice a n cap)) (hlh:l≤h) (hh:h≤xs.length) :
  Rep F w (.sl s ((xs.take h).drop l)) (.slice (if cap=l then a else a.map (·.add (l * s))) (h - l) (cap - l)):=by
 unfold Rep at hr ⊢
 obtain⟨x,cap',cells,h1,h2,h3,h4⟩:=hr
 simp only[Value.slice.injEq]at h1
 obtain⟨rfl,rfl,rfl⟩:=h1
 have hcl:=Reps.widths _ _ h2
 rw[widths_const h3]at hcl
 have hlen:((xs.take h).drop l).length=h - l:=by simp;omega
 have hr1:=(Reps.split h h2).1
 have h3':∀ y∈xs.take h,y.width=s:=fun y hy=>h3 y (List.mem_of_mem_take hy)
 have hr2:=(Reps.split l hr1).2
 rw[widths_take_const h3' (by simp;omega),widths_take_const h3 hh]at hr2
 have hlh':=Nat.mul_le_mul_right s hlh
 have hh':=Nat.mul_le_mul_right s hh
 refine⟨_,cap - l,_,by rw[hlen],hr2,fun y hy=>h3' y (List.mem_of_mem_drop hy),?_⟩
 have hle:=h4.le
 refine⟨by rw[hlen];omega,by have:=h4.capLe;omega,?_,?_,?_⟩
 ·rw[hlen,List.length_drop,List.length_take,hcl,Nat.min_eq_left hh',Nat.sub_mul]
 ·intro e
  split at e
  ·omega
  ·have hx:a=none:=by simpa using e
   have:=h4.nil hx
   omega
 ·rw[hlen]
  by_cases h0:h - l=0
  ·exact .inl h0
  ·right
   rcases h4.cells with h5|⟨b,off,hx,hF,hc⟩
   ·omega
   ·refine⟨b,off+l * s,?_,hF,?_⟩
    ·rw[if_neg (by omega),hx]
     simp[addr_add]
    ·intro j u hu
     rw[List.getElem?_drop,List.getElem?_take]at hu
     split at hu
     ·have:=hc _ _ hu
      rw[Nat.add_assoc];exact this
     ·cases hu
def bndI (R:Operand→S) (d:Int):Option Operand→Option Int
 | none=>some d
 | some x=>match R x with
  | .t (.lit (.int _ n))=>some n
  | _=>none
theorem run_sliceAt_any {G:Gh} {ev:Operand→Value} {w:World} {t e:TypeId} {s n cap:Nat} {a:Option Addr} {lo hi:Option Operand} {l hb:Int} (he:elemB P t=some e) (hs:szB P e=some s)
  (hop:∀ x,lo=some x∨hi=some x→RepS G w (R x) (ev x)) (hlo:bndI R 0 lo=some l) (hhi:bndI R n hi=some hb) (h0:0≤l) (h1:l≤hb) (h2:hb≤n) (hc:n≤cap) :
  (Instr.sliceAt t (.slice a n cap) (lo.map ev) (hi.map ev) none).run P w = .ok (.slice (if cap=l.toNat then a else a.map (·.add (l.toNat * s))) (hb.toNat - l.toNat) (cap - l.toNat)) w:=by
 have hv:∀ (q:Option Operand) (dd m:Int),(∀ x,q=some x→RepS G w (R x) (ev x))→bndI R dd q=some m→(q=none∧m=dd)∨∃ x k,q=some x∧ev x = .int k m:=by
  intro q dd m hq hm
  cases q with
  | none=>simp[bndI]at hm;exact .inl ⟨rfl,hm.symm⟩
  | some x=>
   simp only[bndI]at hm
   split at hm
   ·rename_i k n hx
    simp at hm
    subst hm
    have:=hq x rfl
    rw[hx]at this
    unfold RepS at this;unfold Rep at this
    exact .inr ⟨x,k,rfl,this.1⟩
   ·cases hm
 have hz:=run_szB (P:=P) hs w
 have hlt:l.toNat≤cap:=by omega
 have e1:∀ k,(Instr.sliceBound (.int k hb) cap .sliceAcap).run P w = .ok hb.toNat w:=by
  intro k
  simp[Instr.sliceBound,asIntOf,show (0:Int)≤hb by omega,show hb≤(cap:Int) by omega]
 have e2:∀ k,(Instr.sliceBound (.int k l) hb.toNat .sliceB).run P w = .ok l.toNat w:=by
  intro k
  simp[Instr.sliceBound,asIntOf,h0,show l≤((hb.toNat:Nat):Int) by omega]
  try (intro hq;exact absurd hq (by omega))
 rcases hv lo 0 l (fun x hx=>hop x (.inl hx)) hlo with ⟨rfl,rfl⟩|⟨x,k,rfl,hx⟩<;>rcases hv hi n hb (fun x hx=>hop x (.inr hx)) hhi with ⟨rfl,rfl⟩|⟨y,k',rfl,hy⟩
 ·simp[Instr.sliceAt,Instr.slice,run_underlying (und_elem he),Instr.sliceBounds,hz]
 ·simp[Instr.sliceAt,Instr.slice,run_underlying (und_elem he),Instr.sliceBounds,hz,hy,e1]
 ·have e2':(Instr.sliceBound (.int k l) n .sliceB).run P w = .ok l.toNat w:=by have:=e2 k;simpa using this
  simp[Instr.sliceAt,Instr.slice,run_underlying (und_elem he),Instr.sliceBounds,hz,hx,e2']
 ·simp[Instr.sliceAt,Instr.slice,run_underlying (und_elem he),Instr.sliceBounds,hz,hx,hy,e1,e2]
theorem does_slice {t e:TypeId} {x:Operand} {lo hi:Option Operand} {s:Nat} {l hb:Int} {xs:List T} (ho:o.op = .slice t x lo hi none) (he:elemB P t=some e) (hs:szB P e=some s) (hx:R x = .t (.sl s xs))
  (hlo:bndI R 0 lo=some l) (hhi:bndI R xs.length hi=some hb) (h0:0≤l) (h1:l≤hb) (h2:hb≤xs.length):Does N P o R h ⟨.t (.sl s ((xs.take hb.toNat).drop l.toNat)),[],[],[]⟩:=
 does_pure fun G h' a w hh hop _=>by
  have h3:=hop x (by simp[ho,Op.operands])
  rw[hx]at h3
  unfold RepS at h3
  have h3':=h3
  unfold Rep at h3'
  obtain⟨ad,cap,cells,h4,_,_,h5⟩:=h3'
  rw[h4]at h3
  refine⟨_,?_,by unfold RepS;exact rep_sliced (l:=l.toNat) (h:=hb.toNat) h3 (by omega) (by omega)⟩
  unfold execOp
  simp only[ho,h4]
  exact exec_v (run_sliceAt_any (R:=R) (G:=G) he hs (fun y hy=>hop y (by simp[ho,Op.operands];rcases hy with hy|hy<;>simp[hy])) hlo hhi h0 h1 h2 h5.le)
theorem does_slice_own {t e e':TypeId} {x:Operand} {lo hi:Option Operand} {s k:Nat} {l hb:Int} {xs:List T} (ho:o.op = .slice t x lo hi none) (he:elemB P t=some e) (hs:szB P e=some s) (hx:R x = .own k) (hk:h k=some (.list e' s xs))
  (hlo:bndI R 0 lo=some l) (hhi:bndI R xs.length hi=some hb) (h0:0≤l) (h1:l≤hb) (h2:hb≤xs.length):Does N P o R h ⟨.t (.sl s ((xs.take hb.toNat).drop l.toNat)),[(k,none)],[k],[]⟩:=by
 intro W G0 A G g h' a w Q K hsat hop hfp _ hK
 have h3:=hsat.eval x
 rw[hop x (by simp[ho,Op.operands]),hx]at h3
 unfold RepS at h3
 have hk':h' k=some (.list e' s xs):=by rw[hfp k (by simp)];exact hk
 have hrep:=hsat.heap.rep k _ hk'
 have hx:=Ext.freeze hsat.heap hk'
 have h4:Rep (fun b=>G.F b∨G.ft k b) w (.sl s xs) (G.β k):=rep_of_list hrep (fun b hb=> .inl hb) (fun b hb=> .inr (.inl hb))
 have h4':=h4
 unfold Rep at h4'
 obtain⟨ad,cap,cells,h5b,_,_,h6⟩:=h4'
 have h5:a.eval x = .slice ad xs.length cap:=by rw[h3.1,h5b]
 have h7:Rep (fun b=>G.F b∨G.ft k b) w (.sl s xs) (.slice ad xs.length cap):=by rw[←h5b];exact h4
 refine wp_of_run (v:=.slice (if cap=l.toNat then ad else ad.map (·.add (l.toNat * s))) (hb.toNat - l.toNat) (cap - l.toNat)) (w':=w) ?_ (hK _ _ w hx ?_)
 ·unfold execOp
  simp only[ho,h5]
  exact exec_v (run_sliceAt_any (R:=R) (G:=G) he hs (fun y hy=>by
   rw[←hop y (by simp[ho,Op.operands];rcases hy with hy|hy<;>simp[hy])]
   exact hsat.eval y) hlo hhi h0 h1 h2 h6.le)
 ·unfold RepS
  exact rep_sliced h7 (by omega) (by omega)
def bldS (pls:List (Nat×Nat)) (R:Operand→S):List (Nat×Operand)→List S→Option (List S)
 | [],fs=>some fs
 | (i,x) :: r,fs=>match fs[i]?,pls[i]? with
  | some f,some (off,sz)=>if off=S.widths (fs.take i)∧sz=f.width∧(R x).solid=true∧(R x).width=f.width then bldS pls R r (fs.set i (R x)) else none
  | _,_=>none
def allT:List S→Option (List T)
 | []=>some []
 | .t x :: r=>match allT r with
  | some xs=>some (x :: xs)
  | none=>none
 | _ :: _=>none
def clp (fs:List S):S:=match allT fs with
 | some xs=> .t (.agg xs)
 | none=> .ag fs
theorem allT_spec:∀ {fs:List S} {xs:List T},allT fs=some xs→fs=xs.map S.t
 | [],xs,e=>by simp[allT]at e;subst e;rfl
 | s :: r,xs,e=>by
  cases s<;>simp only[allT]at e<;>try (cases e)
  split at e
  ·rename_i x xs' hx
   simp at e
   subst e
   rw[allT_spec hx];rfl
  ·cases e
theorem reps_of_t {G:Gh} {w:World}:∀ {ys:List T} {cs:List Value},RepSs G w (ys.map S.t) cs→Reps G.F w ys cs
 | [],cs,h=>by simp only[List.map_nil]at h;unfold RepSs at h;unfold Reps;exact h
 | y :: ys,cs,h=>by
  simp only[List.map_cons]at h
  unfold RepSs at h
  obtain⟨v,cs',h4,_,_,h5,h6⟩:=h
  unfold Reps
  unfold RepS at h5
  exact⟨v,cs',h4,h5,reps_of_t h6⟩
theorem rep_clp {G:Gh} {w:World} {fs:List S} {cells:List Value} (hr:RepSs G w fs cells):RepS G w (clp fs) (.agg cells.toArray):=by
 unfold clp
 split
 ·rename_i xs hx
  rw[allT_spec hx]at hr
  unfold RepS;unfold Rep
  exact⟨cells,rfl,reps_of_t hr⟩
 ·unfold RepS
  exact⟨cells,rfl,hr⟩
theorem foldl_splice {cells:Array Value} {vs:List Value} {off:Nat} (h:off+vs.length≤cells.size) :
  ((vs.zipIdx 0).foldl (fun cs (x:Value×Nat)=>cs.setIfInBounds (off+x.2) x.1) cells).toList=splice cells.toList off vs:=by
 obtain⟨h1,h2⟩:=Great.foldl_set off vs 0 cells
 apply List.ext_getElem?
 intro k
 have h3:=h2 k
 simp only[Nat.add_zero]at h3
 rw[Array.getElem?_toList,h3]
 unfold splice
 by_cases hk1:k < off
 ·rw[if_neg (by omega),List.getElem?_append_left (by simp;omega),List.getElem?_take,if_pos hk1]
  simp
 ·by_cases hk2:k < off+vs.length
  ·rw[if_pos (by omega),List.getElem?_append_right (by simp;omega)]
   rw[List.getElem?_append_left (by simp;omega)]
   simp[Nat.min_eq_left (show off≤cells.size by omega)]
  ·rw[if_neg (by omega),List.getElem?_append_right (by simp;omega),List.getElem?_append_right (by simp;omega),List.getElem?_drop]
   simp only[List.length_take,Array.length_toList,Nat.min_eq_left (show off≤cells.size by omega)]
   rw[show off+vs.length+(k - off - vs.length)=k by omega]
   simp
theorem fill_spec {G:Gh} {w:World} {ev:Operand→Value} {pls:List (Nat×Nat)}:∀ {parts:List (Nat×Operand)} {fs fs':List S} {cells:Array Value},RepSs G w fs cells.toList→(∀ q∈parts,RepS G w (R q.2) (ev q.2))→bldS pls R parts fs=some fs'→
  ∃ cells',Instr.fill (fun i=>pls[i]?) cells (parts.map fun q=>(q.1,ev q.2))=some cells'∧RepSs G w fs' cells'.toList
 | [],fs,fs',cells,hr,_,e=>by
  simp[bldS]at e
  subst e
  exact⟨cells,rfl,hr⟩
 | (i,x) :: r,fs,fs',cells,hr,hp,e=>by
  simp only[bldS]at e
  split at e
  ·rename_i f off sz hf hpl
   split at e
   ·rename_i hc
    obtain⟨h1,h2,h3,h4⟩:=hc
    have hx:=hp (i,x) (by simp)
    have hlx:=RepS.lens hx h3
    have hset:=RepSs.set hr hf hx hlx.1 hlx.2 h4
    have hlen:=(RepSs.lens hr).1
    have h8:=swidths_take_succ hf
    have h9:=swidths_split fs (i+1)
    have hfit:off+(ev x).cells.toList.length≤cells.size:=by
     simp only[Array.length_toList]at *
     omega
    have hsp:=foldl_splice hfit
    have hin:RepSs G w (fs.set i (R x)) (((ev x).cells.toList.zipIdx 0).foldl (fun cs (y:Value×Nat)=>cs.setIfInBounds (off+y.2) y.1) cells).toList:=by
     rw[hsp]
     unfold splice
     rw[h1,Array.length_toList,hlx.1,h4]
     exact hset
    obtain⟨cells',h5,h6⟩:=fill_spec (ev:=ev) hin (fun q hq=>hp q (by simp[hq])) e
    refine⟨cells',?_,h6⟩
    simp only[List.map_cons]
    unfold Instr.fill
    simp only[hpl]
    have hsz:(ev x).cells.size=sz:=by rw[hlx.1,h4,h2]
    rw[if_neg (by simp only[Array.length_toList,hsz]at hfit;simp[hsz];omega)]
    rw[←h5]
    congr 1
    rw[←Array.foldl_toList,Array.toList_zipIdx]
   ·cases e
  ·cases e
def fnT:S→S
 | .fn f []=> .t (.lit (.func (.func f) #[] #[]))
 | .fn f (c :: cs)=> .fn f (c :: cs)
 | .fb f cs=> .fb f cs
 | .t x=> .t x
 | .own l=> .own l
 | .pt l p o=> .pt l p o
 | .wn l p o n=> .wn l p o n
 | .cl s xs=> .cl s xs
 | .rp x=> .rp x
 | .ag fs=> .ag fs
 | .tup fs=> .tup fs
 | .dead=> .dead
theorem rep_fnT {G:Gh} {w:World} {s:S} {u:Value} (h:RepS G w s u):RepS G w (fnT s) u:=by
 cases s with
 | fn f cs=>
  cases cs with
  | nil=>
   unfold RepS at h
   obtain⟨us,rfl,h2⟩:=h
   unfold RepPs at h2
   subst h2
   unfold fnT RepS Rep
   exact⟨rfl,rfl⟩
  | cons c cs=>exact h
 | _=>exact h
theorem does_build {t:TypeId} {parts:Array (Nat×Operand)} {zs:List T} {pls:List (Nat×Nat)} {fs:List S} (ho:o.op = .build t parts) (hz:zeroOf P t=some (.agg zs)) (hpl:plB P t=some pls) (hb:bldS pls (fun x=>fnT (R x)) parts.toList (zs.map S.t)=some fs) :
  Does N P o R h ⟨clp fs,[],[],[]⟩:=
 does_pure fun G h' a w hh hop _=>by
  obtain⟨v,u,h1,h2,h3⟩:=zeroOf_spec hz G.F w
  unfold Rep at h2
  obtain⟨cs,rfl,h4⟩:=h2
  have h5:RepSs G w (zs.map S.t) v.cells.toList:=by rw[h3];exact RepSs.of_t h4
  obtain⟨cells',h6,h7⟩:=fill_spec (R:=fun x=>fnT (R x)) (ev:=a.eval) h5 (fun q hq=>rep_fnT (hop q.2 (by simp[ho,Op.operands];exact⟨q.1,by simpa using hq⟩))) hb
  refine⟨.agg cells',?_,by have:=rep_clp h7;simpa using this⟩
  unfold plB at hpl
  split at hpl
  ·rename_i fields hu
   have hpm:=run_places (P:=P) w _ _ hpl
   have hparts:(parts.map fun (i,x)=>(i,a.eval x)).toList=parts.toList.map fun q=>(q.1,a.eval q.2):=by rw[Array.toList_map]
   unfold execOp
   simp only[ho]
   refine exec_v ?_
   simp[Instr.build,h1,run_underlying hu,Array.mapM_eq_mapM_toList,hpm,hparts,h6]
  ·cases hpl
theorem fill_mono {g g':Nat→Option (Nat×Nat)} (hg:∀ i v,g i=some v→g' i=some v):∀ {parts:List (Nat×Value)} {cells c:Array Value},Instr.fill g cells parts=some c→Instr.fill g' cells parts=some c
 | [],cells,c,h=>by unfold Instr.fill at *;exact h
 | (i,v) :: r,cells,c,h=>by
  unfold Instr.fill at *
  cases hi:g i with
  | none=>simp[hi]at h
  | some q=>
   rw[hi]at h
   rw[hg i q hi]
   dsimp only at h ⊢
   split at h
   ·cases h
   ·rename_i hc
    rw[if_neg hc]
    exact fill_mono hg h
def plA (n s:Nat):List (Nat×Nat):=(List.range n).map fun i=>(i * s,s)
theorem does_build_arr {t e:TypeId} {n s:Nat} {parts:Array (Nat×Operand)} {zs:List T} {fs:List S} (ho:o.op = .build t parts) (hz:zeroOf P t=some (.agg zs)) (ha:arrB P t=some (n,e)) (hs:szB P e=some s) (hb:bldS (plA n s) (fun x=>fnT (R x)) parts.toList (zs.map S.t)=some fs) :
  Does N P o R h ⟨clp fs,[],[],[]⟩:=
 does_pure fun G h' a w hh hop _=>by
  obtain⟨v,u,h1,h2,h3⟩:=zeroOf_spec hz G.F w
  unfold Rep at h2
  obtain⟨cs,rfl,h4⟩:=h2
  have h5:RepSs G w (zs.map S.t) v.cells.toList:=by rw[h3];exact RepSs.of_t h4
  obtain⟨cells',h6,h7⟩:=fill_spec (R:=fun x=>fnT (R x)) (ev:=a.eval) h5 (fun q hq=>rep_fnT (hop q.2 (by simp[ho,Op.operands];exact⟨q.1,by simpa using hq⟩))) hb
  have h8:=fill_mono (g':=fun i=>some (i * s,s)) (fun i v hv=>by
   unfold plA at hv
   rw[List.getElem?_map]at hv
   cases hr:(List.range n)[i]? with
   | none=>rw[hr]at hv;cases hv
   | some j=>
    rw[hr]at hv
    obtain⟨hlt,he⟩:=List.getElem?_eq_some_iff.1 hr
    simp at he
    subst he
    simpa using hv) h6
  refine⟨.agg cells',?_,by have:=rep_clp h7;simpa using this⟩
  have hparts:(parts.map fun (i,x)=>(i,a.eval x)).toList=parts.toList.map fun q=>(q.1,a.eval q.2):=by rw[Array.toList_map]
  unfold execOp
  simp only[ho]
  refine exec_v ?_
  simp[Instr.build,h1,run_underlying (und_arr ha),run_szB hs,hparts,h8]
def eqV (P:Program) (t:TypeId) (x y:T):Option Bool:=match x,y with
 | .lit (.int k a),.lit (.int k' b)=>if k=k'∧(intB P t).isSome=true then some (decide (a=b)) else none
 | .lit (.bool a),.lit (.bool b)=>if boolB P t=true then some (a == b) else none
 | .lit (.string a),.lit (.string b)=>if strB P t=true then some (a.toList == b.toList) else none
 | _,_=>none
def eqFs (P:Program):List (Nat×TypeId)→Nat→List T→List T→Option Bool
 | [],_,[],[]=>some true
 | (off,ft) :: r,k,x :: xs,y :: ys=>if off=k then match eqV P ft x y with
   | some b=>match eqFs P r (k+1) xs ys with
    | some c=>some (b && c)
    | none=>none
   | none=>none
  else none
 | _,_,_,_=>none
theorem eqV_spec {t:TypeId} {x y:T} {b:Bool} (hz:eqV P t x y=some b):∃ u v,x = .lit u∧y = .lit v∧aggO P t=some false∧∀ d w,(Op.equalIn (d+1) t u v).run P w = .ok b w:=by
 unfold eqV at hz
 split at hz
 ·split at hz
  ·rename_i k a k' b' hc
   obtain⟨rfl,h2⟩:=hc
   obtain⟨k2,hk2⟩:=Option.isSome_iff_exists.1 h2
   simp at hz
   subst hz
   refine⟨_,_,rfl,rfl,by simp[aggO,und_int hk2],fun d w=>?_⟩
   rw[run_equalIn_int w d t _ k2 _ _ (und_int hk2)]
   congr 1
  ·cases hz
 ·split at hz
  ·rename_i a b' hc
   simp at hz
   subst hz
   exact⟨_,_,rfl,rfl,by simp[aggO,und_bool hc],fun d w=>run_equalIn_bool' w d t _ _ (und_bool hc)⟩
  ·cases hz
 ·split at hz
  ·rename_i a b' hc
   simp at hz
   subst hz
   exact⟨_,_,rfl,rfl,by simp[aggO,und_str hc],fun d w=>run_equalIn_string w d t _ _ (und_str hc)⟩
  ·cases hz
 ·cases hz
theorem eqFs_spec {w:World} {F:Nat→Prop} {xa ya:Array Value}:∀ {fs:List Field} {k:Nat} {xs ys:List T} {b:Bool},(∀ f∈fs,f.name≠ "_")→eqFs P (fs.map fun f=>(f.offset,f.type)) k xs ys=some b→
  (∃ cs,xa.toList.drop k=cs∧Reps F w xs cs)→(∃ cs,ya.toList.drop k=cs∧Reps F w ys cs)→∀ d,(Op.eqFields (d+1) xa ya fs).run P w = .ok b w
 | [],k,xs,ys,b,_,e,_,_,d=>by
  cases xs<;>cases ys<;>simp[eqFs]at e
  subst e
  simp[Op.eqFields]
 | f :: fs,k,xs,ys,b,hn,e,hx,hy,d=>by
  cases xs with
  | nil=>simp[eqFs]at e
  | cons x xs=>
   cases ys with
   | nil=>simp[eqFs]at e
   | cons y ys=>
    simp only[List.map_cons,eqFs]at e
    split at e
    ·rename_i hk
     split at e
     ·rename_i b1 h1
      split at e
      ·rename_i c h2
       simp at e
       obtain⟨u,v,rfl,rfl,h3,h4⟩:=eqV_spec h1
       obtain⟨cs,h5,h6⟩:=hx
       obtain⟨ds,h7,h8⟩:=hy
       unfold Reps at h6 h8
       obtain⟨u',cs',h9,h10,h11⟩:=h6
       obtain⟨v',ds',h12,h13,h14⟩:=h8
       unfold Rep at h10 h13
       obtain⟨rfl,h10⟩:=h10
       obtain⟨rfl,h13⟩:=h13
       have hcu:=cells_one h10
       have hcv:=cells_one h13
       rw[hcu]at h9
       rw[hcv]at h12
       have ha:=run_aggO (P:=P) h3 w
       have hxa:xa[f.offset]? = some u':=by
        rw[hk,←Array.getElem?_toList,←Nat.add_zero k,←List.getElem?_drop,h5,h9];rfl
       have hya:ya[f.offset]? = some v':=by
        rw[hk,←Array.getElem?_toList,←Nat.add_zero k,←List.getElem?_drop,h7,h12];rfl
       have hp1:(part f.type xa f.offset).run P w = .ok u' w:=by simp[part,ha,hxa]
       have hp2:(part f.type ya f.offset).run P w = .ok v' w:=by simp[part,ha,hya]
       have ih:=eqFs_spec (xa:=xa) (ya:=ya) (F:=F) (fun g hg=>hn g (by simp[hg])) h2 ⟨cs',by rw[←List.drop_drop,h5,h9];rfl,h11⟩ ⟨ds',by rw[←List.drop_drop,h7,h12];rfl,h14⟩ d
       simp only[Op.eqFields]
       rw[if_pos (hn f (by simp))]
       simp only[Sem.run_bind,hp1,hp2,Result.andThen_ok,h4]
       cases b1
       ·simp[←e]
       ·simp[ih,←e]
      ·cases e
     ·cases e
    ·cases e
theorem does_eq_agg {op:BinOp} {t t':TypeId} {x y:Operand} {xs ys:List T} {fl:List (Nat×TypeId)} {b:Bool} (ho:o.op = .binOp op t x y t') (hop':op = .eql∨op = .neq) (hx:R x = .t (.agg xs)) (hy:R y = .t (.agg ys)) (hf:fldsB P t=some fl)
  (h1:P.stoodInHeld t=false) (h2:P.eqGuardType P.depth t=false) (hb:eqFs P fl 0 xs ys=some b):Does N P o R h ⟨.t (.lit (.bool (if op = .eql then b else !b))),[],[],[]⟩:=
 does_pure fun G h' a w hh hop _=>by
  have h3:=hop x (by simp[ho,Op.operands])
  have h4:=hop y (by simp[ho,Op.operands])
  rw[hx]at h3
  rw[hy]at h4
  unfold RepS at h3 h4;unfold Rep at h3 h4
  obtain⟨cs,h5,h6⟩:=h3
  obtain⟨ds,h7,h8⟩:=h4
  unfold fldsB at hf
  split at hf
  ·rename_i fs hu
   split at hf
   ·rename_i hall
    simp at hf
    subst hf
    have hne:∀ f∈fs.toList,f.name≠ "_":=by
     intro f hf
     have:=List.all_eq_true.1 hall f hf
     simpa using this
    have hfo:P.underlying t=some (.struct (P.fieldsOf t)):=by unfold Program.fieldsOf;rw[hu]
    have hfs:P.fieldsOf t=fs:=by unfold Program.fieldsOf;rw[hu]
    have hrun:(Op.equalIn 10000 t (.agg cs.toArray) (.agg ds.toArray)).run P w = .ok b w:=by
     rw[run_equalIn_agg w 9999 t _ _ hfo h1,hfs]
     exact eqFs_spec (F:=G.F) hne hb ⟨cs,by simp,h6⟩ ⟨ds,by simp,h8⟩ 9998
    refine⟨.bool (if op = .eql then b else !b),?_,by unfold RepS;unfold Rep;exact⟨rfl,rfl⟩⟩
    unfold execOp
    simp only[ho,h5,h7]
    refine exec_v ?_
    have hg:=run_eqGuard_agg (P:=P) w op t x y cs.toArray ds.toArray h2
    rcases hop' with rfl|rfl
    ·simp[hg,run_eql_struct,hrun]
    ·simp[hg,run_neq_struct,hrun]
   ·cases hf
  ·cases hf
theorem does_eq_bool {op:BinOp} {t t':TypeId} {x y:Operand} {p q:Bool} (ho:o.op = .binOp op t x y t') (hop':op = .eql∨op = .neq) (hx:R x = .t (.lit (.bool p))) (hy:R y = .t (.lit (.bool q))) (hb:boolB P t=true) :
  Does N P o R h ⟨.t (.lit (.bool (if op = .eql then p == q else !(p == q)))),[],[],[]⟩:=
 does_pure fun G h' a w hh hop _=>by
  have h3:=hop x (by simp[ho,Op.operands])
  have h4:=hop y (by simp[ho,Op.operands])
  rw[hx]at h3
  rw[hy]at h4
  unfold RepS at h3 h4;unfold Rep at h3 h4
  refine⟨.bool (if op = .eql then p == q else !(p == q)),?_,by unfold RepS;unfold Rep;exact⟨rfl,rfl⟩⟩
  unfold execOp
  simp only[ho,h3.1,h4.1]
  refine exec_v ?_
  rcases hop' with rfl|rfl
  ·simp[eqGuard,run_eql_bool w t p q (und_bool hb)]
  ·simp[eqGuard,run_neq_bool w t p q (und_bool hb)]
end
end Go.Proofs.YtdjmklobfjigoaaGreatDoor.Sy
