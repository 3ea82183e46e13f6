/- Several texts of this proof, one behind the other. No condition. -/
import Derived.Test.YtocndodilpimnaaGreatTThesB4
import Derived.Laws.MakeOwn
import Derived.Laws.CopyRow
import Derived.ArgAppend
set_option maxRecDepth 100000
set_option maxHeartbeats 16000000
set_option linter.unusedVariables false
set_option linter.unusedSimpArgs false
namespace Go.Proofs.YtocndodilpimnaaGreat.Sy
open Go.RowKit
theorem Ext.trans {G G1 G2:Gh} {w w1 w2:World} {h h1 h2:Nat→Option aA} {nw nw':List Nat} (a:Ext G w h G1 w1 h1 nw) (b:Ext G1 w1 h1 G2 w2 h2 nw'):Ext G w h G2 w2 h2 (nw++nw'):=by
 refine⟨⟨fun x hx=>b.keep.fsub x (a.keep.fsub x hx),fun x o hx=>(b.keep.fcell x o (a.keep.fsub x hx)).trans (a.keep.fcell x o hx),fun l hl=>?_⟩,b.heap,b.os.trans a.os,b.tape.trans a.tape,b.output.trans a.output,Nat.le_trans a.size b.size,?_,?_,?_⟩
 ·simp only[List.mem_append,not_or]at hl
  exact (b.keep.same l hl.2).trans (a.keep.same l hl.1)
 ·intro x hx hno
  rw[b.block x (Nat.lt_of_lt_of_le hx a.size) ?_,a.block x hx hno]
  intro l y hl hk
  rcases a.own l y x hl hk with ⟨l0,x0,h3,h4⟩|h3
  ·exact hno l0 x0 h3 h4
  ·omega
 ·intro l x k hl hk
  rcases b.own l x k hl hk with ⟨l0,x0,h3,h4⟩|h3
  ·exact a.own l0 x0 k h3 h4
  ·exact .inr (Nat.le_trans a.size h3)
 ·intro x hx
  rcases b.fnew x hx with h3|⟨l0,x0,h3,h4⟩|h3
  ·exact a.fnew x h3
  ·rcases a.own l0 x0 x h3 h4 with h5|h5
   ·exact .inr (.inl h5)
   ·exact .inr (.inr h5)
  ·exact .inr (.inr (Nat.le_trans a.size h3))
mutual
def j6 (l:Nat) (x:T):S→S
 | .own k=>if k=l then .t x else .own k
 | .ag fs=>Gm (k6 l x fs)
 | .tup fs=> .tup (k6 l x fs)
 | s=>s
def k6 (l:Nat) (x:T):List S→List S
 | []=>[]
 | s :: r=>j6 l x s :: k6 l x r
end
mutual
def Ar:S→List Nat
 | .own k=>[k]
 | .ag fs=>C4 fs
 | _=>[]
def C4:List S→List Nat
 | []=>[]
 | s :: r=>Ar s++C4 r
end
theorem Ho (fs:List S):(Gm fs).width=S.widths fs:=by
 unfold Gm
 split
 ·rename_i xs e
  have:=pD e
  subst this
  simp only[S.width,T.width]
  have:∀ xs:List T,T.widths xs=S.widths (xs.map S.t):=by
   intro xs
   induction xs with
   | nil=>rfl
   | cons x r ih=>simp only[T.widths,List.map_cons,S.widths,S.width,ih]
  exact this xs
 ·rfl
section
variable {G:Gh} {w:World} {l s:Nat} {xs:List T}
mutual
theorem uI (hw:True):∀ (y:S),(j6 l (.sl s xs) y).width=y.width
 | .own k=>by unfold j6;split<;>rfl
 | .ag fs=>by unfold j6;rw[Ho];exact rz hw fs
 | .tup fs=>by unfold j6;rfl
 | .dead=>rfl
 | .t _=>rfl
 | .rp _=>rfl
 | .pt _ _ _=>rfl
 | .wn _ _ _ _=>rfl
 | .cl _ _=>rfl
 | .fn _ _=>rfl
 | .fb _ _=>rfl
theorem rz (hw:True):∀ (ys:List S),S.widths (k6 l (.sl s xs) ys)=S.widths ys
 | []=>rfl
 | y :: r=>by simp only[k6,S.widths];rw[uI hw y,rz hw r]
end
mutual
theorem uh (hl:aO G.F w (.sl s xs) (G.β l)):∀ (y:S) (u:Value),ar G w y u→ar G w (j6 l (.sl s xs) y) u
 | .own k,u,hr=>by
  unfold j6
  split
  ·rename_i e
   subst e
   unfold ar at hr ⊢
   rw[hr.1];exact hl
  ·exact hr
 | .ag fs,u,hr=>by
  unfold j6
  unfold ar at hr
  obtain⟨cells,rfl,h2⟩:=hr
  exact yS (wU hl fs cells h2)
 | .tup fs,u,hr=>by
  unfold j6
  unfold ar at hr ⊢
  obtain⟨us,h1,h2⟩:=hr
  exact⟨us,h1,wB hl fs us h2⟩
 | .dead,u,hr=>hr
 | .t _,u,hr=>hr
 | .rp _,u,hr=>hr
 | .pt _ _ _,u,hr=>hr
 | .wn _ _ _ _,u,hr=>hr
 | .cl _ _,u,hr=>hr
 | .fn _ _,u,hr=>hr
 | .fb _ _,u,hr=>hr
theorem wU (hl:aO G.F w (.sl s xs) (G.β l)):∀ (ys:List S) (cs:List Value),aE G w ys cs→aE G w (k6 l (.sl s xs) ys) cs
 | [],cs,hr=>hr
 | y :: r,cs,hr=>by
  unfold k6
  unfold aE at hr ⊢
  obtain⟨v,cs',h1,h2,h3,h4,h5⟩:=hr
  exact⟨v,cs',h1,by rw[h2,uI trivial],h3,uh hl y v h4,wU hl r cs' h5⟩
theorem wB (hl:aO G.F w (.sl s xs) (G.β l)):∀ (ys:List S) (us:List Value),aD G w ys us→aD G w (k6 l (.sl s xs) ys) us
 | [],cs,hr=>hr
 | y :: r,cs,hr=>by
  unfold k6
  unfold aD at hr ⊢
  obtain⟨v,cs',h1,h4,h5⟩:=hr
  exact⟨v,cs',h1,uh hl y v h4,wB hl r cs' h5⟩
end
end
mutual
theorem w9 (l k:Nat) (x:T):∀ (y:S),y.free k=true→(j6 l x y).free k=true
 | .own j,h=>by unfold j6;split;rfl;exact h
 | .ag fs,h=>by
  unfold j6 Gm
  split
  ·rfl
  ·simp only[S.free]at *;exact nP l k x fs h
 | .tup fs,h=>by unfold j6;simp only[S.free]at *;exact nP l k x fs h
 | .dead,h=>h
 | .t _,h=>h
 | .rp _,h=>h
 | .pt _ _ _,h=>h
 | .wn _ _ _ _,h=>h
 | .cl _ _,h=>h
 | .fn _ _,h=>h
 | .fb _ _,h=>h
theorem nP (l k:Nat) (x:T):∀ (ys:List S),S.frees k ys=true→S.frees k (k6 l x ys)=true
 | [],h=>h
 | y :: r,h=>by
  simp only[S.frees,k6,Bool.and_eq_true]at *
  exact⟨w9 l k x y h.1,nP l k x r h.2⟩
end
theorem Nc (g:Nat→S) (l:Nat) (x:T) (o:Operand):lg (fun t=>j6 l x (g t)) o=j6 l x (lg g o):=by
 cases o<;>simp only[lg]<;>(try rfl)
 ·rename_i v
  cases v<;>simp only[cS]<;>(try rfl)
  split<;>rfl
theorem uc:∀ (a b:List (Nat×Option aA)) (h:Nat→Option aA),dK (a++b) h=dK a (dK b h)
 | [],b,h=>rfl
 | (l,x) :: r,b,h=>by simp only[List.cons_append,dK];rw[uc r b h]
variable {N:Nat} {P:Program} {o:Oper} {R:Operand→S} {h:Nat→Option aA}
theorem bm.frz {l e s:Nat} {xs:List T} {E:aM} (hl:h l=some (.list e s xs)) (hd:bm N P o (fun y=>j6 l (.sl s xs) (R y)) (cY h l none) E) :
  bm N P o R h ⟨E.r,E.u++[(l,none)],l :: E.fp,E.nw⟩:=by
 intro W G0 A G g h' a w Q K hsat hop hfp hnw hK
 have hl':h' l=some (.list e s xs):=by rw[hfp l (by simp)];exact hl
 have hrep:=hsat.heap.rep l _ hl'
 have hx:=Ext.freeze hsat.heap hl'
 have h4:aO (fun b=>G.F b∨G.ft l b) w (.sl s xs) (G.β l):=fJ hrep (fun b hb=> .inl hb) (fun b hb=> .inr (.inl hb))
 have hsat2:bT N W G0 A (J3 G l) (fun t=>j6 l (.sl s xs) (g t)) (cY h' l none) a w:=
  ⟨hsat.size,hsat.defers,fun t=>uh h4 _ _ (ar.keep hx.keep (g t) _ (by simp) (hsat.slots t)),hx.heap,hsat.frm.ext hx (by simp)⟩
 refine hd W G0 A _ _ _ a w Q K hsat2 (fun y hy=>by rw[Nc,hop y hy]) (fun k hk=>?_) (fun k hk=>?_) (fun v G' w' hE hr=>?_)
 ·unfold cY
  split
  ·rfl
  ·exact hfp k (by simp[hk])
 ·obtain⟨h1,h2,h3⟩:=hnw k hk
  refine⟨?_,fun t=>w9 _ _ _ _ (h2 t),fun j b hj=>?_⟩
  ·unfold cY;split
   ·rfl
   ·exact h1
  ·unfold cY at hj
   split at hj
   ·cases hj
   ·exact h3 j b hj
 ·refine hK v G' w' ?_ hr
  have:=hx.trans hE
  rw[uc]
  simpa [dK] using this
def vX:List Nat→(Operand→S)→(Nat→Option aA)→((Operand→S)→(Nat→Option aA)→(aM→Prop)→Prop)→(aM→Prop)→Prop
 | [],R,h,A,K=>A R h K
 | l :: r,R,h,A,K=>match h l with
  | some (.list e s xs)=>vX r (fun y=>j6 l (.sl s xs) (R y)) (cY h l none) A (fun E=>K ⟨E.r,E.u++[(l,none)],l :: E.fp,E.nw⟩)
  | _=>vX r R h A K
theorem mO {d:Nat} {A:(Operand→S)→(Nat→Option aA)→(aM→Prop)→Prop} (hA:∀ R h K,A R h K→∃ E,bm N P o R h E∧(∀ l∈E.nw,l=d∨100≤l)∧K E) :
  ∀ (ls:List Nat) (R:Operand→S) (h:Nat→Option aA) (K:aM→Prop),vX ls R h A K→∃ E,bm N P o R h E∧(∀ l∈E.nw,l=d∨100≤l)∧K E
 | [],R,h,K,hk=>hA R h K hk
 | l :: r,R,h,K,hk=>by
  simp only[vX]at hk
  split at hk
  ·rename_i e s xs hl
   obtain⟨E,h1,h2,h3⟩:=mO hA r _ _ _ hk
   exact⟨_,bm.frz hl h1,h2,h3⟩
  ·exact mO hA r R h K hk
def E2 (R:Operand→S):List (Nat×Operand)→List Nat
 | []=>[]
 | (_,x) :: r=>Ar (R x)++E2 R r
theorem tR (zc:List Value) (hz:0 < zc.length):∀ n:Nat,(List.range (n * zc.length)).map (fun i=>zc[i % zc.length]!)=(List.replicate n zc).flatten
 | 0=>by simp
 | n+1=>by
  have ih:=tR zc hz n
  rw[Nat.add_mul,Nat.one_mul,List.range_add,List.map_append,ih,List.replicate_succ',List.flatten_append]
  congr 1
  simp only[List.map_map,List.flatten_cons,List.flatten_nil,List.append_nil]
  refine List.ext_getElem (by simp) ?_
  intro i h1 h2
  simp only[List.getElem_map,List.getElem_range,Function.comp]
  rw[Nat.mul_comm,Nat.mul_add_mod,Nat.mod_eq_of_lt h2]
  exact getElem!_pos zc i h2
theorem ly {F:Nat→Prop} {w:World} {z:T} {u:Value} (h:aO F w z u):∀ n:Nat,ay F w (List.replicate n z) (List.replicate n u.cells.toList).flatten
 | 0=>by simp;unfold ay;rfl
 | n+1=>by
  simp only[List.replicate_succ,List.flatten_cons]
  unfold ay
  exact⟨u,_,rfl,h,ly h n⟩
def iM (P:Program) (t:TypeId) (x y:S) (d:Nat) (K:aM→Prop):Prop:=match aK P t,x,y with
 | some e,.t (.lit (.int .i64 n)),.t (.lit (.int .i64 m))=>match jP P e,zeroOf P e with
  | some (s,b),some z=>z.width=s∧(if m=n then (if 0≤n∧n.toNat * b≤16777216 then K ⟨.own d,[(d,some (.list e s (List.replicate n.toNat z)))],[],[d]⟩ else False)
   else if n=0∧0≤m∧m.toNat * b≤16777216 then K ⟨.own d,[(d,some (.list e s []))],[],[d]⟩ else False)
  | _,_=>False
 | _,_,_=>False
theorem sK {t e:TypeId} {x y:Operand} {n:Int} {s b d:Nat} {z:T} (ho:o.op = .makeSlice t x y) (he:aK P t=some e) (hs:jP P e=some (s,b)) (hz:zeroOf P e=some z) (hx:R x = .t (.lit (.int .i64 n))) (hy:R y = .t (.lit (.int .i64 n))) (h0:0≤n) (hb:n.toNat * b≤16777216) (hzs:z.width=s) :
  bm N P o R h ⟨.own d,[(d,some (.list e s (List.replicate n.toNat z)))],[],[d]⟩:=
 lI fun G a w hop hF=>by
  obtain⟨i,zv,h1,h2,h3,h4,h5,h6,h7⟩:=iV hs
  obtain⟨v,u,g1,g2,g3⟩:=gR hz G.F w
  have hv:v=zv:=by
   have:(zeroValue e).run P w = .ok zv w:=by simp[zeroValue,typeInfo,h1,h2]
   rw[this]at g1
   simpa using g1.symm
  subst hv
  have hxx:=hop x (by simp[ho,Op.operands])
  have hyy:=hop y (by simp[ho,Op.operands])
  rw[hx]at hxx
  rw[hy]at hyy
  unfold ar at hxx hyy
  unfold aO at hxx hyy
  obtain⟨c,rfl⟩:∃ c:Nat,n=(c:Int):=⟨n.toNat,by omega⟩
  rw[Int.toNat_natCast]at hb ⊢
  have hcb:c≤16777216:=by
   have:c * 1≤c * b:=Nat.mul_le_mul_left c h7
   omega
  have hb2:(i.bytes:Int) * (c:Int)≤281474976710656:=by
   have:((c * b:Nat):Int)≤16777216:=by omega
   rw[h5,Int.mul_comm,←Int.natCast_mul];omega
  have hrun:=run_make (P:=P) w t e i v (bp he) h1 h2 .i64 .i64 c c (by omega) (Int.le_refl _) hb2 (by omega)
  simp only[Int.toNat_natCast]at hrun
  have hzl:v.cells.toList.length=s:=by simpa using h3
  have hcells:(madeCells v.cells (c * i.size)).toList=(List.replicate c v.cells.toList).flatten:=by
   have:=tR v.cells.toList (by omega) c
   rw[←this,hzl,h4]
   unfold madeCells
   rw[Array.toList_map,Array.toList_range,h3]
   refine List.map_congr_left fun k _=>?_
   have hk:k % s < v.cells.size:=by rw[h3];exact Nat.mod_lt _ h6
   rw[getElem!_pos v.cells _ hk,getElem!_pos v.cells.toList _ (by simpa using hk),Array.getElem_toList]
  refine⟨madeCells v.cells (c * i.size),e,.slice (some ⟨w.heap.size,0,none⟩) c c,?_,rfl,fun G' hGF hd hk=>?_⟩
  ·unfold execOp
   simp only[ho,hxx.1,hyy.1]
   exact bh hrun
  ·have hlist:bH G' (w.alloc (.cells (madeCells v.cells (c * i.size)) e)) (.list e s (List.replicate c z)) (.slice (some ⟨w.heap.size,0,none⟩) c c):=by
    refine⟨some ⟨w.heap.size,0,none⟩,c,(madeCells v.cells (c * i.size)).toList,by rw[List.length_replicate],?_,?_,?_⟩
    ·rw[hcells,g3]
     exact ay.mono (fun b hb=>by rw[hGF];exact hb) (fun b o hb=>bj (Below.heap_alloc w _ b (hF b hb))) _ _ (ly g2 c)
    ·intro q hq
     rw[List.eq_of_mem_replicate hq];exact hzs
    ·have:=World.ownsRow_lit (base:=0) (size:=s) (e:=e) w (madeCells v.cells (c * i.size)) c (Nat.zero_le _) (by unfold maxLen;omega) (by rw[size_madeCells,h4])
     rw[List.length_replicate]
     exact this
   refine⟨hlist,?_⟩
   unfold ar
   exact⟨hd.symm,_,_,_,rfl⟩
theorem rD {t e:TypeId} {x y:Operand} {n:Int} {s b d:Nat} {z:T} (ho:o.op = .makeSlice t x y) (he:aK P t=some e) (hs:jP P e=some (s,b)) (hz:zeroOf P e=some z) (hx:R x = .t (.lit (.int .i64 0))) (hy:R y = .t (.lit (.int .i64 n))) (h0:0≤n) (hb:n.toNat * b≤16777216) (hzs:z.width=s) :
  bm N P o R h ⟨.own d,[(d,some (.list e s []))],[],[d]⟩:=
 lI fun G a w hop hF=>by
  obtain⟨i,zv,h1,h2,h3,h4,h5,h6,h7⟩:=iV hs
  obtain⟨v,u,g1,g2,g3⟩:=gR hz G.F w
  have hv:v=zv:=by
   have:(zeroValue e).run P w = .ok zv w:=by simp[zeroValue,typeInfo,h1,h2]
   rw[this]at g1
   simpa using g1.symm
  subst hv
  have hxx:=hop x (by simp[ho,Op.operands])
  have hyy:=hop y (by simp[ho,Op.operands])
  rw[hx]at hxx
  rw[hy]at hyy
  unfold ar at hxx hyy
  unfold aO at hxx hyy
  obtain⟨c,rfl⟩:∃ c:Nat,n=(c:Int):=⟨n.toNat,by omega⟩
  rw[Int.toNat_natCast]at hb
  have hcb:c≤16777216:=by
   have:c * 1≤c * b:=Nat.mul_le_mul_left c h7
   omega
  have hb2:(i.bytes:Int) * (c:Int)≤281474976710656:=by
   have:((c * b:Nat):Int)≤16777216:=by omega
   rw[h5,Int.mul_comm,←Int.natCast_mul];omega
  have hrun:=run_make (P:=P) w t e i v (bp he) h1 h2 .i64 .i64 0 c (by omega) (by omega) hb2 (by omega)
  simp only[Int.toNat_natCast,Int.toNat_zero]at hrun
  refine⟨madeCells v.cells (c * i.size),e,.slice (some ⟨w.heap.size,0,none⟩) 0 c,?_,rfl,fun G' hGF hd hk=>?_⟩
  ·unfold execOp
   simp only[ho,hxx.1,hyy.1]
   exact bh hrun
  ·have hlist:bH G' (w.alloc (.cells (madeCells v.cells (c * i.size)) e)) (.list e s []) (.slice (some ⟨w.heap.size,0,none⟩) 0 c):=by
    refine⟨some ⟨w.heap.size,0,none⟩,c,[],rfl,by unfold ay;rfl,by simp,?_⟩
    refine⟨by simp,.inr ⟨w.heap.size,c,madeCells v.cells (c * i.size),rfl,Nat.zero_le _,heap_alloc_new w _,Nat.zero_le _,by unfold maxLen;omega,by rw[size_madeCells,h4],by simp⟩⟩
   refine⟨hlist,?_⟩
   unfold ar
   exact⟨hd.symm,_,_,_,rfl⟩
theorem rq {F:Nat→Prop} {w:World} {s l h m n cap:Nat} {xs:List T} {a:Option Addr} (hr:aO F w (.sl s xs) (.slice a n cap)) (hlh:l≤h) (hhm:h≤m) (hm:m≤xs.length) :
  aO F w (.sl s ((xs.take h).drop l)) (.slice (if m=l then a else a.map (·.add (l * s))) (h - l) (m - l)):=by
 unfold aO at hr ⊢
 obtain⟨x,cap',cells,h1,h2,h3,h4⟩:=hr
 simp only[Value.slice.injEq]at h1
 obtain⟨rfl,rfl,rfl⟩:=h1
 have hh:h≤xs.length:=by omega
 have hcl:=ay.widths _ _ h2
 rw[bt h3]at hcl
 have hlen:((xs.take h).drop l).length=h - l:=by simp;omega
 have hr1:=(ay.split h h2).1
 have h3':∀ y∈xs.take h,y.width=s:=fun y hy=>h3 y (List.mem_of_mem_take hy)
 have hr2:=(ay.split l hr1).2
 rw[aG h3' (by simp;omega),aG h3 hh]at hr2
 have hlh':=Nat.mul_le_mul_right s hlh
 have hh':=Nat.mul_le_mul_right s hh
 refine⟨_,m - l,_,by rw[hlen],hr2,fun y hy=>h3' y (List.mem_of_mem_drop hy),?_⟩
 have hle:=h4.le
 refine⟨by rw[hlen];omega,by have:=h4.capLe;omega,?_,?_,?_⟩
 ·rw[hlen,List.length_drop,List.length_take,hcl,Nat.min_eq_left hh',Nat.sub_mul]
 ·intro e
  split at e
  ·omega
  ·have hx:a=none:=by simpa using e
   have:=h4.nil hx
   omega
 ·rw[hlen]
  by_cases h0:h - l=0
  ·exact .inl h0
  ·right
   rcases h4.cells with h5|⟨b,off,hx,hF,hc⟩
   ·omega
   ·refine⟨b,off+l * s,?_,hF,?_⟩
    ·rw[if_neg (by omega),hx]
     simp[bU]
    ·intro j u hu
     rw[List.getElem?_drop,List.getElem?_take]at hu
     split at hu
     ·have:=hc _ _ hu
      rw[Nat.add_assoc];exact this
     ·cases hu
def sG (P:Program) (t:TypeId) (x:S) (lo hi mx:Option Int) (K:aM→Prop):Prop:=match aK P t,x,lo,hi,mx with
 | some e,.t (.sl s xs),some l,some r,some m=>bY P e=some s∧(if 0≤l∧l≤r∧r≤m∧m≤(xs.length:Int) then K ⟨.t (.sl s ((xs.take r.toNat).drop l.toNat)),[],[],[]⟩ else False)
 | _,_,_,_,_=>False
def jD (R:Operand→S) (x:Operand):Option Int:=match R x with
 | .t (.lit (.int _ n))=>some n
 | _=>none
theorem jT {G:Gh} {w:World} {x:Operand} {v:Value} {n:Int} (h1:jD R x=some n) (hr:ar G w (R x) v):∃ k,v = .int k n:=by
 unfold jD at h1
 split at h1
 ·rename_i k m hx
  simp at h1
  subst h1
  rw[hx]at hr
  unfold ar at hr;unfold aO at hr
  exact⟨k,hr.1⟩
 ·cases h1
theorem BN {t e:TypeId} {x y z u:Operand} {s:Nat} {l hb m:Int} {xs:List T} (ho:o.op = .slice t x (some y) (some z) (some u)) (he:aK P t=some e) (hs:bY P e=some s) (hx:R x = .t (.sl s xs))
  (hlo:jD R y=some l) (hhi:jD R z=some hb) (hmx:jD R u=some m) (h0:0≤l) (h1:l≤hb) (h2:hb≤m) (h3:m≤xs.length):bm N P o R h ⟨.t (.sl s ((xs.take hb.toNat).drop l.toNat)),[],[],[]⟩:=
 aH fun G h' a w hh hop _=>by
  have h4:=hop x (by simp[ho,Op.operands])
  obtain⟨k1,g1⟩:=jT hlo (hop y (by simp[ho,Op.operands]))
  obtain⟨k2,g2⟩:=jT hhi (hop z (by simp[ho,Op.operands]))
  obtain⟨k3,g3⟩:=jT hmx (hop u (by simp[ho,Op.operands]))
  rw[hx]at h4
  unfold ar at h4
  have h4':=h4
  unfold aO at h4'
  obtain⟨ad,cap,cells,h5,_,_,h6⟩:=h4'
  rw[h5]at h4
  have hcap:=h6.le
  refine⟨_,?_,by unfold ar;exact rq (l:=l.toNat) (h:=hb.toNat) (m:=m.toNat) h4 (by omega) (by omega) (by omega)⟩
  unfold execOp
  simp only[ho,h5]
  have hz:=fA (P:=P) hs w
  have e3:(Instr.sliceBound (.int k3 m) cap .slice3Acap).run P w = .ok m.toNat w:=by
   simp[Instr.sliceBound,asIntOf,show (0:Int)≤m by omega,show m≤(cap:Int) by omega]
  have e1:(Instr.sliceBound (.int k2 hb) m.toNat .slice3B).run P w = .ok hb.toNat w:=by
   simp[Instr.sliceBound,asIntOf,show (0:Int)≤hb by omega,show hb≤((m.toNat:Nat):Int) by omega]
   try (intro hq;exact absurd hq (by omega))
  have e2:(Instr.sliceBound (.int k1 l) hb.toNat .slice3C).run P w = .ok l.toNat w:=by
   simp[Instr.sliceBound,asIntOf,h0,show l≤((hb.toNat:Nat):Int) by omega]
   try (intro hq;exact absurd hq (by omega))
  exact bh (by simp[Instr.sliceAt,Instr.slice,run_underlying (bp he),Instr.sliceBounds,hz,g1,g2,g3,e1,e2,e3])
theorem G6 {N:Nat} {P:Program} {o:Oper} {R:Operand→S} {h:Nat→Option aA} {d:Nat} {r:S} {blk:aA} (H:∀ (G:Gh) (a:Act) (w:World),(∀ x∈o.op.operands.toList,ar G w (R x) (a.eval x))→(∀ b,G.F b→b < w.heap.size)→
   ∃ cs e v,(execOp a.eval o).run P w = .ok (.value v) (w.alloc (.cells cs e))∧
    ∀ G':Gh,G'.F=G.F→G'.β d = .pointer (some ⟨w.heap.size,0,none⟩)→(∀ s u,s.free d=true→ar G w s u→ar G' (w.alloc (.cells cs e)) s u)→bH G' (w.alloc (.cells cs e)) blk (.pointer (some ⟨w.heap.size,0,none⟩))∧ar G' (w.alloc (.cells cs e)) r v) (hpl:blk.plain=true:=by rfl) :
  bm N P o R h ⟨r,[(d,some blk)],[],[d]⟩:=by
 intro W G0 A G g h' a w Q K hs hop _ hnw hK
 obtain⟨hd,hfg,hfh⟩:=hnw d (by simp)
 obtain⟨cs,e,v,h1,h3⟩:=H G a w (fun x hx=>by rw[←hop x hx];exact hs.eval x) hs.heap.fb
 have K0:iF G w (e9 G d (.pointer (some ⟨w.heap.size,0,none⟩)) Cj) (w.alloc (.cells cs e)) [d]:=⟨fun _ h=>h,fun b o hb=>bj (Below.heap_alloc w _ b (hs.heap.fb b hb)),fun l hl=>eN _ (by simpa using hl)⟩
 obtain⟨h4,h5⟩:=h3 (e9 G d (.pointer (some ⟨w.heap.size,0,none⟩)) Cj) rfl (dw _ _ _) (fun s u hf hr=>ar.keep K0 s u (fun l hl=>by simp at hl;subst hl;exact hf) hr)
 have hx:=Ext.mk' hs.heap none (World.grownBy_alloc w (.cells cs e)) none (by simp) (by simp) d (.pointer (some ⟨w.heap.size,0,none⟩)) blk (.inr hd) [d] (.inl rfl) (fun k hk l b hl=>by simp at hk;subst hk;exact hfh l b hl) (fun k hk=> .inr (by simp[aW]at hk;omega)) h4 (ik.plain hpl)
 rw[dZ h' d blk none (.inr rfl)]at hx
 exact dm h1 (hK v _ _ hx h5)
def uL (R:Operand→S):Nat→List (Nat×Operand)→Option (List S)
 | _,[]=>some []
 | k,(i,x) :: r=>match R x with
  | .pt l p off=>if i=k then match uL R (k+1) r with
   | some ys=>some (.pt l p off :: ys)
   | none=>none
   else none
  | _=>none
def zl (R:Operand→S):List (Nat×Operand)→Option (List S)
 | []=>none
 | q :: r=>uL R 0 (q :: r)
theorem ub {R:Operand→S} {G:Gh} {w:World} {ev:Operand→Value}:∀ {l:List (Nat×Operand)} {k:Nat} {ys:List S},(∀ q∈l,ar G w (R q.2) (ev q.2))→uL R k l=some ys→
  ∃ vs:List Value,l.map (fun q=>(q.1,ev q.2))=((vs.zipIdx k).map fun x=>(x.2,x.1))∧aE G w ys (vs.flatMap fun v=>v.cells.toList)∧vs.length=ys.length∧(∀ v∈vs,v.cells.size=1)∧(∀ c∈(vs.flatMap fun v=>v.cells.toList),c.oneCell'=true)∧S.widths ys=ys.length
 | [],k,ys,_,e=>by
  simp[uL]at e;subst e
  exact⟨[],rfl,by simp only[List.flatMap_nil];unfold aE;rfl,rfl,by simp,by simp,rfl⟩
 | (i,x) :: r,k,ys,hr,e=>by
  unfold uL at e
  split at e
  ·rename_i l p off hx
   split at e
   ·rename_i hik
    split at e
    ·rename_i ys' hys
     simp at e
     subst e hik
     obtain⟨vs,h1,h2,h3,h4,h5,h6⟩:=ub (G:=G) (w:=w) (ev:=ev) (fun q hq=>hr q (by simp[hq])) hys
     have h7:=hr (i,x) (by simp)
     rw[hx]at h7
     have h8:=h7
     unfold ar at h8
     obtain⟨b,_,hv⟩:=h8
     dsimp only at h7 hv
     refine⟨ev x :: vs,by simp[h1],?_,by simp[h3],?_,?_,by simp only[S.widths,S.width,List.length_cons,h6];omega⟩
     ·simp only[List.flatMap_cons]
      unfold aE
      exact⟨ev x,_,rfl,by rw[hv];rfl,by rw[hv];simp[Value.cells,Value.oneCell'],h7,h2⟩
     ·intro v hm
      rcases List.mem_cons.1 hm with rfl|hm
      ·rw[hv];rfl
      ·exact h4 v hm
     ·intro c hc
      rw[List.flatMap_cons]at hc
      rcases List.mem_append.1 hc with hc|hc
      ·rw[hv]at hc;simp[Value.cells]at hc;subst hc;rfl
      ·exact h5 c hc
    ·cases e
   ·cases e
  ·cases e
theorem vi {N:Nat} {P:Program} {o:Oper} {R:Operand→S} {h:Nat→Option aA} {t e:TypeId} {n b d:Nat} {parts:Array (Nat×Operand)} {ys:List S} (ho:o.op = .buildSlice t n parts) (he:aK P t=some e) (hs:jP P e=some (1,b)) (hp:uL R 0 parts.toList=some ys) (hn:n=ys.length) (h0:0 < n) (hf:S.frees d ys=true) (hsm:n≤16777216) :
  bm N P o R h ⟨.wn d [] 0 n,[(d,some (.box e (.ag ys)))],[],[d]⟩:=
 G6 fun G a w hop hF=>by
  obtain⟨i,z,h1,h2,h3,h4,h5,h6,h7⟩:=iV hs
  obtain⟨vs,h8,h9,h10,h11,h12,h13⟩:=ub (R:=R) (G:=G) (w:=w) (ev:=a.eval) (l:=parts.toList) (fun q hq=>hop q.2 (by simp[ho,Op.operands];exact⟨q.1,by simpa using hq⟩)) hp
  have hrun:(Instr.buildSlice t n (parts.map fun (i,x)=>(i,a.eval x))).run P w = .ok (.slice (some ⟨w.heap.size,0,none⟩) n n) (w.alloc (.cells (vs.flatMap fun v=>v.cells.toList).toArray e)):=by
   have hpl:(parts.map fun (i,x)=>(i,a.eval x)).toList=((vs.zipIdx 0).map fun x=>(x.2,x.1)):=by
    rw[Array.toList_map,←h8]
   refine run_buildSlice w t e n _ _ i z (bp he) h1 h2 (by rw[h4];omega) (by rw[h4];omega) ?_
   rw[hpl,h4]
   exact Great.fill_whole h6 vs _ h11 (by simp;rw[h10,hn])
  refine⟨(vs.flatMap fun v=>v.cells.toList).toArray,e,.slice (some ⟨w.heap.size,0,none⟩) n n,?_,fun G' hGF hd hk=>?_⟩
  ·unfold execOp
   simp only[ho]
   exact bh hrun
  ·refine⟨⟨w.heap.size,.agg (vs.flatMap fun v=>v.cells.toList).toArray,rfl,?_,?_,?_,heap_alloc_new w _⟩,?_⟩
   ·refine hk (.ag ys) _ (by simpa [S.free] using hf) ?_
    unfold ar
    exact⟨_,rfl,h9⟩
   ·have hl:=lX (s:=1) h11
    show (vs.flatMap fun v=>v.cells.toList).toArray.size=S.widths ys
    rw[List.size_toArray,hl,h13,h10];omega
   ·exact fun c hc=>h12 c hc
   ·unfold ar
    rw[hd]
    exact⟨w.heap.size,0,n,rfl,rfl,Nat.le_refl _,fun _=>rfl,(fun x N cap e _=>by cases e),by unfold maxLen;omega⟩
theorem wh {N:Nat} {P:Program} {o:Oper} {R:Operand→S} {h:Nat→Option aA} {t e:TypeId} {x i:Operand} {l off n s:Nat} {p:List Nat} {k:IntKind} {m:Int} (ho:o.op = .indexAddr t x i) (hx:R x = .wn l p off n) (hi:R i = .t (.lit (.int k m))) (he:aK P t=some e) (hs:bY P e=some s)
  (h0:0≤m) (h1:m < n):bm N P o R h ⟨.pt l (p++[m.toNat]) (off+m.toNat * s),[],[],[]⟩:=
 aH fun G h' a w hh hop _=>by
  have h2:=hop x (by simp[ho,Op.operands])
  have h3:=hop i (by simp[ho,Op.operands])
  rw[hx]at h2
  rw[hi]at h3
  unfold ar at h2 h3
  unfold aO at h3
  obtain⟨b,o',c,h4,h5,_,h6,_⟩:=h2
  obtain rfl:=h6 (.inl (by omega))
  refine⟨.pointer (some ⟨b,o'+m.toNat * s,none⟩),?_,by unfold ar;exact⟨b,h4,rfl⟩⟩
  unfold execOp
  simp only[ho,h5,h3.1]
  exact bh (jn (P:=P) (b:=b) (off:=o') (cap:=c) (k:=k) he hs h0 h1 w)
theorem Az {N:Nat} {P:Program} {o:Oper} {R:Operand→S} {h:Nat→Option aA} {t e:TypeId} {x:Operand} {l off n:Nat} {p:List Nat} (ho:o.op = .call {callee:=.builtin .len,args:=#[x],argTypes:=#[t]}) (he:aK P t=some e) (hx:R x = .wn l p off n):bm N P o R h ⟨.t (.int n),[],[],[]⟩:=
 aH fun G h' a w hh hop hfp=>by
  have h1:=hop x (by simp[ho,Op.operands,Call.operands])
  rw[hx]at h1
  unfold ar at h1
  obtain⟨b,o',c,_,h2,_⟩:=h1
  refine⟨.int .i64 n,?_,by unfold ar;unfold aO;exact⟨rfl,rfl⟩⟩
  unfold execOp
  simp[ho,resolve,invoke,builtin,h2,Builtin.len_,run_underlying (bp he),goInt]
theorem vV {N:Nat} {P:Program} {o:Oper} {R:Operand→S} {h:Nat→Option aA} {t e:TypeId} {x:Operand} {lo hi:Option Operand} {k off n:Nat} {p:List Nat} {l hb:Int} (ho:o.op = .slice t x lo hi none) (he:aK P t=some e) {s:Nat} (hs:bY P e=some s) (hsp:s=1∨p≠[]) (hx:R x = .wn k p off n)
  (hlo:ia R 0 lo=some l) (hhi:ia R n hi=some hb) (h0:0≤l) (h1:l≤hb) (h2:hb≤n):bm N P o R h ⟨.wn k p (off+l.toNat * s) (hb.toNat - l.toNat),[],[],[]⟩:=
 aH fun G h' a w hh hop _=>by
  have h3:=hop x (by simp[ho,Op.operands])
  rw[hx]at h3
  unfold ar at h3
  obtain⟨b,o',c,g1,g2,g3,g4,g5,g6⟩:=h3
  refine⟨_,?_,by
   unfold ar
   refine⟨b,if c=l.toNat then o' else o'+l.toNat * s,c - l.toNat,g1,rfl,by omega,fun hq=>?_,fun x N cap e hp=>?_,by omega⟩
   ·split
    ·rcases hq with hq|hq
     ·omega
     ·have:=g4 (.inr (by omega));omega
    ·rcases hq with hq|hq
     ·have:=g4 (.inl (by omega));omega
     ·have:=g4 (.inr (by omega));omega
   ·have:=g5 x N cap e hp
    obtain rfl:s=1:=by rcases hsp with h|h;exact h;exact absurd hp h
    omega⟩
  unfold execOp
  simp only[ho,g2]
  have hr:=gY (P:=P) (R:=R) (G:=G) (ev:=a.eval) (w:=w) (a:=some ⟨b,o',none⟩) (cap:=c) (n:=n) he hs (fun y hy=>hop y (by simp[ho,Op.operands];rcases hy with hy|hy<;>simp[hy])) hlo hhi h0 h1 h2 g3
  have e:(if c=l.toNat then some (⟨b,o',none⟩:Addr) else (some (⟨b,o',none⟩:Addr)).map (·.add (l.toNat * s)))=some ⟨b,if c=l.toNat then o' else o'+l.toNat * s,none⟩:=by
   split
   ·rfl
   ·simp[bU]
  rw[e]at hr
  exact bh hr
theorem Ew {w:World} {e N cap m g:Nat} {cells:List Value} (h:w.ownsRow 0 e 1 (.slice (some ⟨g,0,none⟩) N cap) N cells) (hm:m≤N):w.ownsRow 0 e 1 (.slice (some ⟨g,0,none⟩) m cap) m (cells.take m):=by
 have hl:=h.1
 rcases h.2 with ⟨hv,_⟩|⟨g',cap',cur,hv,h1,h2,h3,h4,h5,h6⟩
 ·simp only[Value.slice.injEq]at hv
  exact absurd hv.1 (by simp)
 ·simp only[Value.slice.injEq,Option.some.injEq,Addr.mk.injEq]at hv
  obtain⟨⟨rfl,_⟩,_,rfl⟩:=hv
  refine⟨by rw[List.length_take];omega,.inr ⟨g,cap,cur,rfl,h1,h2,by omega,h4,h5,?_⟩⟩
  rw[←h6,List.take_take]
  congr 1
  omega
theorem uN {N:Nat} {P:Program} {o:Oper} {R:Operand→S} {h:Nat→Option aA} {t e:TypeId} {x y:Operand} {b l d m off k:Nat} {p p':List Nat} {xs:List T} (ho:o.op = .call {callee:=.builtin .append,args:=#[x,y],argTypes:=#[t,t]}) (he:aK P t=some e) (hs:jP P e=some (1,b))
  (hpx:p=[]) (hpy:p'=[]) (hx:R x = .wn l p 0 m) (hy:R y = .wn l p' off k) (hl:h l=some (.list e 1 xs)) (hm:m≤xs.length) (hk:off+k≤xs.length) (hb:(m+k) * b≤140737488355328) (hdl:d≠l) :
  bm N P o R h ⟨.own d,[(d,some (.list e 1 (xs.take m++(xs.drop off).take k))),(l,none)],[l],[d]⟩:=by
 intro W G0 A G g h' a w Q K hsat hop hfp hnw hK
 obtain⟨hd,hfg,hfh⟩:=hnw d (by simp)
 have h1:=hsat.eval x
 rw[hop x (by simp[ho,Op.operands,Call.operands]),hx]at h1
 unfold ar at h1
 have h2:=hsat.eval y
 rw[hop y (by simp[ho,Op.operands,Call.operands]),hy]at h2
 unfold ar at h2
 obtain⟨b1,o1,c1,q1,q2,q3,q4,q5,q6⟩:=h1
 obtain⟨b2,o2,c2,r1,r2,r3,r4,r5,r6⟩:=h2
 obtain rfl:b1=b2:=by rw[q1]at r1;exact Option.some.inj r1
 obtain rfl:=q4 (.inr rfl)
 have hl':h' l=some (.list e 1 xs):=by rw[hfp l (by simp)];exact hl
 obtain⟨x1,cap,cells,h7,h8,h9,h10⟩:=hsat.heap.rep l _ hl'
 have hq5:=q5 _ _ _ h7 hpx
 have hr5:=r5 _ _ _ h7 hpy
 have hx2:x1=some ⟨b1,0,none⟩:=by
  rw[h7]at q1 h10
  rcases h10.2 with ⟨hv,hn⟩|⟨g',cap',cur,hv,_⟩
  ·simp only[Value.slice.injEq]at hv
   rw[hv.1]at q1
   simp[aW]at q1
  ·simp only[Value.slice.injEq]at hv
   rw[hv.1]at q1
   simp[aW]at q1
   rw[hv.1,q1]
 subst hx2
 rw[h7]at h10
 obtain rfl:c1=cap:=by omega
 have hcl:=ay.widths _ _ h8
 rw[bt h9,Nat.mul_one]at hcl
 have hpre:=Ew (m:=m) h10 hm
 have hta:=(ay.split m h8).1
 rw[aG h9 hm,Nat.mul_one]at hta
 have hdr:=(ay.split off h8).2
 rw[aG h9 (by omega),Nat.mul_one]at hdr
 have h9':∀ y∈xs.drop off,y.width=1:=fun y hy=>h9 y (List.mem_of_mem_drop hy)
 have hdt:=(ay.split k hdr).1
 rw[aG h9' (by rw[List.length_drop];omega),Nat.mul_one]at hdt
 have hnl:((cells.drop off).take k).length=k:=by rw[List.length_take,List.length_drop];omega
 have hseg:Du (fun b=>b < w.heap.size) w (some ⟨b1,o2,none⟩) k c2 1 ((cells.drop off).take k):=by
  refine⟨r3,?_,by rw[hnl,Nat.mul_one],(fun e=>by cases e),?_⟩
  ·rcases h10.2 with ⟨hv,_⟩|⟨g',cap',cur,hv,_,_,_,hmx,_⟩
   ·simp only[Value.slice.injEq]at hv
    exact absurd hv.1 (by simp)
   ·simp only[Value.slice.injEq]at hv
    omega
  ·by_cases h0:k=0
   ·exact .inl h0
   ·right
    have ho2:=r4 (.inl (by omega))
    refine⟨b1,o2,rfl,hsat.heap.rep l _ hl' |>.lt (by rw[h7];rfl),fun j u hu=>?_⟩
    rw[List.getElem?_take]at hu
    split at hu
    ·rw[List.getElem?_drop]at hu
     have hc:=World.ownsRow.cells h10 (g:=b1) rfl _ _ hu
     rw[bU]at hc
     rw[ho2]
     simpa using hc
    ·cases hu
 obtain⟨v',w',h11,h12,h13,h14,x',c',h15⟩:=gk (P:=P) (ty:=o.type) he hs hpre hseg (fun u hu=>ay.one _ _ hdt u hu) hb
 have hbl:aW (.slice (some ⟨b1,0,none⟩) m c1)=aW (G.β l):=by rw[h7];rfl
 rw[hbl]at h13 h14
 have hnF:∀ k,aW (G.β l)=some k→¬ G.F k:=fun k hk=>hsat.heap.sep l _ k hl' (.inl hk)
 have hcell:∀ b o,G.F b→w'.cell? ⟨b,o,none⟩=w.cell? ⟨b,o,none⟩:=fun b o hF=>bj (h13.block b (hsat.heap.fb b hF) (fun e=>hnF b e.symm hF))
 have hrun:(execOp a.eval o).run P w = .ok (.value v') w':=by
  unfold execOp
  simp only[ho,resolve,invoke,builtin,Sem.run_bind,Sem.run_pure,Result.andThen_ok,List.map_toArray,List.map_cons,List.map_nil,q2,r2,h11]
 have hlen1:(xs.take m).length=m:=by rw[List.length_take];omega
 have hlen2:((xs.drop off).take k).length=k:=by rw[List.length_take,List.length_drop];omega
 have hx:=Ext.mk' hsat.heap (aW (G.β l)) h13 (some l) (fun k hk=>⟨_,by cases hk;exact hl'⟩) (fun k hk=>⟨l,rfl,hk⟩) d v' (.list e 1 (xs.take m++(xs.drop off).take k)) (.inr hd) [d] (.inl rfl)
  (fun k hk l b hl=>by simp at hk;subst hk;exact hfh l b hl) (fun k hk=>by
   rcases h14 with h14|h14
   ·exact .inl ⟨l,rfl,by rw[←h14];exact hk⟩
   ·right;rw[h14]at hk;cases hk;exact Nat.le_refl _)
  (by
   refine⟨x',c',cells.take m++(cells.drop off).take k,by rw[h15,List.length_append,hlen1,hlen2],?_,?_,by rw[List.length_append,hlen1,hlen2];exact h12⟩
   ·exact ay.append (ay.mono (fun _ h=>h) hcell _ _ hta) (ay.mono (fun _ h=>h) hcell _ _ hdt)
   ·intro z hz
    rcases List.mem_append.1 hz with hz|hz
    ·exact h9 z (List.mem_of_mem_take hz)
    ·exact h9' z (List.mem_of_mem_take hz)) (ik.plain rfl)
 rw[lG h' d l]at hx
 exact dm hrun (hK v' _ _ hx (by unfold ar;exact⟨(dw _ _ _).symm,_,_,_,h15⟩))
theorem rT {F F':Nat→Prop} {w:World} {t ty e:TypeId} {s b n m c:Nat} {x1 x:Option Addr} {cells news:List Value} {P:Program} (he:aK P t=some e) (hs:jP P e=some (s,b)) (hseg1:Du F' w x1 n n s cells)
  (hseg:Du F w x m c s news) (h1:∀ u∈news,u.oneCell'=true) (hm:0 < m) (hb:(n+m) * b≤140737488355328) :
  ∃ v' w',(Builtin.append_ #[t,t] ty #[.slice x1 n n,.slice x m c]).run P w = .ok v' w'∧w'.ownsRow 0 e s v' (n+m) (cells++news)∧w.grownBy w' none∧(∀ k,aW v'=some k→w.heap.size≤k)∧∃ x' c',v' = .slice x' (n+m) c':=by
 cases x1 with
 | none=>
  have hn:n=0:=hseg1.nil rfl
  subst hn
  have hc:cells=[]:=List.eq_nil_of_length_eq_zero (by have:=hseg1.len;simpa using this)
  subst hc
  obtain⟨v',w',h2,h3,h4,h5,h6⟩:=gk (P:=P) (ty:=ty) he hs (World.ownsRow_nil w 0 e s) hseg h1 hb
  refine⟨v',w',h2,h3,h4,fun k hk=>?_,h6⟩
  rcases h5 with h5|h5
  ·rw[h5]at hk;simp[aW]at hk
  ·rw[h5]at hk;cases hk;exact Nat.le_refl _
 | some ad=>
  obtain⟨i,z,h2,h3,h4,h5,h6,h7,h8⟩:=iV hs
  have hmax:n+m≤maxLen:=by
   unfold maxLen
   have:(n+m) * 1≤(n+m) * b:=Nat.mul_le_mul_left _ h8
   omega
  cases x with
  | none=>
   have hc:=hseg.nil rfl
   have:=hseg.le
   omega
  | some a=>
   have hold:∀ j u,cells[j]? = some u→w.cell? (ad.add j)=some u:=by
    intro j u hj
    rcases hseg1.cells with h0|⟨b',off,hx,_,hcell⟩
    ·have:=hseg1.len
     rw[h0,Nat.zero_mul]at this
     have:cells=[]:=List.eq_nil_of_length_eq_zero this
     subst this
     simp at hj
    ·cases hx
     rw[bU]
     exact hcell j u hj
   have hnews:∀ j u,news[j]? = some u→w.cell? (a.add j)=some u:=by
    intro j u hj
    rcases hseg.cells with h0|⟨b',off,hx,_,hcell⟩
    ·omega
    ·cases hx
     rw[bU]
     exact hcell j u hj
   obtain⟨v',w',h9,h10,h11⟩:=run_append_arg_grows (P:=P) (w:=w) t ty e i z s b (bp he) h2 h3 h5 h6 h4 h7 ad n n cells hseg1.len hold a m c news hseg.len hnews (by omega) hmax hb
   obtain⟨h12,h13⟩:=h10
   rcases h13 with ⟨hv,hn⟩|⟨g,cap',cur,hv,hB,hr⟩
   ·omega
   ·exact⟨v',w',h9,⟨h12,.inr ⟨g,cap',cur,hv,Nat.zero_le _,hr⟩⟩,h11,fun k hk=>by rw[hv]at hk;simp[aW]at hk;omega,_,_,hv⟩
theorem uX {N:Nat} {P:Program} {o:Oper} {R:Operand→S} {h:Nat→Option aA} {t e:TypeId} {x y:Operand} {s b d:Nat} {xs ys:List T} {fp:List Nat} (ho:o.op = .call {callee:=.builtin .append,args:=#[x,y],argTypes:=#[t,t]}) (he:aK P t=some e) (hs:jP P e=some (s,b))
  (hx:R x = .cl s xs) (hsrc:Src R h y s ys fp) (hm:0 < ys.length) (hb:(xs.length+ys.length) * b≤140737488355328):bm N P o R h ⟨.own d,[(d,some (.list e s (xs++ys)))],fp,[d]⟩:=by
 intro W G0 A G g h' a w Q K hsat hop hfp hnw hK
 obtain⟨hd,hfg,hfh⟩:=hnw d (by simp)
 have h1:=hsat.eval x
 rw[hop x (by simp[ho,Op.operands,Call.operands]),hx]at h1
 unfold ar at h1
 obtain⟨x1,cells,h7,h8,h9,h10⟩:=h1
 have h2:=hsat.eval y
 rw[hop y (by simp[ho,Op.operands,Call.operands])]at h2
 obtain⟨x2,c2,news,h3,h4,h5,h6⟩:=hsrc.spec hsat.heap h2 hfp
 obtain⟨v',w',h11,h12,h13,h14,x',c',h15⟩:=rT (P:=P) (ty:=o.type) he hs h10 h6 (fun u hu=>ay.one ys news h4 u hu) hm hb
 have hcell:∀ b o,G.F b→w'.cell? ⟨b,o,none⟩=w.cell? ⟨b,o,none⟩:=fun b o hF=>bj (h13.block b (hsat.heap.fb b hF) (fun e=>by cases e))
 have hrun:(execOp a.eval o).run P w = .ok (.value v') w':=by
  unfold execOp
  simp only[ho,resolve,invoke,builtin,Sem.run_bind,Sem.run_pure,Result.andThen_ok,List.map_toArray,List.map_cons,List.map_nil,h7,h3,h11]
 have hx:=Ext.mk' hsat.heap none h13 none (fun k hk=>by cases hk) (fun k hk=>by cases hk) d v' (.list e s (xs++ys)) (.inr hd) [d] (.inl rfl)
  (fun k hk l b hl=>by simp at hk;subst hk;exact hfh l b hl) (fun k hk=> .inr (h14 k hk))
  (by
   refine⟨x',c',cells++news,by rw[h15];simp,?_,?_,by rw[List.length_append];exact h12⟩
   ·exact ay.append (ay.mono (fun _ h=>h) hcell _ _ h8) (ay.mono (fun _ h=>h) hcell _ _ h4)
   ·intro z hz
    rcases List.mem_append.1 hz with hz|hz
    ·exact h9 z hz
    ·exact h5 z hz) (ik.plain rfl)
 rw[dZ h' d _ none (.inr rfl)]at hx
 exact dm hrun (hK v' _ _ hx (by unfold ar;exact⟨(dw _ _ _).symm,_,_,_,h15⟩))
theorem On {G:Gh} {w:World} {s n:Nat} {xs:List T} {x:Option Addr} (h:aO G.F w (.sl s xs) (.slice x n n)):ar G w (.cl s xs) (.slice x n n):=by
 unfold aO at h
 obtain⟨x',cap,cells,h1,h2,h3,h4⟩:=h
 simp only[Value.slice.injEq]at h1
 obtain⟨rfl,rfl,rfl⟩:=h1
 unfold ar
 exact⟨_,cells,rfl,h2,h3,h4⟩
theorem Gg {N:Nat} {P:Program} {o:Oper} {R:Operand→S} {h:Nat→Option aA} {t e:TypeId} {x z u:Operand} {s:Nat} {r m:Int} {xs:List T} (ho:o.op = .slice t x none (some z) (some u)) (he:aK P t=some e) (hs:bY P e=some s) (hx:R x = .t (.sl s xs))
  (hhi:jD R z=some r) (hmx:jD R u=some m) (hm:m=r) (h0:0≤r) (h1:r≤xs.length):bm N P o R h ⟨.cl s (xs.take r.toNat),[],[],[]⟩:=
 aH fun G h' a w hh hop _=>by
  subst hm
  have h4:=hop x (by simp[ho,Op.operands])
  obtain⟨k2,g2⟩:=jT hhi (hop z (by simp[ho,Op.operands]))
  obtain⟨k3,g3⟩:=jT hmx (hop u (by simp[ho,Op.operands]))
  rw[hx]at h4
  unfold ar at h4
  have h4':=h4
  unfold aO at h4'
  obtain⟨ad,cap,cells,h5,_,_,h6⟩:=h4'
  rw[h5]at h4
  have hcap:=h6.le
  have h7:=rq (l:=0) (h:=m.toNat) (m:=m.toNat) h4 (by omega) (by omega) (by omega)
  rw[List.drop_zero,Nat.sub_zero]at h7
  refine⟨_,?_,On h7⟩
  unfold execOp
  simp only[ho,h5]
  have hz:=fA (P:=P) hs w
  have e3:(Instr.sliceBound (.int k3 m) cap .slice3Acap).run P w = .ok m.toNat w:=by
   simp[Instr.sliceBound,asIntOf,show (0:Int)≤m by omega,show m≤(cap:Int) by omega]
  have e1:(Instr.sliceBound (.int k2 m) m.toNat .slice3B).run P w = .ok m.toNat w:=by
   simp[Instr.sliceBound,asIntOf,show (0:Int)≤m by omega,show m≤((m.toNat:Nat):Int) by omega]
   try (intro hq;exact absurd hq (by omega))
  exact bh (by simp[Instr.sliceAt,Instr.slice,run_underlying (bp he),Instr.sliceBounds,hz,g2,g3,e1,e3])
def AW (P:Program) (t:TypeId) (x:S) (hi mx:Option Int) (K:aM→Prop):Prop:=match aK P t,x,hi,mx with
 | some e,.t (.sl s xs),some r,some m=>bY P e=some s∧m=r∧(if 0≤r∧r≤(xs.length:Int) then K ⟨.cl s (xs.take r.toNat),[],[],[]⟩ else False)
 | _,_,_,_=>False
theorem yU {G:Gh} {R:Operand→S} {P:Program} {ev:Operand→Value} {w:World} {t e:TypeId} {s n:Nat} {b off:Nat} {lo hi:Option Operand} {l hb:Int} (ha:dn P t=some (n,e)) (hs:bY P e=some s)
  (hop:∀ x,lo=some x∨hi=some x→ar G w (R x) (ev x)) (hlo:ia R 0 lo=some l) (hhi:ia R n hi=some hb) (h0:0≤l) (h1:l≤hb) (h2:hb≤n) :
  (Instr.sliceAt t (.pointer (some ⟨b,off,none⟩)) (lo.map ev) (hi.map ev) none).run P w = .ok (.slice (some (if n=l.toNat then ⟨b,off,none⟩ else ⟨b,off+l.toNat * s,none⟩)) (hb.toNat - l.toNat) (n - l.toNat)) w:=by
 have hv:∀ (q:Option Operand) (dd m:Int),(∀ x,q=some x→ar G w (R x) (ev x))→ia R dd q=some m→(q=none∧m=dd)∨∃ x k,q=some x∧ev x = .int k m:=by
  intro q dd m hq hm
  cases q with
  | none=>simp[ia]at hm;exact .inl ⟨rfl,hm.symm⟩
  | some x=>
   simp only[ia]at hm
   split at hm
   ·rename_i k n hx
    simp at hm
    subst hm
    have:=hq x rfl
    rw[hx]at this
    unfold ar at this;unfold aO at this
    exact .inr ⟨x,k,rfl,this.1⟩
   ·cases hm
 have hz:=fA (P:=P) hs w
 have e1:∀ k,(Instr.sliceBound (.int k hb) n .sliceAlen).run P w = .ok hb.toNat w:=by
  intro k
  simp[Instr.sliceBound,asIntOf,show (0:Int)≤hb by omega,show hb≤(n:Int) by omega]
 have e2:∀ k,(Instr.sliceBound (.int k l) hb.toNat .sliceB).run P w = .ok l.toNat w:=by
  intro k
  simp[Instr.sliceBound,asIntOf,h0,show l≤((hb.toNat:Nat):Int) by omega]
  try (intro hq;exact absurd hq (by omega))
 rcases hv lo 0 l (fun x hx=>hop x (.inl hx)) hlo with ⟨rfl,rfl⟩|⟨x,k,rfl,hx⟩<;>rcases hv hi n hb (fun x hx=>hop x (.inr hx)) hhi with ⟨rfl,rfl⟩|⟨y,k',rfl,hy⟩
 ·simp[Instr.sliceAt,run_underlying (jv ha),Instr.sureAddr,Instr.sliceBounds,hz,bU]
 ·simp[Instr.sliceAt,run_underlying (jv ha),Instr.sureAddr,Instr.sliceBounds,hz,hy,e1,bU]
 ·have e2':(Instr.sliceBound (.int k l) n .sliceB).run P w = .ok l.toNat w:=by have:=e2 k;simpa using this
  simp[Instr.sliceAt,run_underlying (jv ha),Instr.sureAddr,Instr.sliceBounds,hz,hx,e2',bU]
 ·simp[Instr.sliceAt,run_underlying (jv ha),Instr.sureAddr,Instr.sliceBounds,hz,hx,hy,e1,e2,bU]
theorem uz {N:Nat} {P:Program} {o:Oper} {R:Operand→S} {h:Nat→Option aA} {t e:TypeId} {x:Operand} {lo hi:Option Operand} {k off n:Nat} {p:List Nat} {l hb:Int} {bb:aA} (ho:o.op = .slice t x lo hi none) (ha:dn P t=some (n,e)) (hs:bY P e=some 1) (hx:R x = .pt k p off)
  (hk:h k=some bb) (hbx:∃ be c,bb = .box be c) (hn:n≤16777216) (hlo:ia R 0 lo=some l) (hhi:ia R n hi=some hb) (h0:0≤l) (h1:l≤hb) (h2:hb≤n):bm N P o R h ⟨.wn k p (off+l.toNat) (hb.toNat - l.toNat),[],[k],[]⟩:=
 aH fun G h' a w hh hop hfp=>by
  have h3:=hop x (by simp[ho,Op.operands])
  rw[hx]at h3
  unfold ar at h3
  obtain⟨b,g1,g2⟩:=h3
  obtain⟨be,c,rfl⟩:=hbx
  have h4:=hh.rep k _ (by rw[hfp k (by simp)];exact hk)
  obtain⟨b',v,g3,_⟩:=h4
  refine⟨_,?_,by
   unfold ar
   refine⟨b,if n=l.toNat then off else off+l.toNat,n - l.toNat,g1,rfl,by omega,fun hq=>?_,(fun x N cap e _=>by rw[g3]at e;cases e),by unfold maxLen;omega⟩
   split
   ·rcases hq with hq|hq<;>omega
   ·rfl⟩
  unfold execOp
  simp only[ho,g2]
  have hr:=yU (P:=P) (R:=R) (G:=G) (ev:=a.eval) (w:=w) (b:=b) (off:=off) ha hs (fun y hy=>hop y (by simp[ho,Op.operands];rcases hy with hy|hy<;>simp[hy])) hlo hhi h0 h1 h2
  have e:(if n=l.toNat then (⟨b,off,none⟩:Addr) else ⟨b,off+l.toNat * 1,none⟩)=⟨b,if n=l.toNat then off else off+l.toNat,none⟩:=by
   split
   ·rfl
   ·simp
  rw[e]at hr
  exact bh hr
theorem tO {F:Nat→Prop} {w:World} {ys zs:List T} {news olds:List Value} {m:Nat} (h1:ay F w ys news) (h2:ay F w zs olds) (hy:∀ y∈ys,y.width=1) (hz:∀ z∈zs,z.width=1) (hm:m≤ys.length) (hm2:m≤zs.length) :
  ay F w (ys.take m++zs.drop m) (news.take m++olds.drop m):=by
 have h3:=(ay.split m h1).1
 rw[aG hy hm,Nat.mul_one]at h3
 have h4:=(ay.split m h2).2
 rw[aG hz hm2,Nat.mul_one]at h4
 exact ay.append h3 h4
theorem zg (w:World) (b:Nat) (cur:Array Value) (t:TypeId) (k:Nat×Nat) (h:w.heap[b]? = some (.cells cur t k)):w.setRow b cur=w:=setRow_self w b cur t k h
theorem wT {N:Nat} {P:Program} {o:Oper} {R:Operand→S} {h:Nat→Option aA} {t t' e be:TypeId} {x y:Operand} {l off:Nat} {p:List Nat} {ys zs:List T} {fp:List Nat} {c c':S} {m:Nat} (hm:min ys.length zs.length=m) (ho:o.op = .call {callee:=.builtin .copy,args:=#[x,y],argTypes:=#[t,t']}) (he:aK P t=some e) (hs:bY P e=some 1)
  (hx:R x = .wn l p off zs.length) (hl:h l=some (.box be c)) (hat:S.at c p=some (off,.t (.agg zs))) (hz:∀ z∈zs,z.width=1) (hsrc:Src R h y 1 ys fp)
  (hset:S.set c p (.t (.agg (ys.take m++zs.drop m)))=some c'):bm N P o R h ⟨.t (.int (m:Nat)),[(l,some (.box be c'))],l :: fp,[]⟩:=by
 intro W G0 A G g h' a w Q K hsat hop hfp _ hK
 have h1:=hsat.eval x
 rw[hop x (by simp[ho,Op.operands,Call.operands]),hx]at h1
 unfold ar at h1
 obtain⟨b,o',cc,g1,g2,g3,g4,_⟩:=h1
 have h2:=hsat.eval y
 rw[hop y (by simp[ho,Op.operands,Call.operands])]at h2
 obtain⟨x2,c2,news,h3,h4,h5,h6⟩:=hsrc.spec hsat.heap h2 (fun k hk=>hfp k (by simp[hk]))
 have hl':h' l=some (.box be c):=by rw[hfp l (by simp)];exact hl
 have hrep:=hsat.heap.rep l _ hl'
 have hinn:=hsat.heap.inn l _ hl'
 have hnF:=hsat.heap.sep l _ b hl' (.inl g1)
 have hm1:m≤ys.length:=by omega
 have hm2:m≤zs.length:=by omega
 have hat':(aA.box be c).at p=some (off,.t (.agg zs)):=by simp only[aA.at];exact hat
 obtain⟨v0,h7,h8,h9,h10⟩:=bH.at_spec hrep hinn hat' g1
 unfold ar at h7
 unfold aO at h7
 obtain⟨olds,rfl,h11⟩:=h7
 have hol:=ay.widths _ _ h11
 rw[bt hz,Nat.mul_one]at hol
 have hnl:=ay.widths _ _ h4
 rw[bt h5,Nat.mul_one]at hnl
 have hnew:ar G w (.t (.agg (ys.take m++zs.drop m))) (.agg (news.take m++olds.drop m).toArray):=by
  unfold ar aO
  exact⟨_,rfl,tO h4 h11 h5 hz hm1 hm2⟩
 have hlen:=ar.lens hnew rfl
 have hw:(S.t (.agg (ys.take m++zs.drop m))).width=(S.t (.agg zs)).width:=by
  have e2:(T.agg zs).width=olds.length:=by simp only[T.width];rw[bt hz];omega
  have e3:=hlen.1
  simp only[Value.cells,List.size_toArray,List.length_append,List.length_take,List.length_drop]at e3
  rw[←e3]
  simp only[S.width]
  omega
 have hset':(aA.box be c).set p (.t (.agg (ys.take m++zs.drop m)))=some (.box be c'):=by simp only[aA.set];rw[hset]
 obtain⟨cur,ty,cs',hcur,hcs,hfit,hnewB,hnewI⟩:=bH.set_spec hrep hinn hat' hset' g1 hnew hlen.1 hlen.2 hw hnF hsat.heap.fb
 have hold:∀ j v,olds[j]? = some v→cur[off+j]? = some v:=by
  intro j v hj
  have:=h10 j v (by simpa [Value.cells] using hj)
  rw[cell_of_row w b _ cur ty (0,0) hcur]at this
  exact this
 have hfit2:off+zs.length≤cur.size:=by
  have:(Value.agg (news.take m++olds.drop m).toArray).cells.size=zs.length:=by
   simp only[Value.cells,List.size_toArray,List.length_append,List.length_take,List.length_drop];omega
  omega
 have hcs2:cs'=cur.toList.take off++news.take m++cur.toList.drop (off+m):=by
  rw[hcs]
  simp only[Value.cells,bS]
  rw[List.append_assoc,List.append_assoc]
  congr 2
  have e5:(news.take m++olds.drop m).length=zs.length:=by simp only[List.length_append,List.length_take,List.length_drop];omega
  rw[e5]
  have e6:olds.drop m=(cur.toList.drop (off+m)).take (zs.length - m):=by
   apply List.ext_getElem?
   intro j
   rw[List.getElem?_drop,List.getElem?_take,List.getElem?_drop]
   by_cases hj:j < zs.length - m
   ·rw[if_pos hj]
    have hj2:m+j < olds.length:=by omega
    have:=hold (m+j) _ (List.getElem?_eq_getElem hj2)
    rw[List.getElem?_eq_getElem hj2,show off+m+j=off+(m+j) by omega]
    simpa using this.symm
   ·rw[if_neg hj,List.getElem?_eq_none (by omega)]
  rw[e6,show off+zs.length=off+m+(zs.length - m) by omega,←List.drop_drop (i:=zs.length - m),List.take_append_drop]
 have hrun:(Builtin.copy_ #[t,t'] o.type #[.slice (some ⟨b,o',none⟩) zs.length cc,.slice x2 ys.length c2]).run P w = .ok (goInt m) (w.setRow b cs'.toArray):=by
  by_cases hm0:m=0
  ·have e7:cs'=cur.toList:=by rw[hcs2,hm0];simp
   rw[e7]
   simp only[Array.toArray_toList]
   rw[zg w b cur ty (0,0) hcur,hm0]
   exact run_copy_none w t t' o.type e (some ⟨b,o',none⟩) x2 zs.length cc ys.length c2 (bp he) (by have:=hs;unfold bY at this;exact this) (by rw[←hm0,←hm])
  ·obtain rfl:o'=off:=g4 (.inl (by omega))
   rcases h6.cells with h0|⟨b2,o2,rfl,_,hrd⟩
   ·omega
   ·have:=run_copy_row (P:=P) w t t' o.type e b o' zs.length cc ⟨b2,o2,none⟩ ys.length c2 cur ty (news.take m) (bp he) (by have:=hs;unfold bY at this;exact this) hcur (by rw[List.length_take,←hm];show min (min ys.length zs.length) news.length=Nat.min ys.length zs.length;simp only[Nat.min_def];split<;>split<;>omega) (fun j v hj=>by
     rw[bU]
     rw[List.getElem?_take]at hj
     split at hj
     ·exact hrd j v hj
     ·cases hj) (by rw[List.length_take];omega) (fun u hu=>ay.one ys news h4 u (List.mem_of_mem_take hu))
    rw[this,hcs2]
    have e8:(news.take m).length=m:=by rw[List.length_take];omega
    rw[e8]
 have hexec:(execOp a.eval o).run P w = .ok (.value (goInt m)) (w.setRow b cs'.toArray):=by
  unfold execOp
  simp only[ho,resolve,invoke,builtin,Sem.run_bind,Sem.run_pure,Result.andThen_ok,List.map_toArray,List.map_cons,List.map_nil,g2,h3,hrun]
 have hx:=Ext.mkG hsat.heap (some b) (cj w b cs'.toArray) (some l) (fun k hk=>⟨_,by cases hk;exact hl'⟩) (fun k hk=>⟨l,rfl,by cases hk;exact .inl g1⟩) l (G.β l) (.box be c') (G.φ l) (.inl rfl) [] (.inr ⟨rfl,rfl⟩) (by simp) (fun k hk=> .inl ⟨l,rfl,hk⟩) (by rw[eO];exact hnewB) (by rw[eO];exact hnewI)
 rw[dZ h' l (.box be c') (some l) (.inl rfl)]at hx
 exact dm hexec (hK _ _ _ hx (by unfold ar;unfold aO;exact⟨rfl,rfl⟩))
theorem run_copy_cells {P:Program} (w:World) (dT sT ty elem:TypeId) (k m g o dLen dCap:Nat) (a:Addr) (sLen sCap:Nat) (cur:Array Value) (t:TypeId) (cs:List Value)
  (hu:P.underlying dT=some (.slice elem)) (hs:(P.info? elem).map (·.size)=some k) (hg:w.heap[g]? = some (.cells cur t (0,0))) (hm:Nat.min sLen dLen=m) (hn:cs.length=m * k)
  (hsrc:∀ j v,cs[j]? = some v→w.cell? (a.add j)=some v) (hfit:o+cs.length≤cur.size) (h1:∀ v∈cs,v.oneCell'=true) :
  (Builtin.copy_ #[dT,sT] ty #[.slice (some ⟨g,o,none⟩) dLen dCap,.slice (some a) sLen sCap]).run P w =
   .ok (goInt m) (w.setRow g (cur.toList.take o++cs++cur.toList.drop (o+cs.length)).toArray):=by
 have hst:=run_storeCells_at P g o t cs 0 cur w hg (by simpa using hfit) h1
 have hf:=run_firstCells_some (P:=P) w k m a sLen sCap cs hn hsrc
 cases hq:P.info? elem with
 | none=>simp[hq]at hs
 | some i=>
  have hi:i.size=k:=by simpa [hq] using hs
  simp[Builtin.copy_,run_underlying hu,Builtin.lenOf,sizeOf,typeInfo,hq,hi,hm,hf,hst]
theorem vE {P:Program} (w:World) (dT sT ty elem:TypeId) (k:Nat) (d a:Option Addr) (dLen dCap sLen sCap:Nat) (hu:P.underlying dT=some (.slice elem)) (hs:(P.info? elem).map (·.size)=some k) (hn:Nat.min sLen dLen=0) :
  (Builtin.copy_ #[dT,sT] ty #[.slice d dLen dCap,.slice a sLen sCap]).run P w = .ok (goInt 0) w:=by
 cases hq:P.info? elem with
 | none=>simp[hq]at hs
 | some i=>
  have hl:∀ (x:Addr),(loadCells x 0).run P w = .ok #[] w:=fun x=>by simpa using run_loadCells_list (P:=P) w x [] (by simp)
  cases d<;>cases a<;>simp[Builtin.copy_,run_underlying hu,Builtin.lenOf,Builtin.firstCells,sizeOf,typeInfo,hq,hn,storeCells,hl]
theorem wc {N:Nat} {P:Program} {o:Oper} {R:Operand→S} {h:Nat→Option aA} {t t' e:TypeId} {x y:Operand} {l s:Nat} {ys xs:List T} {fp:List Nat} {m:Nat} (hm:min ys.length xs.length=m) (ho:o.op = .call {callee:=.builtin .copy,args:=#[x,y],argTypes:=#[t,t']}) (he:aK P t=some e) (hs:bY P e=some s)
  (hx:R x = .own l) (hl:h l=some (.list e s xs)) (hsrc:Src R h y s ys fp):bm N P o R h ⟨.t (.int (m:Nat)),[(l,some (.list e s (ys.take m++xs.drop m)))],l :: fp,[]⟩:=by
 intro W G0 A G g h' a w Q K hsat hop hfp _ hK
 have h1:=hsat.eval x
 rw[hop x (by simp[ho,Op.operands,Call.operands]),hx]at h1
 unfold ar at h1
 have g2:=h1.1
 have h2:=hsat.eval y
 rw[hop y (by simp[ho,Op.operands,Call.operands])]at h2
 obtain⟨x2,c2,news,h3,h4,h5,h6⟩:=hsrc.spec hsat.heap h2 (fun k hk=>hfp k (by simp[hk]))
 have hl':h' l=some (.list e s xs):=by rw[hfp l (by simp)];exact hl
 have hinn:=hsat.heap.inn l _ hl'
 obtain⟨x1,cap,cells,q1,q2,q3,q4⟩:=hsat.heap.rep l _ hl'
 have hm1:m≤ys.length:=by omega
 have hm2:m≤xs.length:=by omega
 have hu:=bp he
 have hs':(P.info? e).map (·.size)=some s:=by have:=hs;unfold bY at this;exact this
 have hmin:Nat.min ys.length xs.length=m:=hm
 by_cases hm0:m=0
 ·have hrun:=vE w t t' o.type e s x1 x2 xs.length cap ys.length c2 hu hs' (by rw[hmin];exact hm0)
  have hexec:(execOp a.eval o).run P w = .ok (.value (goInt 0)) w:=by
   unfold execOp
   simp only[ho,resolve,invoke,builtin,Sem.run_bind,Sem.run_pure,Result.andThen_ok,List.map_toArray,List.map_cons,List.map_nil,g2,q1,h3,hrun]
  subst hm0
  have e0:dK [(l,some (.list e s (ys.take 0++xs.drop 0)))] h'=h':=by
   funext k
   simp only[dK,cY,List.take_zero,List.nil_append,List.drop_zero]
   split
   ·rename_i hk;rw[hk,hl']
   ·rfl
  have hx:Ext G w h' G w (dK [(l,some (.list e s (ys.take 0++xs.drop 0)))] h') []:=by rw[e0];exact Ext.refl hsat.heap
  exact dm hexec (hK _ _ _ hx (by unfold ar;unfold aO;exact⟨rfl,rfl⟩))
 ·have hlen:0 < xs.length:=by omega
  rw[q1]at q4
  obtain⟨b,hb⟩:∃ b,aW (.slice x1 xs.length cap)=some b:=by
   rcases q4.2 with ⟨hv,hn⟩|⟨g',cap',cur,hv,_⟩
   ·omega
   ·simp only[Value.slice.injEq]at hv
    exact⟨g',by rw[hv.1];rfl⟩
  have g1:aW (G.β l)=some b:=by rw[q1];exact hb
  have hnF:=hsat.heap.sep l _ b hl' (.inl g1)
  obtain⟨rfl,cur,p5,pnc,pcm,pcs,p6⟩:=iw q4 hb
  rcases h6.cells with h0|⟨b2,o2,rfl,_,hrd⟩
  ·omega
  have hnl:=ay.widths _ _ h4
  rw[bt h5]at hnl
  have hcl:=ay.widths _ _ q2
  rw[bt q3]at hcl
  have hms:m * s≤ys.length * s:=Nat.mul_le_mul_right _ hm1
  have hms2:m * s≤xs.length * s:=Nat.mul_le_mul_right _ hm2
  have hnc:xs.length * s≤cap * s:=Nat.mul_le_mul_right _ pnc
  have hcl3:cur.toList.length=cap * s:=by rw[Array.length_toList,pcs]
  have htl:(news.take (m * s)).length=m * s:=by rw[List.length_take];omega
  have hrun:=run_copy_cells (P:=P) w t t' o.type e s m b 0 xs.length cap ⟨b2,o2,none⟩ ys.length c2 cur e (news.take (m * s)) hu hs' p5 hmin htl (fun j v hj=>by
    rw[bU]
    rw[List.getElem?_take]at hj
    split at hj
    ·exact hrd j v hj
    ·cases hj) (by rw[htl];omega) (fun u hu=>ay.one ys news h4 u (List.mem_of_mem_take hu))
  rw[htl]at hrun
  simp only[List.take_zero,List.nil_append,Nat.zero_add]at hrun
  obtain⟨cs',hcs'⟩:∃ cs',cs'=news.take (m * s)++cur.toList.drop (m * s):=⟨_,rfl⟩
  rw[←hcs']at hrun
  have hexec:(execOp a.eval o).run P w = .ok (.value (goInt m)) (w.setRow b cs'.toArray):=by
   unfold execOp
   simp only[ho,resolve,invoke,builtin,Sem.run_bind,Sem.run_pure,Result.andThen_ok,List.map_toArray,List.map_cons,List.map_nil,g2,q1,h3,hrun]
  have K0:iF G w G (w.setRow b cs'.toArray) []:=⟨fun _ h=>h,fun b' o hb'=>bj ((cj w b cs'.toArray).block b' (hsat.heap.fb b' hb') (fun e=>by simp at e;subst e;exact hnF hb')),fun _ _=>rfl⟩
  have r1:=(ay.split m h4).1
  rw[aG h5 hm1]at r1
  have r2:=(ay.split m q2).2
  rw[aG q3 hm2]at r2
  have r3:=ay.append r1 r2
  have hl2:(ys.take m++xs.drop m).length=xs.length:=by rw[List.length_append,List.length_take,List.length_drop];omega
  have hnewB:bH G (w.setRow b cs'.toArray) (.list e s (ys.take m++xs.drop m)) (G.β l):=by
   refine⟨some ⟨b,0,none⟩,cap,news.take (m * s)++cells.drop (m * s),by rw[q1,hl2],ay.mono (fun _ h=>h) K0.fcell _ _ r3,?_,?_⟩
   ·intro q hq
    rcases List.mem_append.1 hq with hq|hq
    ·exact h5 q (List.mem_of_mem_take hq)
    ·exact q3 q (List.mem_of_mem_drop hq)
   ·rw[hl2,q1]
    refine⟨by rw[List.length_append,htl,List.length_drop];omega,.inr ⟨b,cap,cs'.toArray,rfl,Nat.zero_le _,setRow_heap w b cur cs'.toArray e (0,0) p5,pnc,pcm,?_,?_⟩⟩
    ·rw[List.size_toArray,hcs',List.length_append,htl,List.length_drop,hcl3];omega
    ·rw[hcs']
     simp only
     rw[List.take_append,htl,List.take_of_length_le (by rw[htl];omega),←p6,List.drop_take]
  have hx:=Ext.mkG hsat.heap (some b) (cj w b cs'.toArray) (some l) (fun k hk=>⟨_,by cases hk;exact hl'⟩) (fun k hk=>⟨l,rfl,by cases hk;exact .inl g1⟩) l (G.β l) (.list e s (ys.take m++xs.drop m)) (G.φ l) (.inl rfl) [] (.inr ⟨rfl,rfl⟩) (by simp) (fun k hk=> .inl ⟨l,rfl,hk⟩) (by rw[eO];exact hnewB) (by rw[eO];exact hinn)
  rw[dZ h' l (.list e s (ys.take m++xs.drop m)) (some l) (.inl rfl)]at hx
  exact dm hexec (hK _ _ _ hx (by unfold ar;unfold aO;exact⟨rfl,rfl⟩))
theorem He {α:Type} (A B C:List α) (N:Nat) (h:A.length+B.length≤N):(A++B++C).take N=A++(B++C.take (N - (A.length+B.length))):=by
 rw[List.take_append,List.take_of_length_le (by simp;omega),List.append_assoc]
 simp
theorem qy {N:Nat} {P:Program} {o:Oper} {R:Operand→S} {h:Nat→Option aA} {t t' e:TypeId} {x y:Operand} {l s off n k i:Nat} {p p':List Nat} {xs:List T} {m:Nat} (hm:min k n=m) (hm0:0 < m) (ho:o.op = .call {callee:=.builtin .copy,args:=#[x,y],argTypes:=#[t,t']}) (he:aK P t=some e) (hs:bY P e=some s)
  (hx:R x = .wn l p off n) (hy:R y = .wn l p' 0 k) (hl:h l=some (.list e s xs)) (hoff:off=i * s) (hi:i+n≤xs.length) (hk:k≤xs.length) :
  bm N P o R h ⟨.t (.int (m:Nat)),[(l,some (.list e s (xs.take i++(xs.take m++xs.drop (i+m)))))],[l],[]⟩:=by
 intro W G0 A G g h' a w Q K hsat hop hfp _ hK
 have h1:=hsat.eval x
 rw[hop x (by simp[ho,Op.operands,Call.operands]),hx]at h1
 unfold ar at h1
 have h2:=hsat.eval y
 rw[hop y (by simp[ho,Op.operands,Call.operands]),hy]at h2
 unfold ar at h2
 obtain⟨b,o1,c1,g1,g2,g3,g4,_,_⟩:=h1
 obtain⟨b2,o2,c2,r1,r2,r3,r4,_,_⟩:=h2
 obtain rfl:b=b2:=by rw[g1]at r1;exact Option.some.inj r1
 obtain rfl:=g4 (.inl (by omega))
 obtain rfl:=r4 (.inr rfl)
 subst hoff
 have hl':h' l=some (.list e s xs):=by rw[hfp l (by simp)];exact hl
 have hinn:=hsat.heap.inn l _ hl'
 obtain⟨x1,cap,cells,q1,q2,q3,q4⟩:=hsat.heap.rep l _ hl'
 have hm1:m≤k:=by omega
 have hm2:m≤n:=by omega
 have hu:=bp he
 have hs':(P.info? e).map (·.size)=some s:=by have:=hs;unfold bY at this;exact this
 have hnF:=hsat.heap.sep l _ b hl' (.inl g1)
 rw[q1]at q4
 have hb:aW (.slice x1 xs.length cap)=some b:=by rw[←q1];exact g1
 obtain⟨rfl,cur,p5,pnc,pcm,pcs,p6⟩:=iw q4 hb
 have hcl:=ay.widths _ _ q2
 rw[bt q3]at hcl
 have hml:m * s≤xs.length * s:=Nat.mul_le_mul_right _ (by omega)
 have him:(i+m) * s≤xs.length * s:=Nat.mul_le_mul_right _ (by omega)
 have hims:(i+m) * s=i * s+m * s:=Nat.add_mul _ _ _
 have hnc:xs.length * s≤cap * s:=Nat.mul_le_mul_right _ pnc
 have hcl3:cur.toList.length=cap * s:=by rw[Array.length_toList,pcs]
 have htl:(cells.take (m * s)).length=m * s:=by rw[List.length_take];omega
 have hrun:=run_copy_cells (P:=P) w t t' o.type e s m b (i * s) n c1 ⟨b,0,none⟩ k c2 cur e (cells.take (m * s)) hu hs' p5 (by show min k n=m;exact hm) htl (fun j v hj=>by
   rw[List.getElem?_take]at hj
   split at hj
   ·exact World.ownsRow.cells q4 (g:=b) rfl _ _ hj
   ·cases hj) (by rw[htl];omega) (fun u hu=>ay.one xs cells q2 u (List.mem_of_mem_take hu))
 rw[htl]at hrun
 obtain⟨cs',hcs'⟩:∃ cs',cur.toList.take (i * s)++cells.take (m * s)++cur.toList.drop (i * s+m * s)=cs':=⟨_,rfl⟩
 rw[hcs']at hrun
 have hexec:(execOp a.eval o).run P w = .ok (.value (goInt m)) (w.setRow b cs'.toArray):=by
  unfold execOp
  simp only[ho,resolve,invoke,builtin,Sem.run_bind,Sem.run_pure,Result.andThen_ok,List.map_toArray,List.map_cons,List.map_nil,g2,r2,hrun]
 have hcell:∀ b' o',G.F b'→(w.setRow b cs'.toArray).cell? ⟨b',o',none⟩=w.cell? ⟨b',o',none⟩:=fun b' o' hF=>bj ((cj w b cs'.toArray).block b' (hsat.heap.fb b' hF) (fun e=>by simp at e;subst e;exact hnF hF))
 have hlen:(xs.take i++(xs.take m++xs.drop (i+m))).length=xs.length:=by simp only[List.length_append,List.length_take,List.length_drop];omega
 have e1:=(ay.split i q2).1
 rw[aG q3 (by omega)]at e1
 have e2:=(ay.split m q2).1
 rw[aG q3 (by omega)]at e2
 have e3:=(ay.split (i+m) q2).2
 rw[aG q3 (by omega),hims]at e3
 have hnewB:bH G (w.setRow b cs'.toArray) (.list e s (xs.take i++(xs.take m++xs.drop (i+m)))) (G.β l):=by
  refine⟨some ⟨b,0,none⟩,cap,cells.take (i * s)++(cells.take (m * s)++cells.drop (i * s+m * s)),by rw[q1,hlen],?_,?_,?_⟩
  ·exact ay.append (ay.mono (fun _ h=>h) hcell _ _ e1) (ay.append (ay.mono (fun _ h=>h) hcell _ _ e2) (ay.mono (fun _ h=>h) hcell _ _ e3))
  ·intro z hz
   rcases List.mem_append.1 hz with hz|hz
   ·exact q3 z (List.mem_of_mem_take hz)
   ·rcases List.mem_append.1 hz with hz|hz
    ·exact q3 z (List.mem_of_mem_take hz)
    ·exact q3 z (List.mem_of_mem_drop hz)
  ·rw[hlen,q1]
   refine⟨by simp only[List.length_append,List.length_take,List.length_drop];omega,.inr ⟨b,cap,cs'.toArray,rfl,Nat.zero_le _,setRow_heap w b cur cs'.toArray e (0,0) p5,pnc,pcm,?_,?_⟩⟩
   ·rw[List.size_toArray,←hcs'];simp only[List.length_append,List.length_take,List.length_drop];omega
   ·rw[←hcs']
    simp only
    have f1:cells.take (i * s)=cur.toList.take (i * s):=by rw[←p6,List.take_take,Nat.min_eq_left (by omega)]
    have f2:cells.drop (i * s+m * s)=(cur.toList.drop (i * s+m * s)).take (xs.length * s - (i * s+m * s)):=by rw[←p6,List.drop_take]
    have f3:(cur.toList.take (i * s)).length=i * s:=by rw[List.length_take];omega
    rw[f1,f2,He _ _ _ _ (by rw[f3,htl];omega),f3,htl]
 have hx:=Ext.mkG hsat.heap (some b) (cj w b cs'.toArray) (some l) (fun k hk=>⟨_,by cases hk;exact hl'⟩) (fun k hk=>⟨l,rfl,by cases hk;exact .inl g1⟩) l (G.β l) (.list e s (xs.take i++(xs.take m++xs.drop (i+m)))) (G.φ l) (.inl rfl) [] (.inr ⟨rfl,rfl⟩) (by simp) (fun k hk=> .inl ⟨l,rfl,hk⟩) (by rw[eO];exact hnewB) (by rw[eO];exact hinn)
 rw[dZ h' l (.list e s (xs.take i++(xs.take m++xs.drop (i+m)))) (some l) (.inl rfl)]at hx
 exact dm hexec (hK _ _ _ hx (by unfold ar;unfold aO;exact⟨rfl,rfl⟩))
def HB (b:ByteArray) (l r:Nat):ByteArray:=⟨⟨(b.data.toList.drop l).take (r - l)⟩⟩
theorem ir (b:ByteArray) (l r:Nat):b.extract l r=HB b l r:=by
 apply ByteArray.ext
 rw[ByteArray.data_extract]
 apply Array.toList_inj.1
 simp only[HB,Array.toList_extract,List.extract_eq_take_drop]
theorem sJ {N:Nat} {P:Program} {o:Oper} {R:Operand→S} {h:Nat→Option aA} {t:TypeId} {x:Operand} {lo hi:Option Operand} {b:ByteArray} {l hb:Int} (ho:o.op = .slice t x lo hi none) (hs:iS P t=true) (hx:R x = .t (.lit (.string b)))
  (hlo:ia R 0 lo=some l) (hhi:ia R b.size hi=some hb) (h0:0≤l) (h1:l≤hb) (h2:hb≤b.size):bm N P o R h ⟨.t (.lit (.string (HB b l.toNat hb.toNat))),[],[],[]⟩:=
 aH fun G h' a w hh hop _=>by
  have h3:=hop x (by simp[ho,Op.operands])
  rw[hx]at h3
  unfold ar at h3
  unfold aO at h3
  refine⟨.string (HB b l.toNat hb.toNat),?_,by unfold ar;unfold aO;exact⟨rfl,rfl⟩⟩
  unfold execOp
  simp only[ho,h3.1]
  refine bh ?_
  have hv:∀ (q:Option Operand) (dd m:Int),(∀ x,q=some x→ar G w (R x) (a.eval x))→ia R dd q=some m→(q=none∧m=dd)∨∃ x k,q=some x∧a.eval x = .int k m:=by
   intro q dd m hq hm
   cases q with
   | none=>simp[ia]at hm;exact .inl ⟨rfl,hm.symm⟩
   | some x=>
    simp only[ia]at hm
    split at hm
    ·rename_i k n hx
     simp at hm
     subst hm
     have:=hq x rfl
     rw[hx]at this
     unfold ar at this;unfold aO at this
     exact .inr ⟨x,k,rfl,this.1⟩
    ·cases hm
  have e1:∀ k,(Instr.sliceBound (.int k hb) b.size .sliceAlen).run P w = .ok hb.toNat w:=by
   intro k
   simp[Instr.sliceBound,asIntOf,show (0:Int)≤hb by omega,show hb≤(b.size:Int) by omega]
  have e2:∀ k,(Instr.sliceBound (.int k l) hb.toNat .sliceB).run P w = .ok l.toNat w:=by
   intro k
   simp[Instr.sliceBound,asIntOf,h0,show l≤((hb.toNat:Nat):Int) by omega]
   try (intro hq;exact absurd hq (by omega))
  rw[run_sliceAt_string (h:=eZ hs)]
  rcases hv lo 0 l (fun x hx=>hop x (by simp[ho,Op.operands,hx])) hlo with ⟨rfl,rfl⟩|⟨x,k,rfl,hx⟩<;>rcases hv hi b.size hb (fun x hx=>hop x (by simp[ho,Op.operands,hx])) hhi with ⟨rfl,rfl⟩|⟨y,k',rfl,hy⟩
  ·simp[Instr.slice,run_underlying (eZ hs),Instr.sliceBounds,ir]
  ·simp[Instr.slice,run_underlying (eZ hs),Instr.sliceBounds,hy,e1,ir]
  ·have e2':(Instr.sliceBound (.int k l) b.size .sliceB).run P w = .ok l.toNat w:=by have:=e2 k;simpa using this
   simp[Instr.slice,run_underlying (eZ hs),Instr.sliceBounds,hx,e2',ir]
  ·simp[Instr.slice,run_underlying (eZ hs),Instr.sliceBounds,hx,hy,e1,e2,ir]
end Go.Proofs.YtocndodilpimnaaGreat.Sy
