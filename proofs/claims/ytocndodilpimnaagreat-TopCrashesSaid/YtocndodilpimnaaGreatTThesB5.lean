/- Several texts of this proof, one behind the other. No condition. -/
import Derived.Test.YtocndodilpimnaaGreatTThesB4
import Derived.Orders
set_option maxRecDepth 100000
set_option maxHeartbeats 16000000
set_option linter.unusedVariables false
set_option linter.unusedSimpArgs false
namespace Go.Proofs.YtocndodilpimnaaGreat.Sy
open Go.RowKit
def qH (g:Nat→S) (h:Nat→Option aA) (l:Nat):Prop:=h l=none∧(∀ t,(g t).free l=true)∧∀ k b,h k=some b→b.free l=true
def Je:aM:=⟨.tup [],[],[],[]⟩
def oN:Option aM→aM
 | some E=>E
 | none=>Je
def LP (g:Nat→S) (o:Oper) (e:Option aM):Nat→S:=jM g o.dst (oN e).r
def OD (h:Nat→Option aA) (e:Option aM):Nat→Option aA:=dK (oN e).u h
def GS (s:S):Option Bool→Prop
 | some v=>s = .t (.lit (.bool v))
 | none=>s = .tup []
def Ab (N:Nat) (P:Program) (all:List Oper) (o:Oper) (g:Nat→S) (h:Nat→Option aA) (e:Option aM):Prop:=
 (∀ t,o.dst=some t→t < N)∧
 match o.guard with
 | none=>∃ E,e=some E∧bm N P o (lg g) h E
 | some (j,b)=>∃ oj t c,all[j]? = some oj∧oj.dst=some t∧GS (g t) c∧((c=some b∧∃ E,e=some E∧bm N P o (lg g) h E)∨(c≠some b∧e=none))
section
variable {N:Nat} {P:Program} {W:World} {G0:Gh} {A:Nat→Prop}
theorem HI {ops:Array Oper} {o:Oper} {G:Gh} {g:Nat→S} {h:Nat→Option aA} {a:Act} {w:World} (hs:bT N W G0 A G g h a w) {j:Nat} {b:Bool} (hg:o.guard=some (j,b)) {oj:Oper} {t:Nat} {c:Option Bool}
  (hj:ops[j]? = some oj) (ht:oj.dst=some t) (hc:GS (g t) c) (htN:t < N):Region.wanted o (yielded ops a.tmps)=decide (c=some b):=by
 have h1:=hs.slots t
 have hlt:t < a.tmps.size:=by rw[hs.size];exact htN
 rw[Array.getD_eq_getD_getElem?,Array.getElem?_eq_getElem hlt]at h1
 cases c with
 | none=>
  simp only[GS]at hc
  rw[hc]at h1
  unfold ar at h1
  obtain⟨us,h2,h3⟩:=h1
  unfold aD at h3
  subst h3
  simp only[Option.getD_some]at h2
  unfold Region.wanted yielded
  simp[hg,hj,ht,Array.getElem?_eq_getElem hlt,h2]
 | some c=>
  simp only[GS]at hc
  rw[hc]at h1
  unfold ar at h1;unfold aO at h1
  have h2:a.tmps[t]? = some (.bool c):=by
   have:=h1.1
   rw[Array.getElem?_eq_getElem hlt]
   simpa using this
  unfold Region.wanted yielded
  simp[hg,hj,ht,h2]
  cases c<;>cases b<;>rfl
theorem yO {ops:Array Oper} {i:Nat} {o:Oper} (ho:ops[i]? = some o) {G:Gh} {g:Nat→S} {h:Nat→Option aA} {a:Act} {w:World} {e:Option aM} {Q:Exit→Act→World→Prop} {K:Act→World→Prop}
  (hs:bT N W G0 A G g h a w) (hst:Ab N P ops.toList o g h e) (hd:∀ (j:Nat) (oj:Oper) (t:Nat),ops[j]? = some oj→oj.dst=some t→t < N) (hnw:∀ l∈(oN e).nw,100≤l∧qH g h l)
  (hK:∀ G' a' w',bT N W G0 A G' (LP g o e) (OD h e) a' w'→K a' w'):wpOp P ops Q i K a w:=by
 obtain⟨hdst,hst⟩:=hst
 have go:∀ E,e=some E→bm N P o (lg g) h E→o.wp P a w K Q:=by
  rintro E rfl hE
  refine hE W G0 A G g h a w Q K hs (fun _ _=>rfl) (fun _ _=>rfl) (fun l hl=>(hnw l hl).2) ?_
  intro v G' w' hx hr
  exact hK G' _ _ (hs.step hx (fun l hl=>(hnw l hl).1) (fun l hl=>(hnw l hl).2.2.1) hr hdst)
 unfold wpOp
 simp only[ho]
 cases hg:o.guard with
 | none=>
  rw[hg]at hst
  obtain⟨E,h1,h2⟩:=hst
  rw[if_pos (by simp[Region.wanted,hg])]
  exact .inl (go E h1 h2)
 | some q=>
  obtain⟨j,b⟩:=q
  rw[hg]at hst
  obtain⟨oj,t,c,h1,h2,h3,h4⟩:=hst
  have hoj:ops[j]? = some oj:=by simpa using h1
  have hw:=HI hs hg hoj h2 h3 (hd j oj t hoj h2)
  rcases h4 with ⟨rfl,E,h5,h6⟩|⟨h5,rfl⟩
  ·rw[if_pos (by rw[hw];simp)]
   exact .inl (go E h5 h6)
  ·rw[if_neg (by rw[hw];simpa using h5)]
   exact hK G _ _ (hs.step (Ext.refl hs.heap) (by simp) (by simp) (by unfold ar;exact⟨[],rfl,by unfold aD;rfl⟩) hdst)
end
inductive lH (N:Nat) (P:Program) (all:List Oper):List Oper→(Nat→S)→(Nat→Option aA)→List (Option aM)→(Nat→S)→(Nat→Option aA)→Prop
 | nil (g h):lH N P all [] g h [] g h
 | cons (o r g h e es g' h') (hs:Ab N P all o g h e) (hn:∀ l∈(oN e).nw,100≤l∧qH g h l) (hr:lH N P all r (LP g o e) (OD h e) es g' h'):lH N P all (o :: r) g h (e :: es) g' h'
section
variable {N:Nat} {P:Program} {W:World} {G0:Gh} {A:Nat→Prop}
theorem rf {ops:Array Oper} {Q:Exit→Act→World→Prop} (hd:∀ (j:Nat) (oj:Oper) (t:Nat),ops[j]? = some oj→oj.dst=some t→t < N) :
  ∀ {r:List Oper} {k:Nat} {g g':Nat→S} {h h':Nat→Option aA} {es:List (Option aM)},lH N P ops.toList r g h es g' h'→(∀ j,r[j]? = ops[k+j]?)→
   (∀ G a w,bT N W G0 A G g' h' a w→Q .normal a w)→∀ G a w,bT N W G0 A G g h a w→wpOps P ops Q (List.range' k r.length) a w:=by
 intro r
 induction r with
 | nil=>
  intro k g g' h h' es hc _ hQ G a w hs
  cases hc
  exact hQ G a w hs
 | cons o r ih=>
  intro k g g' h h' es hc hidx hQ G a w hs
  cases hc with
  | cons _ _ _ _ e es _ _ hst hn hr=>
   have h0:ops[k]? = some o:=by simpa using (hidx 0).symm
   simp only[List.length_cons,List.range'_succ]
   rw[wpOps_cons]
   refine yO h0 hs hst hd hn ?_
   intro G' a' w' hs'
   exact ih hr (fun j=>by have:=hidx (j+1);simpa [Nat.add_assoc,Nat.add_comm 1 j] using this) hQ G' a' w' hs'
theorem rW {id:Nat} {ops:Array Oper} {Q:Exit→Act→World→Prop} {g g':Nat→S} {h h':Nat→Option aA} {es:List (Option aM)} (hd:∀ (j:Nat) (oj:Oper) (t:Nat),ops[j]? = some oj→oj.dst=some t→t < N)
  (hc:lH N P ops.toList ops.toList g h es g' h') (hQ:∀ G a w,bT N W G0 A G g' h' a w→Q .normal a w) {G:Gh} {a:Act} {w:World} (hs:bT N W G0 A G g h a w):(Code.region id ops false).wp P Q a w:=by
 refine wp_region ?_
 have:=rf (k:=0) hd hc (fun j=>by simp) hQ G a w hs
 rw[Array.length_toList]at this
 rw[List.range_eq_range']
 exact this
end
def di:List Tmp→Bool
 | []=>true
 | t :: r=>!r.contains t && di r
def dN:List Oper→List (List Nat)→List (List Nat)
 | [],acc=>acc
 | o :: r,acc=>dN r (acc++[(o.after.toList.filter fun e=>Region.binds .any e).foldr (fun e l=>e.on :: (acc.getD e.on []++l)) []])
def kr (ops:List Oper):List (List Nat):=dN ops []
def HP (an:List (List Nat)) (i j:Nat):Bool:=(an.getD j []).contains i || (an.getD i []).contains j
def aA.frees (l:Nat):Option aA→Bool
 | some b=>b.free l
 | none=>true
def apart (ops:List Oper) (es:List (Option aM)) (an:List (List Nat)) (i j:Nat):Bool:=
 let oi:=ops.getD i default
 let oj:=ops.getD j default
 let ei:=oN (es.getD i none)
 let ej:=oN (es.getD j none)
 (match oi.dst with|some t=>!(oj.looksAt ops.toArray).contains t|none=>true) &&
 ei.u.all (fun q=>!ej.fp.contains q.1 && !(ej.u.map (·.1)).contains q.1)
def iz (ops:List Oper) (es:List (Option aM)) (i j:Nat):Bool:=
 let ei:=oN (es.getD i none)
 let ej:=oN (es.getD j none)
 ej.nw.all fun l=>ei.r.free l && ei.u.all fun q=>q.1 != l && aA.frees l q.2
def pR (ops:List Oper) (es:List (Option aM)):Bool:=
 let an:=kr ops
 let n:=ops.length
 Region.noSelect ops.toArray && decide (es.length=n) && di (ops.filterMap (·.dst)) &&
 (List.range n).all fun j=>
  ((ops.getD j default).after.toList.all fun e=>!Region.binds .any e || decide (e.on < j)) &&
  (List.range n).all fun i=>i == j || ((HP an i j || apart ops es an i j) && ((an.getD i []).contains j || iz ops es i j))
def mo (m i:Nat):Bool:=Nat.beq (Nat.land (Nat.shiftRight m i) 1) 1
theorem r9 (m i:Nat):mo m i=m.testBit i:=by
 unfold mo Nat.testBit
 show Nat.beq ((m >>> i) &&& 1) 1=((1 &&& (m >>> i)) != 0)
 rw[Nat.and_one_is_mod,Nat.one_and_eq_mod_two]
 rcases Nat.mod_two_eq_zero_or_one (m >>> i) with h|h<;>rw[h]<;>rfl
def wu (acc:List Nat) (o:Oper):Nat:=(o.after.toList.filter fun e=>Region.binds .any e).foldr (fun e m=>Nat.lor (Nat.shiftLeft 1 e.on) (Nat.lor (acc.getD e.on 0) m)) 0
def kA:List Oper→List Nat→List Nat
 | [],acc=>acc
 | o :: r,acc=>kA r (acc++[wu acc o])
def G8 (ops:List Oper):List Nat:=kA ops []
def s7 (ms:List Nat) (an:List (List Nat)):Prop:=ms.length=an.length∧∀ k i,(ms.getD k 0).testBit i=(an.getD k []).contains i
theorem Em {ms:List Nat} {an:List (List Nat)} (h:s7 ms an) (o:Oper) (i:Nat):(wu ms o).testBit i=((o.after.toList.filter fun e=>Region.binds .any e).foldr (fun e l=>e.on :: (an.getD e.on []++l)) []).contains i:=by
 unfold wu
 generalize (o.after.toList.filter fun e=>Region.binds .any e)=l
 induction l with
 | nil=>simp
 | cons e r ih=>
  simp only[List.foldr_cons]
  show (1 <<< e.on ||| (ms.getD e.on 0 ||| r.foldr (fun e m=>Nat.lor (Nat.shiftLeft 1 e.on) (Nat.lor (ms.getD e.on 0) m)) 0)).testBit i=_
  rw[Nat.testBit_or,Nat.testBit_or,ih,h.2 e.on i,Nat.one_shiftLeft,Nat.testBit_two_pow]
  simp only[List.contains_cons,List.contains_append]
  congr 1
  by_cases he:e.on=i
  ·simp[he]
  ·have he2:¬ i=e.on:=fun h=>he h.symm
   simp[he,he2]
theorem om:∀ (r:List Oper) {ms:List Nat} {an:List (List Nat)},s7 ms an→s7 (kA r ms) (dN r an)
 | [],ms,an,h=>h
 | o :: r,ms,an,h=>by
  simp only[kA,dN]
  refine om r ⟨by simp[h.1],fun k i=>?_⟩
  simp only[List.getD_eq_getElem?_getD]
  by_cases hk:k < an.length
  ·rw[List.getElem?_append_left (by rw[h.1];exact hk),List.getElem?_append_left hk]
   have:=h.2 k i
   simpa only[List.getD_eq_getElem?_getD] using this
  ·by_cases hk2:k=an.length
   ·subst hk2
    rw[List.getElem?_append_right (by rw[h.1];exact Nat.le_refl _),List.getElem?_append_right (Nat.le_refl _),h.1]
    simpa using Em h o i
   ·rw[List.getElem?_eq_none (by rw[List.length_append,h.1];simp;omega),List.getElem?_eq_none (by rw[List.length_append];simp;omega)]
    simp
theorem pF (ops:List Oper) (k i:Nat):mo ((G8 ops).getD k 0) i=((kr ops).getD k []).contains i:=by
 rw[r9]
 exact (om ops (ms:=[]) (an:=[]) ⟨rfl,fun k i=>by simp⟩).2 k i
def qO (ms:List Nat) (i j:Nat):Bool:=mo (ms.getD j 0) i || mo (ms.getD i 0) j
def mS (ops:List Oper) (es:List (Option aM)):Bool:=
 let an:=G8 ops
 let n:=ops.length
 Region.noSelect ops.toArray && decide (es.length=n) && di (ops.filterMap (·.dst)) &&
 (List.range n).all fun j=>
  ((ops.getD j default).after.toList.all fun e=>!Region.binds .any e || decide (e.on < j)) &&
  (List.range n).all fun i=>i == j || ((qO an i j || apart ops es [] i j) && (mo (an.getD i 0) j || iz ops es i j))
theorem CC (ops:List Oper) (es:List (Option aM)):mS ops es=pR ops es:=by
 unfold mS pR
 have h1:∀ i j,qO (G8 ops) i j=HP (kr ops) i j:=fun i j=>by unfold qO HP;rw[pF,pF]
 have h2:∀ i j,apart ops es [] i j=apart ops es (kr ops) i j:=fun i j=>rfl
 simp only[h1,h2,pF]
def gF (os:List Oper) (es:List (Option aM)) (g0:Nat→S) (L:Nat→Bool):Nat→Nat→S
 | 0=>g0
 | n+1=>if L n then LP (gF os es g0 L n) (os.getD n default) (es.getD n none) else gF os es g0 L n
def hF (es:List (Option aM)) (h0:Nat→Option aA) (L:Nat→Bool):Nat→Nat→Option aA
 | 0=>h0
 | n+1=>if L n then OD (hF es h0 L n) (es.getD n none) else hF es h0 L n
def keys (e:Option aM):List Nat:=(oN e).u.map (·.1)
theorem nL {u:List (Nat×Option aA)} {h:Nat→Option aA} {l:Nat} (hl:l∉u.map (·.1)):dK u h l=h l:=by
 induction u with
 | nil=>rfl
 | cons q r ih=>
  obtain⟨k,b⟩:=q
  simp only[List.map_cons,List.mem_cons,not_or]at hl
  simp only[dK,cY]
  rw[if_neg hl.1];exact ih hl.2
theorem FY {u:List (Nat×Option aA)} {h h':Nat→Option aA} {l:Nat} (hl:l∈u.map (·.1)):dK u h l=dK u h' l:=by
 induction u with
 | nil=>simp at hl
 | cons q r ih=>
  obtain⟨k,b⟩:=q
  simp only[dK,cY]
  by_cases e:l=k
  ·rw[if_pos e,if_pos e]
  ·rw[if_neg e,if_neg e]
   simp only[List.map_cons,List.mem_cons]at hl
   exact ih (hl.resolve_left e)
theorem I1 {u:List (Nat×Option aA)} {h:Nat→Option aA} {l:Nat} {b:aA} (hb:dK u h l=some b):(l,some b)∈u∨(l∉u.map (·.1)∧h l=some b):=by
 induction u with
 | nil=>exact .inr ⟨by simp,hb⟩
 | cons q r ih=>
  obtain⟨k,b'⟩:=q
  simp only[dK,cY]at hb
  by_cases e:l=k
  ·subst e
   rw[if_pos rfl]at hb
   subst hb
   exact .inl (by simp)
  ·rw[if_neg e]at hb
   rcases ih hb with h1|⟨h1,h2⟩
   ·exact .inl (by simp[h1])
   ·exact .inr ⟨by simp only[List.map_cons,List.mem_cons,not_or];exact⟨e,h1⟩,h2⟩
theorem iK {g:Nat→S} {d:Option Tmp} {r:S} {t:Nat} (h:d≠some t):jM g d r t=g t:=by
 cases d with
 | none=>rfl
 | some k=>simp only[jM];rw[if_neg (fun e=>h (by rw[e]))]
theorem fM {g:Nat→S} {r:S} {t:Nat}:jM g (some t) r t=r:=by simp[jM]
section
variable {os:List Oper} {es:List (Option aM)} {g0:Nat→S} {h0:Nat→Option aA}
theorem ou {L L':Nat→Bool} {t:Nat}:∀ {n:Nat},(∀ i,i < n→(os.getD i default).dst=some t→L i=L' i)→gF os es g0 L n t=gF os es g0 L' n t
 | 0,_=>rfl
 | n+1,h=>by
  have ih:=ou (n:=n) (fun i hi=>h i (by omega))
  have h1:=h n (by omega)
  simp only[gF]
  by_cases hd:(os.getD n default).dst=some t
  ·rw[h1 hd]
   split
   ·unfold LP;rw[hd,fM,fM]
   ·exact ih
  ·have e:∀ g:Nat→S,LP g (os.getD n default) (es.getD n none) t=g t:=fun g=>iK hd
   split<;>split<;>(try simp only[e])<;>exact ih
theorem lQ {L L':Nat→Bool} {l:Nat}:∀ {n:Nat},(∀ i,i < n→l∈keys (es.getD i none)→L i=L' i)→hF es h0 L n l=hF es h0 L' n l
 | 0,_=>rfl
 | n+1,h=>by
  have ih:=lQ (n:=n) (fun i hi=>h i (by omega))
  have h1:=h n (by omega)
  simp only[hF]
  by_cases hd:l∈keys (es.getD n none)
  ·rw[h1 hd]
   split
   ·exact FY hd
   ·exact ih
  ·have e:∀ g:Nat→Option aA,OD g (es.getD n none) l=g l:=fun g=>nL hd
   split<;>split<;>(try simp only[e])<;>exact ih
theorem Fb {L:Nat→Bool} {t j:Nat}:∀ {n:Nat},j < n→L j=true→(os.getD j default).dst=some t→(∀ i,j < i→i < n→L i=true→(os.getD i default).dst≠some t)→gF os es g0 L n t=(oN (es.getD j none)).r
 | 0,h,_,_,_=>by omega
 | n+1,h,hL,hd,hno=>by
  simp only[gF]
  by_cases e:j=n
  ·subst e
   rw[if_pos hL]
   unfold LP
   rw[hd,fM]
  ·have ih:=Fb (n:=n) (by omega) hL hd (fun i h1 h2=>hno i h1 (by omega))
   split
   ·rename_i hn
    rw[←ih]
    exact iK (hno n (by omega) (by omega) hn)
   ·exact ih
theorem F8 {L:Nat→Bool} {l j:Nat} {hh:Nat→Option aA}:∀ {n:Nat},j < n→L j=true→l∈keys (es.getD j none)→(∀ i,j < i→i < n→L i=true→l∉keys (es.getD i none))→hF es h0 L n l=OD hh (es.getD j none) l
 | 0,h,_,_,_=>by omega
 | n+1,h,hL,hd,hno=>by
  simp only[hF]
  by_cases e:j=n
  ·subst e
   rw[if_pos hL]
   exact FY hd
  ·have ih:=F8 (hh:=hh) (n:=n) (by omega) hL hd (fun i h1 h2=>hno i h1 (by omega))
   split
   ·rename_i hn
    rw[←ih]
    exact nL (hno n (by omega) (by omega) hn)
   ·exact ih
theorem Kk {L:Nat→Bool} {p:S→Prop}:∀ {n:Nat},(∀ t,p (g0 t))→(∀ i,i < n→L i=true→p (oN (es.getD i none)).r)→∀ t,p (gF os es g0 L n t)
 | 0,h,_,t=>h t
 | n+1,h,h2,t=>by
  have ih:=Kk (n:=n) h (fun i hi=>h2 i (by omega)) t
  simp only[gF]
  split
  ·rename_i hn
   unfold LP
   cases hd:(os.getD n default).dst with
   | none=>exact ih
   | some k=>
    by_cases e:k=t
    ·subst e;rw[fM];exact h2 n (by omega) hn
    ·rw[iK (by simpa using e)];exact ih
  ·exact ih
theorem Eu {L:Nat→Bool} {p:Nat→aA→Prop}:∀ {n:Nat},(∀ l b,h0 l=some b→p l b)→(∀ i,i < n→L i=true→∀ l b,(l,some b)∈(oN (es.getD i none)).u→p l b)→∀ l b,hF es h0 L n l=some b→p l b
 | 0,h,_,l,b,e=>h l b e
 | n+1,h,h2,l,b,e=>by
  simp only[hF]at e
  split at e
  ·rename_i hn
   rcases I1 e with h3|⟨_,h3⟩
   ·exact h2 n (by omega) hn l b h3
   ·exact Eu (n:=n) h (fun i hi=>h2 i (by omega)) l b h3
  ·exact Eu (n:=n) h (fun i hi=>h2 i (by omega)) l b e
end
theorem jG:∀ (r:List Oper) (acc:List (List Nat)),(dN r acc).length=acc.length+r.length∧(∀ k,k < acc.length→(dN r acc).getD k []=acc.getD k [])∧
  ∀ k o,r[k]? = some o→(dN r acc).getD (acc.length+k) []=(o.after.toList.filter fun e=>Region.binds .any e).foldr (fun e l=>e.on :: (((dN r acc).take (acc.length+k)).getD e.on []++l)) []
 | [],acc=>⟨rfl,fun _ _=>rfl,fun k o h=>by simp at h⟩
 | o :: r,acc=>by
  simp only[dN]
  generalize hx:List.foldr (fun (e:Edge) (l:List Nat)=>e.on :: (acc.getD e.on []++l)) [] (List.filter (fun e=>Region.binds .any e) o.after.toList)=x
  have ih:=jG r (acc++[x])
  generalize dN r (acc++[x])=Z at ih ⊢
  obtain⟨h1,h2,h3⟩:=ih
  simp only[List.length_append,List.length_cons,List.length_nil]at h1 h2 h3
  have h4:∀ k,k < acc.length→Z.getD k []=acc.getD k []:=by
   intro k hk
   rw[h2 k (by omega)]
   simp[List.getD,List.getElem?_append_left hk]
  refine⟨by simp only[List.length_cons,h1];omega,h4,?_⟩
  intro k o' hk
  cases k with
  | zero=>
   simp at hk
   subst hk
   simp only[Nat.add_zero]
   rw[h2 acc.length (by omega)]
   have htake:Z.take acc.length=acc:=by
    apply List.ext_getElem
    ·rw[List.length_take];omega
    ·intro i hi hi'
     have:=h4 i hi'
     have hl:i < Z.length:=by omega
     simp only[List.getD,List.getElem?_eq_getElem hl,List.getElem?_eq_getElem hi',Option.getD_some]at this
     rw[List.getElem_take];exact this
   rw[htake,hx]
   simp[List.getD]
  | succ k=>
   have:=h3 k o' (by simpa using hk)
   rw[show acc.length+(k+1)=acc.length+(0+1)+k by omega]
   exact this
theorem A7 {os:List Oper} {j i:Nat} {o:Oper} (ho:os[j]? = some o) (hlt:∀ e∈o.after.toList,Region.binds .any e=true→e.on < j) (hi:i∈(kr os).getD j []) :
  ∃ e∈o.after.toList,Region.binds .any e=true∧(i=e.on∨i∈(kr os).getD e.on []):=by
 have h1:=(jG os []).2.2 j o ho
 simp only[List.length_nil,Nat.zero_add]at h1
 unfold kr at hi ⊢
 rw[h1]at hi
 have key:∀ l:List Edge,(∀ e∈l,e∈o.after.toList∧Region.binds .any e=true)→i∈l.foldr (fun e l=>e.on :: (((dN os []).take j).getD e.on []++l)) []→
   ∃ e∈o.after.toList,Region.binds .any e=true∧(i=e.on∨i∈(dN os []).getD e.on []):=by
  intro l
  induction l with
  | nil=>intro _ h;simp at h
  | cons e l ih=>
   intro hl h
   simp only[List.foldr_cons,List.mem_cons,List.mem_append]at h
   have he:=hl e (by simp)
   rcases h with h|h|h
   ·exact⟨e,he.1,he.2,.inl h⟩
   ·refine⟨e,he.1,he.2,.inr ?_⟩
    have:=hlt e he.1 he.2
    simp only[List.getD,List.getElem?_take,if_pos this]at h
    exact h
   ·exact ih (fun e' he'=>hl e' (by simp[he'])) h
 exact key _ (fun e he=>by rw[List.mem_filter]at he;exact he) hi
theorem EJ:∀ {os:List Oper},di (os.filterMap (·.dst))=true→∀ {i j:Nat} {oi oj:Oper} {t:Tmp},os[i]? = some oi→os[j]? = some oj→oi.dst=some t→oj.dst=some t→i=j
 | [],_,i,j,oi,oj,t,hi,_,_,_=>by simp at hi
 | x :: r,h,i,j,oi,oj,t,hi,hj,h1,h2=>by
  have hr:di (r.filterMap (·.dst))=true:=by
   cases hx:x.dst with
   | none=>simpa [List.filterMap_cons,hx] using h
   | some k=>
    simp only[List.filterMap_cons,hx,di,Bool.and_eq_true]at h
    exact h.2
  have hmem:∀ {k:Nat} {o:Oper},r[k]? = some o→o.dst=some t→x.dst≠some t:=by
   intro k o hk ho hx
   simp only[List.filterMap_cons,hx,di,Bool.and_eq_true,Bool.not_eq_true']at h
   have:t∈r.filterMap (·.dst):=List.mem_filterMap.2 ⟨o,List.mem_of_getElem? hk,ho⟩
   simp[this]at h
  cases i with
  | zero=>
   cases j with
   | zero=>rfl
   | succ j=>
    simp at hi hj
    subst hi
    exact (hmem hj h2 h1).elim
  | succ i=>
   cases j with
   | zero=>
    simp at hi hj
    subst hj
    exact (hmem hi h1 h2).elim
   | succ j=>
    simp only[List.getElem?_cons_succ]at hi hj
    rw[EJ hr hi hj h1 h2]
theorem bm.congr {N:Nat} {P:Program} {o:Oper} {R R':Operand→S} {h h':Nat→Option aA} {E:aM} (hd:bm N P o R h E) (hR:∀ x∈o.op.operands.toList,R x=R' x) (hh:∀ l∈E.fp,h l=h' l):bm N P o R' h' E:=by
 intro W G0 A G g h1 a w Q K hs hop hfp hnw hK
 exact hd W G0 A G g h1 a w Q K hs (fun x hx=>(hop x hx).trans (hR x hx).symm) (fun l hl=>(hfp l hl).trans (hh l hl).symm) hnw hK
theorem q7 {N:Nat} {P:Program} {all:List Oper} {g0:Nat→S} {h0:Nat→Option aA} {es:List (Option aM)}:∀ {r:List Oper} {k:Nat} {g g1:Nat→S} {h h1:Nat→Option aA} {er:List (Option aM)},
  lH N P all r g h er g1 h1→(∀ j,r[j]? = all[k+j]?)→(∀ j,er[j]? = es[k+j]?)→k+r.length=all.length→g=gF all es g0 (fun _=>true) k→h=hF es h0 (fun _=>true) k→
  (∀ j o,k≤j→all[j]? = some o→Ab N P all o (gF all es g0 (fun _=>true) j) (hF es h0 (fun _=>true) j) (es.getD j none))∧g1=gF all es g0 (fun _=>true) all.length∧h1=hF es h0 (fun _=>true) all.length∧er.length=r.length
 | [],k,g,g1,h,h1,er,hc,hr,he,hk,hg,hh=>by
  cases hc
  simp at hk
  subst hk
  refine⟨fun j o hj ho=>?_,hg,hh,rfl⟩
  rw[List.getElem?_eq_none (by omega)]at ho
  cases ho
 | o :: r,k,g,g1,h,h1,er,hc,hr,he,hk,hg,hh=>by
  cases hc with
  | cons _ _ _ _ e er' _ _ hst hn hrest=>
   have ho:all[k]? = some o:=by simpa using (hr 0).symm
   have hek:es[k]? = some e:=by simpa using (he 0).symm
   have hod:all.getD k default=o:=by simp[List.getD,ho]
   have hed:es.getD k none=e:=by simp[List.getD,hek]
   have ih:=q7 (es:=es) (g0:=g0) (h0:=h0) (k:=k+1) hrest (fun j=>by have:=hr (j+1);simpa [Nat.add_assoc,Nat.add_comm 1 j] using this) (fun j=>by have:=he (j+1);simpa [Nat.add_assoc,Nat.add_comm 1 j] using this)
    (by simp only[List.length_cons]at hk;omega) (by simp only[gF,if_true,hod,hed,←hg]) (by simp only[hF,if_true,hed,←hh])
   obtain⟨h2,h3,h4,h5⟩:=ih
   refine⟨fun j o' hj ho'=>?_,h3,h4,by simp[h5]⟩
   by_cases e':j=k
   ·subst e'
    rw[ho]at ho'
    cases ho'
    rw[hed,←hg,←hh]
    exact hst
   ·exact h2 j o' (by omega) ho'
theorem Nx {all:List Oper} {es:List (Option aM)} {g0:Nat→S} {j:Nat}:∀ {n:Nat},j≤n→gF all es g0 (fun i=>decide (i < j)) n=gF all es g0 (fun _=>true) j
 | 0,h=>by
        obtain rfl:j=0:=by omega
        rfl
 | n+1,h=>by
  by_cases e:j=n+1
  ·subst e
   have key:∀ m,m≤n+1→gF all es g0 (fun i=>decide (i < n+1)) m=gF all es g0 (fun _=>true) m:=by
    intro m
    induction m with
    | zero=>intro _;rfl
    | succ m ih=>
     intro hm
     simp only[gF,ih (by omega),if_true]
     rw[if_pos (by simp;omega)]
   exact key _ (Nat.le_refl _)
  ·simp only[gF]
   rw[if_neg (by simp;omega)]
   exact Nx (by omega)
theorem NQ {es:List (Option aM)} {h0:Nat→Option aA} {j:Nat}:∀ {n:Nat},j≤n→hF es h0 (fun i=>decide (i < j)) n=hF es h0 (fun _=>true) j
 | 0,h=>by
        obtain rfl:j=0:=by omega
        rfl
 | n+1,h=>by
  by_cases e:j=n+1
  ·subst e
   have key:∀ m,m≤n+1→hF es h0 (fun i=>decide (i < n+1)) m=hF es h0 (fun _=>true) m:=by
    intro m
    induction m with
    | zero=>intro _;rfl
    | succ m ih=>
     intro hm
     simp only[hF,ih (by omega),if_true]
     rw[if_pos (by simp;omega)]
   exact key _ (Nat.le_refl _)
  ·simp only[hF]
   rw[if_neg (by simp;omega)]
   exact NQ (by omega)
section
variable {N:Nat} {P:Program} {W:World} {G0:Gh} {A:Nat→Prop}
theorem wH {os:List Oper} {Q:Exit→Act→World→Prop} {g0 g1:Nat→S} {h0 h1:Nat→Option aA} {es:List (Option aM)}
  (hd:∀ (j:Nat) (oj:Oper) (t:Nat),os[j]? = some oj→oj.dst=some t→t < N)
  (hc:lH N P os os g0 h0 es g1 h1) (hok:pR os es=true) (hfr:∀ e∈es,∀ l∈(oN e).nw,100≤l∧qH g0 h0 l)
  (hQ:∀ G a w,bT N W G0 A G g1 h1 a w→Q .normal a w) {G:Gh} {a:Act} {w:World} (hs:bT N W G0 A G g0 h0 a w):wpAny P .any os.toArray Q os.toArray.size (Array.replicate os.toArray.size false) a {w with drawn:=w.drawn+1}:=by
 obtain⟨hsteps,hg1,hh1,hlen⟩:=q7 (es:=es) (g0:=g0) (h0:=h0) (k:=0) hc (fun j=>by simp) (fun j=>by simp) (by simp) rfl rfl
 simp only[pR,Bool.and_eq_true,decide_eq_true_eq,List.all_eq_true,List.mem_range]at hok
 obtain⟨⟨⟨hsel,hlen2⟩,hnd⟩,hpair⟩:=hok
 have hedge:∀ j o,os[j]? = some o→∀ e∈o.after.toList,Region.binds .any e=true→e.on < j:=by
  intro j o ho e he hb
  have hj:j < os.length:=(List.getElem?_eq_some_iff.1 ho).1
  have:=(hpair j hj).1 e (by simpa [List.getD,ho] using he)
  simpa [hb] using this
 have hanc:∀ j,∀ i∈(kr os).getD j [],i < j:=by
  intro j
  induction j using Nat.strongRecOn with
  | _ j ih=>
   intro i hi
   cases ho:os[j]? with
   | none=>
    have hl:=(jG os []).1
    simp only[List.length_nil,Nat.zero_add]at hl
    have:(kr os).getD j []=[]:=by
     have hj:=List.getElem?_eq_none_iff.1 ho
     unfold kr
     simp only[List.getD,List.getElem?_eq_none (show (dN os []).length≤j by omega),Option.getD_none]
    rw[this]at hi
    cases hi
   | some o=>
    obtain⟨e,he,hb,h⟩:=A7 ho (hedge j o ho) hi
    have:=hedge j o ho e he hb
    rcases h with rfl|h
    ·exact this
    ·have:=ih e.on this i h;omega
 have hrel:∀ {i j:Nat},i < os.length→j < os.length→i≠j→(HP (kr os) i j=true∨apart os es (kr os) i j=true)∧(j∈(kr os).getD i []∨iz os es i j=true):=by
  intro i j hi hj hij
  have:=(hpair j hj).2 i hi
  have hne:(i == j)=false:=by simpa using hij
  simpa [hne] using this
 let Cl:(Nat→Bool)→Prop:=fun L=>∀ j,j < os.length→L j=true→∀ i∈(kr os).getD j [],L i=true
 have hconf:∀ {L:Nat→Bool} {j i:Nat},Cl L→j < os.length→L j=false→(∀ k∈(kr os).getD j [],L k=true)→i < os.length→i≠j→HP (kr os) i j=true→L i=decide (i < j):=by
  intro L j i hL hj hLj hp hi hij ho
  unfold HP at ho
  simp only[Bool.or_eq_true,List.contains_iff_mem]at ho
  rcases ho with ho|ho
  ·have h1:=hanc j i ho
   rw[hp i ho];simp[h1]
  ·have h1:=hanc i j ho
   cases hLi:L i with
   | true=>rw[hL i hi hLi j ho]at hLj;cases hLj
   | false=>simp;omega
 have hapart_g:∀ {i j:Nat} {oi oj:Oper} {t:Nat},os[i]? = some oi→os[j]? = some oj→oi.dst=some t→t∈oj.looksAt os.toArray→apart os es (kr os) i j=true→False:=by
  intro i j oi oj t hi hj ht hl ha
  unfold apart at ha
  simp only[List.getD,hi,hj,Option.getD_some,ht,Bool.and_eq_true,Bool.not_eq_true',List.contains_eq_mem,decide_eq_false_iff_not]at ha
  exact ha.1 hl
 have hapart_h:∀ {i j l:Nat},l∈keys (es.getD i none)→(l∈(oN (es.getD j none)).fp∨l∈keys (es.getD j none))→apart os es (kr os) i j=true→False:=by
  intro i j l hi hj ha
  unfold apart at ha
  simp only[Bool.and_eq_true,List.all_eq_true]at ha
  obtain⟨q,hq,rfl⟩:=List.mem_map.1 hi
  have:=ha.2 q hq
  simp only[Bool.and_eq_true,Bool.not_eq_true',List.contains_eq_mem,decide_eq_false_iff_not]at this
  rcases hj with hj|hj
  ·exact this.1 hj
  ·exact this.2 hj
 have key:∀ (fuel:Nat) (listed:Array Bool) (A':Act) (w':World),listed.size=os.length→(List.range os.length).countP (fun i=>!listed.getD i true)≤fuel→Cl (fun i=>listed.getD i true)→
   (∃ G,bT N W G0 A G (gF os es g0 (fun i=>listed.getD i true) os.length) (hF es h0 (fun i=>listed.getD i true) os.length) A' w')→wpAny P .any os.toArray Q fuel listed A' w':=by
  have fin:∀ (listed:Array Bool) (A':Act) (w':World),(∀ i,i < os.length→listed.getD i true=true)→
    (∃ G,bT N W G0 A G (gF os es g0 (fun i=>listed.getD i true) os.length) (hF es h0 (fun i=>listed.getD i true) os.length) A' w')→Q .normal A' w':=by
   rintro listed A' w' hall ⟨G,h⟩
   have e1:gF os es g0 (fun i=>listed.getD i true) os.length=g1:=by
    rw[hg1];funext t;exact ou fun i hi _=>hall i hi
   have e2:hF es h0 (fun i=>listed.getD i true) os.length=h1:=by
    rw[hh1];funext l;exact lQ fun i hi _=>hall i hi
   rw[e1,e2]at h
   exact hQ G A' w' h
  have allDone:∀ listed:Array Bool,listed.size=os.length→Region.ready .any os.toArray listed=[]→∀ i,i < os.length→listed.getD i true=true:=by
   intro listed hsz hr i
   induction i using Nat.strongRecOn with
   | _ i ih=>
    intro hi
    cases hdn:listed.getD i true with
    | true=>rfl
    | false=>
     exfalso
     have:i∈Region.ready .any os.toArray listed:=by
      rw[mem_ready]
      refine⟨hdn,os[i],by simp[hi],fun e he hb=>?_⟩
      have h2:=hedge i os[i] (List.getElem?_eq_getElem hi) e (Array.mem_toList_iff.2 he) hb
      have h3:=ih e.on h2 (by omega)
      have h4:e.on < listed.size:=by omega
      simpa [h4] using h3
     rw[hr]at this
     cases this
  intro fuel
  induction fuel with
  | zero=>
   intro listed A' w' hsz hcnt hcl hS
   have hall:∀ i,i < os.length→listed.getD i true=true:=by
    intro i hi
    have:=List.countP_eq_zero.1 (Nat.le_zero.1 hcnt) i (List.mem_range.2 hi)
    simpa using this
   refine⟨?_,fin listed A' w' hall hS⟩
   rw[List.eq_nil_iff_forall_not_mem]
   intro i hi
   obtain⟨h2,o,ho,_⟩:=mem_ready.1 hi
   have:i < os.length:=by simpa using (Array.getElem?_eq_some_iff.1 ho).1
   rw[hall i this]at h2
   cases h2
  | succ fuel ih=>
   intro listed A' w' hsz hcnt hcl hS
   refine⟨fun hr=>fin listed A' w' (allDone listed hsz hr) hS,fun j hj=>?_⟩
   obtain⟨hjun,o,ho,hall⟩:=mem_ready.1 hj
   have hoL:os[j]? = some o:=by simpa using ho
   have hjlt:j < os.length:=(List.getElem?_eq_some_iff.1 hoL).1
   have hLp:∀ k∈(kr os).getD j [],(fun i=>listed.getD i true) k=true:=by
    intro k hk
    obtain⟨e,he,hb,h⟩:=A7 hoL (hedge j o hoL) hk
    have h2:=hall e (Array.mem_toList_iff.1 he) hb
    have h3:=hedge j o hoL e he hb
    have h5:listed.getD e.on true=true:=by
     have h4:e.on < listed.size:=by omega
     simpa [h4] using h2
    rcases h with rfl|h
    ·exact h5
    ·exact hcl e.on (by omega) h5 k h
   obtain⟨G,hS⟩:=hS
   have hod:os.getD j default=o:=by simp[List.getD,hoL]
   have hgag:∀ t∈o.looksAt os.toArray,gF os es g0 (fun i=>listed.getD i true) os.length t=gF os es g0 (fun _=>true) j t:=by
    intro t ht
    rw[←Nx (Nat.le_of_lt hjlt)]
    refine ou fun i hi hdi=>?_
    by_cases hij:i=j
    ·subst hij
     rw[hjun];simp
    ·have hoi:os[i]? = some os[i]:=List.getElem?_eq_getElem hi
     have hdi':os[i].dst=some t:=by simpa [List.getD,hoi] using hdi
     have h2:=(hrel hi hjlt hij).1
     rcases h2 with h2|h2
     ·exact hconf hcl hjlt hjun hLp hi hij h2
     ·exact (hapart_g hoi hoL hdi' ht h2).elim
   have hhag:∀ l∈(oN (es.getD j none)).fp,hF es h0 (fun i=>listed.getD i true) os.length l=hF es h0 (fun _=>true) j l:=by
    intro l hl
    rw[←NQ (Nat.le_of_lt hjlt)]
    refine lQ fun i hi hki=>?_
    by_cases hij:i=j
    ·subst hij
     rw[hjun];simp
    ·rcases (hrel hi hjlt hij).1 with h2|h2
     ·exact hconf hcl hjlt hjun hLp hi hij h2
     ·exact (hapart_h hki (.inl hl) h2).elim
   have hst:=hsteps j o (Nat.zero_le _) hoL
   have hop:∀ x∈o.op.operands.toList,lg (gF os es g0 (fun _=>true) j) x=lg (gF os es g0 (fun i=>listed.getD i true) os.length) x:=by
    intro x hx
    cases x with
    | tmp t=>
     refine (hgag t ?_).symm
     unfold Oper.looksAt
     exact List.mem_append.2 (.inl (List.mem_filterMap.2 ⟨.tmp t,hx,rfl⟩))
    | _=>rfl
   have hst':Ab N P os.toArray.toList o (gF os es g0 (fun i=>listed.getD i true) os.length) (hF es h0 (fun i=>listed.getD i true) os.length) (es.getD j none):=by
    refine⟨hst.1,?_⟩
    have h2:=hst.2
    cases hg:o.guard with
    | none=>
     rw[hg]at h2
     obtain⟨E,h3,h4⟩:=h2
     exact⟨E,h3,h4.congr hop (fun l hl=>(hhag l (by rw[h3];exact hl)).symm)⟩
    | some q=>
     obtain⟨k,b⟩:=q
     rw[hg]at h2
     obtain⟨oj,t,c,h3,h4,h5,h6⟩:=h2
     refine⟨oj,t,c,by simpa using h3,h4,?_,?_⟩
     ·rw[hgag t ?_]
      ·exact h5
      ·unfold Oper.looksAt
       refine List.mem_append.2 (.inr ?_)
       simp[hg,h3,h4]
     ·rcases h6 with ⟨h7,E,h8,h9⟩|h6
      ·exact .inl ⟨h7,E,h8,h9.congr hop (fun l hl=>(hhag l (by rw[h8];exact hl)).symm)⟩
      ·exact .inr h6
   have hnw:∀ l∈(oN (es.getD j none)).nw,100≤l∧qH (gF os es g0 (fun i=>listed.getD i true) os.length) (hF es h0 (fun i=>listed.getD i true) os.length) l:=by
    intro l hl
    have hjes:j < es.length:=by omega
    have hmem:es.getD j none∈es:=by
     simp only[List.getD,List.getElem?_eq_getElem hjes,Option.getD_some]
     exact List.getElem_mem hjes
    obtain⟨h2,h3⟩:=hfr _ hmem l hl
    have huns:∀ i,i < os.length→listed.getD i true=true→iz os es i j=true:=by
     intro i hi hLi
     have hij:i≠j:=fun e=>by rw[e,hjun]at hLi;cases hLi
     rcases (hrel hi hjlt hij).2 with h4|h4
     ·have:=hcl i hi hLi j h4
      simp only[hjun]at this
      cases this
     ·exact h4
    have hun2:∀ i,i < os.length→listed.getD i true=true→(oN (es.getD i none)).r.free l=true∧∀ q∈(oN (es.getD i none)).u,q.1≠l∧aA.frees l q.2=true:=by
     intro i hi hLi
     have:=huns i hi hLi
     unfold iz at this
     simp only[List.all_eq_true,Bool.and_eq_true,bne_iff_ne]at this
     exact this l hl
    refine⟨h2,?_,?_,?_⟩
    ·have:hF es h0 (fun i=>listed.getD i true) os.length l=hF es h0 (fun _=>false) os.length l:=by
      refine lQ fun i hi hki=>?_
      cases hLi:listed.getD i true with
      | false=>rfl
      | true=>
       obtain⟨q,hq,rfl⟩:=List.mem_map.1 hki
       exact ((hun2 i hi hLi).2 q hq).1.elim rfl
     rw[this]
     have:∀ n,hF es h0 (fun _=>false) n=h0:=by
      intro n
      induction n with
      | zero=>rfl
      | succ n ih=>simp[hF,ih]
     rw[this]
     exact h3.1
    ·exact Kk (p:=fun s=>s.free l=true) h3.2.1 (fun i hi hLi=>(hun2 i hi hLi).1)
    ·exact Eu (p:=fun _ b=>b.free l=true) h3.2.2 (fun i hi hLi k b hb=>by
      have:=((hun2 i hi hLi).2 _ hb).2
      simpa [aA.frees] using this)
   refine yO ho hS hst' (fun k oj t hk=>hd k oj t (by simpa using hk)) hnw ?_
   intro G' a' w'' hS'
   refine ih _ _ _ (by simpa using hsz) ?_ ?_ ⟨G',?_⟩
   ·have hcount:(List.range os.length).countP (fun i=>!(listed.setIfInBounds j true).getD i true) < (List.range os.length).countP (fun i=>!listed.getD i true):=by
     have key:∀ (l:List Nat),j∈l→l.Nodup→l.countP (fun i=>!(listed.setIfInBounds j true).getD i true) < l.countP (fun i=>!listed.getD i true):=by
      intro l
      induction l with
      | nil=>intro h;cases h
      | cons x l ihl=>
       intro hm hn
       rw[List.nodup_cons]at hn
       by_cases e:j=x
       ·subst e
        have h1:l.countP (fun i=>!(listed.setIfInBounds j true).getD i true)=l.countP (fun i=>!listed.getD i true):=by
         refine List.countP_congr fun i hi=>?_
         have:j≠i:=fun e=>hn.1 (e ▸ hi)
         rw[getD_set_ne true this]
        rw[List.countP_cons,List.countP_cons,h1]
        have hjs:j < listed.size:=by omega
        have h2:(listed.setIfInBounds j true).getD j true=true:=by simp[hjs]
        rw[h2,hjun]
        simp
       ·rw[List.countP_cons,List.countP_cons,getD_set_ne true e]
        have:=ihl ((List.mem_cons.1 hm).resolve_left e) hn.2
        omega
     exact key _ (List.mem_range.2 hjlt) List.nodup_range
    omega
   ·intro k hk hLk i hi
    show (listed.setIfInBounds j true).getD i true=true
    have hjs:j < listed.size:=by omega
    by_cases hij:j=i
    ·subst hij;simp[hjs]
    ·rw[getD_set_ne true hij]
     by_cases hkj:j=k
     ·subst hkj;exact hLp i hi
     ·have h2:(listed.setIfInBounds j true).getD k true=true:=hLk
      rw[getD_set_ne true hkj]at h2
      exact hcl k hk h2 i hi
   ·have hjs:j < listed.size:=by omega
    have hLj:(listed.setIfInBounds j true).getD j true=true:=by simp[hjs]
    have hLo:∀ i,i≠j→(listed.setIfInBounds j true).getD i true=listed.getD i true:=fun i hi=>getD_set_ne true (Ne.symm hi)
    have e1:gF os es g0 (fun i=>(listed.setIfInBounds j true).getD i true) os.length=LP (gF os es g0 (fun i=>listed.getD i true) os.length) o (es.getD j none):=by
     funext t
     unfold LP
     by_cases hdt:o.dst=some t
     ·rw[hdt,fM]
      refine Fb hjlt hLj (by rw[hod];exact hdt) fun i hji hi _ hdi=>?_
      have hoi:os[i]? = some os[i]:=List.getElem?_eq_getElem hi
      have hdi':os[i].dst=some t:=by simpa [List.getD,hoi] using hdi
      have:=EJ hnd hoi hoL hdi' hdt
      omega
     ·rw[iK hdt]
      refine ou fun i hi hdi=>hLo i ?_
      rintro rfl
      rw[hod]at hdi
      exact hdt hdi
    have e2:hF es h0 (fun i=>(listed.setIfInBounds j true).getD i true) os.length=OD (hF es h0 (fun i=>listed.getD i true) os.length) (es.getD j none):=by
     funext l
     by_cases hkl:l∈keys (es.getD j none)
     ·refine F8 hjlt hLj hkl fun i hji hi hLi hki=>?_
      have hij:i≠j:=by omega
      have hLi':listed.getD i true=true:=by rw[←hLo i hij];exact hLi
      rcases (hrel hi hjlt hij).1 with h2|h2
      ·have:=hconf hcl hjlt hjun hLp hi hij h2
       simp only[hLi']at this
       simp at this
       omega
      ·exact hapart_h hki (.inr hkl) h2
     ·have e3:OD (hF es h0 (fun i=>listed.getD i true) os.length) (es.getD j none) l=hF es h0 (fun i=>listed.getD i true) os.length l:=nL hkl
      rw[e3]
      refine lQ fun i hi hki=>hLo i ?_
      rintro rfl
      exact hkl hki
    rw[e1,e2]
    exact hS'
 refine key _ _ _ _ (by simp) (Nat.le_trans List.countP_le_length (by simp)) ?_ ⟨G,?_⟩
 ·intro j hj hL i hi
  have:j < os.length:=hj
  simp[this]at hL
 ·have e1:gF os es g0 (fun i=>(Array.replicate os.toArray.size false).getD i true) os.length=g0:=by
   have:∀ n,n≤os.length→gF os es g0 (fun i=>(Array.replicate os.toArray.size false).getD i true) n=g0:=by
    intro n
    induction n with
    | zero=>intro _;rfl
    | succ n ih=>
     intro hn
     have hlt:n < os.length:=hn
     simp only[gF]
     rw[if_neg (by simp[hlt])]
     exact ih (by omega)
   exact this _ (Nat.le_refl _)
  have e2:hF es h0 (fun i=>(Array.replicate os.toArray.size false).getD i true) os.length=h0:=by
   have:∀ n,n≤os.length→hF es h0 (fun i=>(Array.replicate os.toArray.size false).getD i true) n=h0:=by
    intro n
    induction n with
    | zero=>intro _;rfl
    | succ n ih=>
     intro hn
     have hlt:n < os.length:=hn
     simp only[hF]
     rw[if_neg (by simp[hlt])]
     exact ih (by omega)
   exact this _ (Nat.le_refl _)
  rw[e1,e2]
  exact hs.drew
theorem rS {id:Nat} {os:List Oper} {Q:Exit→Act→World→Prop} {g0 g1:Nat→S} {h0 h1:Nat→Option aA} {es:List (Option aM)} (hm:P.follows .mixedOrders=true)
  (hd:∀ (j:Nat) (oj:Oper) (t:Nat),os[j]? = some oj→oj.dst=some t→t < N)
  (hc:lH N P os os g0 h0 es g1 h1) (hok:pR os es=true) (hfr:∀ e∈es,∀ l∈(oN e).nw,100≤l∧qH g0 h0 l)
  (hQ:∀ G a w,bT N W G0 A G g1 h1 a w→Q .normal a w) {G:Gh} {a:Act} {w:World} (hs:bT N W G0 A G g0 h0 a w):(Code.region id os.toArray true).wp P Q a w:=
 wp_region_any hm (wH hd hc hok hfr hQ hs)
end
end Go.Proofs.YtocndodilpimnaaGreat.Sy
