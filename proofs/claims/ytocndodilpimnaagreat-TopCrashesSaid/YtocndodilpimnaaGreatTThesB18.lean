/- Several texts of this proof, one behind the other. No condition. -/
import Derived.Test.YtocndodilpimnaaGreatTThesB17
set_option maxRecDepth 100000
set_option maxHeartbeats 16000000
set_option linter.unusedVariables false
set_option linter.unusedSimpArgs false
namespace Go.Proofs.YtocndodilpimnaaGreat
open Go.RowKit Sy
open Go.IntWalk renaming iteOmega → iO, toNatUp → tN
def iU:List Int:=[300000,1000000,0,5000000]
def ld (l:List Int) (m i k:Nat) (p:List jz):Nat×List jz:=
 if i=0∨i=m then (ai l k,p++[([113,97+p.length],(i:Int),cU l k iU)])
 else if nV l k 2=0 then (ai l (ai l k),p++[([113,97+p.length],(i:Int),cU l (ai l k) iU)])
 else (ai l k,p)
def jI (l:List Int) (m i k:Nat) (s:List vx):Nat×List vx:=
 if i < m then
  (
   if nV l k 3=0 then (ai l (ai l (ai l (ai l k))),s++[([115,97+s.length],(i:Int),cU l (ai l k) [500000,2000000,0],cU l (ai l (ai l k)) [0,200,100000],cU l (ai l (ai l (ai l k))) [0,100000,400000])])
   else (ai l k,s))
 else (k,s)
def rM (l:List Int) (m k0:Nat):Nat→Nat×List jz×List vx
 | 0=>(k0,[],[])
 | i+1=>((jI l m i (ld l m i (rM l m k0 i).1 (rM l m k0 i).2.1).1 (rM l m k0 i).2.2).1,(ld l m i (rM l m k0 i).1 (rM l m k0 i).2.1).2,(jI l m i (ld l m i (rM l m k0 i).1 (rM l m k0 i).2.1).1 (rM l m k0 i).2.2).2)
structure Qf (l:List Int) (i:Nat) (k:Nat) (p:List jz):Prop where
 src:aV l k
 len:p.length≤i
 one:1≤i→1≤p.length
 at_:∀ (j:Nat) x,p[j]? = some x→x.1=[113,97+j]∧(0≤x.2.1∧x.2.1 < i)∧0≤x.2.2∧x.2.2≤5000000
structure Qm (l:List Int) (m i:Nat) (k:Nat) (s:List vx):Prop where
 src:aV l k
 len:s.length≤i∧s.length≤m
 at_:∀ (j:Nat) x,s[j]? = some x→x.1=[115,97+j]∧(0≤x.2.1∧x.2.1 < i∧x.2.1 < m)∧(0≤x.2.2.1∧x.2.2.1≤2000000)∧(0≤x.2.2.2.1∧x.2.2.2.1≤100000)∧0≤x.2.2.2.2∧x.2.2.2.2≤400000
 nd:(s.map fun x=>x.2.1).Nodup
theorem ux {α:Type} {l:List α} {a x:α} {j:Nat} (h:(l++[a])[j]? = some x):(j < l.length∧l[j]? = some x)∨(j=l.length∧x=a):=by
 by_cases hj:j < l.length
 ·rw[List.getElem?_append_left hj]at h
  exact Or.inl ⟨hj,h⟩
 ·have hl:=(List.getElem?_eq_some_iff.1 h).1
  simp at hl
  have:j=l.length:=by omega
  subst this
  simp at h
  exact Or.inr ⟨rfl,h.symm⟩
theorem FN {l:List Int} {k:Nat}:0≤cU l k iU∧cU l k iU≤5000000:=by
 have:=dV (l:=l) (k:=k) (xs:=iU) (by simp[iU])
 obtain⟨v,hv⟩:∃ v,cU l k iU=v:=⟨_,rfl⟩
 rw[hv]at this ⊢
 simp[iU]at this;omega
theorem MQ {l:List Int} {m i k:Nat} {p:List jz} (h:Qf l i k p):Qf l (i+1) (ld l m i k p).1 (ld l m i k p).2:=by
 have gen:∀ (k':Nat) (v:Int),aV l k'→0≤v∧v≤5000000→Qf l (i+1) k' (p++[([113,97+p.length],(i:Int),v)]):=fun k' v h1 h2=>by
  refine⟨h1,by have:=h.len;simp;omega,fun _=>by simp,fun j x hx=>?_⟩
  rcases ux hx with ⟨hj,hx⟩|⟨rfl,rfl⟩
  ·obtain⟨a1,a2,a3⟩:=h.at_ j x hx
   exact⟨a1,by omega,a3⟩
  ·exact⟨rfl,by dsimp only;omega,h2⟩
 unfold ld
 split
 ·exact gen _ _ h.src.next FN
 ·rename_i hn
  split
  ·exact gen _ _ h.src.next.next FN
  ·exact⟨h.src.next,by have:=h.len;dsimp only;omega,fun _=>h.one (by omega),fun j x hx=>by
    obtain⟨a1,a2,a3⟩:=h.at_ j x hx
    exact⟨a1,by omega,a3⟩⟩
theorem My {l:List Int} {m i k:Nat} {s:List vx} (h:Qm l m i k s):Qm l m (i+1) (jI l m i k s).1 (jI l m i k s).2:=by
 have keep:∀ k',aV l k'→Qm l m (i+1) k' s:=fun k' h1=>⟨h1,by have:=h.len;omega,fun j x hx=>by
  obtain⟨a1,a2,a3⟩:=h.at_ j x hx
  exact⟨a1,by omega,a3⟩,h.nd⟩
 unfold jI
 split
 ·rename_i him
  split
  ·have b1:=dV (l:=l) (k:=ai l k) (xs:=[500000,2000000,0]) (by simp)
   have b2:=dV (l:=l) (k:=ai l (ai l k)) (xs:=[0,200,100000]) (by simp)
   have b3:=dV (l:=l) (k:=ai l (ai l (ai l k))) (xs:=[0,100000,400000]) (by simp)
   simp at b1 b2 b3
   have hle:s.length≤i:=h.len.1
   refine⟨h.src.next.next.next.next,?_,fun j x hx=>?_,?_⟩
   ·simp only[List.length_append,List.length_cons,List.length_nil]
    have hnd:=h.nd
    have hsub:s.length≤i:=h.len.1
    omega
   ·rcases ux hx with ⟨hj,hx⟩|⟨rfl,rfl⟩
    ·obtain⟨a1,a2,a3⟩:=h.at_ j x hx
     exact⟨a1,by omega,a3⟩
    ·exact⟨rfl,by dsimp only;omega,by dsimp only;omega,by dsimp only;omega,by dsimp only;omega⟩
   ·simp only[List.map_append,List.map_cons,List.map_nil]
    refine List.nodup_append.2 ⟨h.nd,by simp,fun a ha b hb e=>?_⟩
    simp at hb
    obtain⟨x,hx,rfl⟩:=List.mem_map.1 ha
    obtain⟨j,hj,ex⟩:=List.getElem_of_mem hx
    have:=(h.at_ j x (by rw[←ex];exact List.getElem?_eq_getElem hj)).2.1
    omega
  ·exact keep _ h.src.next
 ·exact keep _ h.src
theorem Le {l:List Int} {m k0:Nat} (h:aV l k0):∀ i,Qf l i (rM l m k0 i).1 (rM l m k0 i).2.1∧Qm l m i (rM l m k0 i).1 (rM l m k0 i).2.2
 | 0=>⟨⟨h,Nat.le_refl _,fun h=>by omega,fun j x hx=>by simp[rM]at hx⟩,⟨h,by simp[rM],fun j x hx=>by simp[rM]at hx,by simp[rM]⟩⟩
 | i+1=>by
  obtain⟨h1,h2⟩:=Le h i
  have a1:=MQ (m:=m) h1
  have a2:=My (k:=(ld l m i (rM l m k0 i).1 (rM l m k0 i).2.1).1) ⟨a1.src,h2.len,h2.at_,h2.nd⟩
  exact⟨⟨a2.src,a1.len,a1.one,a1.at_⟩,a2⟩
def Q9 (l:List Int) (m j k:Nat) (x:eH×Nat×Nat) (k':Nat):Prop:=j < 15→x.1.1.nm=[103,97+(m+j)]∧((x.1.1.fr=(x.2.1:Int)∧x.1.1.to=(x.2.2:Int))∨(x.1.1.fr=(x.2.2:Int)∧x.1.1.to=(x.2.1:Int)))∧(x.2.1 < x.2.2∧x.2.2≤m)∧jB x.1∧x.1.1.cp≤1000∧
  aj Tryz.prog 13 [.pt 0 [] 0,.t (.int (m:Int))] [(0,bu l k)] (.t (.int (x.2.1:Int))) [(0,bu l (ai l k))]∧
  aj Tryz.prog 27 [.pt 0 [] 0,.t (.int ((x.2.1:Int)+1)),.t (.int (m:Int))] [(0,bu l (ai l k))] (.t (.int (x.2.2:Int))) [(0,bu l (ai l (ai l k)))]∧
  aj Tryz.prog 29 [.pt 0 [] 0,.t (.int ((m+j:Nat):Int)),.t (.int (x.2.1:Int)),.t (.int (x.2.2:Int))] [(0,bu l (ai l (ai l k)))] (.t (bA x.1)) [(0,bu l k')]
theorem Pt (l:List Int) (m k0:Nat) (hm:1≤m∧m≤5) (h:aV l k0):∃ (K:Nat→Nat) (X:Nat→eH×Nat×Nat),K 0=k0∧∀ j,aV l (K j)∧Q9 l m j (K j) (X j) (K (j+1)):=
 E6 (Q9 l m) (aV l) k0 h fun j k hk=>by
  by_cases hj:j < 15
  ·have n1:=kv l k m hk (by omega)
   have n2:=bD (l:=l) (k:=k) (n:=m) (by omega)
   obtain⟨a,ha⟩:∃ a:Nat,nV l k m=(a:Int):=⟨(nV l k m).toNat,by omega⟩
   rw[ha]at n1 n2
   have r1:=fT l (ai l k) ((a:Int)+1) m hk.next (by omega) (by omega) (by omega)
   have r2:=bG (l:=l) (k:=ai l k) (lo:=(a:Int)+1) (hi:=m) (by omega)
   obtain⟨t,ht⟩:∃ t:Nat,da l (ai l k) ((a:Int)+1) m=(t:Int):=⟨(da l (ai l k) ((a:Int)+1) m).toNat,by omega⟩
   rw[ht]at r1 r2
   obtain⟨s,k',h1,h2,h3,h4,h5,h6⟩:=IK l _ hk.next.next (m+j) (by omega) a t (by omega) (by omega) (by omega)
   exact⟨(s,a,t),k',h1,fun _=>⟨h2,h3,by dsimp only;omega,h4,h5,n1,r1,h6⟩⟩
  ·exact⟨((⟨[],0,0,0,0,0⟩,[]),0,0),k,hk,fun h=>absurd h hj⟩
def vv (m:Nat) (S:Nat→eH) (X:Nat→eH×Nat×Nat) (i:Nat):eH:=if i < m then S i else (X (i - m)).1
def Ic (m e:Nat) (S:Nat→eH) (X:Nat→eH×Nat×Nat) (P:List jz) (Z:List vx) (v st:Int):aB:=⟨(List.range (m+1)).map fun i=>[110,97+i],(List.range (m+e)).map (vv m S X),P,Z,v,st⟩
theorem OO {l:List Int} {m e:Nat} {S:Nat→eH} {X:Nat→eH×Nat×Nat} {K1 K2:Nat→Nat} (hm:1≤m∧m≤5) (he:e≤3) (h1:∀ j,aV l (K1 j)∧Q7 l j (K1 j) (S j) (K1 (j+1))) (h2:∀ j,aV l (K2 j)∧Q9 l m j (K2 j) (X j) (K2 (j+1))) (i:Nat) (hi:i < m+e) :
  (vv m S X i).1.nm=[103,97+i]∧jB (vv m S X i)∧(vv m S X i).1.cp≤1000∧(0≤(vv m S X i).1.fr∧(vv m S X i).1.fr≤m)∧0≤(vv m S X i).1.to∧(vv m S X i).1.to≤m:=by
 unfold vv
 split
 ·obtain⟨a1,a2,a3,a4,_⟩:=(h1 i).2 (by omega)
  refine⟨a1,a3,a4,?_⟩
  omega
 ·obtain⟨a1,a2,a5,a3,a4,_⟩:=(h2 (i - m)).2 (by omega)
  refine⟨by rw[a1];congr 2;omega,a3,a4,?_⟩
  omega
theorem qK {c:Nat} {L:List (List Nat)} (h:∀ (j:Nat) x,L[j]? = some x→x=[c,97+j]):L.Nodup:=by
 refine List.pairwise_iff_getElem.2 fun i j hi hj hij e=>?_
 have h1:=h i L[i] (List.getElem?_eq_getElem hi)
 have h2:=h j L[j] (List.getElem?_eq_getElem hj)
 rw[h1,h2]at e
 simp at e
 omega
theorem PA {m e:Nat} {S:Nat→eH} {X:Nat→eH×Nat×Nat} {l:List Int} {k1 k2:Nat} {P:List jz} {Z:List vx} {v st:Int} (hm:1≤m∧m≤5) (he:e≤3)
  (hS:∀ i,i < m+e→(vv m S X i).1.nm=[103,97+i]∧jB (vv m S X i)∧(vv m S X i).1.cp≤1000∧(0≤(vv m S X i).1.fr∧(vv m S X i).1.fr≤m)∧0≤(vv m S X i).1.to∧(vv m S X i).1.to≤m)
  (hP:Qf l (m+1) k1 P) (hZ:Qm l m (m+1) k2 Z) (hv:v∈[(-100000:Int),0,50000]) (hst:st∈[(0:Int),1,5,100]):eE (Ic m e S X P Z v st):=by
 have two:∀ (c i:Nat),97≤c→c≤122→i≤20→iC [c,97+i]:=fun c i h1 h2 h3=>Mo _ (by simp) (by simp) (fun x hx=>by simp at hx;omega)
 have hPl:=hP.len
 have hZl:=hZ.len
 have gs:∀ s∈(List.range (m+e)).map (vv m S X),∃ i,i < m+e∧s=vv m S X i:=fun s hs=>by
  obtain⟨i,hi,rfl⟩:=List.mem_map.1 hs
  exact⟨i,List.mem_range.1 hi,rfl⟩
 have gp:∀ p∈P,∃ j:Nat,P[j]? = some p∧j < P.length:=fun p hp=>by
  obtain⟨j,hj,e⟩:=List.getElem_of_mem hp
  exact⟨j,by rw[←e];exact List.getElem?_eq_getElem hj,hj⟩
 have gz:∀ p∈Z,∃ j:Nat,Z[j]? = some p∧j < Z.length:=fun p hp=>by
  obtain⟨j,hj,e⟩:=List.getElem_of_mem hp
  exact⟨j,by rw[←e];exact List.getElem?_eq_getElem hj,hj⟩
 simp at hv hst
 refine⟨by simp[Ic],by simp[Ic];omega,by simp[Ic];omega,by show P.length≤24;omega,by show Z.length≤12;omega,?_,?_,?_,?_,?_,?_,?_,?_,hZ.nd,?_,?_,?_,?_,?_,?_,by show -100000≤v∧v≤100000000;omega,by show 0≤st∧st≤100;omega⟩
 ·intro k hk
  obtain⟨i,hi,rfl⟩:=List.mem_map.1 hk
  have hi:=List.mem_range.1 hi
  exact two 110 i (by omega) (by omega) (by omega)
 ·intro s hs
  obtain⟨i,hi,rfl⟩:=gs s hs
  rw[(hS i hi).1]
  exact two 103 i (by omega) (by omega) (by omega)
 ·intro p hp
  obtain⟨j,hj,hjl⟩:=gp p hp
  rw[(hP.at_ j p hj).1]
  exact two 113 j (by omega) (by omega) (by omega)
 ·intro p hp
  obtain⟨j,hj,hjl⟩:=gz p hp
  rw[(hZ.at_ j p hj).1]
  exact two 115 j (by omega) (by omega) (by omega)
 ·exact kZ _ _ fun i j _ _ e=>by simpa using e
 ·simp only[Ic,List.map_map]
  refine kZ _ _ fun i j hi hj e=>?_
  simp only[Function.comp,(hS i hi).1,(hS j hj).1]at e
  simpa using e
 ·show (P.map fun p=>p.1).Nodup
  refine qK (c:=113) fun j x hx=>?_
  obtain⟨p,hp,rfl⟩:∃ p,P[j]? = some p∧p.1=x:=by simpa using hx
  exact (hP.at_ j p hp).1
 ·show (Z.map fun p=>p.1).Nodup
  refine qK (c:=115) fun j x hx=>?_
  obtain⟨p,hp,rfl⟩:∃ p,Z[j]? = some p∧p.1=x:=by simpa using hx
  exact (hZ.at_ j p hp).1
 ·intro s hs
  obtain⟨i,hi,rfl⟩:=gs s hs
  have:=hS i hi
  simp only[Ic,List.length_map,List.length_range]
  omega
 ·intro p hp
  obtain⟨j,hj,hjl⟩:=gp p hp
  have:=hP.at_ j p hj
  simp only[Ic,List.length_map,List.length_range]
  omega
 ·intro p hp
  obtain⟨j,hj,hjl⟩:=gz p hp
  have:=hZ.at_ j p hj
  simp only[Ic,List.length_map,List.length_range]
  omega
 ·intro s hs
  obtain⟨i,hi,rfl⟩:=gs s hs
  exact (hS i hi).2.1
 ·intro p hp
  obtain⟨j,hj,hjl⟩:=gp p hp
  have:=hP.at_ j p hj
  omega
 ·intro p hp
  obtain⟨j,hj,hjl⟩:=gz p hp
  have:=hZ.at_ j p hj
  omega
theorem C5 (l:List Int) (k:Nat) (h:aV l k):∃ (k':Nat) (d:aB),aV l k'∧eE d∧(1≤d.segs.length∧d.segs.length≤8)∧(1≤d.ports.length∧d.ports.length≤6)∧d.nn.length≤6∧d.stns.length≤6∧(∀ s∈d.segs,s.1.cp≤1000)∧
  aj Tryz.prog 7 [.pt 0 [] 0] [(0,bu l k)] (.t (.agg d.l)) [(0,bu l k')]:=by
 obtain⟨vp,hvp,cv⟩:=gO h [-100000,0,50000] (by simp) (by simp)
 obtain⟨st,hst,cs⟩:=gO h.next [0,1,5,100] (by simp) (by simp)
 have cr:=fT l _ 2 6 h.next.next (by omega) (by omega) (by omega)
 have br:=bG (l:=l) (k:=ai l (ai l k)) (lo:=2) (hi:=6) (by omega)
 obtain⟨m,hm⟩:∃ m:Nat,da l (ai l (ai l k)) 2 6=((m+1:Nat):Int):=⟨(da l (ai l (ai l k)) 2 6).toNat - 1,by omega⟩
 rw[hm]at cr br
 have hmm:1≤m∧m≤5:=by omega
 obtain⟨K1,S,hK1,hS1⟩:=M7 l _ h.next.next.next
 have ce:=kv l (K1 m) 4 (hS1 m).1 (by omega)
 have be:=bD (l:=l) (k:=K1 m) (n:=4) (by omega)
 obtain⟨e,he⟩:∃ e:Nat,nV l (K1 m) 4=(e:Int):=⟨(nV l (K1 m) 4).toNat,by omega⟩
 rw[he]at ce be
 obtain⟨K2,X,hK2,hX2⟩:=Pt l m _ hmm (hS1 m).1.next
 have hSS:=OO hmm (by omega:e≤3) hS1 hX2
 have hW:=Le (m:=m) (hX2 e).1
 obtain⟨hP,hZ⟩:=hW (m+1)
 have hD:=PA (e:=e) hmm (by omega) hSS hP hZ hvp hst
 refine⟨_,_,hP.src,hD,by simp[Ic];omega,⟨hP.one (by omega),by have:=hP.len;show (rM l m (K2 e) (m+1)).2.1.length≤6;omega⟩,by simp[Ic];omega,by have:=hZ.len;show (rM l m (K2 e) (m+1)).2.2.length≤6;omega,fun s hs=>by
  obtain⟨i,hi,rfl⟩:=List.mem_map.1 hs
  exact (hSS i (List.mem_range.1 hi)).2.2.1,?_⟩
 have e1:(Ic m e S X (rM l m (K2 e) (m+1)).2.1 (rM l m (K2 e) (m+1)).2.2 vp st).l=[.sl 1 ((List.range (m+1)).map QV),.sl 7 ((List.range (m+e)).map fun i=>bA (vv m S X i)),.sl 3 ((rM l m (K2 e) (m+1)).2.1.map dO),.sl 5 ((rM l m (K2 e) (m+1)).2.2.map eF),.int vp,.int st]:=by
  simp only[aB.l,Ic,List.map_map]
  rfl
 rw[e1]
 obtain⟨N,hN⟩:∃ N:Nat→List T,∀ j,(List.range j).map QV=N j:=⟨_,fun _=>rfl⟩
 have N0:N 0=[]:=by rw[←hN];rfl
 have Ns:∀ j,N (j+1)=N j++[.lit (.string (str [110,97+j]))]:=fun j=>by rw[←hN,eL,hN];rfl
 have Nl:∀ j,(N j).length=j:=fun j=>by rw[←hN];simp
 obtain⟨G,hG⟩:∃ G:Nat→List T,∀ j,((List.range j).map fun i=>bA (vv m S X i))=G j:=⟨_,fun _=>rfl⟩
 have G0:G 0=[]:=by rw[←hG];rfl
 have Gs:∀ j,j < m→G (j+1)=G j++[bA (S j)]:=fun j hj=>by rw[←hG,eL,hG];simp only[vv,if_pos hj]
 have Gx:∀ j,G (m+j+1)=G (m+j)++[bA (X j).1]:=fun j=>by rw[←hG,eL,hG];simp only[vv];rw[if_neg (by omega),Nat.add_sub_cancel_left]
 have Gl:∀ j,(G j).length=j:=fun j=>by rw[←hG];simp
 rw[hN,hG]
 have hk3:=h.next.next.next
 rw[←hK1]at cr
 rw[←hK2]at ce
 refine nI Tryz.func7 rfl Tryz.ntmps7 ?_
 refine ah ?_
 refine gj cv [(0,0)] [] [111] ?_
 refine ah ?_
 refine gj cs [(0,0)] [] [114] ?_
 refine ah ?_
 refine ax cr [(0,0)] ?_
 refine ah ?_
 refine oP ?_
 refine CW.loop (ι:=Nat) (fun j=>⟨[(0,.pt 0 [] 0),(2,.pt 502 [] 0),(3,.pt 503 [] 0),(4,.t (.int (((m+1:Nat):Int) - j)))],[(0,bu l (K1 0)),(502,.box 32 (.t (.agg [.lit (.slice none 0 0),.lit (.slice none 0 0),.lit (.slice none 0 0),.lit (.slice none 0 0),.int 0,.int 0]))),(503,.box 32 (.ag [.own 514,.t (.lit (.slice none 0 0)),.t (.lit (.slice none 0 0)),.t (.lit (.slice none 0 0)),.t (.int vp),.t (.int st)])),(514,.list 9 1 (N j))]⟩) (fun j=>j≤m+1) (fun j=>m+1 - j) 0 [(0,some 0),(502,some 102),(503,some 103),(514,none)] (by omega) ?_ ?_
 ·simp[go_sem,↓iO,iO,tN,N0]
  simp only[bZ]
  exact⟨rfl,rfl,bx _,rfl,bx _,rfl,bx _,rfl,bx _,rfl,bx _,rfl,trivial⟩
 intro j hj
 have nl:=Nl j
 by_cases hb:j < m+1
 ·have ns:=Ns j
  have cn:=o9 110 ⟨#[110]⟩ rfl j (by omega)
  obtain⟨N1,hN1⟩:∃ X,N j=X:=⟨_,rfl⟩
  rw[hN1]at nl ns ⊢
  refine c9 hb nl ?_
  refine dr nl cn [] ?_
  refine c9 hb nl ?_
  refine nX (j+1) [(0,some 0),(502,some 502),(503,some 503),(514,some 130)] ?_ ?_ ?_
  ·omega
  ·omega
  simp[go_sem,↓iO,iO,tN,ns]
  omega
 ·obtain rfl:j=m+1:=by omega
  obtain⟨NN,hNN⟩:∃ X,N (m+1)=X:=⟨_,rfl⟩
  rw[hNN]at nl ⊢
  refine aJ nl ?_
  refine oP ?_
  refine CW.loop (ι:=Nat) (fun j=>⟨[(0,.pt 0 [] 0),(2,.pt 502 [] 0),(3,.pt 503 [] 0),(5,.t (.int m)),(6,.t (.int j))],[(0,bu l (K1 j)),(502,.box 32 (.t (.agg [.lit (.slice none 0 0),.lit (.slice none 0 0),.lit (.slice none 0 0),.lit (.slice none 0 0),.int 0,.int 0]))),(503,.box 32 (.ag [.t (.sl 1 NN),.own 522,.t (.lit (.slice none 0 0)),.t (.lit (.slice none 0 0)),.t (.int vp),.t (.int st)])),(522,.list 98 7 (G j))]⟩) (fun j=>j≤m) (fun j=>m - j) 0 [(0,some 0),(502,some 502),(503,some 503),(522,none)] (by omega) ?_ ?_
  ·exact sw G0 nl
  intro j hj
  have gl:=Gl j
  by_cases hb:j < m
  ·have gs:=Gs j hb
   obtain⟨_,_,_,_,csg⟩:=(hS1 j).2 (by omega)
   obtain⟨G1,hG1⟩:∃ X,G j=X:=⟨_,rfl⟩
   rw[hG1]at gl gs ⊢
   refine c9 hb gl ?_
   refine lf hb gl csg [(0,0)] ?_
   refine c9 hb gl ?_
   exact nX (j+1) [(0,some 0),(502,some 502),(503,some 503),(522,some 152)] (by omega) (by omega) (dJ gs)
  ·obtain rfl:j=m:=by omega
   refine ah ?_
   refine ax ce [(0,0)] ?_
   refine ah ?_
   refine oP ?_
   refine lP (ι:=Nat) (fun i=>⟨[(0,.pt 0 [] 0),(2,.pt 502 [] 0),(3,.pt 503 [] 0),(5,.t (.int j)),(7,.t (.int ((e:Int) - i)))],[(0,bu l (K2 i)),(502,.box 32 (.t (.agg [.lit (.slice none 0 0),.lit (.slice none 0 0),.lit (.slice none 0 0),.lit (.slice none 0 0),.int 0,.int 0]))),(503,.box 32 (.ag [.t (.sl 1 NN),.own 522,.t (.lit (.slice none 0 0)),.t (.lit (.slice none 0 0)),.t (.int vp),.t (.int st)])),(522,.list 98 7 (G (j+i)))]⟩) (fun i=>i≤e) (fun i=>e - i) 0 [(0,some 0),(502,some 502),(503,some 503),(522,some 522)] (by omega) ?_
   intro i hi
   have gl:=Gl (j+i)
   by_cases hb2:i < e
   ·have gs:=Gx i
    obtain⟨_,_,a5,_,_,x1,x2,x3⟩:=(hX2 i).2 (by omega)
    obtain⟨G1,hG1⟩:∃ X,G (j+i)=X:=⟨_,rfl⟩
    rw[hG1]at gl gs ⊢
    obtain⟨⟨s,a,t⟩,hXi⟩:∃ x,X i=x:=⟨_,rfl⟩
    rw[hXi]at x1 x2 x3 gs a5
    dsimp only at x1 x2 x3 gs a5
    have gl2:(G1.length:Int)=((j+i:Nat):Int):=by rw[gl]
    refine aJ hb2 ?_
    refine ax x1 [(0,0)] ?_
    refine aJ gl ?_
    refine dr gl x2 [(0,0)] ?_
    refine dr gl x3 [(0,0)] ?_
    refine aJ gl ?_
    refine nX (i+1) [(0,some 0),(502,some 502),(503,some 503),(522,some 177)] ?_ ?_ ?_
    ·omega
    ·omega
    simp[go_sem,↓iO,iO,tN,gs]
    exact⟨by omega,gs⟩
   ·obtain rfl:i=e:=by omega
    obtain⟨GG,hGG⟩:∃ X,G (j+i)=X:=⟨_,rfl⟩
    rw[hGG]
    obtain⟨Wf,hWf⟩:∃ Wf:Nat→Nat×List jz×List vx,∀ q,rM l j (K2 i) q=Wf q:=⟨_,fun _=>rfl⟩
    have W0:Wf 0=(K2 i,[],[]):=by rw[←hWf];rfl
    have Ws:∀ q,Wf (q+1)=((jI l j q (ld l j q (Wf q).1 (Wf q).2.1).1 (Wf q).2.2).1,(ld l j q (Wf q).1 (Wf q).2.1).2,(jI l j q (ld l j q (Wf q).1 (Wf q).2.1).1 (Wf q).2.2).2):=fun q=>by rw[←hWf,←hWf];rfl
    simp only[hWf]at hW ⊢
    clear hP hZ hD
    refine ah ?_
    refine oP ?_
    refine CW.loop (ι:=Nat) (fun q=>⟨[(0,.pt 0 [] 0),(2,.pt 502 [] 0),(3,.pt 503 [] 0),(5,.t (.int j)),(9,.t (.int q))],[(0,bu l (Wf q).1),(502,.box 32 (.t (.agg [.lit (.slice none 0 0),.lit (.slice none 0 0),.lit (.slice none 0 0),.lit (.slice none 0 0),.int 0,.int 0]))),(503,.box 32 (.ag [.t (.sl 1 NN),.t (.sl 7 GG),.own 523,.own 524,.t (.int vp),.t (.int st)])),(523,.list 101 3 ((Wf q).2.1.map dO)),(524,.list 103 5 ((Wf q).2.2.map eF))]⟩) (fun q=>q≤j+1) (fun q=>j+1 - q) 0 [(0,some 0),(502,some 502),(503,some 503),(523,none),(524,none)] (by omega) ?_ ?_
    ·exact dJ W0
    intro q hq
    obtain⟨⟨kk,P,Z⟩,hw⟩:∃ x,Wf q=x:=⟨_,rfl⟩
    obtain⟨hP,hZ⟩:=hW q
    rw[hw]at hP hZ ⊢
    dsimp only at hP hZ ⊢
    by_cases hb3:q < j+1
    ·have hk:=hP.src
     have hPl:=hP.len
     have hZl:=hZ.len
     have cn1:=o9 113 ⟨#[113]⟩ rfl P.length (by omega)
     have cn2:=o9 115 ⟨#[115]⟩ rfl Z.length (by omega)
     have hPm:(P.map dO).length=P.length:=List.length_map _
     have hZm:(Z.map eF).length=Z.length:=List.length_map _
     obtain⟨PT,hPT⟩:∃ X,P.map dO=X:=⟨_,rfl⟩
     obtain⟨ZT,hZT⟩:∃ X,Z.map eF=X:=⟨_,rfl⟩
     rw[hPT]at hPm
     rw[hZT]at hZm
     have hwS:=Ws q
     rw[hw]at hwS
     dsimp only at hwS
     rw[hPT,hZT]
     by_cases h0:q=0
     ·subst h0
      have cpk:=dC (l:=l) hk iU (by simp[iU]) (by simp[iU])
      obtain⟨pv,hpv⟩:∃ x,cU l kk iU=x:=⟨_,rfl⟩
      rw[hpv,show iU=[300000,1000000,0,5000000] from rfl]at cpk
      have ep:ld l j 0 kk P=(ai l kk,P++[([113,97+P.length],((0:Nat):Int),pv)]):=by unfold ld;rw[if_pos (Or.inl rfl),hpv]
      have c3:=kv l (ai l kk) 3 hk.next (by omega)
      have b3:=bD (l:=l) (k:=(ai l kk)) (n:=3) (by omega)
      by_cases hz:nV l (ai l kk) 3=0
      ·rw[hz]at c3
       have csa:=dC (l:=l) hk.next.next [500000,2000000,0] (by simp) (by simp)
       obtain⟨sa,hsa⟩:∃ x,cU l (ai l (ai l kk)) [500000,2000000,0]=x:=⟨_,rfl⟩
       rw[hsa]at csa
       have csb:=dC (l:=l) hk.next.next.next [0,200,100000] (by simp) (by simp)
       obtain⟨sb,hsb⟩:∃ x,cU l (ai l (ai l (ai l kk))) [0,200,100000]=x:=⟨_,rfl⟩
       rw[hsb]at csb
       have csc:=dC (l:=l) hk.next.next.next.next [0,100000,400000] (by simp) (by simp)
       obtain⟨sc,hsc⟩:∃ x,cU l (ai l (ai l (ai l (ai l kk)))) [0,100000,400000]=x:=⟨_,rfl⟩
       rw[hsc]at csc
       have es:jI l j 0 (ai l kk) Z=((ai l (ai l (ai l (ai l (ai l kk))))),Z++[([115,97+Z.length],((0:Nat):Int),sa,sb,sc)]):=by unfold jI;rw[if_pos (by omega),if_pos hz,hsa,hsb,hsc]
       rw[ep]at hwS
       dsimp only at hwS
       rw[es]at hwS
       dsimp only at hwS
       refine fg hb3 hPm hZm ?_
       refine lf hPm hZm cn1 [] ?_
       refine Ck hPm hZm cpk [(0,0)] [] [204] ?_
       refine c9 hPm hZm ?_
       refine lf hPm hZm c3 [(0,0)] ?_
       refine fg hz hPm hZm ?_
       refine lf hPm hZm cn2 [] ?_
       refine Ck hPm hZm csa [(0,0)] [] [226] ?_
       refine Ck hPm hZm csb [(0,0)] [] [229] ?_
       refine Ck hPm hZm csc [(0,0)] [] [232] ?_
       refine c9 hPm hZm ?_
       refine nX (0+1) [(0,some 0),(502,some 502),(503,some 503),(523,some 208),(524,some 236)] ?_ ?_ ?_
       ·omega
       ·omega
       simp[go_sem,↓iO,iO,tN,hwS]
       exact⟨hPT,hZT⟩
      ·obtain⟨z3,hz3⟩:∃ x,nV l (ai l kk) 3=x:=⟨_,rfl⟩
       rw[hz3]at c3 b3
       have hz4:¬ z3=0:=by rw[←hz3];exact hz
       have es:jI l j 0 (ai l kk) Z=((ai l (ai l kk)),Z):=by unfold jI;rw[if_pos (by omega),if_neg hz]
       rw[ep]at hwS
       dsimp only at hwS
       rw[es]at hwS
       dsimp only at hwS
       refine fg hb3 hPm hZm ?_
       refine lf hPm hZm cn1 [] ?_
       refine Ck hPm hZm cpk [(0,0)] [] [204] ?_
       refine c9 hPm hZm ?_
       refine lf hPm hZm c3 [(0,0)] ?_
       refine fg hz hPm hZm ?_
       refine nX (0+1) [(0,some 0),(502,some 502),(503,some 503),(523,some 208),(524,some 524)] ?_ ?_ ?_
       ·omega
       ·omega
       simp[go_sem,↓iO,iO,tN,hwS]
       exact⟨hPT,hZT⟩
     ·by_cases hm2:q=j
      ·subst hm2
       have cpk:=dC (l:=l) hk iU (by simp[iU]) (by simp[iU])
       obtain⟨pv,hpv⟩:∃ x,cU l kk iU=x:=⟨_,rfl⟩
       rw[hpv,show iU=[300000,1000000,0,5000000] from rfl]at cpk
       have ep:ld l q q kk P=(ai l kk,P++[([113,97+P.length],(q:Int),pv)]):=by unfold ld;rw[if_pos (Or.inr rfl),hpv]
       have es:jI l q q (ai l kk) Z=((ai l kk),Z):=by unfold jI;rw[if_neg (by omega)]
       rw[ep]at hwS
       dsimp only at hwS
       rw[es]at hwS
       dsimp only at hwS
       refine fg hb3 hPm hZm ?_
       refine lf hPm hZm cn1 [] ?_
       refine Ck hPm hZm cpk [(0,0)] [] [204] ?_
       refine c9 hPm hZm ?_
       refine nX (q+1) [(0,some 0),(502,some 502),(503,some 503),(523,some 208),(524,some 524)] ?_ ?_ ?_
       ·omega
       ·omega
       simp[go_sem,↓iO,iO,tN,hwS]
       exact⟨hPT,hZT⟩
      ·have c2:=kv l kk 2 hk (by omega)
       have b2:=bD (l:=l) (k:=kk) (n:=2) (by omega)
       have hor:¬ (q=0∨q=j):=fun x=>x.elim h0 hm2
       by_cases hv2:nV l kk 2=0
       ·rw[hv2]at c2
        have cpk:=dC (l:=l) hk.next iU (by simp[iU]) (by simp[iU])
        obtain⟨pv,hpv⟩:∃ x,cU l (ai l kk) iU=x:=⟨_,rfl⟩
        rw[hpv,show iU=[300000,1000000,0,5000000] from rfl]at cpk
        have ep:ld l j q kk P=(ai l (ai l kk),P++[([113,97+P.length],(q:Int),pv)]):=by unfold ld;rw[if_neg hor,if_pos hv2,hpv]
        have c3:=kv l (ai l (ai l kk)) 3 hk.next.next (by omega)
        have b3:=bD (l:=l) (k:=(ai l (ai l kk))) (n:=3) (by omega)
        by_cases hz:nV l (ai l (ai l kk)) 3=0
        ·rw[hz]at c3
         have csa:=dC (l:=l) hk.next.next.next [500000,2000000,0] (by simp) (by simp)
         obtain⟨sa,hsa⟩:∃ x,cU l (ai l (ai l (ai l kk))) [500000,2000000,0]=x:=⟨_,rfl⟩
         rw[hsa]at csa
         have csb:=dC (l:=l) hk.next.next.next.next [0,200,100000] (by simp) (by simp)
         obtain⟨sb,hsb⟩:∃ x,cU l (ai l (ai l (ai l (ai l kk)))) [0,200,100000]=x:=⟨_,rfl⟩
         rw[hsb]at csb
         have csc:=dC (l:=l) hk.next.next.next.next.next [0,100000,400000] (by simp) (by simp)
         obtain⟨sc,hsc⟩:∃ x,cU l (ai l (ai l (ai l (ai l (ai l kk))))) [0,100000,400000]=x:=⟨_,rfl⟩
         rw[hsc]at csc
         have es:jI l j q (ai l (ai l kk)) Z=((ai l (ai l (ai l (ai l (ai l (ai l kk)))))),Z++[([115,97+Z.length],(q:Int),sa,sb,sc)]):=by unfold jI;rw[if_pos (by omega),if_pos hz,hsa,hsb,hsc]
         rw[ep]at hwS
         dsimp only at hwS
         rw[es]at hwS
         dsimp only at hwS
         refine fg hb3 hPm hZm ?_
         refine ax c2 [(0,0)] ?_
         refine fg hv2 hPm hZm ?_
         refine lf hPm hZm cn1 [] ?_
         refine Ck hPm hZm cpk [(0,0)] [] [204] ?_
         refine c9 hPm hZm ?_
         refine lf hPm hZm c3 [(0,0)] ?_
         refine fg hz hPm hZm ?_
         refine lf hPm hZm cn2 [] ?_
         refine Ck hPm hZm csa [(0,0)] [] [226] ?_
         refine Ck hPm hZm csb [(0,0)] [] [229] ?_
         refine Ck hPm hZm csc [(0,0)] [] [232] ?_
         refine c9 hPm hZm ?_
         refine nX (q+1) [(0,some 0),(502,some 502),(503,some 503),(523,some 208),(524,some 236)] ?_ ?_ ?_
         ·omega
         ·omega
         simp[go_sem,↓iO,iO,tN,hwS]
         exact⟨hPT,hZT⟩
        ·obtain⟨z3,hz3⟩:∃ x,nV l (ai l (ai l kk)) 3=x:=⟨_,rfl⟩
         rw[hz3]at c3 b3
         have hz4:¬ z3=0:=by rw[←hz3];exact hz
         have es:jI l j q (ai l (ai l kk)) Z=((ai l (ai l (ai l kk))),Z):=by unfold jI;rw[if_pos (by omega),if_neg hz]
         rw[ep]at hwS
         dsimp only at hwS
         rw[es]at hwS
         dsimp only at hwS
         refine fg hb3 hPm hZm ?_
         refine ax c2 [(0,0)] ?_
         refine fg hv2 hPm hZm ?_
         refine lf hPm hZm cn1 [] ?_
         refine Ck hPm hZm cpk [(0,0)] [] [204] ?_
         refine c9 hPm hZm ?_
         refine lf hPm hZm c3 [(0,0)] ?_
         refine fg hz hPm hZm ?_
         refine nX (q+1) [(0,some 0),(502,some 502),(503,some 503),(523,some 208),(524,some 524)] ?_ ?_ ?_
         ·omega
         ·omega
         simp[go_sem,↓iO,iO,tN,hwS]
         exact⟨hPT,hZT⟩
       ·have ep:ld l j q kk P=(ai l kk,P):=by unfold ld;rw[if_neg hor,if_neg hv2]
        obtain⟨v2,hv3⟩:∃ x,nV l kk 2=x:=⟨_,rfl⟩
        rw[hv3]at c2 b2 hv2
        have c3:=kv l (ai l kk) 3 hk.next (by omega)
        have b3:=bD (l:=l) (k:=(ai l kk)) (n:=3) (by omega)
        by_cases hz:nV l (ai l kk) 3=0
        ·rw[hz]at c3
         have csa:=dC (l:=l) hk.next.next [500000,2000000,0] (by simp) (by simp)
         obtain⟨sa,hsa⟩:∃ x,cU l (ai l (ai l kk)) [500000,2000000,0]=x:=⟨_,rfl⟩
         rw[hsa]at csa
         have csb:=dC (l:=l) hk.next.next.next [0,200,100000] (by simp) (by simp)
         obtain⟨sb,hsb⟩:∃ x,cU l (ai l (ai l (ai l kk))) [0,200,100000]=x:=⟨_,rfl⟩
         rw[hsb]at csb
         have csc:=dC (l:=l) hk.next.next.next.next [0,100000,400000] (by simp) (by simp)
         obtain⟨sc,hsc⟩:∃ x,cU l (ai l (ai l (ai l (ai l kk)))) [0,100000,400000]=x:=⟨_,rfl⟩
         rw[hsc]at csc
         have es:jI l j q (ai l kk) Z=((ai l (ai l (ai l (ai l (ai l kk))))),Z++[([115,97+Z.length],(q:Int),sa,sb,sc)]):=by unfold jI;rw[if_pos (by omega),if_pos hz,hsa,hsb,hsc]
         rw[ep]at hwS
         dsimp only at hwS
         rw[es]at hwS
         dsimp only at hwS
         refine fg hb3 hPm hZm ?_
         refine ax c2 [(0,0)] ?_
         refine fg hv2 hPm hZm ?_
         refine lf hPm hZm c3 [(0,0)] ?_
         refine fg hz hPm hZm ?_
         refine lf hPm hZm cn2 [] ?_
         refine Ck hPm hZm csa [(0,0)] [] [226] ?_
         refine Ck hPm hZm csb [(0,0)] [] [229] ?_
         refine Ck hPm hZm csc [(0,0)] [] [232] ?_
         refine c9 hPm hZm ?_
         refine nX (q+1) [(0,some 0),(502,some 502),(503,some 503),(523,some 523),(524,some 236)] ?_ ?_ ?_
         ·omega
         ·omega
         simp[go_sem,↓iO,iO,tN,hwS]
         exact⟨hPT,hZT⟩
        ·obtain⟨z3,hz3⟩:∃ x,nV l (ai l kk) 3=x:=⟨_,rfl⟩
         rw[hz3]at c3 b3
         have hz4:¬ z3=0:=by rw[←hz3];exact hz
         have es:jI l j q (ai l kk) Z=((ai l (ai l kk)),Z):=by unfold jI;rw[if_pos (by omega),if_neg hz]
         rw[ep]at hwS
         dsimp only at hwS
         rw[es]at hwS
         dsimp only at hwS
         refine fg hb3 hPm hZm ?_
         refine ax c2 [(0,0)] ?_
         refine fg hv2 hPm hZm ?_
         refine lf hPm hZm c3 [(0,0)] ?_
         refine fg hz hPm hZm ?_
         refine nX (q+1) [(0,some 0),(502,some 502),(503,some 503),(523,some 523),(524,some 524)] ?_ ?_ ?_
         ·omega
         ·omega
         simp[go_sem,↓iO,iO,tN,hwS]
         exact⟨hPT,hZT⟩
    ·obtain rfl:q=j+1:=by omega
     rw[hw]
     refine ah ?_
     exact aF [(0,some 0)]
def sD (l:List Int) (k:Nat):Nat→Nat
 | 0=>k
 | j+1=>ai l (sD l k j)
theorem DO {l:List Int} {k:Nat} (h:aV l k):∀ j,aV l (sD l k j)
 | 0=>h
 | j+1=>(DO h j).next
def gC (S:List eH) (i:Nat):Int:=((S[i]?).map (·.1.fr)).getD 0
def gE (S:List eH) (i:Nat):Int:=((S[i]?).map (·.1.to)).getD 0
def LM (S:List eH) (i:Nat):Int:=((S[i]?).map (·.1.cp)).getD 0
def je (P:List jz) (i:Nat):Int:=((P[i]?).map (·.2.1)).getD 0
def LW (P:List jz) (pr:List Int) (a:Nat) (at' rate:Int) (w:Bool) (j:Nat):Bool:=decide (je P j=at'∧j≠a∧pr.getD j 0≤0∧-1000≤pr.getD j 0 - rate) && w
def yd (l:List Int) (P:List jz) (pr:List Int) (a:Nat) (at' rate:Int) (w:Bool) (k:Nat):Nat→Nat×Int
 | 0=>(k,-1)
 | j+1=>if LW P pr a at' rate w j=true then (ai l (yd l P pr a at' rate w k j).1,if nV l (yd l P pr a at' rate w k j).1 2=0 then (j:Int) else (yd l P pr a at' rate w k j).2) else yd l P pr a at' rate w k j
def N9 (S:List eH) (rs:List Int) (at' rate:Int) (i:Nat):Bool:=decide ((gC S i=at'∨gE S i=at')∧at' < gC S i+gE S i - at'∧max (rs.getD i 0) (-(rs.getD i 0))+rate≤min 1000 (LM S i))
def vK (S:List eH) (rs:List Int) (at' rate:Int):Nat→List Nat
 | 0=>[]
 | i+1=>if N9 S rs at' rate i=true then vK S rs at' rate i++[i] else vK S rs at' rate i
def u0 (l:List Int) (S:List eH) (P:List jz) (rs pr:List Int) (a:Nat) (rate:Int):Nat→Nat×List Nat×Int→Nat×List Nat×Int
 | 0,x=>(x.1,x.2.1,-1)
 | f+1,x=>
  if 0≤(yd l P pr a x.2.2 rate (!x.2.1.isEmpty) x.1 P.length).2 then ((yd l P pr a x.2.2 rate (!x.2.1.isEmpty) x.1 P.length).1,x.2.1,(yd l P pr a x.2.2 rate (!x.2.1.isEmpty) x.1 P.length).2)
  else if vK S rs x.2.2 rate S.length=[] then ((yd l P pr a x.2.2 rate (!x.2.1.isEmpty) x.1 P.length).1,x.2.1,-1)
  else u0 l S P rs pr a rate f (ai l (yd l P pr a x.2.2 rate (!x.2.1.isEmpty) x.1 P.length).1,
   x.2.1++[(vK S rs x.2.2 rate S.length).getD (nV l (yd l P pr a x.2.2 rate (!x.2.1.isEmpty) x.1 P.length).1 (vK S rs x.2.2 rate S.length).length).toNat 0],
   gC S ((vK S rs x.2.2 rate S.length).getD (nV l (yd l P pr a x.2.2 rate (!x.2.1.isEmpty) x.1 P.length).1 (vK S rs x.2.2 rate S.length).length).toNat 0)+gE S ((vK S rs x.2.2 rate S.length).getD (nV l (yd l P pr a x.2.2 rate (!x.2.1.isEmpty) x.1 P.length).1 (vK S rs x.2.2 rate S.length).length).toNat 0) - x.2.2)
def A3 (S:List eH) (rate:Int) (rs:List Int) (c:Nat):List Int:=rs.set c (if gC S c < gE S c then rs.getD c 0+rate else rs.getD c 0 - rate)
def ib (S:List eH) (rate:Int) (rs:List Int):List Nat→List Int
 | []=>rs
 | c :: w=>ib S rate (A3 S rate rs c) w
def vC (pr:List Int) (a e:Nat) (rate:Int):List Int:=(pr.set a (pr.getD a 0+rate)).set e (pr.getD e 0 - rate)
def DA (l:List Int) (S:List eH) (P:List jz) (x:Nat×List Int×List Int):Nat×List Int×List Int:=
 let a:=(nV l x.1 P.length).toNat
 let rate:=da l (ai l (ai l x.1)) 1 (cU l (ai l x.1) [1,5,30,300])
 let k:=ai l (ai l (ai l x.1))
 if x.2.2.getD a 0 < 0∨1000 < x.2.2.getD a 0+rate then (k,x.2.1,x.2.2)
 else
  let w:=u0 l S P x.2.1 x.2.2 a rate 30 (k,[],je P a)
  if w.2.2 < 0 then (w.1,x.2.1,x.2.2) else (w.1,ib S rate x.2.1 w.2.1,vC x.2.2 a w.2.2.toNat rate)
def ind (p:Prop) [Decidable p]:Int:=if p then 1 else 0
structure NX (S:List eH) (P:List jz) (rs pr:List Int):Prop where
 lr:rs.length=S.length
 lp:pr.length=P.length
 bR:∀ i,i < S.length→-(min 1000 (LM S i))≤rs.getD i 0∧rs.getD i 0≤min 1000 (LM S i)
 bP:∀ i,i < P.length→-1000≤pr.getD i 0∧pr.getD i 0≤1000
 dir:∀ i,i < S.length→(0 < rs.getD i 0→gC S i < gE S i)∧(rs.getD i 0 < 0→gE S i < gC S i)
 bal:∀ v:Int,dt P.length (fun i=>pr.getD i 0 * ind (je P i=v))+dt S.length (fun i=>rs.getD i 0 * (ind (gE S i=v) - ind (gC S i=v)))=0
theorem pw {l:List Int} {i j:Nat} {x:Int} (h:i < l.length):(l.set i x).getD j 0=if j=i then x else l.getD j 0:=by
 simp only[List.getD_eq_getElem?_getD,List.getElem?_set]
 by_cases e:i=j
 ·subst e;simp[h]
 ·have:¬ j=i:=fun q=>e q.symm
  simp[e,this]
theorem Ct {l:List Int} {P:List jz} {pr:List Int} {a:Nat} {at' rate:Int} {w:Bool} {k:Nat} (h:aV l k):∀ j,aV l (yd l P pr a at' rate w k j).1∧((yd l P pr a at' rate w k j).2=-1∨∃ e:Nat,(yd l P pr a at' rate w k j).2=(e:Int)∧e < j∧LW P pr a at' rate w e=true)
 | 0=>⟨h,Or.inl rfl⟩
 | j+1=>by
  obtain⟨h1,h2⟩:=Ct (P:=P) (pr:=pr) (a:=a) (at':=at') (rate:=rate) (w:=w) h j
  simp only[yd]
  split
  ·rename_i hc
   refine⟨h1.next,?_⟩
   dsimp only
   split
   ·exact Or.inr ⟨j,rfl,by omega,hc⟩
   ·rcases h2 with e|⟨e,q1,q2,q3⟩
    ·exact Or.inl e
    ·exact Or.inr ⟨e,q1,by omega,q3⟩
  ·refine⟨h1,?_⟩
   rcases h2 with e|⟨e,q1,q2,q3⟩
   ·exact Or.inl e
   ·exact Or.inr ⟨e,q1,by omega,q3⟩
theorem sy {S:List eH} {rs:List Int} {at' rate:Int} {c:Nat}:∀ {n:Nat},c∈vK S rs at' rate n→c < n∧N9 S rs at' rate c=true
 | 0,h=>by simp[vK]at h
 | n+1,h=>by
  simp only[vK]at h
  split at h
  ·rename_i hc
   rcases List.mem_append.1 h with h|h
   ·have:=sy h;exact⟨by omega,this.2⟩
   ·simp at h;subst h;exact⟨by omega,hc⟩
  ·have:=sy h;exact⟨by omega,this.2⟩
theorem EY {S:List eH} {rs:List Int} {at' rate:Int}:∀ n,(vK S rs at' rate n).length≤n
 | 0=>by simp[vK]
 | n+1=>by
  have:=EY (S:=S) (rs:=rs) (at':=at') (rate:=rate) n
  simp only[vK]
  split
  ·simp;omega
  ·omega
inductive Way (S:List eH) (rs:List Int) (rate:Int) (s:Int):List Nat→Int→Prop
 | nil:Way S rs rate s [] s
 | snoc {w:List Nat} {t:Int} {c:Nat}:Way S rs rate s w t→c < S.length→N9 S rs t rate c=true→Way S rs rate s (w++[c]) (gC S c+gE S c - t)
theorem ET {l:List Int} {S:List eH} {P:List jz} {rs pr:List Int} {a:Nat} {rate s:Int}:∀ (f:Nat) (x:Nat×List Nat×Int),aV l x.1→Way S rs rate s x.2.1 x.2.2→
  aV l (u0 l S P rs pr a rate f x).1∧((u0 l S P rs pr a rate f x).2.2=-1∨∃ (e:Nat) (t:Int),(u0 l S P rs pr a rate f x).2.2=(e:Int)∧e < P.length∧Way S rs rate s (u0 l S P rs pr a rate f x).2.1 t∧LW P pr a t rate true e=true)
 | 0,x,h,_=>⟨h,Or.inl rfl⟩
 | f+1,x,h,hw=>by
  obtain⟨h1,h2⟩:=Ct (P:=P) (pr:=pr) (a:=a) (at':=x.2.2) (rate:=rate) (w:=!x.2.1.isEmpty) h P.length
  simp only[u0]
  split
  ·rename_i h0
   refine⟨h1,Or.inr ?_⟩
   rcases h2 with e|⟨e,q1,q2,q3⟩
   ·omega
   ·refine⟨e,x.2.2,q1,q2,hw,?_⟩
    simp only[LW,Bool.and_eq_true]at q3 ⊢
    exact⟨q3.1,trivial⟩
  ·split
   ·exact⟨h1,Or.inl rfl⟩
   ·rename_i h0 hne
    have hl:0 < (vK S rs x.2.2 rate S.length).length:=List.length_pos_iff.2 hne
    have hn:=bD (l:=l) (k:=(yd l P pr a x.2.2 rate (!x.2.1.isEmpty) x.1 P.length).1) (n:=(vK S rs x.2.2 rate S.length).length) (by omega)
    refine ET f _ h1.next ?_
    have hm:(vK S rs x.2.2 rate S.length).getD (nV l (yd l P pr a x.2.2 rate (!x.2.1.isEmpty) x.1 P.length).1 (vK S rs x.2.2 rate S.length).length).toNat 0∈vK S rs x.2.2 rate S.length:=by
     rw[List.getD_eq_getElem?_getD,List.getElem?_eq_getElem (by omega)]
     exact List.getElem_mem _
    have:=sy hm
    exact Way.snoc hw this.1 this.2
theorem lK {S:List eH} {rs:List Int} {rate s:Int} {w:List Nat} {t:Int} (h:Way S rs rate s w t):s≤t∧∀ c∈w,c < S.length∧N9 S rs (min (gC S c) (gE S c)) rate c=true∧min (gC S c) (gE S c) < t:=by
 induction h with
 | nil=>exact⟨Int.le_refl _,by simp⟩
 | snoc hw hc ho ih=>
  rename_i w t c
  have ho2:=of_decide_eq_true ho
  obtain⟨h1,h2,h3⟩:=ho2
  refine⟨by omega,fun c' hc'=>?_⟩
  rcases List.mem_append.1 hc' with hm|hm
  ·have:=ih.2 c' hm
   exact⟨this.1,this.2.1,by omega⟩
  ·simp at hm;subst hm
   have e:min (gC S c') (gE S c')=t:=by omega
   rw[e]
   exact⟨hc,ho,by omega⟩
theorem pL {S:List eH} {rs:List Int} {rate s:Int} {w:List Nat} {t:Int} (h:Way S rs rate s w t):w.Nodup:=by
 induction h with
 | nil=>exact List.nodup_nil
 | snoc hw hc ho ih=>
  rename_i w t c
  refine List.nodup_append.2 ⟨ih,by simp,fun a ha b hb e=>?_⟩
  simp at hb
  subst hb;subst e
  have h1:=(lK hw).2 a ha
  have h2:=of_decide_eq_true ho
  omega
theorem qB (S:List eH) (rate:Int):∀ (w:List Nat) (rs:List Int),(ib S rate rs w).length=rs.length
 | [],rs=>rfl
 | c :: w,rs=>by simp only[ib];rw[qB S rate w];simp[A3]
theorem pW (S:List eH) (rate:Int):∀ (w:List Nat) (rs:List Int),w.Nodup→(∀ c∈w,c < rs.length)→∀ i,(ib S rate rs w).getD i 0=if i∈w then (if gC S i < gE S i then rs.getD i 0+rate else rs.getD i 0 - rate) else rs.getD i 0
 | [],rs,_,_,i=>by simp[ib]
 | c :: w,rs,hn,hl,i=>by
  have hn2:=List.nodup_cons.1 hn
  have hc:=hl c (by simp)
  simp only[ib]
  rw[pW S rate w (A3 S rate rs c) hn2.2 (fun c' h=>by simp only[A3,List.length_set];exact hl c' (by simp[h]))]
  simp only[A3]
  rw[pw hc]
  by_cases hi:i∈w
  ·have:¬ i=c:=fun e=>hn2.1 (e ▸ hi)
   rw[if_pos hi,if_neg this,if_pos (List.mem_cons_of_mem _ hi)]
  ·rw[if_neg hi]
   by_cases e:i=c
   ·subst e
    have hm:i∈i :: w:=by simp
    rw[if_pos rfl,if_pos hm]
   ·rw[if_neg e,if_neg (by simp[e,hi])]
theorem Ng {S:List eH} {rs:List Int} {rate s:Int} {w:List Nat} {t:Int} (h:Way S rs rate s w t) (v:Int):dt S.length (fun i=>if i∈w then (if gC S i < gE S i then rate else -rate) * (ind (gE S i=v) - ind (gC S i=v)) else 0)=rate * (ind (t=v) - ind (s=v)):=by
 induction h with
 | nil=>
  rw[lk fun i hi=>by simp]
  have:ind (s=v) - ind (s=v)=0:=by omega
  rw[this];simp
 | snoc hw hc ho ih=>
  rename_i w t c
  have hcw:c∉w:=fun hm=>by
   have h1:=(lK hw).2 c hm
   have h2:=of_decide_eq_true ho
   omega
  rw[ob (f:=fun i=>if i∈w then (if gC S i < gE S i then rate else -rate) * (ind (gE S i=v) - ind (gC S i=v)) else 0) (i:=c) (x:=rate * (ind (gC S c+gE S c - t=v) - ind (t=v))) hc ?_ ?_,ih]
  ·rw[←Int.mul_add];congr 1;omega
  ·rw[if_neg hcw,if_pos (by simp)]
   obtain⟨h1,h2,_⟩:=of_decide_eq_true ho
   rcases h1 with h1|h1
   ·have e:gC S c+gE S c - t=gE S c:=by omega
    rw[if_pos (by omega),e,h1];omega
   ·have e:gC S c+gE S c - t=gC S c:=by omega
    rw[if_neg (by omega),e,h1,Int.zero_add,Int.neg_mul,←Int.mul_neg];congr 1;omega
  ·intro j hj hne
   by_cases hm:j∈w
   ·rw[if_pos hm,if_pos (by simp[hm])]
   ·rw[if_neg hm,if_neg (by simp[hm,hne])]
theorem Ml {l:List Int} {S:List eH} {P:List jz} (hP:1≤P.length) {x:Nat×List Int×List Int} (h:aV l x.1) (hx:NX S P x.2.1 x.2.2):aV l (DA l S P x).1∧NX S P (DA l S P x).2.1 (DA l S P x).2.2:=by
 have ha:=bD (l:=l) (k:=x.1) (n:=P.length) (by omega)
 have hpk:=dV (l:=l) (k:=ai l x.1) (xs:=[1,5,30,300]) (by simp)
 have hr:=bG (l:=l) (k:=ai l (ai l x.1)) (lo:=1) (hi:=cU l (ai l x.1) [1,5,30,300]) (by simp at hpk;omega)
 unfold DA
 obtain⟨a,haa⟩:∃ a,(nV l x.1 P.length).toNat=a:=⟨_,rfl⟩
 obtain⟨pk,hpp⟩:∃ a,cU l (ai l x.1) [1,5,30,300]=a:=⟨_,rfl⟩
 rw[hpp]at hpk hr ⊢
 obtain⟨rate,hrr⟩:∃ a,da l (ai l (ai l x.1)) 1 pk=a:=⟨_,rfl⟩
 rw[haa]
 rw[hrr]at hr ⊢
 simp at hpk
 dsimp only
 split
 ·exact⟨h.next.next.next,hx⟩
 ·rename_i hc
  obtain⟨w1,w2⟩:=ET (l:=l) (S:=S) (P:=P) (rs:=x.2.1) (pr:=x.2.2) (a:=a) (rate:=rate) (s:=je P a) 30 (ai l (ai l (ai l x.1)),[],je P a) h.next.next.next Way.nil
  obtain⟨⟨wk,ww,we⟩,hw⟩:∃ w,u0 l S P x.2.1 x.2.2 a rate 30 (ai l (ai l (ai l x.1)),[],je P a)=w:=⟨_,rfl⟩
  rw[hw]at w1 w2 ⊢
  dsimp only at w1 w2 ⊢
  split
  ·exact⟨w1,hx⟩
  ·rename_i he
   refine⟨w1,?_⟩
   rcases w2 with w2|⟨e,t,q1,q2,q3,q4⟩
   ·omega
   ·have e1:we.toNat=e:=by omega
    dsimp only
    rw[e1]
    simp only[LW,Bool.and_true]at q4
    obtain⟨c1,c2,c3,c4⟩:=of_decide_eq_true q4
    have hal:a < P.length:=by omega
    have hwn:=pL q3
    have hwl:∀ c∈ww,c < x.2.1.length:=fun c hc=>by rw[hx.lr];exact ((lK q3).2 c hc).1
    have hg:=pW S rate ww x.2.1 hwn hwl
    have hpg:∀ i,(vC x.2.2 a e rate).getD i 0=if i=e then x.2.2.getD e 0 - rate else if i=a then x.2.2.getD a 0+rate else x.2.2.getD i 0:=fun i=>by
     unfold vC
     rw[pw (by rw[List.length_set,hx.lp];exact q2),pw (by rw[hx.lp];exact hal)]
    have hba:=hx.bP a hal
    refine⟨by rw[qB];exact hx.lr,by simp[vC,hx.lp],fun i hi=>?_,fun i hi=>?_,fun i hi=>?_,fun v=>?_⟩
    ·rw[hg i]
     have hb:=hx.bR i hi
     split
     ·rename_i hm
      obtain⟨_,_,h3⟩:=of_decide_eq_true ((lK q3).2 i hm).2.1
      split<;>omega
     ·exact hb
    ·rw[hpg i]
     have hb:=hx.bP i hi
     split
     ·omega
     ·split
      ·omega
      ·exact hb
    ·rw[hg i]
     have hd:=hx.dir i hi
     split
     ·rename_i hm
      obtain⟨h1,h2,h3⟩:=of_decide_eq_true ((lK q3).2 i hm).2.1
      split<;>omega
     ·exact hd
    ·have hb:=hx.bal v
     have wb:=Ng q3 v
     have s1:dt S.length (fun i=>(ib S rate x.2.1 ww).getD i 0 * (ind (gE S i=v) - ind (gC S i=v)))=dt S.length (fun i=>x.2.1.getD i 0 * (ind (gE S i=v) - ind (gC S i=v)))+rate * (ind (t=v) - ind (je P a=v)):=by
      rw[←wb,←oX]
      refine gw fun i hi=>?_
      rw[hg i]
      split
      ·split
       ·rw[Int.add_mul]
       ·rw[Int.sub_mul,Int.neg_mul];omega
      ·omega
     have p1:dt P.length (fun i=>(if i=a then x.2.2.getD a 0+rate else x.2.2.getD i 0) * ind (je P i=v))=dt P.length (fun i=>x.2.2.getD i 0 * ind (je P i=v))+rate * ind (je P a=v):=
      ob hal (by rw[if_pos rfl,Int.add_mul]) (fun j hj hne=>by rw[if_neg hne])
     have p2:dt P.length (fun i=>(vC x.2.2 a e rate).getD i 0 * ind (je P i=v))=dt P.length (fun i=>(if i=a then x.2.2.getD a 0+rate else x.2.2.getD i 0) * ind (je P i=v))+-(rate * ind (je P e=v)):=
      ob q2 (by rw[hpg e,if_pos rfl,if_neg c2,Int.sub_mul];omega) (fun j hj hne=>by rw[hpg j,if_neg hne])
     rw[c1]at p2
     have hm:rate * (ind (t=v) - ind (je P a=v))=rate * ind (t=v) - rate * ind (je P a=v):=Int.mul_sub _ _ _
     omega
def AE (l:List Int) (S:List eH) (P:List jz) (k:Nat):Nat→Nat×List Int×List Int
 | 0=>(k,List.replicate S.length 0,List.replicate P.length 0)
 | j+1=>DA l S P (AE l S P k j)
theorem fY (n i:Nat):(List.replicate n (0:Int)).getD i 0=0:=by
 rw[List.getD_eq_getElem?_getD,List.getElem?_replicate]
 split<;>rfl
theorem yC {l:List Int} {S:List eH} {P:List jz} (hP:1≤P.length) (hc:∀ i,i < S.length→0≤LM S i) {k:Nat} (h:aV l k):∀ j,aV l (AE l S P k j).1∧NX S P (AE l S P k j).2.1 (AE l S P k j).2.2
 | 0=>⟨h,by
  refine⟨by simp[AE],by simp[AE],fun i hi=>?_,fun i hi=>?_,fun i hi=>?_,fun v=>?_⟩
  ·show _≤(List.replicate S.length (0:Int)).getD i 0∧(List.replicate S.length (0:Int)).getD i 0≤_
   rw[fY]
   have:=hc i hi;omega
  ·show _≤(List.replicate P.length (0:Int)).getD i 0∧(List.replicate P.length (0:Int)).getD i 0≤_
   rw[fY];omega
  ·show (0 < (List.replicate S.length (0:Int)).getD i 0→_)∧((List.replicate S.length (0:Int)).getD i 0 < 0→_)
   rw[fY];omega
  ·show dt P.length (fun i=>(List.replicate P.length (0:Int)).getD i 0 * ind (je P i=v))+dt S.length (fun i=>(List.replicate S.length (0:Int)).getD i 0 * (ind (gE S i=v) - ind (gC S i=v)))=0
   rw[lk fun i hi=>by rw[fY,Int.zero_mul],lk fun i hi=>by rw[fY,Int.zero_mul]];rfl⟩
 | j+1=>by
  obtain⟨h1,h2⟩:=yC hP hc h j
  exact Ml hP h1 h2
structure N8 (S:List eH) (P:List jz) (ρ:Nat→Nat) (rs pr:List Int):Prop where
 lr:rs.length=S.length
 lp:pr.length=P.length
 bR:∀ i,i < S.length→-(min 1000 (LM S i))≤rs.getD i 0∧rs.getD i 0≤min 1000 (LM S i)
 bP:∀ i,i < P.length→-1000≤pr.getD i 0∧pr.getD i 0≤1000
 dir:∀ i,i < S.length→rs.getD i 0≠0→ρ (mU (gC S i) (gE S i) (rs.getD i 0)).toNat < ρ (rE (gC S i) (gE S i) (rs.getD i 0)).toNat
 bal:∀ v:Int,dt P.length (fun i=>pr.getD i 0 * ind (je P i=v))+dt S.length (fun i=>rs.getD i 0 * (ind (gE S i=v) - ind (gC S i=v)))=0
theorem NX.up {S:List eH} {P:List jz} {rs pr:List Int} (h:NX S P rs pr) (hn:∀ i,i < S.length→0≤gC S i∧0≤gE S i):N8 S P (fun k=>k) rs pr:=
 ⟨h.lr,h.lp,h.bR,h.bP,fun i hi hr=>by
  have h1:=h.dir i hi
  have h2:=hn i hi
  unfold mU rE
  split<;>omega,h.bal⟩
theorem mh (l:List Int) (i:Nat):(l.map fun x=>-x).getD i 0=-(l.getD i 0):=by
 simp only[List.getD_eq_getElem?_getD,List.getElem?_map]
 cases l[i]?<;>simp
theorem NX.down {S:List eH} {P:List jz} {rs pr:List Int} (h:NX S P rs pr) (n:Nat) (hn:∀ i,i < S.length→(0≤gC S i∧gC S i < n)∧0≤gE S i∧gE S i < n):N8 S P (fun k=>n - k) (rs.map fun x=>-x) (pr.map fun x=>-x):=by
 refine⟨by simp[h.lr],by simp[h.lp],fun i hi=>?_,fun i hi=>?_,fun i hi hr=>?_,fun v=>?_⟩
 ·rw[mh];have:=h.bR i hi;omega
 ·rw[mh];have:=h.bP i hi;omega
 ·rw[mh]at hr ⊢
  have h1:=h.dir i hi
  have h2:=hn i hi
  unfold mU rE
  split<;>omega
 ·have hb:=h.bal v
  have e1:dt P.length (fun i=>(pr.map fun x=>-x).getD i 0 * ind (je P i=v))+dt P.length (fun i=>pr.getD i 0 * ind (je P i=v))=0:=by
   rw[←oX]
   exact lk fun i hi=>by rw[mh,Int.neg_mul];omega
  have e2:dt S.length (fun i=>(rs.map fun x=>-x).getD i 0 * (ind (gE S i=v) - ind (gC S i=v)))+dt S.length (fun i=>rs.getD i 0 * (ind (gE S i=v) - ind (gC S i=v)))=0:=by
   rw[←oX]
   exact lk fun i hi=>by rw[mh,Int.neg_mul];omega
  omega
def Lt (v:Int) (x:Int×Int×Int):Int:=x.2.2 * (ind (x.2.1=v) - ind (x.1=v))
theorem BI (v:Int):∀ (S:List eH) (rs:List Int),rs.length=S.length→Dl.jC ((cg S rs).map (Lt v))=dt S.length fun i=>rs.getD i 0 * (ind (gE S i=v) - ind (gC S i=v))
 | [],rs,_=>by simp[cg,Dl.jC,dt]
 | s :: S,[],h=>by simp at h
 | s :: S,r :: rs,h=>by
  have ih:=BI v S rs (by simpa using h)
  rw[List.length_cons,qb]
  have e:(dt S.length fun i=>(r :: rs).getD (i+1) 0 * (ind (gE (s :: S) (i+1)=v) - ind (gC (s :: S) (i+1)=v)))=dt S.length fun i=>rs.getD i 0 * (ind (gE S i=v) - ind (gC S i=v)):=gw fun i hi=>by rw[show gE (s :: S) (i+1)=gE S i by simp[gE],show gC (s :: S) (i+1)=gC S i by simp[gC],List.getD_cons_succ]
  rw[e,←ih]
  simp[cg,Lt,Dl.jC,gE,gC]
theorem BO (v:Int) (hv:0≤v):∀ (P:List jz) (pr:List Int),pr.length=P.length→Dl.jC ((eP P pr).map (Lt v))=dt P.length fun i=>pr.getD i 0 * ind (je P i=v)
 | [],rs,_=>by simp[eP,Dl.jC,dt]
 | s :: S,[],h=>by simp at h
 | s :: S,r :: rs,h=>by
  have ih:=BO v hv S rs (by simpa using h)
  rw[List.length_cons,qb]
  have e:(dt S.length fun i=>(r :: rs).getD (i+1) 0 * ind (je (s :: S) (i+1)=v))=dt S.length fun i=>rs.getD i 0 * ind (je S i=v):=gw fun i hi=>by rw[show je (s :: S) (i+1)=je S i by simp[je],List.getD_cons_succ]
  rw[e,←ih]
  have hm:ind ((-1:Int)=v)=0:=by unfold ind;rw[if_neg (by omega)]
  simp[eP,Lt,Dl.jC,je,hm]
theorem tD {c:List Int} {k r:Int} {v:Nat} (hv:v < c.length):(kM c k r).getD v 0=c.getD v 0+r * ind (k=(v:Int)):=by
 unfold kM ind
 by_cases h0:0≤k
 ·rw[if_pos h0]
  by_cases e:k=(v:Int)
  ·subst e
   rw[if_pos rfl,pw (by simpa using hv)]
   simp
  ·rw[if_neg e,List.getD_eq_getElem?_getD,List.getElem?_set_ne (by omega),List.getD_eq_getElem?_getD];omega
 ·rw[if_neg h0,if_neg (by omega)];omega
theorem ud (v:Nat) (hv:v < 24):∀ (l:fR) (s:List Int×List Int),s.1.length=24→s.2.length=24→(l.foldl kL s).1.getD v 0 - (l.foldl kL s).2.getD v 0=s.1.getD v 0 - s.2.getD v 0+Dl.jC (l.map (Lt v))
 | [],s,_,_=>by simp[Dl.jC]
 | x :: r,s,h1,h2=>by
  have ih:=ud v hv r (kL s x) (by simp only[kL,oy,h1]) (by simp only[kL,oy,h2])
  rw[List.foldl_cons,ih]
  simp only[kL,List.map_cons,Dl.jC]
  rw[tD (by omega),tD (by omega)]
  have:mr x.2.2 * ind (rE x.1 x.2.1 x.2.2=(v:Int)) - mr x.2.2 * ind (mU x.1 x.2.1 x.2.2=(v:Int))=Lt v x:=by
   rw[←Int.mul_sub]
   unfold Lt mr rE mU
   split
   ·rw[Int.neg_mul,←Int.mul_neg];congr 1;omega
   ·rfl
  omega
theorem N8.flow {d:aB} (hd:eE d) {ρ:Nat→Nat} {rs pr:List Int} (h:N8 d.segs d.ports ρ rs pr):(gL (cg d.segs rs++eP d.ports pr)).1=(gL (cg d.segs rs++eP d.ports pr)).2:=by
 have hb:∀ x∈cg d.segs rs++eP d.ports pr,-1000≤x.2.2∧x.2.2≤1000:=fun x hx=>by
  rcases List.mem_append.1 hx with hx|hx
  ·obtain⟨⟨s,r⟩,hz,rfl⟩:=List.mem_map.1 hx
   obtain⟨i,hi,e⟩:=List.getElem_of_mem (List.of_mem_zip hz).2
   have:=h.bR i (by rw[←h.lr];exact hi)
   rw[List.getD_eq_getElem?_getD,List.getElem?_eq_getElem hi,e]at this
   simp only[Option.getD_some]at this
   show -1000≤r∧r≤1000
   omega
  ·obtain⟨⟨s,r⟩,hz,rfl⟩:=List.mem_map.1 hx
   obtain⟨i,hi,e⟩:=List.getElem_of_mem (List.of_mem_zip hz).2
   have:=h.bP i (by rw[←h.lp];exact hi)
   rw[List.getD_eq_getElem?_getD,List.getElem?_eq_getElem hi,e]at this
   exact this
 obtain⟨l1,l2⟩:=oR _ hb
 apply List.ext_getElem (by rw[l1,l2])
 intro v h1 h2
 have hv:v < 24:=by omega
 have:=ud v hv (cg d.segs rs++eP d.ports pr) gD rfl rfl
 rw[List.map_append,Dl.za,BI (v:Int) d.segs rs h.lr,BO (v:Int) (by omega) d.ports pr h.lp]at this
 have hbal:=h.bal (v:Int)
 have z:gD.1.getD v 0 - gD.2.getD v 0=0:=by simp[gD]
 have e1:(gL (cg d.segs rs++eP d.ports pr)).1.getD v 0=(gL (cg d.segs rs++eP d.ports pr)).1[v]:=by rw[List.getD_eq_getElem?_getD,List.getElem?_eq_getElem h1];rfl
 have e2:(gL (cg d.segs rs++eP d.ports pr)).2.getD v 0=(gL (cg d.segs rs++eP d.ports pr)).2[v]:=by rw[List.getD_eq_getElem?_getD,List.getElem?_eq_getElem h2];rfl
 rw[←e1,←e2]
 unfold gL
 omega
def C9 (d:aB) (p:Pn) (k:Int):Int:=(gL (cg d.segs p.rs++eP d.ports p.ps)).2.getD k.toNat 0
theorem rY {c:List Int} {k r:Int} {v:Nat} (hv:v < c.length):(kM c k r).getD v 0=c.getD v 0+(if k=(v:Int) then r else 0):=by
 rw[tD hv];unfold ind;split<;>simp
theorem EM {l:List Int} {B:Int} (hB:0≤B) (h:∀ x∈l,0≤x∧x≤B) (v:Nat):0≤l.getD v 0∧l.getD v 0≤B:=by
 by_cases hv:v < l.length
 ·have e:l.getD v 0=l[v]:=by simp[List.getD,hv]
  rw[e];exact h _ (List.getElem_mem hv)
 ·have e:l.getD v 0=0:=by rw[List.getD_eq_getElem?_getD,List.getElem?_eq_none (by omega)];rfl
  rw[e];omega
theorem QJ (d:aB) (hd:bq d) (p:Pn) (h:k9 d p.rs p.ps) (v:Nat) (hv:v < 24):∃ A B P Q:Nat→Int,A 0=0∧B 0=0∧
  (∀ (k:Nat) s r,d.segs[k]? = some s→p.rs[k]? = some r→A (k+1)=A k+(if rE s.1.fr s.1.to r=(v:Int) then mr r else 0)∧B (k+1)=B k+(if mU s.1.fr s.1.to r=(v:Int) then mr r else 0))∧
  (∀ k,(0≤A k∧A k≤100000)∧0≤B k∧B k≤100000)∧P 0=A d.segs.length∧Q 0=B d.segs.length∧
  (∀ (k:Nat) s r,d.ports[k]? = some s→p.ps[k]? = some r→P (k+1)=P k+(if s.2.1=(v:Int) then max 0 r else 0)∧Q (k+1)=Q k+(if s.2.1=(v:Int) then max 0 (-r) else 0))∧
  (∀ k,(0≤P k∧P k≤100000)∧0≤Q k∧Q k≤100000)∧P d.ports.length=fO d p v∧Q d.ports.length=C9 d p v:=by
 obtain⟨A,P,a0,aS,ao,p0,pS,po,pe⟩:=EG d.segs d.ports p.rs p.ps h.l1 h.l2 hd.ok.s1 hd.ok.p1 h.b1 h.b2
 have bd:∀ {s:List Int×List Int},m8 s 100000→(0≤s.1.getD v 0∧s.1.getD v 0≤100000)∧0≤s.2.getD v 0∧s.2.getD v 0≤100000:=fun g=>⟨EM (by omega) g.b1 v,EM (by omega) g.b2 v⟩
 have z:(List.replicate 24 (0:Int)).getD v 0=0:=fY 24 v
 refine⟨fun k=>(A k).1.getD v 0,fun k=>(A k).2.getD v 0,fun k=>(P k).1.getD v 0,fun k=>(P k).2.getD v 0,by dsimp only;rw[a0];exact z,by dsimp only;rw[a0];exact z,fun k s r hs hr=>?_,fun k=>bd (ao k),by dsimp only;rw[p0],by dsimp only;rw[p0],fun k s r hs hr=>?_,fun k=>bd (po k),?_,?_⟩
 ·dsimp only
  rw[aS k s r hs hr]
  exact⟨rY (by rw[(ao k).l1];exact hv),rY (by rw[(ao k).l2];exact hv)⟩
 ·dsimp only
  rw[pS k s r hs hr]
  unfold kL
  dsimp only
  rw[rY (by rw[(po k).l1];exact hv),rY (by rw[(po k).l2];exact hv)]
  unfold rE mU mr
  by_cases hr0:r < 0
  ·rw[if_pos hr0,if_pos hr0,if_pos hr0,if_neg (show ¬ (-1:Int)=v by omega)]
   refine⟨?_,?_⟩<;>split<;>omega
  ·rw[if_neg hr0,if_neg hr0,if_neg hr0,if_neg (show ¬ (-1:Int)=v by omega)]
   refine⟨?_,?_⟩<;>split<;>omega
 ·dsimp only;rw[pe];rfl
 ·dsimp only;rw[pe];rfl
theorem Ln (d:aB) (hd:bq d) (p:Pn) (h:k9 d p.rs p.ps) (hb:∀ k:Nat,k < d.nn.length→fO d p k=C9 d p k) :
  (gL (cg d.segs p.rs++eP d.ports p.ps)).1=(gL (cg d.segs p.rs++eP d.ports p.ps)).2:=by
 have hl:∀ x∈cg d.segs p.rs++eP d.ports p.ps,-1000≤x.2.2∧x.2.2≤1000:=fun x hx=>by
  rcases List.mem_append.1 hx with hx|hx
  ·obtain⟨y,hy,rfl⟩:=List.mem_map.1 hx
   exact h.b1 _ (List.of_mem_zip hy).2
  ·obtain⟨y,hy,rfl⟩:=List.mem_map.1 hx
   exact h.b2 _ (List.of_mem_zip hy).2
 obtain⟨l1,l2⟩:=oR _ hl
 refine List.ext_getElem (by omega) fun v h1 h2=>?_
 have g1:(gL (cg d.segs p.rs++eP d.ports p.ps)).1.getD v 0=(gL (cg d.segs p.rs++eP d.ports p.ps)).2.getD v 0:=by
  by_cases hn:v < d.nn.length
  ·have:=hb v hn
   unfold fO C9 at this
   simpa using this
  ·have:=ud v (by omega) (cg d.segs p.rs++eP d.ports p.ps) gD rfl rfl
   have z1:gD.1.getD v 0=0:=fY 24 v
   have z2:gD.2.getD v 0=0:=fY 24 v
   have z3:∀ (l:fR),(∀ x∈l,Lt (v:Int) x=0)→Dl.jC (l.map (Lt v))=0:=fun l=>by
    induction l with
    | nil=>intro _;rfl
    | cons x r ih=>
     intro hx
     simp only[List.map_cons,Dl.jC,hx x (by simp),ih fun y hy=>hx y (by simp[hy])]
     rfl
   rw[z1,z2,z3 _ fun x hx=>?_]at this
   ·unfold gL;omega
   ·unfold Lt ind
    rcases List.mem_append.1 hx with hx|hx
    ·obtain⟨y,hy,rfl⟩:=List.mem_map.1 hx
     have:=hd.ok.knS _ (List.of_mem_zip hy).1
     dsimp only
     rw[if_neg (by omega),if_neg (by omega)];simp
    ·obtain⟨y,hy,rfl⟩:=List.mem_map.1 hx
     have:=hd.ok.knP _ (List.of_mem_zip hy).1
     dsimp only
     rw[if_neg (by omega),if_neg (by omega)];simp
 rw[List.getD_eq_getElem?_getD,List.getD_eq_getElem?_getD,List.getElem?_eq_getElem h1,List.getElem?_eq_getElem h2]at g1
 exact g1
def j7 (F:fR) (out:List Nat) (i k:Nat):Bool:=!out.contains i && (F.take k).all fun x=>!lU out i x
theorem H2 (F out i):j7 F out i 0=!out.contains i:=by simp[j7]
theorem Gy {F:fR} {out:List Nat} {i k:Nat} {x:Int×Int×Int} (h:F[k]? = some x):j7 F out i (k+1)=(j7 F out i k && !lU out i x):=by
 unfold j7;rw[bC h];simp[Bool.and_assoc]
theorem Lh (F out i):j7 F out i F.length=(!out.contains i && lD F out i):=by simp[j7,lD]
end Go.Proofs.YtocndodilpimnaaGreat
