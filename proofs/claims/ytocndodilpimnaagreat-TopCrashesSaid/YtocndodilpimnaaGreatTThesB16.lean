/- Several texts of this proof, one behind the other. No condition. -/
import Derived.Test.YtocndodilpimnaaGreatTThesB15
import Derived.Test.YtocndodilpimnaaGreatTThesB13
import Derived.Test.YtocndodilpimnaaGreatTThesB1
import Derived.Test.YtocndodilpimnaaGreatTThesB10
set_option maxRecDepth 100000
set_option maxHeartbeats 16000000
set_option linter.unusedVariables false
set_option linter.unusedSimpArgs false
namespace Go.Proofs.YtocndodilpimnaaGreat
open Go.RowKit Sy
theorem O3 (d:aB) (hd:d.nn.length≤24) (k:Int) (h:0≤k∧k < d.nn.length):aj Tryz.prog 191 [.t (.int k),.pt 0 [] 0] [(0,.box 32 (.t (.agg d.l)))] (.t (.bool false)) [(0,.box 32 (.t (.agg d.l)))]:=by
 obtain⟨h1,h2⟩:=h
 refine nI Tryz.func191 rfl Tryz.ntmps191 ?_
 refine c9 h1 h2 ?_
 exact BJ h1 h2 [(0,some 0)]
theorem Me (d:aB) (hd:d.nn.length≤24) (l:List Int) (hlen:l.length≤1000000) (hall:∀ k∈l,0≤k∧k < d.nn.length) :
  aj Tryz.prog 184 [.t (.sl 1 (l.map aC)),.fn 191 [.pt 0 [] 0]] [(0,.box 32 (.t (.agg d.l)))] (.t (.int (-1))) [(0,.box 32 (.t (.agg d.l)))]:=by
 refine nI Tryz.func184 rfl Tryz.ntmps184 ?_
 refine ah ?_
 refine oP ?_
 refine lP (ι:=Nat) (fun j=>⟨[(0,.t (.sl 1 (l.map aC))),(1,.fn 191 [.pt 0 [] 0]),(7,.t (.int l.length)),(8,.t (.int j))],[(0,.box 32 (.t (.agg d.l)))]⟩) (fun j=>j≤l.length) (fun j=>l.length - j) 0 [(0,some 0)] (by omega) ?_
 intro j hj
 by_cases he:j < l.length
 ·obtain⟨m,hm⟩:∃ m,l[j]? = some m:=aa he
  have c:=O3 d hd m (hall m (au hm))
  refine aJ hm ?_
  refine dr hm c [(0,0)] ?_
  refine aJ hm ?_
  exact nY (j+1) [(0,some 0)]
 ·obtain rfl:j=l.length:=by omega
  refine ah ?_
  exact aF [(0,some 0)]
theorem Iv (d:aB) (hd:d.nn.length≤24) (l:List Int) (hlen:l.length≤1000000) (hall:∀ k∈l,0≤k∧k < d.nn.length) :
  aj Tryz.prog 119 [.t (.sl 1 (l.map aC)),.fn 191 [.pt 0 [] 0]] [(0,.box 32 (.t (.agg d.l)))] (.t (.bool false)) [(0,.box 32 (.t (.agg d.l)))]:=by
 have c:=Me d hd l hlen hall
 refine nI Tryz.func119 rfl Tryz.ntmps119 ?_
 refine ah ?_
 refine ax c [(0,0)] ?_
 refine ah ?_
 exact aF [(0,some 0)]
def aB.sn (d:aB) (k:Nat):List Int:=(d.segs.take k).flatMap fun s=>[s.1.fr,s.1.to]
def aB.pn (d:aB) (k:Nat):List Int:=d.sn d.segs.length++(d.ports.take k).map fun p=>p.2.1
def aB.tn (d:aB) (k:Nat):List Int:=d.pn d.ports.length++(d.stns.take k).map fun p=>p.2.1
theorem Mj (d:aB) (k:Nat) (s:eH) (h:d.segs[k]? = some s):d.sn (k+1)=d.sn k++[s.1.fr,s.1.to]:=by
 obtain⟨hk,e⟩:=List.getElem?_eq_some_iff.1 h
 simp only[aB.sn,List.take_succ_eq_append_getElem hk,e,List.flatMap_append];simp
theorem Ky (d:aB) (k:Nat):(d.sn k).length≤2 * k:=by
 simp only[aB.sn,List.length_flatMap]
 have:∀ l:List eH,(l.map fun s=>[s.1.fr,s.1.to].length).sum=2 * l.length:=by
  intro l;induction l with
  | nil=>rfl
  | cons a r ih=>rw[List.map_cons,List.sum_cons,ih];simp;omega
 rw[this,List.length_take];omega
theorem Ly (d:aB) (k:Nat) (s:jz) (h:d.ports[k]? = some s):d.pn (k+1)=d.pn k++[s.2.1]:=by
 obtain⟨hk,e⟩:=List.getElem?_eq_some_iff.1 h
 simp only[aB.pn,List.take_succ_eq_append_getElem hk,e,List.map_append,List.append_assoc,List.map_cons,List.map_nil]
theorem LH (d:aB) (k:Nat) (s:vx) (h:d.stns[k]? = some s):d.tn (k+1)=d.tn k++[s.2.1]:=by
 obtain⟨hk,e⟩:=List.getElem?_eq_some_iff.1 h
 simp only[aB.tn,List.take_succ_eq_append_getElem hk,e,List.map_append,List.append_assoc,List.map_cons,List.map_nil]
theorem PE (d:aB) (h:eE d) (k:Nat):∀ x∈d.sn k,0≤x∧x < d.nn.length:=by
 intro x hx
 simp only[aB.sn,List.mem_flatMap]at hx
 obtain⟨s,hs,hx⟩:=hx
 have:=h.knS s (List.mem_of_mem_take hs)
 simp at hx
 rcases hx with rfl|rfl
 ·exact this.1
 ·exact this.2
theorem Ow (d:aB) (h:eE d) (k:Nat):∀ x∈d.pn k,0≤x∧x < d.nn.length:=by
 intro x hx
 simp only[aB.pn,List.mem_append,List.mem_map]at hx
 rcases hx with hx|⟨s,hs,rfl⟩
 ·exact PE d h _ x hx
 ·exact h.knP s (List.mem_of_mem_take hs)
theorem Pp (d:aB) (h:eE d) (k:Nat):∀ x∈d.tn k,0≤x∧x < d.nn.length:=by
 intro x hx
 simp only[aB.tn,List.mem_append,List.mem_map]at hx
 rcases hx with hx|⟨s,hs,rfl⟩
 ·exact Ow d h _ x hx
 ·exact h.knT s (List.mem_of_mem_take hs)
theorem Qu (d:aB) (h:eE d):∃ A P Q:Nat→List Int,(A 0=[]∧(∀ (k:Nat) s,d.segs[k]? = some s→A (k+1)=A k++[s.1.fr,s.1.to])∧(∀ k,k≤d.segs.length→(A k).length≤64))∧
  (P 0=A d.segs.length∧(∀ (k:Nat) s,d.ports[k]? = some s→P (k+1)=P k++[s.2.1])∧(∀ k,k≤d.ports.length→(P k).length≤88))∧
  (Q 0=P d.ports.length∧(∀ (k:Nat) s,d.stns[k]? = some s→Q (k+1)=Q k++[s.2.1])∧(∀ k,k≤d.stns.length→(Q k).length≤100))∧∀ x∈Q d.stns.length,0≤x∧x < d.nn.length:=by
 have a:=h.s1
 have b:=h.p1
 have c:=h.t1
 have s0:=Ky d d.segs.length
 have p0:∀ k,(d.pn k).length≤(d.sn d.segs.length).length+k:=by intro k;simp only[aB.pn,List.length_append,List.length_map,List.length_take];omega
 have q0:∀ k,(d.tn k).length≤(d.pn d.ports.length).length+k:=by intro k;simp only[aB.tn,List.length_append,List.length_map,List.length_take];omega
 refine⟨d.sn,d.pn,d.tn,⟨rfl,Mj d,fun k hk=>?_⟩,⟨by simp[aB.pn],Ly d,fun k hk=>?_⟩,⟨by simp[aB.tn],LH d,fun k hk=>?_⟩,Pp d h _⟩
 ·have:=Ky d k;omega
 ·have:=p0 k;omega
 ·have:=q0 k;have:=p0 d.ports.length;omega
theorem JI (d:aB) (h:eE d):aj Tryz.prog 126 [.t (.agg d.l)] [] (.t (.bool true)) []:=by
 have h2:=h.n1
 have h3:=h.s1
 have h4:=h.p1
 have h5:=h.t1
 obtain⟨A,P,Q,⟨a0,aS,al⟩,⟨p0,pS,pl⟩,⟨q0,qS,ql⟩,qm⟩:=Qu d h
 have c:=Iv d h.n1 (Q d.stns.length) (by have:=ql _ (Nat.le_refl _);omega) qm
 refine nI Tryz.func126 rfl Tryz.ntmps126 ?_
 refine ah ?_
 refine oP ?_
 refine CW.loop (ι:=Nat) (fun k=>⟨[(1,.pt 501 [] 0),(3,.own 510),(11,.t (.sl 7 (d.segs.map bA))),(12,.t (.int d.segs.length)),(13,.t (.int k))],[(501,.box 32 (.t (.agg d.l))),(510,.list 3 1 ((A k).map aC))]⟩)
  (fun k=>k≤d.segs.length) (fun k=>d.segs.length - k) 0 [(501,some 101),(510,none)] (by omega) ?_ ?_
 ·exact dJ a0
 intro k hk
 by_cases hb:k < d.segs.length
 ·obtain⟨s,hs⟩:=aa hb
  have e1:=aS k _ hs
  have e2:=al k (by omega)
  obtain⟨⟨nm,fr,to,cp,rs,wv⟩,pts⟩:=s
  dsimp only at e1
  obtain⟨B,hB⟩:∃ B,A k=B:=⟨_,rfl⟩
  rw[hB]at e1 e2 ⊢
  refine c9 hs e2 ?_
  exact nX (k+1) [(501,some 501),(510,some 123)] (by omega) (by omega) (dJ e1)
 ·obtain rfl:k=d.segs.length:=by omega
  refine ah ?_
  refine oP ?_
  refine CW.loop (ι:=Nat) (fun k=>⟨[(1,.pt 501 [] 0),(3,.own 510),(26,.t (.sl 3 (d.ports.map dO))),(27,.t (.int d.ports.length)),(28,.t (.int k))],[(501,.box 32 (.t (.agg d.l))),(510,.list 3 1 ((P k).map aC))]⟩)
   (fun k=>k≤d.ports.length) (fun k=>d.ports.length - k) 0 [(501,some 501),(510,some 510)] (by omega) ?_ ?_
  ·exact dJ p0
  intro k hk
  by_cases hb:k < d.ports.length
  ·obtain⟨s,hs⟩:=aa hb
   have e1:=pS k _ hs
   have e2:=pl k (by omega)
   obtain⟨nm,nd,pr⟩:=s
   dsimp only at e1
   obtain⟨B,hB⟩:∃ B,P k=B:=⟨_,rfl⟩
   rw[hB]at e1 e2 ⊢
   refine c9 hs e2 ?_
   exact nX (k+1) [(501,some 501),(510,some 136)] (by omega) (by omega) (dJ e1)
  ·obtain rfl:k=d.ports.length:=by omega
   refine ah ?_
   refine oP ?_
   refine CW.loop (ι:=Nat) (fun k=>⟨[(1,.pt 501 [] 0),(3,.own 510),(39,.t (.sl 5 (d.stns.map eF))),(40,.t (.int d.stns.length)),(41,.t (.int k))],[(501,.box 32 (.t (.agg d.l))),(510,.list 3 1 ((Q k).map aC))]⟩)
    (fun k=>k≤d.stns.length) (fun k=>d.stns.length - k) 0 [(501,some 501),(510,some 510)] (by omega) ?_ ?_
   ·exact dJ q0
   intro k hk
   by_cases hb:k < d.stns.length
   ·obtain⟨s,hs⟩:=aa hb
    have e1:=qS k _ hs
    have e2:=ql k (by omega)
    obtain⟨nm,nd,hd1,fl,su⟩:=s
    dsimp only at e1
    obtain⟨B,hB⟩:∃ B,Q k=B:=⟨_,rfl⟩
    rw[hB]at e1 e2 ⊢
    refine c9 hs e2 ?_
    exact nX (k+1) [(501,some 501),(510,some 149)] (by omega) (by omega) (dJ e1)
   ·obtain rfl:k=d.stns.length:=by omega
    refine ah ?_
    refine gj c [(0,501)] [] [510] ?_
    refine ah ?_
    exact aF []
open Go.IntWalk renaming iteOmega → iO, toNatUp → tN
theorem oq (x:Nat) (h:97≤x∧x≤122):aj Tryz.prog 183 [.t (.lit (.int .u8 x))] [] (.t (.int 1)) []:=by
 obtain⟨h1,h2⟩:=h
 have e1:(97:Int)≤x:=by omega
 have e2:(x:Int)≤122:=by omega
 refine nI Tryz.func183 rfl Tryz.ntmps183 ?_
 refine c9 e1 e2 ?_
 exact aF []
theorem LY (k:List Nat) (h0:1≤k.length) (h1:k.length≤12) (h:∀ x∈k,97≤x∧x≤122):aj Tryz.prog 117 [.t (aI k)] [] (.t (.bool true)) []:=by
 have hc:∀ (j:Nat) x,k[j]? = some x→(str k).data.toList[j]? = some (UInt8.ofNat x)∧(UInt8.ofNat x).toNat=x:=by
  intro j x hx
  have:=h x (au hx)
  have e:(str k).data.toList=k.map fun c=>UInt8.ofNat c:=by simp[str]
  rw[e,List.getElem?_map,hx]
  refine⟨rfl,?_⟩
  rw[UInt8.toNat_ofNat'];omega
 obtain⟨x,hx⟩:∃ x,k[0]? = some x:=aa (by omega)
 obtain⟨a1,a2⟩:=hc 0 x hx
 have c:=oq x (h x (au hx))
 refine nI Tryz.func117 rfl Tryz.ntmps117 ?_
 refine c9 a1 a2 ?_
 refine lf a1 a2 c [] ?_
 refine ah ?_
 refine oP ?_
 refine lP (ι:=Nat) (fun j=>⟨[(0,.t (aI k)),(19,.t (.int k.length)),(20,.t (.int j))],[]⟩) (fun j=>j≤k.length) (fun j=>k.length - j) 0 [] (by omega) ?_
 intro j hj
 by_cases hb:j < k.length
 ·obtain⟨y,hy⟩:=aa hb
  obtain⟨b1,b2⟩:=hc j y hy
  have c2:=oq y (h y (au hy))
  repeat (first|(refine af rfl ?_;simp[go_sem,↓iO,iO,tN,b1,b2])|refine ba ?_|refine⟨aZ,?_⟩|refine iP ?_|refine iN ?_)
  refine aY.fn (c2) [] [] [] (by kernel_rfl) ?_ ?_ ?_ (Or.inl rfl) ?_<;>simp[go_sem,↓iO,iO,tN,b1,b2]
  repeat (refine ba ?_)
  try (refine⟨aZ,?_⟩)
  refine ah ?_
  exact nY (j+1) []
 ·obtain rfl:j=k.length:=by omega
  refine ah ?_
  exact aF []
theorem Mo (k:List Nat) (h0:1≤k.length) (h1:k.length≤12) (h:∀ x∈k,97≤x∧x≤122):iC k:=⟨fun x hx=>by have:=h x hx;omega,LY k h0 h1 h,h,h0,h1⟩
theorem Hk (p:jz) (h:0≤p.2.2∧p.2.2≤100000000):aj Tryz.prog 195 [.t (dO p)] [] (.t (.bool false)) []:=by
 have c:=gu p.2.2 0 100000000 true (by simpa using h)
 obtain⟨a,b,e⟩:=p
 refine nI Tryz.func195 rfl Tryz.ntmps195 ?_
 refine ah ?_
 refine ax c [] ?_
 refine ah ?_
 exact aF []
theorem HV (p:vx) (h:(0≤p.2.2.1∧p.2.2.1≤100000000)∧(0≤p.2.2.2.1∧p.2.2.2.1≤100000)∧0≤p.2.2.2.2∧p.2.2.2.2≤100000000):aj Tryz.prog 198 [.t (eF p)] [] (.t (.bool false)) []:=by
 have c1:=gu p.2.2.1 0 100000000 true (by simpa using h.1)
 have c2:=gu p.2.2.2.1 0 100000 true (by simpa using h.2.1)
 have c3:=gu p.2.2.2.2 0 100000000 true (by simpa using h.2.2)
 obtain⟨a,b,e,f,g⟩:=p
 refine nI Tryz.func198 rfl Tryz.ntmps198 ?_
 refine ah ?_
 refine ax c1 [] ?_
 refine ah ?_
 refine ax c2 [] ?_
 refine ah ?_
 refine ax c3 [] ?_
 refine ah ?_
 exact aF []
theorem Be (d:aB) (h:eE d):aj Tryz.prog 127 [.t (.agg d.l)] [] (.t (.bool true)) []:=by
 have h3:=h.s1
 have h4:=h.p1
 have h5:=h.t1
 have c1:=Ah d.segs (by omega) (fun p hp=>xJ _ (h.pipe p hp))
 have c2:=IC d.ports (by omega) (fun p hp=>Hk _ (h.prs p hp))
 have c3:=K8 d.stns (by omega) (fun p hp=>HV _ (h.stn p hp))
 have c4:=gu d.vap (-100000) 100000000 true (by simpa using h.vap)
 have c5:=gu d.stl 0 100 true (by simpa using h.stl)
 refine nI Tryz.func127 rfl Tryz.ntmps127 ?_
 refine ah ?_
 refine ax c1 [] ?_
 refine ah ?_
 refine ax c2 [] ?_
 refine ah ?_
 refine ax c3 [] ?_
 refine ah ?_
 refine ax c4 [] ?_
 refine ah ?_
 refine ax c5 [] ?_
 refine ah ?_
 exact aF []
theorem Cg (k:List Nat) (h:iC k):aj Tryz.prog 124 [.t (aI k)] [] (.t (.bool false)) []:=by
 have c:=h.fn
 refine nI Tryz.func124 rfl Tryz.ntmps124 ?_
 refine ah ?_
 refine ax c [] ?_
 refine ah ?_
 exact aF []
theorem iW (d:aB) (h:eE d):aj Tryz.prog 53 [.t (.agg d.l)] [] (.t (.int 0)) []:=by
 have c1:=G5 d h
 have c2:=wX d h
 have c3:=Lk d h
 have c4:=JI d h
 have c5:=Be d h
 have hgt:∀ i:Nat,i < 4→∃ l:List (List Nat),d.ns i=l∧aj Tryz.prog 123 [.t (.sl 1 (l.map aI)),.fn 124 []] [] (.t (.bool false)) []:=fun i _=>⟨_,rfl,JZ _ (by have:=(qX d h i).1;omega) (fun p hp=>Cg _ ((qX d h i).2.1 p hp))⟩
 obtain⟨l0,e0,d0⟩:=hgt 0 (by omega)
 obtain⟨l1,e1,d1⟩:=hgt 1 (by omega)
 obtain⟨l2,e2,d2⟩:=hgt 2 (by omega)
 obtain⟨l3,e3,d3⟩:=hgt 3 (by omega)
 have hN:d.nt = .agg [.sl 1 (l0.map aI),.sl 1 (l1.map aI),.sl 1 (l2.map aI),.sl 1 (l3.map aI)]:=by simp only[aB.nt,e0,e1,e2,e3]
 rw[hN]at c2
 clear hN e0 e1 e2 e3 hgt
 refine nI Tryz.func53 rfl Tryz.ntmps53 ?_
 refine ah ?_
 refine ax c1 [] ?_
 refine ah ?_
 refine ax c2 [] ?_
 refine ah ?_
 refine oP ?_
 refine lP (ι:=Nat) (fun k=>⟨[(1,.pt 501 [] 0),(9,.t (.agg [.sl 1 (l0.map aI),.sl 1 (l1.map aI),.sl 1 (l2.map aI),.sl 1 (l3.map aI)])),(10,.t (.int k))],[(501,.box 32 (.t (.agg d.l)))]⟩) (fun k=>k≤4) (fun k=>4 - k) 0 [(501,some 101)] (by omega) ?_
 intro k hk
 have h4:k=0∨k=1∨k=2∨k=3∨k=4:=by omega
 rcases h4 with rfl|rfl|rfl|rfl|rfl
 ·refine ah ?_
  refine ax d0 [] ?_
  refine ah ?_
  exact nY 1 [(501,some 501)]
 ·refine ah ?_
  refine ax d1 [] ?_
  refine ah ?_
  exact nY 2 [(501,some 501)]
 ·refine ah ?_
  refine ax d2 [] ?_
  refine ah ?_
  exact nY 3 [(501,some 501)]
 ·refine ah ?_
  refine ax d3 [] ?_
  refine ah ?_
  exact nY 4 [(501,some 501)]
 ·refine ah ?_
  refine ax c3 [] ?_
  refine ah ?_
  refine ax c4 [] ?_
  refine ah ?_
  refine ax c5 [] ?_
  refine ah ?_
  exact aF []
def kM (c:List Int) (k r:Int):List Int:=if 0≤k then c.set k.toNat (c.getD k.toNat 0+r) else c
def mU (a b r:Int):Int:=if r < 0 then b else a
def rE (a b r:Int):Int:=if r < 0 then a else b
def mr (r:Int):Int:=if r < 0 then -r else r
theorem oy (c:List Int) (k r:Int):(kM c k r).length=c.length:=by unfold kM;split<;>simp
theorem IN (c l:List Int) (a b r:Int) (hc:c.length=24) (hl:l.length=24) (ha:-1≤a∧a < 24) (hb:-1≤b∧b < 24) (hr:-1000≤r∧r≤1000) (hcb:∀ x∈c,0≤x∧x≤1000000) (hlb:∀ x∈l,0≤x∧x≤1000000) :
  aj Tryz.prog 253 [.pt 0 [] 0,.t (.int a),.t (.int b),.t (.int r)] [(0,.box 249 (.t (.agg [.agg (c.map aC),.agg (l.map aC)])))] (.tup []) [(0,.box 249 (.t (.agg [.agg ((kM c (rE a b r) (mr r)).map aC),.agg ((kM l (mU a b r) (mr r)).map aC)])))]:=by
 have gc:∀ k:Int,0≤k→k < 24→∃ x,c[k.toNat]? = some x∧0≤x∧x≤1000000∧∀ v,kM c k v=c.set k.toNat (x+v):=fun k h0 h1=>by
  obtain⟨x,hx⟩:∃ x,c[k.toNat]? = some x:=aa (by omega)
  have:=hcb x (au hx)
  exact⟨x,hx,this.1,this.2,fun v=>by simp[kM,h0,List.getD,hx]⟩
 have gl:∀ k:Int,0≤k→k < 24→∃ x,l[k.toNat]? = some x∧0≤x∧x≤1000000∧∀ v,kM l k v=l.set k.toNat (x+v):=fun k h0 h1=>by
  obtain⟨x,hx⟩:∃ x,l[k.toNat]? = some x:=aa (by omega)
  have:=hlb x (au hx)
  exact⟨x,hx,this.1,this.2,fun v=>by simp[kM,h0,List.getD,hx]⟩
 have nc:∀ k v:Int,¬ 0≤k→kM c k v=c:=fun k v h=>by simp only[kM,if_neg h]
 have nl:∀ k v:Int,¬ 0≤k→kM l k v=l:=fun k v h=>by simp only[kM,if_neg h]
 refine nI Tryz.func253 rfl Tryz.ntmps253 ?_
 by_cases hneg:r < 0
 ·have g1:rE a b r=a:=by simp[rE,hneg]
  have g2:mU a b r=b:=by simp[mU,hneg]
  have g3:mr r=-r:=by simp[mr,hneg]
  rw[g1,g2,g3]
  by_cases hf:0≤b
  ·obtain⟨y,y1,y2,y3,y4⟩:=gl b hf (by omega)
   by_cases ht:0≤a
   ·obtain⟨x,x1,x2,x3,x4⟩:=gc a ht (by omega)
    rw[x4,y4]
    repeat (first|(refine af rfl ?_;simp[go_sem,↓iO,iO,tN,hneg,hf,ht,x1,y1,hc,hl])|refine ba ?_|refine⟨aZ,?_⟩|refine iP ?_|refine iN ?_)
    first|rw[av]|rw[ae]
    refine⟨[(0,some 0)],?_⟩
    simp[go_sem,↓iO,iO,tN,List.map_set]
   ·rw[nc _ _ ht,y4]
    refine JM hneg hf ht y1 hc hl ?_
    first|rw[av]|rw[ae]
    refine⟨[(0,some 0)],?_⟩
    simp[go_sem,↓iO,iO,tN,List.map_set]
  ·rw[nl _ _ hf]
   by_cases ht:0≤a
   ·obtain⟨x,x1,x2,x3,x4⟩:=gc a ht (by omega)
    rw[x4]
    refine JM hneg hf ht x1 hc hl ?_
    first|rw[av]|rw[ae]
    refine⟨[(0,some 0)],?_⟩
    simp[go_sem,↓iO,iO,tN,List.map_set]
   ·rw[nc _ _ ht]
    refine yB hneg hf ht hc hl ?_
    exact aF [(0,some 0)]
 ·have g1:rE a b r=b:=by simp[rE,hneg]
  have g2:mU a b r=a:=by simp[mU,hneg]
  have g3:mr r=r:=by simp[mr,hneg]
  rw[g1,g2,g3]
  by_cases hf:0≤a
  ·obtain⟨y,y1,y2,y3,y4⟩:=gl a hf (by omega)
   by_cases ht:0≤b
   ·obtain⟨x,x1,x2,x3,x4⟩:=gc b ht (by omega)
    rw[x4,y4]
    repeat (first|(refine af rfl ?_;simp[go_sem,↓iO,iO,tN,hneg,hf,ht,x1,y1,hc,hl])|refine ba ?_|refine⟨aZ,?_⟩|refine iP ?_|refine iN ?_)
    first|rw[av]|rw[ae]
    refine⟨[(0,some 0)],?_⟩
    simp[go_sem,↓iO,iO,tN,List.map_set]
   ·rw[nc _ _ ht,y4]
    refine JM hneg hf ht y1 hc hl ?_
    first|rw[av]|rw[ae]
    refine⟨[(0,some 0)],?_⟩
    simp[go_sem,↓iO,iO,tN,List.map_set]
  ·rw[nl _ _ hf]
   by_cases ht:0≤b
   ·obtain⟨x,x1,x2,x3,x4⟩:=gc b ht (by omega)
    rw[x4]
    refine JM hneg hf ht x1 hc hl ?_
    first|rw[av]|rw[ae]
    refine⟨[(0,some 0)],?_⟩
    simp[go_sem,↓iO,iO,tN,List.map_set]
   ·rw[nc _ _ ht]
    refine yB hneg hf ht hc hl ?_
    exact aF [(0,some 0)]
def kL (s:List Int×List Int) (x:Int×Int×Int):List Int×List Int:=(kM s.1 (rE x.1 x.2.1 x.2.2) (mr x.2.2),kM s.2 (mU x.1 x.2.1 x.2.2) (mr x.2.2))
abbrev fR:=List (Int×Int×Int)
def cg (segs:List eH) (rates:List Int):fR:=(segs.zip rates).map fun x=>(x.1.1.fr,x.1.1.to,x.2)
def eP (ports:List jz) (rates:List Int):fR:=(ports.zip rates).map fun x=>(-1,x.1.2.1,x.2)
def gD:List Int×List Int:=(List.replicate 24 0,List.replicate 24 0)
def gL (l:fR):List Int×List Int:=l.foldl kL gD
theorem FE {c:List Int} {k r B:Int} (hr:0≤r∧r≤1000) (h:∀ x∈c,0≤x∧x≤B):∀ x∈kM c k r,0≤x∧x≤B+1000:=by
 intro x hx
 unfold kM at hx
 split at hx
 ·rcases List.mem_or_eq_of_mem_set hx with hx|rfl
  ·have:=h x hx;omega
  ·by_cases hk:k.toNat < c.length
   ·have h1:c.getD k.toNat 0=c[k.toNat]:=by simp[List.getD,hk]
    have:=h _ (List.getElem_mem hk)
    rw[h1];omega
   ·rw[List.set_eq_of_length_le (by omega)]at hx
    have:=h _ hx;omega
 ·have:=h x hx;omega
theorem D3 {r:Int} (h:-1000≤r∧r≤1000):0≤mr r∧mr r≤1000:=by unfold mr;split<;>omega
structure m8 (s:List Int×List Int) (B:Int):Prop where
 l1:s.1.length=24
 l2:s.2.length=24
 b1:∀ x∈s.1,0≤x∧x≤B
 b2:∀ x∈s.2,0≤x∧x≤B
theorem LJ {s:List Int×List Int} {B:Int} (h:m8 s B) (x:Int×Int×Int) (hx:-1000≤x.2.2∧x.2.2≤1000):m8 (kL s x) (B+1000):=
 ⟨by simp only[kL,oy,h.l1],by simp only[kL,oy,h.l2],FE (D3 hx) h.b1,FE (D3 hx) h.b2⟩
theorem mu:m8 gD 0:=⟨rfl,rfl,fun x hx=>by simp[gD]at hx;omega,fun x hx=>by simp[gD]at hx;omega⟩
theorem mJ:∀ (l:fR) (s:List Int×List Int) (B:Int),m8 s B→(∀ x∈l,-1000≤x.2.2∧x.2.2≤1000)→m8 (l.foldl kL s) (B+1000 * l.length)
 | [],s,B,h,_=>by simpa using h
 | x :: r,s,B,h,hl=>by
  have:=mJ r (kL s x) (B+1000) (LJ h x (hl x (by simp))) (fun y hy=>hl y (by simp[hy]))
  rw[List.foldl_cons]
  have e:B+1000+1000 * (r.length:Int)=B+1000 * ((x :: r).length:Int):=by simp only[List.length_cons];omega
  rw[←e];exact this
theorem EG (segs:List eH) (ports:List jz) (rates prates:List Int) (h1:rates.length=segs.length) (h2:prates.length=ports.length) (hs:segs.length≤32) (hp:ports.length≤24)
  (hr:∀ r∈rates,-1000≤r∧r≤1000) (hq:∀ r∈prates,-1000≤r∧r≤1000):∃ A P:Nat→List Int×List Int,
  A 0=gD∧(∀ (k:Nat) s r,segs[k]? = some s→rates[k]? = some r→A (k+1)=kL (A k) (s.1.fr,s.1.to,r))∧(∀ k,m8 (A k) 100000)∧
  P 0=A segs.length∧(∀ (k:Nat) s r,ports[k]? = some s→prates[k]? = some r→P (k+1)=kL (P k) (-1,s.2.1,r))∧(∀ k,m8 (P k) 100000)∧P ports.length=gL (cg segs rates++eP ports prates):=by
 have l1:(cg segs rates).length=segs.length:=by simp[cg,h1]
 have l2:(eP ports prates).length=ports.length:=by simp[eP,h2]
 have b1:∀ x∈cg segs rates,-1000≤x.2.2∧x.2.2≤1000:=by
  intro x hx
  obtain⟨y,hy,rfl⟩:=List.mem_map.1 hx
  exact hr _ (List.of_mem_zip hy).2
 have b2:∀ x∈eP ports prates,-1000≤x.2.2∧x.2.2≤1000:=by
  intro x hx
  obtain⟨y,hy,rfl⟩:=List.mem_map.1 hx
  exact hq _ (List.of_mem_zip hy).2
 have up:∀ {s:List Int×List Int} {B:Int},m8 s B→B≤100000→m8 s 100000:=fun h hB=>⟨h.l1,h.l2,fun x hx=>by have:=h.b1 x hx;omega,fun x hx=>by have:=h.b2 x hx;omega⟩
 refine⟨fun k=>((cg segs rates).take k).foldl kL gD,fun k=>((eP ports prates).take k).foldl kL (gL (cg segs rates)),rfl,fun k s r hk hk2=>?_,fun k=>?_,?_,fun k s r hk hk2=>?_,fun k=>?_,?_⟩
 ·have e:(cg segs rates)[k]? = some (s.1.fr,s.1.to,r):=by
   simp only[cg,List.getElem?_map,(List.getElem?_zip_eq_some (z:=(s,r))).2 ⟨hk,hk2⟩,Option.map_some]
  obtain⟨hk3,e2⟩:=List.getElem?_eq_some_iff.1 e
  simp only[List.take_succ_eq_append_getElem hk3,e2,List.foldl_append,List.foldl_cons,List.foldl_nil]
 ·have:=mJ ((cg segs rates).take k) _ _ mu (fun x hx=>b1 x (List.mem_of_mem_take hx))
  exact up this (by rw[List.length_take];omega)
 ·simp only[List.take_zero,List.foldl_nil,gL]
  rw[List.take_of_length_le (by omega)]
 ·have e:(eP ports prates)[k]? = some (-1,s.2.1,r):=by
   simp only[eP,List.getElem?_map,(List.getElem?_zip_eq_some (z:=(s,r))).2 ⟨hk,hk2⟩,Option.map_some]
  obtain⟨hk3,e2⟩:=List.getElem?_eq_some_iff.1 e
  simp only[List.take_succ_eq_append_getElem hk3,e2,List.foldl_append,List.foldl_cons,List.foldl_nil]
 ·have h0:=mJ (cg segs rates) _ _ mu b1
  have:=mJ ((eP ports prates).take k) _ _ h0 (fun x hx=>b2 x (List.mem_of_mem_take hx))
  exact up this (by rw[List.length_take];omega)
 ·simp only[gL,List.foldl_append]
  rw[List.take_of_length_le (by omega)]
@[go_sem] def Aq (rates prates:List Int) (pumps:T):List T:=[.sl 1 (rates.map aC),.sl 1 (prates.map aC),pumps]
structure k9 (d:aB) (rates prates:List Int):Prop where
 l1:rates.length=d.segs.length
 l2:prates.length=d.ports.length
 b1:∀ r∈rates,-1000≤r∧r≤1000
 b2:∀ r∈prates,-1000≤r∧r≤1000
@[go_sem] def Nb (s:List Int×List Int):T:=.agg [.agg (s.1.map aC),.agg (s.2.map aC)]
@[go_sem] def Nu:T:=.agg [.agg [.int 0,.int 0,.int 0,.int 0,.int 0,.int 0,.int 0,.int 0,.int 0,.int 0,.int 0,.int 0,.int 0,.int 0,.int 0,.int 0,.int 0,.int 0,.int 0,.int 0,.int 0,.int 0,.int 0,.int 0],.agg [.int 0,.int 0,.int 0,.int 0,.int 0,.int 0,.int 0,.int 0,.int 0,.int 0,.int 0,.int 0,.int 0,.int 0,.int 0,.int 0,.int 0,.int 0,.int 0,.int 0,.int 0,.int 0,.int 0,.int 0]]
theorem FW (d:aB) (h:eE d) (rates prates:List Int) (pumps:T) (hw:pumps.width=1) (hp:k9 d rates prates) :
  aj Tryz.prog 179 [.t (.agg d.l),.t (.agg (Aq rates prates pumps))] [] (.t (Nb (gL (cg d.segs rates++eP d.ports prates)))) []:=by
 have h1:=h.n1
 have h3:=h.s1
 have h4:=h.p1
 have q1:=hp.l1
 have q2:=hp.l2
 obtain⟨A,P,a0,aS,ao,p0,pS,po,pe⟩:=EG d.segs d.ports rates prates q1 q2 h3 h4 hp.b1 hp.b2
 rw[←pe]
 have a0':A 0=([0,0,0,0,0,0,0,0,0,0,0,0,0,0,0,0,0,0,0,0,0,0,0,0],[0,0,0,0,0,0,0,0,0,0,0,0,0,0,0,0,0,0,0,0,0,0,0,0]):=a0
 refine nI Tryz.func179 rfl Tryz.ntmps179 ?_
 refine ah ?_
 refine oP ?_
 refine CW.loop (ι:=Nat) (fun k=>⟨[(2,.pt 502 [] 0),(3,.pt 503 [] 0),(4,.pt 504 [] 0),(5,.pt 505 [] 0),(11,.t (.sl 7 (d.segs.map bA))),(12,.t (.int d.segs.length)),(13,.t (.int k))],[(502,.box 32 (.t (.agg d.l))),(503,.box 37 (.t (.agg (Aq rates prates pumps)))),(504,.box 249 (.t Nu)),(505,.box 249 (.t (Nb (A k))))]⟩)
  (fun k=>k≤d.segs.length) (fun k=>d.segs.length - k) 0 [(502,some 102),(503,some 103),(504,some 104),(505,some 105)] (by omega) ?_ ?_
 ·exact dJ a0'
 intro k hk
 by_cases hb:k < d.segs.length
 ·obtain⟨s,hs⟩:=aa hb
  obtain⟨r,hr⟩:∃ r,rates[k]? = some r:=aa (by omega)
  have e1:=aS k s r hs hr
  have e2:=ao k
  have e3:=h.knS s (au hs)
  have e4:=hp.b1 r (au hr)
  obtain⟨⟨nm,fr,to,cp,rs,wv⟩,pts⟩:=s
  dsimp only at e1 e3
  have c:=IN (A k).1 (A k).2 fr to r e2.l1 e2.l2 (by omega) (by omega) e4 (fun x hx=>by have:=e2.b1 x hx;omega) (fun x hx=>by have:=e2.b2 x hx;omega)
  refine c9 hs hr ?_
  refine lf hs hr c [(0,505)] ?_
  refine c9 hs hr ?_
  refine nX (k+1) [(502,some 502),(503,some 503),(504,some 504),(505,some 505)] ?_ ?_ ?_
  ·omega
  ·omega
  simp[go_sem,↓iO,iO,tN,e1,kL]
 ·obtain rfl:k=d.segs.length:=by omega
  refine ah ?_
  refine oP ?_
  refine CW.loop (ι:=Nat) (fun k=>⟨[(2,.pt 502 [] 0),(3,.pt 503 [] 0),(4,.pt 504 [] 0),(5,.pt 505 [] 0),(30,.t (.sl 3 (d.ports.map dO))),(31,.t (.int d.ports.length)),(32,.t (.int k))],[(502,.box 32 (.t (.agg d.l))),(503,.box 37 (.t (.agg (Aq rates prates pumps)))),(504,.box 249 (.t Nu)),(505,.box 249 (.t (Nb (P k))))]⟩)
   (fun k=>k≤d.ports.length) (fun k=>d.ports.length - k) 0 [(502,some 502),(503,some 503),(504,some 504),(505,some 505)] (by omega) ?_ ?_
  ·exact dJ p0
  intro k hk
  by_cases hb:k < d.ports.length
  ·obtain⟨s,hs⟩:=aa hb
   obtain⟨r,hr⟩:∃ r,prates[k]? = some r:=aa (by omega)
   have e1:=pS k s r hs hr
   have e2:=po k
   have e3:=h.knP s (au hs)
   have e4:=hp.b2 r (au hr)
   obtain⟨nm,nd,pr⟩:=s
   dsimp only at e1 e3
   have c:=IN (P k).1 (P k).2 (-1) nd r e2.l1 e2.l2 (by omega) (by omega) e4 (fun x hx=>by have:=e2.b1 x hx;omega) (fun x hx=>by have:=e2.b2 x hx;omega)
   refine c9 hs hr ?_
   refine lf hs hr c [(0,505)] ?_
   refine c9 hs hr ?_
   refine nX (k+1) [(502,some 502),(503,some 503),(504,some 504),(505,some 505)] ?_ ?_ ?_
   ·omega
   ·omega
   simp[go_sem,↓iO,iO,tN,e1,kL]
  ·obtain rfl:k=d.ports.length:=by omega
   have o1:=(po d.ports.length).l1
   have o2:=(po d.ports.length).l2
   refine c9 o1 o2 ?_
   exact BJ o1 o2 []
theorem Iz (s:eH) (r:Int):aj Tryz.prog 254 [.t (bA s),.t (.int r)] [] (.tup [.t (.int (mU s.1.fr s.1.to r)),.t (.int (rE s.1.fr s.1.to r))]) []:=by
 obtain⟨⟨nm,fr,to,cp,rs,wv⟩,pts⟩:=s
 refine nI Tryz.func254 rfl Tryz.ntmps254 ?_
 by_cases hr:r < 0
 ·refine aJ hr ?_
  first|rw[av]|rw[ae]
  refine⟨[],?_⟩
  simp[go_sem,↓iO,iO,tN,mU,rE,hr]
 ·refine aJ hr ?_
  first|rw[av]|rw[ae]
  refine⟨[],?_⟩
  simp[go_sem,↓iO,iO,tN,mU,rE,hr]
@[go_sem] def dj (b:Bool):T:=.bool b
def lU (out:List Nat) (k:Nat) (x:Int×Int×Int):Bool:=x.2.2 != 0 && rE x.1 x.2.1 x.2.2 == (k:Int) && !(out.contains (mU x.1 x.2.1 x.2.2).toNat)
def lD (F:fR) (out:List Nat) (k:Nat):Bool:=F.all fun x=>!(lU out k x)
def nv (F:fR) (n:Nat) (out:List Nat):Option Nat:=(List.range n).find? fun k=>!out.contains k && lD F out k
def kf (F:fR) (n:Nat):Nat→List Nat→List Nat
 | 0,out=>out
 | f+1,out=>match nv F n out with
  | none=>out
  | some k=>kf F n f (out++[k])
def Ez (n:Nat) (out:List Nat):List Bool:=(List.range n).map fun j=>out.contains j
theorem E8 (n out):(Ez n out).length=n:=by simp[Ez]
theorem pg (n:Nat) (out:List Nat) (j:Nat) (h:j < n):(Ez n out)[j]? = some (out.contains j):=by simp[Ez,h]
theorem Fg (n:Nat):Ez n []=List.replicate n false:=by
 apply List.ext_getElem<;>simp[Ez]
theorem FV (n:Nat) (out:List Nat) (k:Nat) (h:k < n):(Ez n out).set k true=Ez n (out++[k]):=by
 apply List.ext_getElem
 ·simp[Ez]
 intro i h1 h2
 rw[List.getElem_set]
 simp only[Ez,List.getElem_map,List.getElem_range]
 by_cases e:k=i
 ·subst e;simp
 ·simp only[if_neg e]
  have:i≠k:=fun q=>e q.symm
  simp[List.contains_eq_mem,this]
structure oJ (F:fR) (n:Nat) (fin:List Nat) (p:List Nat×Nat):Prop where
 k1:p.2≤n
 nd:p.1.Nodup
 lt:∀ j∈p.1,j < n
 bf:∀ j,j < p.2→p.1.contains j=true∨lD F p.1 j=false
 fi:kf F n (n - p.1.length) p.1=fin
theorem qD {n:Nat} {l:List Nat} (hn:l.Nodup) (hl:∀ j∈l,j < n):l.length≤n:=by
 have:=List.Nodup.length_le_of_subset hn (l₂:=List.range n) (fun j hj=>List.mem_range.2 (hl j hj))
 simpa using this
theorem oJ.len {F n fin p} (h:oJ F n fin p):p.1.length≤n:=qD h.nd h.lt
theorem oJ.skip {F n fin p} (h:oJ F n fin p) (hk:p.2 < n) (hb:p.1.contains p.2=true∨lD F p.1 p.2=false):oJ F n fin (p.1,p.2+1):=
 ⟨by show p.2+1≤n;omega,h.nd,h.lt,fun j hj=>by
  by_cases e:j=p.2
  ·subst e;exact hb
  ·exact h.bf j (by have:j < p.2+1:=hj;omega),h.fi⟩
theorem oJ.take {F n fin p} (h:oJ F n fin p) (hk:p.2 < n) (hb:p.1.contains p.2=false) (hr:lD F p.1 p.2=true):p.1.length < n∧oJ F n fin (p.1++[p.2],0):=by
 have hnm:p.2∉p.1:=by simpa [List.contains_eq_mem] using hb
 have nd':(p.1++[p.2]).Nodup:=by
  rw[List.nodup_append]
  exact⟨h.nd,by simp,fun a ha b hb e=>by simp at hb;subst hb;subst e;exact hnm ha⟩
 have lt':∀ j∈p.1++[p.2],j < n:=fun j hj=>by
  rcases List.mem_append.1 hj with hj|hj
  ·exact h.lt j hj
  ·simp at hj;omega
 have hl:=qD nd' lt'
 simp only[List.length_append,List.length_cons,List.length_nil]at hl
 refine⟨by omega,Nat.zero_le _,nd',lt',fun j hj=>absurd hj (by simp),?_⟩
 rw[←h.fi]
 obtain⟨f,hf⟩:∃ f,n - p.1.length=f+1:=⟨n - p.1.length - 1,by omega⟩
 have hN:nv F n p.1=some p.2:=by
  unfold nv
  rw[List.find?_range_eq_some]
  refine⟨by simp[hnm,hr],by simpa using hk,fun j hj=>?_⟩
  rcases h.bf j hj with e|e
  ·have e:j∈p.1:=by simpa using e
   simp[e]
  ·simp[e]
 rw[hf]
 show _=(match nv F n p.1 with|none=>p.1|some k=>kf F n f (p.1++[k]))
 rw[hN]
 show kf F n (n - (p.1++[p.2]).length) (p.1++[p.2])=_
 have:n - (p.1++[p.2]).length=f:=by simp only[List.length_append,List.length_cons,List.length_nil];omega
 rw[this]
theorem oJ.done {F n fin p} (h:oJ F n fin p) (hk:p.2=n):p.1=fin:=by
 rw[←h.fi]
 cases hf:n - p.1.length with
 | zero=>rfl
 | succ f=>
  show _=(match nv F n p.1 with|none=>p.1|some k=>kf F n f (p.1++[k]))
  have hN:nv F n p.1=none:=by
   unfold nv
   rw[List.find?_eq_none]
   intro j hj
   rcases h.bf j (by rw[hk];exact List.mem_range.1 hj) with e|e
   ·have e:j∈p.1:=by simpa using e
    simp[e]
   ·simp[e]
  rw[hN]
theorem NM (d:aB) (h:eE d) (s:eH) (hs:s∈d.segs) (r:Int):0≤mU s.1.fr s.1.to r∧mU s.1.fr s.1.to r < d.nn.length:=by
 have:=h.knS s hs
 unfold mU;split<;>omega
theorem PB (F:fR) (out:List Nat) (k:Nat) (h:∀ (i:Nat) x,F[i]? = some x→lU out k x=false):lD F out k=true:=by
 rw[lD,List.all_eq_true]
 intro x hx
 obtain⟨i,hi,rfl⟩:=List.getElem_of_mem hx
 simp[h i _ (List.getElem?_eq_getElem hi)]
theorem M0 (F:fR) (out:List Nat) (k i:Nat) (x:Int×Int×Int) (hx:F[i]? = some x) (h:lU out k x=true):lD F out k=false:=by
 rw[lD,List.all_eq_false]
 exact⟨x,au hx,by simp[h]⟩
theorem K6 (d:aB) (h:eE d) (rates prates:List Int) (pumps:T) (hw:pumps.width=1) (hp:k9 d rates prates) :
  aj Tryz.prog 180 [.t (.agg d.l),.t (.agg (Aq rates prates pumps))] [] (.t (.sl 1 (((kf (cg d.segs rates) d.nn.length d.nn.length []).map Int.ofNat).map aC))) []:=by
 have h0:=h.n0
 have h1:=h.n1
 have h3:=h.s1
 have q1:=hp.l1
 obtain⟨n,hn⟩:∃ n,d.nn.length=n:=⟨_,rfl⟩
 obtain⟨F,hF⟩:∃ F,cg d.segs rates=F:=⟨_,rfl⟩
 have hFg:∀ (i:Nat) s r,d.segs[i]? = some s→rates[i]? = some r→F[i]? = some (s.1.fr,s.1.to,r):=fun i s r hs hr=>by
  rw[←hF]
  simp only[cg,List.getElem?_map,(List.getElem?_zip_eq_some (z:=(s,r))).2 ⟨hs,hr⟩,Option.map_some]
 have hFl:F.length=d.segs.length:=by rw[←hF];simp[cg,q1]
 rw[hF,hn]
 obtain⟨fin,hfin⟩:∃ fin,kf F n n []=fin:=⟨_,rfl⟩
 rw[hfin]
 have t0:=Fg n
 have tl:=E8 n
 refine nI Tryz.func180 rfl Tryz.ntmps180 ?_
 refine aJ hn ?_
 refine oP ?_
 refine CW.loop (ι:=List Nat×Nat) (fun p=>⟨[(2,.pt 502 [] 0),(3,.pt 503 [] 0),(5,.own 510),(6,.own 511),(7,.t (.int p.2))],[(502,.box 32 (.t (.agg d.l))),(503,.box 37 (.t (.agg (Aq rates prates pumps)))),(510,.list 3 1 ((p.1.map Int.ofNat).map aC)),(511,.list 4 1 ((Ez n p.1).map dj))]⟩)
  (fun p=>oJ F n fin p) (fun p=>(n - p.1.length) * (n+1)+(n - p.2)) ([],0) [(502,some 102),(503,some 103),(510,none),(511,some 115)] ⟨Nat.zero_le _,List.nodup_nil,by simp,by simp,hfin⟩ ?_ ?_
 ·exact dJ t0
 rintro ⟨o,k⟩ hI
 have hkn:=hI.k1
 have hol:=hI.len
 dsimp only at hkn hol ⊢
 by_cases hk:k < n
 ·have hg:=pg n o k hk
  by_cases hc:o.contains k=true
  ·rw[hc]at hg
   refine fg hn hg tl ?_
   refine nX (o,k+1) [(502,some 502),(503,some 503),(510,some 510),(511,some 511)] ?_ ?_ ?_
   ·exact hI.skip hk (Or.inl hc)
   ·show (n - o.length) * (n+1)+(n - (k+1)) < (n - o.length) * (n+1)+(n - k)
    omega
   exact dY
  ·have hc:o.contains k=false:=by simpa using hc
   rw[hc]at hg
   refine fg hn hg tl ?_
   refine oP ?_
   refine lP (ι:=Nat) (fun i=>⟨[(2,.pt 502 [] 0),(3,.pt 503 [] 0),(5,.own 510),(6,.own 511),(7,.t (.int k)),(28,.t (.sl 7 (d.segs.map bA))),(29,.t (.int d.segs.length)),(30,.t (.int i))],[(502,.box 32 (.t (.agg d.l))),(503,.box 37 (.t (.agg (Aq rates prates pumps)))),(510,.list 3 1 ((o.map Int.ofNat).map aC)),(511,.list 4 1 ((Ez n o).map dj))]⟩)
    (fun i=>i≤d.segs.length∧∀ (j:Nat) x,j < i→F[j]? = some x→lU o k x=false) (fun i=>d.segs.length - i) 0 [(502,some 502),(503,some 503),(510,some 510),(511,some 511)] ⟨by omega,by omega⟩ ?_
   rintro i ⟨hi,hbf⟩
   by_cases hb:i < d.segs.length
   ·obtain⟨s,hs⟩:=aa hb
    obtain⟨r,hr⟩:∃ r,rates[i]? = some r:=aa (by omega)
    have e1:=hFg i s r hs hr
    have e2:=NM d h s (au hs) r
    have c:=Iz s r
    obtain⟨fi,hfi⟩:∃ f,mU s.1.fr s.1.to r=f:=⟨_,rfl⟩
    obtain⟨ti,hti⟩:∃ f,rE s.1.fr s.1.to r=f:=⟨_,rfl⟩
    rw[hfi,hti]at c
    rw[hfi]at e2
    have hB:lU o k (s.1.fr,s.1.to,r)=(r != 0 && ti == (k:Int) && !(o.contains fi.toNat)):=by simp only[lU,hfi,hti]
    obtain⟨m,hm⟩:∃ m,o.contains fi.toNat=m:=⟨_,rfl⟩
    have hgf:=pg n o fi.toNat (by omega)
    rw[hm]at hgf hB
    have go:lU o k (s.1.fr,s.1.to,r)=false→∀ (j:Nat) x,j < i+1→F[j]? = some x→lU o k x=false:=fun hz j x hj hx=>by
     by_cases e:j=i
     ·subst e;rw[e1]at hx;cases hx;exact hz
     ·exact hbf j x (by omega) hx
    refine fg hn hs hr ?_
    refine Fu hn hs hr c [] ?_
    obtain⟨⟨nm,fr,to,cp,rs,wv⟩,pts⟩:=s
    by_cases hr0:r=0
    ·have hz:lU o k (fr,to,r)=false:=by rw[hB];simp[hr0]
     refine lO hn hs hr hr0 ?_
     refine nX (i+1) [(502,some 502),(503,some 503),(510,some 510),(511,some 511)] ?_ ?_ ?_
     ·exact⟨by omega,fun j a b c=>go hz j (a,b,c)⟩
     ·omega
     exact dY
    ·by_cases ht:ti=k
     ·cases m with
      | true=>
       have hz:lU o k (fr,to,r)=false:=by rw[hB];simp
       repeat (first|(refine af rfl ?_;simp[go_sem,↓iO,iO,tN,hn,hs,hr,hr0,ht,hgf,tl])|refine ba ?_|refine⟨aZ,?_⟩|refine iP ?_|refine iN ?_)
       refine nX (i+1) [(502,some 502),(503,some 503),(510,some 510),(511,some 511)] ?_ ?_ ?_
       ·exact⟨by omega,fun j a b c=>go hz j (a,b,c)⟩
       ·omega
       exact dY
      | false=>
       have hz:lU o k (fr,to,r)=true:=by rw[hB];simp[hr0,ht]
       repeat (first|(refine af rfl ?_;simp[go_sem,↓iO,iO,tN,hn,hs,hr,hr0,ht,hgf,tl])|refine ba ?_|refine⟨aZ,?_⟩|refine iP ?_|refine iN ?_)
       refine nX (o,k+1) [(502,some 502),(503,some 503),(510,some 510),(511,some 511)] ?_ ?_ ?_
       ·exact hI.skip hk (Or.inr (M0 F o k i _ e1 hz))
       ·show (n - o.length) * (n+1)+(n - (k+1)) < (n - o.length) * (n+1)+(n - k)
        omega
       exact dY
     ·have hz:lU o k (fr,to,r)=false:=by rw[hB];simp[ht]
      refine yB hn hs hr hr0 ht ?_
      refine nX (i+1) [(502,some 502),(503,some 503),(510,some 510),(511,some 511)] ?_ ?_ ?_
      ·exact⟨by omega,fun j a b c=>go hz j (a,b,c)⟩
      ·omega
      exact dY
   ·obtain rfl:i=d.segs.length:=by omega
    have hrd:lD F o k=true:=PB F o k fun i x hx=>hbf i x (by have:=(List.getElem?_eq_some_iff.1 hx).1;omega) hx
    obtain⟨z1,z2⟩:=hI.take hk hc hrd
    dsimp only at z1
    have e5:=FV n o k hk
    refine fg hn hg tl ?_
    refine nX (o++[k],0) [(502,some 502),(503,some 503),(510,some 170),(511,some 511)] ?_ ?_ ?_
    ·exact z2
    ·show (n - (o++[k]).length) * (n+1)+(n - 0) < (n - o.length) * (n+1)+(n - k)
     simp only[List.length_append,List.length_cons,List.length_nil]
     obtain⟨q,hq⟩:∃ q,n - o.length=q+1:=⟨n - o.length - 1,by omega⟩
     have:n - (o.length+(0+1))=q:=by omega
     rw[this,hq,Nat.add_mul];omega
    simp[go_sem,↓iO,iO,tN]
    rw[←e5,List.map_set]
    rfl
 ·obtain rfl:k=n:=by omega
  have:=hI.done rfl
  dsimp only at this
  subst this
  refine aJ hn ?_
  exact aF []
structure Tg where
 st:Int
 ep:Int
 sq:Int
 tm:Int
 kd:Int
 vs:List Int
@[go_sem] def bQ (t:Tg):T:=.agg [.int t.st,.int t.ep,.int t.sq,.int t.tm,.int t.kd,bB t.vs]
def yQ (a b:Tg):Bool:=decide (a.st=b.st∧(a.ep < b.ep∨a.ep=b.ep∧a.sq < b.sq))
theorem xc (a b:Tg) (g:Bool) (hg:yQ a b=g):aj Tryz.prog 170 [.t (bQ a),.t (bQ b)] [] (.t (.bool g)) []:=by
 obtain⟨a1,a2,a3,a4,a5,a6⟩:=a
 obtain⟨b1,b2,b3,b4,b5,b6⟩:=b
 subst hg
 unfold yQ
 dsimp only
 by_cases h1:a1=b1
 ·subst h1
  by_cases h2:a2 < b2
  ·refine nI Tryz.func170 rfl Tryz.ntmps170 ?_
   refine ah ?_
   exact l9 h2 []
  ·by_cases h3:a2=b2
   ·subst h3
    refine nI Tryz.func170 rfl Tryz.ntmps170 ?_
    refine ah ?_
    exact aF []
   ·refine nI Tryz.func170 rfl Tryz.ntmps170 ?_
    refine aJ h3 ?_
    exact BJ h2 h3 []
 ·refine nI Tryz.func170 rfl Tryz.ntmps170 ?_
  refine aJ h1 ?_
  exact l9 h1 []
theorem nj (n m:Int) (g:Bool) (hg:decide (0≤n∧n≤m)=g):aj Tryz.prog 118 [.t (.int n),.t (.int m)] [] (.t (.bool g)) []:=by
 subst hg
 by_cases h1:0≤n
 ·by_cases h2:n≤m
  ·refine nI Tryz.func118 rfl Tryz.ntmps118 ?_
   refine ah ?_
   exact BJ h1 h2 []
  ·refine nI Tryz.func118 rfl Tryz.ntmps118 ?_
   refine ah ?_
   exact BJ h1 h2 []
 ·refine nI Tryz.func118 rfl Tryz.ntmps118 ?_
  refine ah ?_
  exact l9 h1 []
def yt (v:Int):Prop:=-9007199254740992≤v∧v≤9007199254740992
instance (v:Int):Decidable (yt v):=inferInstanceAs (Decidable (-9007199254740992≤v∧v≤9007199254740992))
theorem De (v:Int) (g:Bool) (hg:decide (¬ yt v)=g):aj Tryz.prog 120 [.t (.int v)] [] (.t (.bool g)) []:=by
 subst hg
 by_cases h1:v < -9007199254740992
 ·rw[decide_eq_true (by unfold yt;omega)]
  refine nI Tryz.func120 rfl Tryz.ntmps120 ?_
  refine ah ?_
  exact aF []
 ·by_cases h2:9007199254740992 < v
  ·rw[decide_eq_true (by unfold yt;omega)]
   refine nI Tryz.func120 rfl Tryz.ntmps120 ?_
   refine ah ?_
   first|rw[av]|rw[ae]
   refine⟨[],?_⟩
   simp[go_sem,↓iO,iO,tN]
   try omega
  ·rw[decide_eq_false (by unfold yt;omega)]
   refine nI Tryz.func120 rfl Tryz.ntmps120 ?_
   refine ah ?_
   first|rw[av]|rw[ae]
   refine⟨[],?_⟩
   simp[go_sem,↓iO,iO,tN]
   try omega
theorem Ap {α:Type} {p:α→Prop} (hd:∀ x,Decidable (p x)):∀ l:List α,(∀ x∈l,p x)∨∃ (j:Nat) (x:α),l[j]? = some x∧¬ p x∧∀ (i:Nat) (y:α),i < j→l[i]? = some y→p y
 | []=> .inl (by simp)
 | x :: r=>by
  by_cases h:p x
  ·rcases Ap hd r with h1|⟨j,y,h1,h2,h3⟩
   ·refine .inl ?_
    intro y hy
    rcases List.mem_cons.1 hy with rfl|hy
    ·exact h
    ·exact h1 y hy
   ·refine .inr ⟨j+1,y,by simpa using h1,h2,?_⟩
    intro i z hi hz
    cases i with
    | zero=>simp at hz;rw[←hz];exact h
    | succ i=>exact h3 i z (by omega) (by simpa using hz)
  ·exact .inr ⟨0,x,rfl,h,by intro i y hi;omega⟩
theorem Nd (l:List Int) (hl:l.length≤9223372036854775807) (g:Bool) (hg:decide (¬ ∀ x∈l,yt x)=g):∃ n:Int,decide (0≤n)=g∧aj Tryz.prog 184 [.t (bB l),.fn 120 []] [] (.t (.int n)) []:=by
 rcases Ap (p:=yt) (fun _=>inferInstance) l with h|⟨j,v,hj,hn,hf⟩
 ·rw[decide_eq_false (by simpa using h)]at hg
  subst hg
  refine⟨-1,by decide,?_⟩
  refine nI Tryz.func184 rfl Tryz.ntmps184 ?_
  refine ah ?_
  refine oP ?_
  refine lP (ι:=Nat) (fun k=>⟨[(0,.t (bB l)),(1,.fn 120 []),(7,.t (.int l.length)),(8,.t (.int k))],[]⟩) (fun k=>k≤l.length) (fun k=>l.length - k) 0 [] (by omega) ?_
  intro k hk
  by_cases hk2:k < l.length
  ·obtain⟨v,hx⟩:=aa hk2
   have c:=De v false (decide_eq_false (by simpa using h _ (au hx)))
   refine aJ hx ?_
   refine ax c [] ?_
   refine ah ?_
   exact nY (k+1) []
  ·obtain rfl:k=l.length:=by omega
   refine ah ?_
   exact aF []
 ·rw[decide_eq_true (show ¬ (∀ x∈l,yt x) from fun h=>hn (h _ (au hj)))]at hg
  subst hg
  have hjl:=(List.getElem?_eq_some_iff.1 hj).1
  refine⟨j,by simp,?_⟩
  refine nI Tryz.func184 rfl Tryz.ntmps184 ?_
  refine ah ?_
  refine oP ?_
  refine lP (ι:=Nat) (fun k=>⟨[(0,.t (bB l)),(1,.fn 120 []),(7,.t (.int l.length)),(8,.t (.int k))],[]⟩) (fun k=>k≤j) (fun k=>j - k) 0 [] (by omega) ?_
  intro k hk
  by_cases hk2:k < j
  ·obtain⟨v2,hx⟩:=aa (show k < l.length by omega)
   have c:=De v2 false (decide_eq_false (by simpa using hf k _ hk2 hx))
   refine aJ hx ?_
   refine ax c [] ?_
   refine ah ?_
   exact nY (k+1) []
  ·obtain rfl:k=j:=by omega
   have c:=De v true (decide_eq_true hn)
   refine aJ hj ?_
   refine ax c [] ?_
   refine ah ?_
   exact aF []
theorem Fh (l:List Int) (hl:l.length≤9223372036854775807) (g:Bool) (hg:decide (¬ ∀ x∈l,yt x)=g):aj Tryz.prog 119 [.t (bB l),.fn 120 []] [] (.t (.bool g)) []:=by
 obtain⟨n,hn,c⟩:=Nd l hl g hg
 subst hn
 refine nI Tryz.func119 rfl Tryz.ntmps119 ?_
 refine ah ?_
 refine ax c [] ?_
 refine ah ?_
 exact aF []
structure gy (t:Tg):Prop where
 st:0≤t.st∧t.st≤255
 ep:0≤t.ep∧t.ep≤255
 sq:0≤t.sq∧t.sq≤2147483648
 tm:0≤t.tm∧t.tm≤1099511627776
 kd:0≤t.kd∧t.kd≤63
 ln:t.vs.length≤16
 vs:∀ v∈t.vs,yt v
structure Hp where
 sg:Int
 bk:Bool
@[go_sem] def gV (h:Hp):T:=.agg [.int h.sg,.bool h.bk]
structure Pa where
 i:Int
 o:Int
 hs:List Hp
 r:Int
@[go_sem] def dS (p:Pa):T:=.agg [.int p.i,.int p.o,.sl 2 (p.hs.map gV),.int p.r]
structure Ev where
 kd:Int
 ix:Int
 vl:Int
 pa:Pa
@[go_sem] def cG (s:Ev):T:=.agg [.int s.kd,.int s.ix,.int s.vl,dS s.pa]
structure En where
 sh:List Nat
 kd:Int
 vl:Int
@[go_sem] def jb (e:En):T:=.agg [aI e.sh,.int e.kd,.int e.vl]
structure Ac where
 sh:List Nat
 rc:Int
 dl:Int
 sp:Int
 sd:Int
@[go_sem] def bI (a:Ac):T:=.agg [aI a.sh,.int a.rc,.int a.dl,.int a.sp,.int a.sd]
structure Rc where
 kd:Int
 vs:List Int
 st:Ev
 en:En
@[go_sem] def dH (r:Rc):T:=.agg [.int r.kd,bB r.vs,cG r.st,jb r.en]
structure Pn where
 rs:List Int
 ps:List Int
 pm:List Bool
@[go_sem] def bW (p:Pn):T:=.agg [bB p.rs,bB p.ps,.sl 1 (p.pm.map dj)]
structure Dk where
 vs:List Vv
 pl:Pn
@[go_sem] def db (d:Dk):T:=.agg [.sl 4 (d.vs.map bL),bW d.pl]
structure Ce where
 dk:Dk
 ts:List Tg
 ac:List Ac
 n:Int
@[go_sem] def bw (c:Ce):T:=.agg [db c.dk,.sl 6 (c.ts.map bQ),.sl 5 (c.ac.map bI),.int c.n]
@[go_sem] def vM (l:List Vv):aA:=.list 134 4 (l.map bL)
@[go_sem] def k8 (l:List Bool):aA:=.list 4 1 (l.map dj)
@[go_sem] def lW (l:List Tg):aA:=.list 126 6 (l.map bQ)
@[go_sem] def Ny (l:List Ac):aA:=.list 183 5 (l.map bI)
@[go_sem] def An (l:List Hp):aA:=.list 112 2 (l.map gV)
theorem QA (l:List Vv) (hl:l.length≤1000000):aj Tryz.prog 139 [.t (.sl 4 (l.map bL))] [] (.own 1000) [(1000,vM l)]:=by
 refine nI Tryz.func139 rfl Tryz.ntmps139 ?_
 iterate 1 (refine af rfl ?_;simp[go_sem,↓iO,iO,tN];(repeat (refine ba ?_));try (refine⟨aZ,?_⟩))
 refine CW.seq (CW.seq (CW.nilTest (k:=4) (xs:=l.map bL) (e:=134) (by simp[go_sem]) (by simp[go_sem]) ?_ ?_))
 ·intro hx
  have hx:l=[]:=by simpa using hx
  simp[go_sem,↓iO,iO,tN]
  refine ah ?_
  exact l9 hx [(1000,none)]
 ·simp[go_sem,↓iO,iO,tN]
  refine ah ?_
  exact aF [(1000,some 107)]
theorem N7 (l:List Int) (hl:l.length≤1000000):aj Tryz.prog 92 [.t (.sl 1 (l.map aC))] [] (.own 1000) [(1000,gm l)]:=by
 refine nI Tryz.func92 rfl Tryz.ntmps92 ?_
 iterate 1 (refine af rfl ?_;simp[go_sem,↓iO,iO,tN];(repeat (refine ba ?_));try (refine⟨aZ,?_⟩))
 refine CW.seq (CW.seq (CW.nilTest (k:=1) (xs:=l.map aC) (e:=3) (by simp[go_sem]) (by simp[go_sem]) ?_ ?_))
 ·intro hx
  have hx:l=[]:=by simpa using hx
  simp[go_sem,↓iO,iO,tN]
  refine ah ?_
  exact l9 hx [(1000,none)]
 ·simp[go_sem,↓iO,iO,tN]
  refine ah ?_
  exact aF [(1000,some 107)]
theorem PZ (l:List Bool) (hl:l.length≤1000000):aj Tryz.prog 65 [.t (.sl 1 (l.map dj))] [] (.own 1000) [(1000,k8 l)]:=by
 refine nI Tryz.func65 rfl Tryz.ntmps65 ?_
 iterate 1 (refine af rfl ?_;simp[go_sem,↓iO,iO,tN];(repeat (refine ba ?_));try (refine⟨aZ,?_⟩))
 refine CW.seq (CW.seq (CW.nilTest (k:=1) (xs:=l.map dj) (e:=4) (by simp[go_sem]) (by simp[go_sem]) ?_ ?_))
 ·intro hx
  have hx:l=[]:=by simpa using hx
  simp[go_sem,↓iO,iO,tN]
  refine ah ?_
  exact l9 hx [(1000,none)]
 ·simp[go_sem,↓iO,iO,tN]
  refine ah ?_
  exact aF [(1000,some 107)]
theorem QE (l:List Tg) (hl:l.length≤1000000):aj Tryz.prog 90 [.t (.sl 6 (l.map bQ))] [] (.own 1000) [(1000,lW l)]:=by
 refine nI Tryz.func90 rfl Tryz.ntmps90 ?_
 iterate 1 (refine af rfl ?_;simp[go_sem,↓iO,iO,tN];(repeat (refine ba ?_));try (refine⟨aZ,?_⟩))
 refine CW.seq (CW.seq (CW.nilTest (k:=6) (xs:=l.map bQ) (e:=126) (by simp[go_sem]) (by simp[go_sem]) ?_ ?_))
 ·intro hx
  have hx:l=[]:=by simpa using hx
  simp[go_sem,↓iO,iO,tN]
  refine ah ?_
  exact l9 hx [(1000,none)]
 ·simp[go_sem,↓iO,iO,tN]
  refine ah ?_
  exact aF [(1000,some 107)]
theorem NA (l:List Ac) (hl:l.length≤1000000):aj Tryz.prog 91 [.t (.sl 5 (l.map bI))] [] (.own 1000) [(1000,Ny l)]:=by
 refine nI Tryz.func91 rfl Tryz.ntmps91 ?_
 iterate 1 (refine af rfl ?_;simp[go_sem,↓iO,iO,tN];(repeat (refine ba ?_));try (refine⟨aZ,?_⟩))
 refine CW.seq (CW.seq (CW.nilTest (k:=5) (xs:=l.map bI) (e:=183) (by simp[go_sem]) (by simp[go_sem]) ?_ ?_))
 ·intro hx
  have hx:l=[]:=by simpa using hx
  simp[go_sem,↓iO,iO,tN]
  refine ah ?_
  exact l9 hx [(1000,none)]
 ·simp[go_sem,↓iO,iO,tN]
  refine ah ?_
  exact aF [(1000,some 107)]
theorem P4 (l:List Vv) (hl:l.length≤1000000):aj Tryz.prog 105 [.t (.sl 4 (l.map bL)),.t (.sl 4 (l.map bL))] [] (.t (.bool true)) []:=by
 refine nI Tryz.func105 rfl Tryz.ntmps105 ?_
 refine ah ?_
 refine oP ?_
 refine lP (ι:=Nat) (fun k=>⟨[(0,.t (.sl 4 (l.map bL))),(1,.t (.sl 4 (l.map bL))),(12,.t (.int l.length)),(13,.t (.int k))],[]⟩) (fun k=>k≤l.length) (fun k=>l.length - k) 0 [] (by omega) ?_
 intro k hk
 by_cases hb:k < l.length
 ·obtain⟨x,hx⟩:=aa hb
  refine aJ hx ?_
  exact nY (k+1) []
 ·obtain rfl:k=l.length:=by omega
  refine ah ?_
  exact aF []
theorem Iy (l:List Int) (hl:l.length≤1000000):aj Tryz.prog 106 [.t (.sl 1 (l.map aC)),.t (.sl 1 (l.map aC))] [] (.t (.bool true)) []:=by
 refine nI Tryz.func106 rfl Tryz.ntmps106 ?_
 refine ah ?_
 refine oP ?_
 refine lP (ι:=Nat) (fun k=>⟨[(0,.t (.sl 1 (l.map aC))),(1,.t (.sl 1 (l.map aC))),(12,.t (.int l.length)),(13,.t (.int k))],[]⟩) (fun k=>k≤l.length) (fun k=>l.length - k) 0 [] (by omega) ?_
 intro k hk
 by_cases hb:k < l.length
 ·obtain⟨x,hx⟩:=aa hb
  refine aJ hx ?_
  exact nY (k+1) []
 ·obtain rfl:k=l.length:=by omega
  refine ah ?_
  exact aF []
theorem QD (l:List Bool) (hl:l.length≤1000000):aj Tryz.prog 107 [.t (.sl 1 (l.map dj)),.t (.sl 1 (l.map dj))] [] (.t (.bool true)) []:=by
 refine nI Tryz.func107 rfl Tryz.ntmps107 ?_
 refine ah ?_
 refine oP ?_
 refine lP (ι:=Nat) (fun k=>⟨[(0,.t (.sl 1 (l.map dj))),(1,.t (.sl 1 (l.map dj))),(12,.t (.int l.length)),(13,.t (.int k))],[]⟩) (fun k=>k≤l.length) (fun k=>l.length - k) 0 [] (by omega) ?_
 intro k hk
 by_cases hb:k < l.length
 ·obtain⟨x,hx⟩:=aa hb
  refine aJ hx ?_
  exact nY (k+1) []
 ·obtain rfl:k=l.length:=by omega
  refine ah ?_
  exact aF []
theorem QH (l:List Ac) (hl:l.length≤1000000):aj Tryz.prog 110 [.t (.sl 5 (l.map bI)),.t (.sl 5 (l.map bI))] [] (.t (.bool true)) []:=by
 refine nI Tryz.func110 rfl Tryz.ntmps110 ?_
 refine ah ?_
 refine oP ?_
 refine lP (ι:=Nat) (fun k=>⟨[(0,.t (.sl 5 (l.map bI))),(1,.t (.sl 5 (l.map bI))),(12,.t (.int l.length)),(13,.t (.int k))],[]⟩) (fun k=>k≤l.length) (fun k=>l.length - k) 0 [] (by omega) ?_
 intro k hk
 by_cases hb:k < l.length
 ·obtain⟨x,hx⟩:=aa hb
  refine aJ hx ?_
  exact nY (k+1) []
 ·obtain rfl:k=l.length:=by omega
  refine ah ?_
  exact aF []
theorem Qq (l:List Vv) (hl:l.length≤1000000):aj Tryz.prog 102 [.t (.sl 4 (l.map bL)),.t (.sl 4 (l.map bL))] [] (.t (.bool true)) []:=by
 refine nI Tryz.func102 rfl Tryz.ntmps102 ?_
 refine ah ?_
 refine oP ?_
 refine lP (ι:=Nat) (fun k=>⟨[(0,.t (.sl 4 (l.map bL))),(1,.t (.sl 4 (l.map bL))),(5,.t (.int k))],[]⟩) (fun k=>k≤l.length) (fun k=>l.length - k) 0 [] (by omega) ?_
 intro k hk
 by_cases hb:k < l.length
 ·obtain⟨x,hx⟩:=aa hb
  refine aJ hx ?_
  exact nY (k+1) []
 ·obtain rfl:k=l.length:=by omega
  refine ah ?_
  exact aF []
theorem I6 (l:List Int) (hl:l.length≤1000000):aj Tryz.prog 104 [.t (.sl 1 (l.map aC)),.t (.sl 1 (l.map aC))] [] (.t (.bool true)) []:=by
 refine nI Tryz.func104 rfl Tryz.ntmps104 ?_
 refine ah ?_
 refine oP ?_
 refine lP (ι:=Nat) (fun k=>⟨[(0,.t (.sl 1 (l.map aC))),(1,.t (.sl 1 (l.map aC))),(5,.t (.int k))],[]⟩) (fun k=>k≤l.length) (fun k=>l.length - k) 0 [] (by omega) ?_
 intro k hk
 by_cases hb:k < l.length
 ·obtain⟨x,hx⟩:=aa hb
  refine aJ hx ?_
  exact nY (k+1) []
 ·obtain rfl:k=l.length:=by omega
  refine ah ?_
  exact aF []
theorem Qs (l:List Bool) (hl:l.length≤1000000):aj Tryz.prog 175 [.t (.sl 1 (l.map dj)),.t (.sl 1 (l.map dj))] [] (.t (.bool true)) []:=by
 refine nI Tryz.func175 rfl Tryz.ntmps175 ?_
 refine ah ?_
 refine oP ?_
 refine lP (ι:=Nat) (fun k=>⟨[(0,.t (.sl 1 (l.map dj))),(1,.t (.sl 1 (l.map dj))),(5,.t (.int k))],[]⟩) (fun k=>k≤l.length) (fun k=>l.length - k) 0 [] (by omega) ?_
 intro k hk
 by_cases hb:k < l.length
 ·obtain⟨x,hx⟩:=aa hb
  refine aJ hx ?_
  exact nY (k+1) []
 ·obtain rfl:k=l.length:=by omega
  refine ah ?_
  exact aF []
structure QR (p:Pn):Prop where
 a:p.rs.length≤64
 b:p.ps.length≤64
 c:p.pm.length≤64
structure Px (d:Dk):Prop where
 v:d.vs.length≤64
 p:QR d.pl
abbrev NO:S:=.ag [.own 1001,.own 1002,.own 1003]
abbrev NV (p:Pn):List (Nat×aA):=[(1001,gm p.rs),(1002,gm p.ps),(1003,k8 p.pm)]
abbrev N5:S:=.ag [.own 1000,NO]
abbrev NH (d:Dk):List (Nat×aA):=(1000,vM d.vs) :: NV d.pl
theorem KI (p:Pn) (h:QR p):aj Tryz.prog 232 [.t (bW p)] [] NO (NV p):=by
 obtain⟨a,b,c⟩:=h
 obtain⟨r,q,m⟩:=p
 dsimp only at a b c ⊢
 refine nI Tryz.func232 rfl Tryz.ntmps232 ?_
 refine ah ?_
 exact aF [(1001,some 106),(1002,some 110),(1003,some 114)]
theorem lM (d:Dk) (h:Px d):aj Tryz.prog 153 [.t (db d)] [] N5 (NH d):=by
 have c1:=KI d.pl h.p
 obtain⟨v,a,b,c⟩:=h
 obtain⟨vs,r,q,m⟩:=d
 dsimp only at v a b c c1 ⊢
 refine nI Tryz.func153 rfl Tryz.ntmps153 ?_
 refine ah ?_
 refine ax c1 [(1001,151),(1002,152),(1003,153)] ?_
 refine ah ?_
 exact aF [(1000,some 106),(1001,some 151),(1002,some 152),(1003,some 153)]
theorem zI (p:Pa) (h:p.hs.length≤1000000):aj Tryz.prog 152 [.t (dS p)] [] (.t (dS p)) []:=by
 obtain⟨i,o,hs,r⟩:=p
 dsimp only at h ⊢
 refine nI Tryz.func152 rfl Tryz.ntmps152 ?_
 refine ah ?_
 exact aF []
theorem EI (d:Dk) (h:Px d):aj Tryz.prog 70 [.t (db d)] [] N5 (NH d):=by
 obtain⟨v,a,b,c⟩:=h
 obtain⟨vs,r,q,m⟩:=d
 dsimp only at v a b c ⊢
 have c1:=QA vs (by omega)
 have c2:=N7 r (by omega)
 have c3:=N7 q (by omega)
 have c4:=PZ m (by omega)
 refine nI Tryz.func70 rfl Tryz.ntmps70 ?_
 refine ah ?_
 refine ax c1 [(1000,150)] ?_
 refine ax c2 [(1000,151)] ?_
 refine ax c3 [(1000,152)] ?_
 refine ax c4 [(1000,153)] ?_
 refine ah ?_
 exact aF [(1000,some 150),(1001,some 151),(1002,some 152),(1003,some 153)]
def mZ (l:List Int):List Bool:=l.map fun x=>decide (x≠0)
theorem eW (l:List Int):(mZ l).length=l.length:=by simp[mZ]
theorem K3 (l:List Int):∃ X:Nat→List Bool,X 0=[]∧(∀ k x,l[k]? = some x→X (k+1)=X k++[decide (x≠0)]∧(X k).length=k)∧X l.length=mZ l:=by
 refine⟨fun k=>mZ (l.take k),by simp[mZ],fun k x hx=>⟨?_,?_⟩,by simp⟩
 ·dsimp only
  rw[bC hx];simp[mZ]
 ·have:=(List.getElem?_eq_some_iff.1 hx).1
  dsimp only;rw[eW,List.length_take];omega
theorem xj (p:Pn) (h:QR p):aj Tryz.prog 236 [.t (bW p)] [] (.t (.agg [.sl 1 ((mZ p.rs).map dj),.sl 1 ((mZ p.ps).map dj)])) []:=by
 obtain⟨a,b,c⟩:=h
 obtain⟨r,q,m⟩:=p
 dsimp only at a b c ⊢
 obtain⟨X,X0,Xs,Xl⟩:=K3 r
 obtain⟨Y,Y0,Ys,Yl⟩:=K3 q
 have hl:=eW r
 rw[←Xl]at hl ⊢
 rw[←Yl]
 refine nI Tryz.func236 rfl Tryz.ntmps236 ?_
 refine ah ?_
 refine oP ?_
 refine CW.loop (ι:=Nat) (fun k=>⟨[(1,.pt 501 [] 0),(2,.pt 502 [] 0),(3,.pt 503 [] 0),(4,.t (.int k))],[(501,.box 37 (.t (bW ⟨r,q,m⟩))),(502,.box 144 (.t (.agg [.sl 1 [],.sl 1 []]))),(503,.box 144 (.ag [.own 504,.t (.lit (.slice none 0 0))])),(504,k8 (X k))]⟩) (fun k=>k≤r.length) (fun k=>r.length - k) 0 [(501,some 101),(502,some 102),(503,some 103),(504,none)] (by omega) ?_ ?_
 ·simp[go_sem,↓iO,iO,tN,X0,bZ]
 intro k hk
 by_cases hb:k < r.length
 ·obtain⟨x,hx⟩:=aa hb
  obtain⟨e1,e2⟩:=Xs k x hx
  refine aJ hx ?_
  exact nX (k+1) [(501,some 501),(502,some 502),(503,some 503),(504,some 122)] (by omega) (by omega) (dJ e1)
 ·obtain rfl:k=r.length:=by omega
  refine ah ?_
  refine oP ?_
  refine CW.loop (ι:=Nat) (fun k=>⟨[(1,.pt 501 [] 0),(2,.pt 502 [] 0),(3,.pt 503 [] 0),(5,.t (.int k))],[(501,.box 37 (.t (bW ⟨r,q,m⟩))),(502,.box 144 (.t (.agg [.sl 1 [],.sl 1 []]))),(503,.box 144 (.ag [.own 504,.own 505])),(504,k8 (X r.length)),(505,k8 (Y k))]⟩) (fun k=>k≤q.length) (fun k=>q.length - k) 0 [(501,some 501),(502,some 502),(503,some 503),(504,some 504),(505,none)] (by omega) ?_ ?_
  ·simp[go_sem,↓iO,iO,tN,Y0,bZ]
  intro k hk
  by_cases hb:k < q.length
  ·obtain⟨x,hx⟩:=aa hb
   obtain⟨e1,e2⟩:=Ys k x hx
   refine aJ hx ?_
   exact nX (k+1) [(501,some 501),(502,some 502),(503,some 503),(504,some 504),(505,some 140)] (by omega) (by omega) (dJ e1)
  ·obtain rfl:k=q.length:=by omega
   refine ah ?_
   exact aF []
theorem F4 (a b:List Bool) (ha:a.length≤1000) (hb:b.length≤1000):aj Tryz.prog 235 [.t (.agg [.sl 1 (a.map dj),.sl 1 (b.map dj)])] [] (.t (.sl 1 ((a++b).map dj))) []:=by
 refine nI Tryz.func235 rfl Tryz.ntmps235 ?_
 refine ah ?_
 exact aF []
theorem tK (a b:List Bool) (ha:a.length≤1000) (hb:b.length≤1000):aj Tryz.prog 69 [.t (.agg [.sl 1 (a.map dj),.sl 1 (b.map dj)])] [] (.t (.sl 1 ((a++b).map dj))) []:=by
 refine nI Tryz.func69 rfl Tryz.ntmps69 ?_
 refine ah ?_
 exact aF []
theorem AQ (l:List Int) (h:l.length≤64):aj Tryz.prog 131 [.t (bB l)] [] (.t (.sl 1 ((mZ l).map dj))) []:=by
 obtain⟨X,X0,Xs,Xl⟩:=K3 l
 rw[←Xl]
 refine nI Tryz.func131 rfl Tryz.ntmps131 ?_
 refine ah ?_
 refine oP ?_
 refine CW.loop (ι:=Nat) (fun k=>⟨[(3,.own 503),(6,.t (bB l)),(7,.t (.int l.length)),(8,.t (.int k))],[(503,k8 (X k))]⟩) (fun k=>k≤l.length) (fun k=>l.length - k) 0 [(503,none)] (by omega) ?_ ?_
 ·exact dJ X0
 intro k hk
 by_cases hb:k < l.length
 ·obtain⟨x,hx⟩:=aa hb
  obtain⟨e1,e2⟩:=Xs k x hx
  refine aJ hx ?_
  exact nX (k+1) [(503,some 116)] (by omega) (by omega) (dJ e1)
 ·obtain rfl:k=l.length:=by omega
  refine ah ?_
  exact aF []
end Go.Proofs.YtocndodilpimnaaGreat
