/- Several texts of this proof, one behind the other. No condition. -/
import Derived.Test.YtocndodilpimnaaGreatTThesB20
import Derived.Test.YtocndodilpimnaaGreatTThesB18
import Derived.Test.YtocndodilpimnaaGreatTThesB19
set_option maxRecDepth 100000
set_option maxHeartbeats 16000000
set_option linter.unusedVariables false
set_option linter.unusedSimpArgs false
namespace Go.Proofs.YtocndodilpimnaaGreat
open Go.RowKit Sy
open Go.IntWalk renaming iteOmega → iO, toNatUp → tN
theorem sO (s:eH) (r:Int):aj Tryz.prog 294 [.t (bA s),.t (.int r)] [] (.tup [.t (.int (mU s.1.fr s.1.to r)),.t (.int (rE s.1.fr s.1.to r))]) []:=by
 obtain⟨⟨nm,fr,to,cp,rs,wv⟩,pts⟩:=s
 refine nI Tryz.func294 rfl Tryz.ntmps294 ?_
 by_cases hr:r < 0
 ·refine aJ hr ?_
  first|rw[av]|rw[ae]
  refine⟨[],?_⟩
  simp[go_sem,↓iO,iO,tN,mU,rE,hr]
 ·refine aJ hr ?_
  first|rw[av]|rw[ae]
  refine⟨[],?_⟩
  simp[go_sem,↓iO,iO,tN,mU,rE,hr]
theorem Gu (r:Int) (h:-1000000≤r∧r≤1000000):aj Tryz.prog 295 [.t (.int r)] [] (.t (.int (mr r))) []:=by
 have e:mr r=max r (-r):=by unfold mr;split<;>omega
 rw[e]
 refine nI Tryz.func295 rfl Tryz.ntmps295 ?_
 refine ah ?_
 exact aF []
theorem uA (d:aB) (hd:bq d) (p:Pn) (h:k9 d p.rs p.ps) (v:Nat) (hv:v < 24):aj Tryz.prog 272 [.t (.agg d.l),.t (bW p),.t (.int v)] [] (.tup [.t (.int (fO d p v)),.t (.int (C9 d p v))]) []:=by
 obtain⟨A,B,P,Q,A0,B0,AB,ABb,P0,Q0,PQ,PQb,Pe,Qe⟩:=QJ d hd p h v hv
 rw[←Pe,←Qe]
 have q1:=h.l1
 have q2:=h.l2
 have s1:=hd.s
 have s2:=hd.p
 have b1:=h.b1
 have b2:=h.b2
 obtain⟨rs,ps,pm⟩:=p
 dsimp only at q1 q2 b1 b2 AB PQ ⊢
 refine nI Tryz.func272 rfl Tryz.ntmps272 ?_
 refine ah ?_
 refine oP ?_
 refine CW.loop (ι:=Nat) (fun k=>⟨[(2,.t (.int v)),(3,.pt 503 [] 0),(4,.pt 504 [] 0),(8,.t (.int (A k))),(9,.t (.int (B k))),(17,.t (.sl 7 (d.segs.map bA))),(18,.t (.int d.segs.length)),(19,.t (.int k))],[(503,.box 32 (.t (.agg d.l))),(504,.box 37 (.t (bW ⟨rs,ps,pm⟩)))]⟩) (fun k=>k≤d.segs.length) (fun k=>d.segs.length - k) 0 [(503,some 103),(504,some 104)] (by omega) ?_ ?_
 ·exact sw A0 B0
 intro k hk
 by_cases hb:k < d.segs.length
 ·obtain⟨s,hs⟩:=aa hb
  obtain⟨r,hr⟩:∃ r,rs[k]? = some r:=aa (by omega)
  obtain⟨e1,e2⟩:=AB k s r hs hr
  have e3:=ABb k
  have e4:=b1 r (au hr)
  have e5:0≤mr r∧mr r≤1000:=D3 e4
  have c1:=sO s r
  have c2:=Gu r (by omega)
  obtain⟨a,ha⟩:∃ a,mU s.1.fr s.1.to r=a:=⟨_,rfl⟩
  obtain⟨b,hbb⟩:∃ a,rE s.1.fr s.1.to r=a:=⟨_,rfl⟩
  rw[ha,hbb]at c1
  rw[ha]at e2
  rw[hbb]at e1
  by_cases hr0:r=0
  ·have z:mr r=0:=by rw[hr0];rfl
   rw[z]at e1 e2
   simp only[ite_self,Int.add_zero]at e1 e2
   refine fg hs hr hr0 ?_
   exact nX (k+1) [(503,some 503),(504,some 504)] (by omega) (by omega) (sw e1 e2)
  ·obtain⟨w,hw⟩:∃ w,mr r=w:=⟨_,rfl⟩
   rw[hw]at e1 e2 e5 c2
   refine fg hs hr hr0 ?_
   refine lf hs hr c1 [] ?_
   by_cases xa:a=v<;>by_cases xb:b=v
   all_goals
    simp only[xa,xb,if_true,if_false,Int.add_zero]at e1 e2
    refine lO hs hr xa xb ?_
    try (refine aY.fn (c2) [] [] [] (by kernel_rfl) ?_ ?_ ?_ (Or.inl rfl) ?_<;>simp[go_sem,↓iO,iO,tN,hs,hr];(repeat (refine ba ?_));try (refine⟨aZ,?_⟩))
    refine lO hs hr xa xb ?_
    try (refine aY.fn (c2) [] [] [] (by kernel_rfl) ?_ ?_ ?_ (Or.inl rfl) ?_<;>simp[go_sem,↓iO,iO,tN,hs,hr];(repeat (refine ba ?_));try (refine⟨aZ,?_⟩))
    refine lO hs hr xa xb ?_
    exact nX (k+1) [(503,some 503),(504,some 504)] (by omega) (by omega) (sw e1 e2)
 ·obtain rfl:k=d.segs.length:=by omega
  refine ah ?_
  refine oP ?_
  refine CW.loop (ι:=Nat) (fun k=>⟨[(2,.t (.int v)),(3,.pt 503 [] 0),(4,.pt 504 [] 0),(8,.t (.int (P k))),(9,.t (.int (Q k))),(64,.t (.sl 3 (d.ports.map dO))),(65,.t (.int d.ports.length)),(66,.t (.int k))],[(503,.box 32 (.t (.agg d.l))),(504,.box 37 (.t (bW ⟨rs,ps,pm⟩)))]⟩) (fun k=>k≤d.ports.length) (fun k=>d.ports.length - k) 0 [(503,some 503),(504,some 504)] (by omega) ?_ ?_
  ·exact sw P0 Q0
  intro k hk
  by_cases hb:k < d.ports.length
  ·obtain⟨s,hs⟩:=aa hb
   obtain⟨r,hr⟩:∃ r,ps[k]? = some r:=aa (by omega)
   obtain⟨e1,e2⟩:=PQ k s r hs hr
   have e3:=PQb k
   have e4:=b2 r (au hr)
   obtain⟨nm,nd,pr⟩:=s
   dsimp only at e1 e2
   by_cases xa:nd=v
   ·simp only[xa,if_true]at e1 e2
    obtain⟨x,hx⟩:∃ x,max 0 r=x:=⟨_,rfl⟩
    obtain⟨y,hy⟩:∃ y,max 0 (-r)=y:=⟨_,rfl⟩
    have xb:x≤1000∧y≤1000∧0≤x∧0≤y:=by omega
    rw[hx]at e1
    rw[hy]at e2
    refine yB hs hr xa hx hy ?_
    exact nX (k+1) [(503,some 503),(504,some 504)] (by omega) (by omega) (sw e1 e2)
   ·simp only[xa,if_false,Int.add_zero]at e1 e2
    refine fg hs hr xa ?_
    exact nX (k+1) [(503,some 503),(504,some 504)] (by omega) (by omega) (sw e1 e2)
  ·obtain rfl:k=d.ports.length:=by omega
   refine ah ?_
   exact aF []
def P3 (F:fR) (n:Nat) (fin o:List Nat) (i:Nat) (x:Int):Prop:=i≤n∧((x=-1∧oJ F n fin (o,i))∨∃ j:Nat,x=j∧j < i∧o.contains j=false∧lD F o j=true∧oJ F n fin (o,j))
theorem Bu (d:aB) (hd:bq d) (p:Pn) (h:k9 d p.rs p.ps):aj Tryz.prog 273 [.t (.agg d.l),.t (bW p)] [] (.t (.sl 1 (((kf (cg d.segs p.rs) d.nn.length d.nn.length []).map Int.ofNat).map aC))) []:=by
 have hN:=hd.ok
 have h1:=hd.n
 have h3:=hd.s
 have q1:=h.l1
 obtain⟨rs,ps,pm⟩:=p
 dsimp only at q1 ⊢
 obtain⟨n,hn⟩:∃ n,d.nn.length=n:=⟨_,rfl⟩
 obtain⟨F,hF⟩:∃ F,cg d.segs rs=F:=⟨_,rfl⟩
 have hFg:∀ (i:Nat) s r,d.segs[i]? = some s→rs[i]? = some r→F[i]? = some (s.1.fr,s.1.to,r):=fun i s r hs hr=>by
  rw[←hF]
  simp only[cg,List.getElem?_map,(List.getElem?_zip_eq_some (z:=(s,r))).2 ⟨hs,hr⟩,Option.map_some]
 have hFl:F.length=d.segs.length:=by rw[←hF];simp[cg,q1]
 rw[hF,hn]
 rw[hn]at h1
 obtain⟨fin,hfin⟩:∃ fin,kf F n n []=fin:=⟨_,rfl⟩
 rw[hfin]
 have t0:=Fg n
 have tl:=E8 n
 refine nI Tryz.func273 rfl Tryz.ntmps273 ?_
 refine aJ hn ?_
 refine oP ?_
 refine CW.loop (ι:=List Nat) (fun o=>⟨[(2,.pt 502 [] 0),(3,.pt 503 [] 0),(5,.own 510),(6,.own 511)],[(502,.box 32 (.t (.agg d.l))),(503,.box 37 (.t (bW ⟨rs,ps,pm⟩))),(510,.list 3 1 ((o.map Int.ofNat).map aC)),(511,.list 4 1 ((Ez n o).map dj))]⟩)
  (fun o=>oJ F n fin (o,0)) (fun o=>n - o.length) [] [(502,some 102),(503,some 103),(510,none),(511,some 117)] ⟨Nat.zero_le _,List.nodup_nil,by simp,by simp,hfin⟩ ?_ ?_
 ·exact dJ t0
 intro o hI
 have hol:=hI.len
 dsimp only at hol
 refine aJ hn ?_
 refine oP ?_
 refine lP (ι:=Nat×Int) (fun st=>⟨[(2,.pt 502 [] 0),(3,.pt 503 [] 0),(5,.own 510),(6,.own 511),(7,.t (.int st.2)),(20,.t (.int n)),(21,.t (.int st.1))],[(502,.box 32 (.t (.agg d.l))),(503,.box 37 (.t (bW ⟨rs,ps,pm⟩))),(510,.list 3 1 ((o.map Int.ofNat).map aC)),(511,.list 4 1 ((Ez n o).map dj))]⟩)
  (fun st=>P3 F n fin o st.1 st.2) (fun st=>n - st.1) (0,-1) [(502,some 502),(503,some 503),(510,some 510),(511,some 511)] ⟨Nat.zero_le _,Or.inl ⟨rfl,hI⟩⟩ ?_
 rintro ⟨i,x⟩ ⟨hin,hx⟩
 dsimp only at hin hx
 by_cases hi:i < n
 ·have hg:=pg n o i hi
  have f0:=H2 F o i
  refine fg hn hg tl ?_
  refine oP ?_
  refine CW.loop (ι:=Nat) (fun k=>⟨[(2,.pt 502 [] 0),(3,.pt 503 [] 0),(5,.own 510),(6,.own 511),(7,.t (.int x)),(8,.t (.int i)),(9,.t (.bool (j7 F o i k))),(20,.t (.int n)),(21,.t (.int i)),(30,.t (.sl 7 (d.segs.map bA))),(31,.t (.int d.segs.length)),(32,.t (.int k))],[(502,.box 32 (.t (.agg d.l))),(503,.box 37 (.t (bW ⟨rs,ps,pm⟩))),(510,.list 3 1 ((o.map Int.ofNat).map aC)),(511,.list 4 1 ((Ez n o).map dj))]⟩)
   (fun k=>k≤d.segs.length) (fun k=>d.segs.length - k) 0 [(502,some 502),(503,some 503),(510,some 510),(511,some 511)] (by omega) ?_ ?_
  ·simp[go_sem,↓iO,iO,tN,f0]
  intro k hk
  by_cases hb:k < d.segs.length
  ·obtain⟨s,hs⟩:=aa hb
   obtain⟨r,hr⟩:∃ r,rs[k]? = some r:=aa (by omega)
   have e1:=Gy (out:=o) (i:=i) (hFg k s r hs hr)
   have e2:=NM d hN s (au hs) r
   rw[hn]at e2
   have c:=sO s r
   obtain⟨a,ha⟩:∃ f,mU s.1.fr s.1.to r=f:=⟨_,rfl⟩
   obtain⟨b,hbb⟩:∃ f,rE s.1.fr s.1.to r=f:=⟨_,rfl⟩
   rw[ha,hbb]at c
   rw[ha]at e2
   have hB:lU o i (s.1.fr,s.1.to,r)=(r != 0 && b == (i:Int) && !(o.contains a.toNat)):=by simp only[lU,ha,hbb]
   obtain⟨m,hm⟩:∃ m,o.contains a.toNat=m:=⟨_,rfl⟩
   have hgf:=pg n o a.toNat (by omega)
   rw[hm]at hgf hB
   rw[hB]at e1
   obtain⟨g,hgv⟩:∃ g,j7 F o i k=g:=⟨_,rfl⟩
   rw[hgv]at e1 ⊢
   obtain⟨⟨nm,fr,to,cp,rs',wv⟩,pts⟩:=s
   by_cases hr0:r=0
   ·have e3:j7 F o i (k+1)=g:=by rw[e1];simp[hr0]
    refine lO hn hs hr hr0 ?_
    exact nX (k+1) [(502,some 502),(503,some 503),(510,some 510),(511,some 511)] (by omega) (by omega) (dJ e3)
   ·refine lO hn hs hr hr0 ?_
    refine lf hs hr c [] ?_
    cases g
    ·have e3:j7 F o i (k+1)=false:=by rw[e1];simp
     refine fg hn hs hr ?_
     exact nX (k+1) [(502,some 502),(503,some 503),(510,some 510),(511,some 511)] (by omega) (by omega) (dJ e3)
    ·by_cases ht:b=i
     ·have e3:j7 F o i (k+1)=m:=by rw[e1];simp[hr0,ht]
      refine JM hn hs hr ht hgf tl ?_
      exact nX (k+1) [(502,some 502),(503,some 503),(510,some 510),(511,some 511)] (by omega) (by omega) (dJ e3)
     ·have e3:j7 F o i (k+1)=true:=by rw[e1];simp[ht]
      refine lO hn hs hr ht ?_
      exact nX (k+1) [(502,some 502),(503,some 503),(510,some 510),(511,some 511)] (by omega) (by omega) (dJ e3)
  ·obtain rfl:k=d.segs.length:=by omega
   have e4:=Lh F o i
   rw[hFl]at e4
   obtain⟨c1,hc1⟩:∃ c,o.contains i=c:=⟨_,rfl⟩
   obtain⟨c2,hc2⟩:∃ c,lD F o i=c:=⟨_,rfl⟩
   rw[hc1,hc2]at e4
   rw[e4]
   by_cases hxz:x < 0
   ·rcases hx with ⟨rfl,hO⟩|⟨j,e,_⟩
    ·cases c1<;>cases c2
     ·refine ah ?_
      refine nX (i+1,-1) [(502,some 502),(503,some 503),(510,some 510),(511,some 511)] ?_ ?_ ?_
      ·exact⟨by omega,Or.inl ⟨rfl,hO.skip hi (Or.inr hc2)⟩⟩
      ·show n - (i+1) < n - i
       omega
      exact dY
     ·refine ah ?_
      refine nX (i+1,(i:Int)) [(502,some 502),(503,some 503),(510,some 510),(511,some 511)] ?_ ?_ ?_
      ·exact⟨by omega,Or.inr ⟨i,rfl,by dsimp only;omega,hc1,hc2,hO⟩⟩
      ·show n - (i+1) < n - i
       omega
      exact dY
     ·refine ah ?_
      refine nX (i+1,-1) [(502,some 502),(503,some 503),(510,some 510),(511,some 511)] ?_ ?_ ?_
      ·exact⟨by omega,Or.inl ⟨rfl,hO.skip hi (Or.inl hc1)⟩⟩
      ·show n - (i+1) < n - i
       omega
      exact dY
     ·refine ah ?_
      refine nX (i+1,-1) [(502,some 502),(503,some 503),(510,some 510),(511,some 511)] ?_ ?_ ?_
      ·exact⟨by omega,Or.inl ⟨rfl,hO.skip hi (Or.inl hc1)⟩⟩
      ·show n - (i+1) < n - i
       omega
      exact dY
    ·omega
   ·have hk2:P3 F n fin o (i+1) x:=by
     rcases hx with ⟨e2,_⟩|⟨j',e2,e3,e5⟩
     ·omega
     ·exact⟨by omega,Or.inr ⟨j',e2,by omega,e5⟩⟩
    cases c1<;>cases c2
    all_goals
     refine aJ hxz ?_
     refine nX (i+1,x) [(502,some 502),(503,some 503),(510,some 510),(511,some 511)] ?_ ?_ ?_
     ·exact hk2
     ·show n - (i+1) < n - i
      omega
     exact dY
 ·obtain rfl:i=n:=by omega
  rcases hx with ⟨rfl,hO⟩|⟨j,rfl,hj,hc,hr,hO⟩
  ·have:=hO.done rfl
   dsimp only at this
   subst this
   refine ah ?_
   exact aF []
  ·obtain⟨z1,z2⟩:=hO.take hj hc hr
   dsimp only at z1
   have e5:=FV i o j hj
   have hgj:=pg i o j hj
   have z3:¬ ((j:Int) < 0):=by omega
   refine fg tl z3 hgj ?_
   refine nX (o++[j]) [(502,some 502),(503,some 503),(510,some 179),(511,some 511)] ?_ ?_ ?_
   ·exact z2
   ·simp only[List.length_append,List.length_cons,List.length_nil]
    omega
   simp[go_sem,↓iO,iO,tN]
   rw[←e5,List.map_set]
   rfl
theorem qR (d:aB) (hd:bq d) (p:Pn) (l1:p.rs.length=d.segs.length) (l2:p.ps.length=d.ports.length) (l3:p.pm.length=d.stns.length)
  (b1:∀ r∈p.rs,-1000000≤r∧r≤1000000) (b2:∀ r∈p.ps,-1000000≤r∧r≤1000000) :
  ∃ e:Int,(e=0↔jE d p)∧aj Tryz.prog 230 [.t (.agg d.l),.t (bW p)] [] (.t (.int e)) []:=by
 have key:∃ e:Int,((∃ (k:Nat) (s:eH) (r:Int),d.segs[k]? = some s∧p.rs[k]? = some r∧¬ (-(min 1000 s.1.cp)≤r∧r≤min 1000 s.1.cp))→e=1)∧
   (¬ (∃ (k:Nat) (s:eH) (r:Int),d.segs[k]? = some s∧p.rs[k]? = some r∧¬ (-(min 1000 s.1.cp)≤r∧r≤min 1000 s.1.cp))→(∃ r∈p.ps,¬ (-1000≤r∧r≤1000))→e=1)∧
   (k9 d p.rs p.ps→(∀ (k:Nat) s r,d.segs[k]? = some s→p.rs[k]? = some r→-s.1.cp≤r∧r≤s.1.cp)→(∃ v:Nat,v < d.nn.length∧fO d p v≠C9 d p v)→e=12)∧
   (k9 d p.rs p.ps→(∀ (k:Nat) s r,d.segs[k]? = some s→p.rs[k]? = some r→-s.1.cp≤r∧r≤s.1.cp)→(∀ v:Nat,v < d.nn.length→fO d p v=C9 d p v)→(kf (cg d.segs p.rs) d.nn.length d.nn.length []).length≠d.nn.length→e=13)∧
   (jE d p→e=0)∧(e=0→jE d p):=by
  by_cases h1:∃ (k:Nat) (s:eH) (r:Int),d.segs[k]? = some s∧p.rs[k]? = some r∧¬ (-(min 1000 s.1.cp)≤r∧r≤min 1000 s.1.cp)
  ·obtain⟨k,s,r,hs,hr,hn⟩:=h1
   have no1:k9 d p.rs p.ps→(∀ (k:Nat) s r,d.segs[k]? = some s→p.rs[k]? = some r→-s.1.cp≤r∧r≤s.1.cp)→False:=fun g1 g2=>by
    have a1:=g1.b1 r (au hr)
    have a2:=g2 k s r hs hr
    omega
   exact⟨1,fun _=>rfl,fun _ _=>rfl,fun g1 g2=>(no1 g1 g2).elim,fun g1 g2=>(no1 g1 g2).elim,fun g=>(no1 g.pln g.cap).elim,by omega⟩
  have c1:∀ (k:Nat) s r,d.segs[k]? = some s→p.rs[k]? = some r→-(min 1000 s.1.cp)≤r∧r≤min 1000 s.1.cp:=fun k s r hs hr=>Classical.byContradiction fun hn=>h1 ⟨k,s,r,hs,hr,hn⟩
  by_cases h2:∃ r∈p.ps,¬ (-1000≤r∧r≤1000)
  ·obtain⟨r,hr,hn⟩:=h2
   exact⟨1,fun _=>rfl,fun _ _=>rfl,fun g=>absurd (g.b2 r hr) hn,fun g=>absurd (g.b2 r hr) hn,fun g=>absurd (g.pln.b2 r hr) hn,by omega⟩
  have c2:∀ r∈p.ps,-1000≤r∧r≤1000:=fun r hr=>Classical.byContradiction fun hn=>h2 ⟨r,hr,hn⟩
  have hp:k9 d p.rs p.ps:=⟨l1,l2,fun r hr=>by
   obtain⟨k,hk,e⟩:=List.getElem_of_mem hr
   obtain⟨s,hs⟩:∃ s,d.segs[k]? = some s:=aa (by omega)
   have:=c1 k s r hs (by rw[List.getElem?_eq_getElem hk,e])
   omega,c2⟩
  have hc:∀ (k:Nat) s r,d.segs[k]? = some s→p.rs[k]? = some r→-s.1.cp≤r∧r≤s.1.cp:=fun k s r hs hr=>by have:=c1 k s r hs hr;omega
  by_cases h3:∃ v:Nat,v < d.nn.length∧fO d p v≠C9 d p v
  ·have no:¬ ∀ v:Nat,v < d.nn.length→fO d p v=C9 d p v:=fun g=>by
    obtain⟨v,a,b⟩:=h3;exact b (g v a)
   refine⟨12,fun g=>absurd g h1,fun _ g=>absurd g h2,fun _ _ _=>rfl,fun _ _ g=>absurd g no,fun g=>absurd (fun v _=>?_) no,by omega⟩
   unfold fO C9
   rw[g.bal]
  have c3:∀ v:Nat,v < d.nn.length→fO d p v=C9 d p v:=fun v hv=>Classical.byContradiction fun hn=>h3 ⟨v,hv,hn⟩
  by_cases h4:(kf (cg d.segs p.rs) d.nn.length d.nn.length []).length=d.nn.length
  ·have ok:jE d p:=⟨hp,hc,by simpa using l3,Ln d hd p hp c3,h4⟩
   exact⟨0,fun g=>absurd g h1,fun _ g=>absurd g h2,fun _ _ g=>absurd g h3,fun _ _ _ g=>absurd h4 g,fun _=>rfl,fun _=>ok⟩
  ·exact⟨13,fun g=>absurd g h1,fun _ g=>absurd g h2,fun _ _ g=>absurd g h3,fun _ _ _ _=>rfl,fun g=>absurd g.acy h4,by omega⟩
 obtain⟨e,e1,e2,e3,e4,e5,e6⟩:=key
 refine⟨e,⟨e6,e5⟩,?_⟩
 have s1:=hd.s
 have s2:=hd.p
 have s3:=hd.n
 have s4:=hd.t
 have s5:=hd.ok.n0
 have cN:=jk d hd.ok
 have hpz:=hd.ok.pipe
 obtain⟨rs,ps,pm⟩:=p
 dsimp only at l1 l2 l3 b1 b2 e1 e2 e3 e4
 refine nI Tryz.func230 rfl Tryz.ntmps230 ?_
 refine ah ?_
 refine ax cN [] ?_
 refine fg l1 l2 l3 ?_
 refine oP ?_
 refine CW.loop (ι:=Nat) (fun k=>⟨[(2,.pt 502 [] 0),(3,.pt 503 [] 0),(45,.t (bB rs)),(46,.t (.int rs.length)),(47,.t (.int k))],[(502,.box 32 (.t (.agg d.l))),(503,.box 37 (.t (bW ⟨rs,ps,pm⟩)))]⟩) (fun k=>k≤rs.length∧∀ (j:Nat) s r,j < k→d.segs[j]? = some s→rs[j]? = some r→-(min 1000 s.1.cp)≤r∧r≤min 1000 s.1.cp) (fun k=>rs.length - k) 0 [(502,some 102),(503,some 103)] ⟨by omega,by omega⟩ ?_ ?_
 ·exact dJ l1
 rintro k ⟨hk,hgood⟩
 by_cases hb:k < rs.length
 ·obtain⟨r,hr⟩:=aa hb
  obtain⟨s,hs⟩:∃ s,d.segs[k]? = some s:=aa (by omega)
  have hcp:=(hpz s (au hs)).cap
  have hrb:=b1 r (au hr)
  obtain⟨m,hm⟩:∃ m,min 1000 s.1.cp=m:=⟨_,rfl⟩
  have hgd:(-m≤r∧r≤m)→∀ (j:Nat) s r,j < k+1→d.segs[j]? = some s→rs[j]? = some r→-(min 1000 s.1.cp)≤r∧r≤min 1000 s.1.cp:=fun h j s' r' hj hs' hr'=>by
   by_cases ej:j=k
   ·subst ej
    rw[hs]at hs';rw[hr]at hr';cases hs';cases hr'
    rw[hm];exact h
   ·exact hgood j s' r' (by omega) hs' hr'
  have hbd:¬ (-m≤r∧r≤m)→e=1:=fun h=>e1 ⟨k,s,r,hs,hr,by rw[hm];exact h⟩
  have hm2:1≤m∧m≤1000:=by omega
  obtain⟨⟨nm,fr,to,cp,rs',wv⟩,pts⟩:=s
  dsimp only at hm
  by_cases x1:r < -m
  ·obtain rfl:=hbd (by omega)
   refine lO hr hs hm x1 ?_
   exact aF []
  ·by_cases x2:m < r
   ·obtain rfl:=hbd (by omega)
    refine yB hr hs hm x1 x2 ?_
    exact aF []
   ·refine yB hr hs hm x1 x2 ?_
    refine nX (k+1) [(502,some 502),(503,some 503)] ?_ ?_ ?_
    ·exact⟨by omega,fun j a b r=>hgd (by omega) j (a,b) r⟩
    ·omega
    exact dY
 ·obtain rfl:k=rs.length:=by omega
  have c1:∀ (k:Nat) s r,d.segs[k]? = some s→rs[k]? = some r→-(min 1000 s.1.cp)≤r∧r≤min 1000 s.1.cp:=fun k s r hs hr=>hgood k s r (by have:=(List.getElem?_eq_some_iff.1 hr).1;exact this) hs hr
  have n1:¬ (∃ (k:Nat) (s:eH) (r:Int),d.segs[k]? = some s∧rs[k]? = some r∧¬ (-(min 1000 s.1.cp)≤r∧r≤min 1000 s.1.cp)):=fun⟨k,s,r,hs,hr,hn⟩=>hn (c1 k s r hs hr)
  refine ah ?_
  refine oP ?_
  refine CW.loop (ι:=Nat) (fun k=>⟨[(2,.pt 502 [] 0),(3,.pt 503 [] 0),(70,.t (bB ps)),(71,.t (.int ps.length)),(72,.t (.int k))],[(502,.box 32 (.t (.agg d.l))),(503,.box 37 (.t (bW ⟨rs,ps,pm⟩)))]⟩) (fun k=>k≤ps.length∧∀ (j:Nat) r,j < k→ps[j]? = some r→-1000≤r∧r≤1000) (fun k=>ps.length - k) 0 [(502,some 502),(503,some 503)] ⟨by omega,by omega⟩ ?_ ?_
  ·exact dJ l2
  rintro k ⟨hk,hgd2⟩
  by_cases hb:k < ps.length
  ·obtain⟨r,hr⟩:=aa hb
   have hrb:=b2 r (au hr)
   by_cases x1:r < -1000
   ·obtain rfl:=e2 n1 ⟨r,au hr,by omega⟩
    refine c9 hr x1 ?_
    exact aF []
   ·by_cases x2:1000 < r
    ·obtain rfl:=e2 n1 ⟨r,au hr,by omega⟩
     refine fg hr x1 x2 ?_
     exact aF []
    ·refine fg hr x1 x2 ?_
     refine nX (k+1) [(502,some 502),(503,some 503)] ?_ ?_ ?_
     ·refine⟨by omega,fun j r' hj hr'=>?_⟩
      by_cases ej:j=k
      ·subst ej;rw[hr]at hr';cases hr';omega
      ·exact hgd2 j r' (by omega) hr'
     ·omega
     exact dY
  ·obtain rfl:k=ps.length:=by omega
   have hp:k9 d rs ps:=⟨l1,l2,fun r hr=>by
    obtain⟨k,hk,e⟩:=List.getElem_of_mem hr
    obtain⟨s,hs⟩:∃ s,d.segs[k]? = some s:=aa (by omega)
    have:=c1 k s r hs (by rw[List.getElem?_eq_getElem hk,e])
    omega,fun r hr=>by
    obtain⟨k,hk,e⟩:=List.getElem_of_mem hr
    exact hgd2 k r hk (by rw[List.getElem?_eq_getElem hk,e])⟩
   have hc:∀ (k:Nat) s r,d.segs[k]? = some s→rs[k]? = some r→-s.1.cp≤r∧r≤s.1.cp:=fun k s r hs hr=>by have:=c1 k s r hs hr;omega
   have e3:=e3 hp hc
   have e4:=e4 hp hc
   have cS:=uA d hd ⟨rs,ps,pm⟩ hp
   have cO:=Bu d hd ⟨rs,ps,pm⟩ hp
   refine ah ?_
   refine oP ?_
   refine lP (ι:=Nat) (fun k=>⟨[(2,.pt 502 [] 0),(3,.pt 503 [] 0),(85,.t (.int d.nn.length)),(86,.t (.int k))],[(502,.box 32 (.t (.agg d.l))),(503,.box 37 (.t (bW ⟨rs,ps,pm⟩)))]⟩) (fun k=>k≤d.nn.length∧∀ v:Nat,v < k→fO d ⟨rs,ps,pm⟩ v=C9 d ⟨rs,ps,pm⟩ v) (fun k=>d.nn.length - k) 0 [(502,some 502),(503,some 503)] ⟨by omega,by omega⟩ ?_
   rintro k ⟨hk,hgd3⟩
   by_cases hb:k < d.nn.length
   ·have cS:=cS k (by omega)
    have e7:fO d ⟨rs,ps,pm⟩ k≠C9 d ⟨rs,ps,pm⟩ k→e=12:=fun h=>e3 ⟨k,hb,h⟩
    have e8:fO d ⟨rs,ps,pm⟩ k=C9 d ⟨rs,ps,pm⟩ k→∀ v:Nat,v < k+1→fO d ⟨rs,ps,pm⟩ v=C9 d ⟨rs,ps,pm⟩ v:=fun h v hv=>by
     by_cases ev:v=k
     ·rw[ev];exact h
     ·exact hgd3 v (by omega)
    obtain⟨x,hx⟩:∃ x,fO d ⟨rs,ps,pm⟩ k=x:=⟨_,rfl⟩
    obtain⟨y,hy⟩:∃ y,C9 d ⟨rs,ps,pm⟩ k=y:=⟨_,rfl⟩
    rw[hx,hy]at cS e7 e8
    by_cases hxy:x=y
    ·refine ah ?_
     refine ax cS [] ?_
     refine aJ hxy ?_
     refine nX (k+1) [(502,some 502),(503,some 503)] ?_ ?_ ?_
     ·exact⟨by omega,e8 hxy⟩
     ·omega
     exact dY
    ·obtain rfl:=e7 hxy
     refine ah ?_
     refine ax cS [] ?_
     refine aJ hxy ?_
     exact aF []
   ·obtain rfl:k=d.nn.length:=by omega
    have e4:=e4 hgd3
    obtain⟨O,hO⟩:∃ O,kf (cg d.segs rs) d.nn.length d.nn.length []=O:=⟨_,rfl⟩
    rw[hO]at cO
    by_cases ho:O.length=d.nn.length
    ·obtain rfl:=e5 ⟨hp,hc,by simpa using l3,Ln d hd ⟨rs,ps,pm⟩ hp hgd3,by rw[hO];exact ho⟩
     refine ah ?_
     refine ax cO [] ?_
     refine aJ ho ?_
     exact aF []
    ·have ho2:¬ (O.length:Int)=d.nn.length:=by omega
     obtain rfl:=e4 (by rw[hO];exact ho)
     refine ah ?_
     refine ax cO [] ?_
     refine aJ ho2 ?_
     exact aF []
theorem mf (d:aB) (hd:bq d) (p:Pn) (h:jE d p):aj Tryz.prog 230 [.t (.agg d.l),.t (bW p)] [] (.t (.int 0)) []:=by
 obtain⟨e,h1,h2⟩:=qR d hd p h.pln.l1 h.pln.l2 (by simpa using h.pum) (fun r hr=>by have:=h.pln.b1 r hr;omega) (fun r hr=>by have:=h.pln.b2 r hr;omega)
 rwa [h1.2 h]at h2
theorem Cf (d:aB) (hd:bq d) (p:Pn) (h:jE d p) (k:Nat) (hk:k < d.nn.length):aj Tryz.prog 277 [.t (.agg d.l),.t (bW p),.t (.int k)] [] (.tup [.t (.int (fO d p k)),.t (.int 0)]) []:=by
 have c1:=mf d hd p h
 have hn:=hd.n
 have c2:=uA d hd p h.pln k (by omega)
 obtain⟨x,hx⟩:∃ x,fO d p k=x:=⟨_,rfl⟩
 rw[hx]at c2 ⊢
 obtain⟨rs,ps,pm⟩:=p
 refine nI Tryz.func277 rfl Tryz.ntmps277 ?_
 refine ah ?_
 refine ax c1 [] ?_
 refine ah ?_
 refine ax c2 [] ?_
 refine ah ?_
 exact aF []
theorem EE {S:List eH} {i:Nat} {s:eH} (h:S[i]? = some s):gC S i=s.1.fr∧gE S i=s.1.to:=by simp[gC,gE,h]
theorem mA {P:List jz} {i:Nat} {s:jz} (h:P[i]? = some s):je P i=s.2.1:=by simp[je,h]
theorem qA (d:aB) (h:Hp) (h0:0≤h.sg) (h1:h.sg < d.segs.length) (f:Nat) (hf:f=276∨f=299):aj Tryz.prog f [.t (.agg d.l),.t (gV h)] [] (.tup [.t (.int (NG d h)),.t (.int (CE d h))]) []:=by
 obtain⟨g,b⟩:=h
 obtain⟨k,rfl⟩:∃ k:Nat,g=(k:Int):=⟨g.toNat,by dsimp only at h0;omega⟩
 dsimp only at h0 h1
 obtain⟨s,hs⟩:∃ s,d.segs[k]? = some s:=aa (by omega)
 obtain⟨e1,e2⟩:=EE hs
 simp only[NG,CE,Int.toNat_natCast,e1,e2]
 obtain⟨⟨nm,fr,to,cp,rs,wv⟩,pts⟩:=s
 have hk:k < d.segs.length:=by omega
 dsimp only
 rcases hf with rfl|rfl
 refine nI Tryz.func276 rfl Tryz.ntmps276 ?_
 rotate_left;refine nI Tryz.func299 rfl Tryz.ntmps299 ?_
 all_goals
  cases b
  ·refine aJ hs ?_
   exact aF []
  ·refine aJ hs ?_
   exact aF []
theorem BY {d:aB} {h:Hp} {r:List Hp} {a:Int} {s:List Int}:DJ d (h :: r) a s=if 0≤h.sg∧h.sg < d.segs.length∧NG d h=a∧CE d h∉s then DJ d r (CE d h) (s++[CE d h]) else none:=rfl
theorem D9 {l:List Int} {t:Int} {j:Nat} {x:Int} (hx:l[j]? = some x) (hn:¬ x=t) (h:t∉l.take j):t∉l.take (j+1):=by
 rw[bC hx]
 simp only[List.mem_append,List.mem_singleton,not_or]
 exact⟨h,fun e=>hn e.symm⟩
theorem zN (d:aB) (hd:bq d) (p:Pa) (hl:p.hs.length≤64):∃ b:Bool,(b=true↔oz d p)∧aj Tryz.prog 278 [.t (.agg d.l),.t (dS p)] [] (.t (.bool b)) []:=by
 obtain⟨b,hbt,hbf⟩:∃ b:Bool,(oz d p→b=true)∧(¬ oz d p→b=false):=by
  by_cases hf:oz d p
  ·exact⟨true,fun _=>rfl,fun g=>absurd hf g⟩
  ·exact⟨false,fun g=>absurd g hf,fun _=>rfl⟩
 refine⟨b,⟨fun e=>Classical.byContradiction fun hn=>(by rw[hbf hn]at e;cases e),hbt⟩,?_⟩
 have s1:=hd.s
 have s2:=hd.p
 obtain⟨i,o,hs,r⟩:=p
 dsimp only at hl
 refine nI Tryz.func278 rfl Tryz.ntmps278 ?_
 by_cases g1:i < 0
 ·obtain rfl:=hbf fun g=>by have:=g.i;dsimp only at this;omega
  refine aJ g1 ?_
  exact aF []
 by_cases g2:(d.ports.length:Int)≤i
 ·obtain rfl:=hbf fun g=>by have:=g.i;dsimp only at this;omega
  refine c9 g1 g2 ?_
  exact aF []
 by_cases g3:o < 0
 ·obtain rfl:=hbf fun g=>by have:=g.o;dsimp only at this;omega
  refine fg g1 g2 g3 ?_
  exact aF []
 by_cases g4:(d.ports.length:Int)≤o
 ·obtain rfl:=hbf fun g=>by have:=g.o;dsimp only at this;omega
  refine lO g1 g2 g3 g4 ?_
  exact aF []
 by_cases g5:i=o
 ·obtain rfl:=hbf fun g=>g.ne g5
  repeat (first|(refine af rfl ?_;simp[go_sem,↓iO,iO,tN,g1,g2,g3,g4,g5])|refine ba ?_|refine⟨aZ,?_⟩|refine iP ?_|refine iN ?_)
  exact aF []
 by_cases g6:r < 1
 ·obtain rfl:=hbf fun g=>by have:=g.r;dsimp only at this;omega
  repeat (first|(refine af rfl ?_;simp[go_sem,↓iO,iO,tN,g1,g2,g3,g4,g5,g6])|refine ba ?_|refine⟨aZ,?_⟩|refine iP ?_|refine iN ?_)
  exact aF []
 by_cases g7:1000 < r
 ·obtain rfl:=hbf fun g=>by have:=g.r;dsimp only at this;omega
  repeat (first|(refine af rfl ?_;simp[go_sem,↓iO,iO,tN,g1,g2,g3,g4,g5,g6,g7])|refine ba ?_|refine⟨aZ,?_⟩|refine iP ?_|refine iN ?_)
  exact aF []
 by_cases g8:32 < hs.length
 ·obtain rfl:=hbf fun g=>by have:=g.hl;dsimp only at this;omega
  have g9:(32:Int) < hs.length:=by omega
  repeat (first|(refine af rfl ?_;simp[go_sem,↓iO,iO,tN,g1,g2,g3,g4,g5,g6,g7,g9])|refine ba ?_|refine⟨aZ,?_⟩|refine iP ?_|refine iN ?_)
  exact aF []
 have g9:¬ (32:Int) < hs.length:=by omega
 obtain⟨u,hu⟩:∃ u,d.ports[i.toNat]? = some u:=aa (by omega)
 obtain⟨w,hw⟩:∃ u,d.ports[o.toNat]? = some u:=aa (by omega)
 have n1:=mA hu
 have n2:=mA hw
 obtain⟨W,hW⟩:∃ W,DJ d hs u.2.1 [u.2.1]=W:=⟨_,rfl⟩
 have hno:W≠some w.2.1→b=false:=fun h=>hbf fun g=>h (by rw[←hW,←n1,←n2];exact g.w)
 have hyes:W=some w.2.1→b=true:=fun h=>hbt ⟨by dsimp only;omega,by dsimp only;omega,g5,by dsimp only;omega,by dsimp only;omega,by dsimp only;rw[n1,n2,hW];exact h⟩
 obtain⟨u1,u2,u3⟩:=u
 obtain⟨w1,w2,w3⟩:=w
 dsimp only at hW hno hyes
 repeat (first|(refine af rfl ?_;simp[go_sem,↓iO,iO,tN,g1,g2,g3,g4,g5,g6,g7,g9,hu])|refine ba ?_|refine⟨aZ,?_⟩|refine iP ?_|refine iN ?_)
 refine oP ?_
 refine lP (ι:=Nat×Int×List Int) (fun st=>⟨[(2,.pt 502 [] 0),(3,.pt 503 [] 0),(5,.t (.int st.2.1)),(6,.own 506),(7,.t (.int st.1))],[(502,.box 32 (.t (.agg d.l))),(503,.box 57 (.t (dS ⟨i,o,hs,r⟩))),(506,gm st.2.2)]⟩) (fun st=>st.1≤hs.length∧DJ d (hs.drop st.1) st.2.1 st.2.2=W∧st.2.2.length=st.1+1) (fun st=>hs.length - st.1) (0,u2,[u2]) [(502,some 102),(503,some 103),(506,some 166)] ⟨by dsimp only;omega,hW,rfl⟩ ?_
 rintro ⟨k,a,s⟩ ⟨hk,hWk,hsl⟩
 dsimp only at hk hWk hsl ⊢
 by_cases hb:k < hs.length
 ·obtain⟨h,hh⟩:=aa hb
  rw[eu hh,BY]at hWk
  obtain⟨f,hf⟩:∃ f,NG d h=f:=⟨_,rfl⟩
  obtain⟨t,ht⟩:∃ t,CE d h=t:=⟨_,rfl⟩
  have c1:0≤h.sg→h.sg < d.segs.length→_:=fun x y=>qA d h x y _ (.inl rfl)
  rw[hf,ht]at hWk c1
  obtain⟨g,bk⟩:=h
  dsimp only at hWk c1
  have bad:¬ (0≤g∧g < d.segs.length∧f=a∧t∉s)→b=false:=fun hn=>hno (by rw[←hWk,if_neg hn];simp)
  by_cases x1:g < 0
  ·obtain rfl:=bad fun q=>by omega
   refine c9 hh x1 ?_
   exact aF []
  by_cases x2:(d.segs.length:Int)≤g
  ·obtain rfl:=bad fun q=>by omega
   refine fg hh x1 x2 ?_
   exact aF []
  have c1:=c1 (by omega) (by omega)
  by_cases x3:f=a
  ·subst x3
   refine fg hh x1 x2 ?_
   refine dr hh c1 [] ?_
   refine ah ?_
   refine oP ?_
   refine lP (ι:=Nat) (fun j=>⟨[(2,.pt 502 [] 0),(3,.pt 503 [] 0),(5,.t (.int f)),(6,.own 506),(7,.t (.int k)),(9,.t (.int t)),(10,.t (.int j))],[(502,.box 32 (.t (.agg d.l))),(503,.box 57 (.t (dS ⟨i,o,hs,r⟩))),(506,gm s)]⟩) (fun j=>j≤s.length∧t∉s.take j) (fun j=>s.length - j) 0 [(502,some 502),(503,some 503),(506,some 506)] ⟨by omega,by simp⟩ ?_
   rintro j ⟨hj,hnj⟩
   by_cases hjb:j < s.length
   ·obtain⟨x,hx⟩:=aa hjb
    by_cases hxt:x=t
    ·obtain rfl:=bad fun q=>q.2.2.2 (by rw[←hxt];exact au hx)
     refine c9 hx hxt ?_
     exact aF []
    ·refine c9 hx hxt ?_
     refine nX (j+1) [(502,some 502),(503,some 503),(506,some 506)] ?_ ?_ ?_
     ·exact⟨by omega,D9 hx hxt hnj⟩
     ·omega
     exact dY
   ·obtain rfl:j=s.length:=by omega
    rw[List.take_length]at hnj
    rw[if_pos ⟨by omega,by omega,rfl,hnj⟩]at hWk
    refine ah ?_
    refine nX (k+1,t,s++[t]) [(502,some 502),(503,some 503),(506,some 222)] ?_ ?_ ?_
    ·exact⟨by dsimp only;omega,hWk,by simp[hsl]⟩
    ·show hs.length - (k+1) < hs.length - k
     omega
    exact dY
  ·obtain rfl:=bad fun q=>x3 q.2.2.1
   refine fg hh x1 x2 ?_
   refine dr hh c1 [] ?_
   refine aJ x3 ?_
   exact aF []
 ·obtain rfl:k=hs.length:=by omega
  rw[List.drop_length]at hWk
  simp only[DJ]at hWk
  subst hWk
  by_cases e:a=w2
  ·obtain rfl:=hyes (by rw[e])
   refine fg hw e g3 ?_
   exact aF []
  ·obtain rfl:=hno (by simpa using e)
   refine fg hw e g3 ?_
   exact aF []
theorem Cb (d:aB) (hd:bq d) (p:Pa) (hl:p.hs.length≤64):∃ b:Bool,(b=true↔oz d p)∧aj Tryz.prog 241 [.t (.agg d.l),.t (dS p)] [] (.t (.bool b)) []:=by
 obtain⟨b,h1,c1⟩:=zN d hd p hl
 refine⟨b,h1,?_⟩
 have c2:=jk d hd.ok
 obtain⟨i,o,hs,r⟩:=p
 refine nI Tryz.func241 rfl Tryz.ntmps241 ?_
 refine ah ?_
 refine ax c2 [] ?_
 refine ax c1 [] ?_
 refine ah ?_
 exact aF []
theorem Is (l:List Int) (t:Int) (hl:l.length≤1000000) (h:t∉l):aj Tryz.prog 304 [.t (bB l),.t (.int t)] [] (.t (.int (-1))) []:=by
 refine nI Tryz.func304 rfl Tryz.ntmps304 ?_
 refine ah ?_
 refine oP ?_
 refine lP (ι:=Nat) (fun k=>⟨[(0,.t (bB l)),(1,.t (.int t)),(7,.t (.int l.length)),(8,.t (.int k))],[]⟩) (fun k=>k≤l.length) (fun k=>l.length - k) 0 [] (by omega) ?_
 intro k hk
 by_cases hb:k < l.length
 ·obtain⟨x,hx⟩:=aa hb
  have hn:¬ t=x:=fun e=>h (by rw[e];exact au hx)
  refine c9 hx hn ?_
  exact nY (k+1) []
 ·obtain rfl:k=l.length:=by omega
  refine ah ?_
  exact aF []
theorem AG (l:List Int) (t:Int) (hl:l.length≤1000000) (h:t∉l):aj Tryz.prog 300 [.t (bB l),.t (.int t)] [] (.t (.bool false)) []:=by
 have c1:=Is l t hl h
 refine nI Tryz.func300 rfl Tryz.ntmps300 ?_
 refine ah ?_
 refine ax c1 [] ?_
 refine ah ?_
 exact aF []
theorem Bb (d:aB) (i:Int) (h:0≤i∧i < d.ports.length) (hd:bq d):aj Tryz.prog 298 [.t (.int i),.pt 0 [] 0] [(0,.box 32 (.t (.agg d.l)))] (.t (.bool true)) [(0,.box 32 (.t (.agg d.l)))]:=by
 obtain⟨h1,h2⟩:=h
 have hp:=hd.p
 refine nI Tryz.func298 rfl Tryz.ntmps298 ?_
 refine c9 h1 h2 ?_
 exact aF [(0,some 0)]
theorem JA (d:aB) (hd:bq d) (p:Pa) (h:oz d p):aj Tryz.prog 284 [.t (.agg d.l),.t (dS p)] [] (.t (.bool true)) []:=by
 have s1:=hd.s
 have s2:=hd.p
 obtain⟨i,o,hs,r⟩:=p
 obtain⟨⟨i1,i2⟩,⟨o1,o2⟩,ne,⟨r1,r2⟩,hl,hW⟩:=h
 dsimp only at i1 i2 o1 o2 ne r1 r2 hl hW
 have c1:=Bb d i ⟨i1,i2⟩ hd
 have c2:=Bb d o ⟨o1,o2⟩ hd
 obtain⟨u,hu⟩:∃ u,d.ports[i.toNat]? = some u:=aa (by omega)
 obtain⟨w,hw⟩:∃ u,d.ports[o.toNat]? = some u:=aa (by omega)
 rw[mA hu,mA hw]at hW
 obtain⟨u1,u2,u3⟩:=u
 obtain⟨w1,w2,w3⟩:=w
 dsimp only at hW
 have hl2:(hs.length:Int)≤32:=by omega
 refine nI Tryz.func284 rfl Tryz.ntmps284 ?_
 refine ah ?_
 refine ax c1 [(0,102)] ?_
 refine ah ?_
 refine ax c2 [(0,102)] ?_
 refine fg ne hu hl2 ?_
 refine oP ?_
 refine lP (ι:=Nat×Int×List Int) (fun st=>⟨[(2,.pt 502 [] 0),(3,.pt 503 [] 0),(6,.t (.int st.2.1)),(7,.own 506),(58,.t (.sl 2 (hs.map gV))),(59,.t (.int hs.length)),(60,.t (.int st.1))],[(502,.box 32 (.t (.agg d.l))),(503,.box 57 (.t (dS ⟨i,o,hs,r⟩))),(506,gm st.2.2)]⟩) (fun st=>st.1≤hs.length∧DJ d (hs.drop st.1) st.2.1 st.2.2=some w2∧st.2.2.length=st.1+1) (fun st=>hs.length - st.1) (0,u2,[u2]) [(502,some 102),(503,some 103),(506,some 156)] ⟨by dsimp only;omega,hW,rfl⟩ ?_
 rintro ⟨k,a,s⟩ ⟨hk,hWk,hsl⟩
 dsimp only at hk hWk hsl ⊢
 by_cases hb:k < hs.length
 ·obtain⟨h,hh⟩:=aa hb
  rw[eu hh,BY]at hWk
  split at hWk
  ·rename_i hc
   obtain⟨x1,x2,x3,x4⟩:=hc
   have c3:=qA d h x1 x2 _ (.inr rfl)
   obtain⟨t,ht⟩:∃ t,CE d h=t:=⟨_,rfl⟩
   rw[x3,ht]at c3
   rw[ht]at x4 hWk
   have c4:=AG s t (by omega) x4
   obtain⟨g,bk⟩:=h
   dsimp only at x1 x2
   refine fg hh x1 x2 ?_
   refine dr hh c3 [] ?_
   refine ah ?_
   refine gj c4 [] [506] [] ?_
   refine ah ?_
   refine nX (k+1,t,s++[t]) [(502,some 502),(503,some 503),(506,some 193)] ?_ ?_ ?_
   ·exact⟨by dsimp only;omega,hWk,by simp[hsl]⟩
   ·show hs.length - (k+1) < hs.length - k
    omega
   exact dY
  ·cases hWk
 ·obtain rfl:k=hs.length:=by omega
  rw[List.drop_length]at hWk
  simp only[DJ,Option.some.injEq]at hWk
  subst hWk
  refine aJ hw ?_
  exact aF []
theorem GP (d:aB) (hd:bq d) (p:Pa) (h:oz d p):aj Tryz.prog 259 [.t (.agg d.l),.t (dS p)] [] (.t (.bool true)) []:=by
 have c1:=JA d hd p h
 have c2:=iW d hd.ok
 obtain⟨i,o,hs,r⟩:=p
 refine nI Tryz.func259 rfl Tryz.ntmps259 ?_
 refine ah ?_
 refine ax c2 [] ?_
 refine ax c1 [] ?_
 refine ah ?_
 exact aF []
end Go.Proofs.YtocndodilpimnaaGreat
