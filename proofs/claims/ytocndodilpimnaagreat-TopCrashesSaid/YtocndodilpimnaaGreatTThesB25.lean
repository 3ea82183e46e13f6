/- Several texts of this proof, one behind the other. No condition. -/
import Derived.Test.YtocndodilpimnaaGreatTThesB24
import Derived.Test.YtocndodilpimnaaGreatTThesB19
import Derived.Test.YtocndodilpimnaaGreatTThesB20
import Derived.Test.YtocndodilpimnaaGreatTThesB10
set_option maxRecDepth 100000
set_option maxHeartbeats 16000000
set_option linter.unusedVariables false
set_option linter.unusedSimpArgs false
namespace Go.Proofs.YtocndodilpimnaaGreat
open Go.RowKit Sy
open Go.IntWalk renaming iteOmega → iO, toNatUp → tN
theorem re (d:aB) (hd:bq d) (k:Dk) (h:gT d k) (s:Ev) (hl:s.pa.hs.length≤64):∃ k' e,(e=0→gh d k s k')∧aj Tryz.prog 85 [.t (.agg d.l),.t (db k),.t (cG s)] [] (.tup [.t (db k'),.t (.int e)]) []:=by
 have cK:=BL d hd k h
 obtain⟨b,hb,cS⟩:=yP s hl
 obtain⟨sv,p1,p2,p3⟩:=h.sz hd
 have cD:=lM k ⟨sv,p1,p2,p3⟩
 cases b
 ·refine⟨k,22,by omega,?_⟩
  obtain⟨vs,r,q,m⟩:=k
  obtain⟨kd,ix,vl,pi,po,hs,pr⟩:=s
  refine nI Tryz.func85 rfl Tryz.ntmps85 ?_
  refine ah ?_
  refine ax cK [] ?_
  refine ah ?_
  refine ax cS [] ?_
  refine ah ?_
  exact aF []
 cases hb rfl with
 | op kd ix h1 h4=>
  have h14:(kd=1∨kd=2)∨kd=3∨kd=4:=by omega
  rcases h14 with h12|h34
  ·obtain⟨k',e,hk',c⟩:=Ek d hd k h kd ix h12
   refine⟨k',e,hk',?_⟩
   obtain⟨vs,r,q,m⟩:=k
   rcases h12 with rfl|rfl
   all_goals
    refine nI Tryz.func85 rfl Tryz.ntmps85 ?_
    refine ah ?_
    refine ax cK [] ?_
    refine ah ?_
    refine ax cS [] ?_
    refine ah ?_
    refine ax c [] ?_
    refine ah ?_
    exact aF []
  ·obtain⟨k',e,hk',c⟩:=CI d hd k h kd ix h34
   refine⟨k',e,hk',?_⟩
   obtain⟨vs,r,q,m⟩:=k
   rcases h34 with rfl|rfl
   all_goals
    refine nI Tryz.func85 rfl Tryz.ntmps85 ?_
    refine ah ?_
    refine ax cK [] ?_
    refine ah ?_
    refine ax cS [] ?_
    refine ah ?_
    refine ax c [] ?_
    refine ah ?_
    exact aF []
 | fl v x hr=>
  obtain⟨k',e,hk',c⟩:=C3 d hd k h x v hl hr
  refine⟨k',e,hk',?_⟩
  obtain⟨vs,r,q,m⟩:=k
  obtain⟨pi,po,hs,pr⟩:=x
  refine nI Tryz.func85 rfl Tryz.ntmps85 ?_
  refine ah ?_
  refine ax cK [] ?_
  refine ah ?_
  refine ax cS [] ?_
  refine ah ?_
  refine ax c [] ?_
  refine ah ?_
  exact aF []
 | wt v=>
  by_cases x1:v < 1
  ·refine⟨k,1,by omega,?_⟩
   obtain⟨vs,r,q,m⟩:=k
   refine nI Tryz.func85 rfl Tryz.ntmps85 ?_
   refine ah ?_
   refine ax cK [] ?_
   refine ah ?_
   refine ax cS [] ?_
   refine aJ x1 ?_
   exact aF []
  by_cases x2:100 < v
  ·refine⟨k,1,by omega,?_⟩
   obtain⟨vs,r,q,m⟩:=k
   refine nI Tryz.func85 rfl Tryz.ntmps85 ?_
   refine ah ?_
   refine ax cK [] ?_
   refine ah ?_
   refine ax cS [] ?_
   refine c9 x1 x2 ?_
   exact aF []
  obtain⟨n,rfl⟩:∃ n:Nat,v=(n:Int):=⟨v.toNat,by omega⟩
  refine⟨_,0,fun _=> .wait n (by omega) (by omega),?_⟩
  obtain⟨Y,Y0,Yl,Yn,Ys⟩:=Fs (fun v=>de v n) k.vs
  rw[←Yl]
  have vo:=h.vo
  obtain⟨vs,r,q,m⟩:=k
  dsimp only at *
  refine nI Tryz.func85 rfl Tryz.ntmps85 ?_
  refine ah ?_
  refine ax cK [] ?_
  refine ah ?_
  refine ax cS [] ?_
  refine c9 x1 x2 ?_
  refine ax cD [(1000,150),(1001,151),(1002,152),(1003,153)] ?_
  refine ah ?_
  refine oP ?_
  refine CW.loop (ι:=Nat) (fun j=>⟨[(5,.pt 505 [] 0),(6,.pt 506 [] 0),(9,.pt 509 [] 0),(10,.t (.int j))],[(505,.box 59 (.t (cG ⟨6,0,n,jN⟩))),(506,.box 39 (.t (.agg [.sl 4 [],.agg [.sl 1 [],.sl 1 [],.sl 1 []]]))),(509,.box 39 (.ag [.own 520,.ag [.own 521,.own 522,.own 523]])),(520,vM (Y j)),(521,gm r),(522,gm q),(523,k8 m)]⟩) (fun j=>j≤vs.length) (fun j=>vs.length - j) 0 [(505,some 105),(506,some 106),(509,some 109),(520,some 150),(521,some 151),(522,some 152),(523,some 153)] (by omega) ?_ ?_
  ·simp[go_sem,↓iO,iO,tN,Y0,bZ]
  intro j hj
  have hyn:=Yn j
  by_cases hb':j < vs.length
  ·obtain⟨u,hu⟩:=aa hb'
   obtain⟨e1,e2⟩:=Ys j u hu
   have c:=Gr u (vo u (au hu)) n (by omega)
   obtain⟨w,hw⟩:∃ w,de u n=w:=⟨_,rfl⟩
   rw[hw]at c e2
   obtain⟨u1,u2,u3,u4⟩:=u
   obtain⟨w1,w2,w3,w4⟩:=w
   refine c9 hyn e1 ?_
   refine lf hyn e1 c [] ?_
   refine c9 hyn e1 ?_
   refine nX (j+1) [(505,some 505),(506,some 506),(509,some 509),(520,some 520),(521,some 521),(522,some 522),(523,some 523)] ?_ ?_ ?_
   ·omega
   ·omega
   simp[go_sem,↓iO,iO,tN,e2,List.map_set]
  ·obtain rfl:j=vs.length:=by omega
   refine aJ hyn ?_
   exact aF []
abbrev Rf (c:Ce) (l:Nat):S:=.ag [.t (db c.dk),.own l,.t (.sl 5 (c.ac.map bI)),.t (.int c.n)]
structure Lo (c:Ce):Prop where
 k:Px c.dk
 t:c.ts.length≤100
 a:c.ac.length≤100
 v:∀ t∈c.ts,t.vs.length≤100
theorem nS.sz {d:aB} (hd:bq d) {c:Ce} (h:nS d c):Lo c:=
 ⟨h.dk.sz hd,by have:=h.nt;have:=h.n;omega,by have:=h.na;have:=h.n;omega,fun t ht=>by have:=(h.ts t ht).2;omega⟩
theorem KY (t:Tg) (h:t.vs.length≤100):aj Tryz.prog 154 [.t (bQ t)] [] (.t (bQ t)) []:=by
 obtain⟨a,b,c,e,f,vs⟩:=t
 dsimp only at h
 refine nI Tryz.func154 rfl Tryz.ntmps154 ?_
 refine ah ?_
 first|rw[av]|rw[ae]
 refine⟨[],?_⟩
 simp[go_sem,↓iO,iO,tN,bZ]
theorem Ch {α:Type} (l:List α):∃ X:Nat→List α,X 0=[]∧X l.length=l∧∀ k x,l[k]? = some x→X (k+1)=X k++[x]∧(X k).length=k:=
 ⟨fun k=>l.take k,rfl,List.take_length,fun k x hx=>⟨bC hx,by have:=(List.getElem?_eq_some_iff.1 hx).1;dsimp only;rw[List.length_take];omega⟩⟩
theorem KP (c:Ce) (h:Lo c):aj Tryz.prog 81 [.t (bw c)] [] (Rf c 1000) [(1000,lW c.ts)]:=by
 obtain⟨k,ht,ha,hv⟩:=h
 have c1:=lM c.dk k
 obtain⟨X,X0,Xl,Xs⟩:=Ch c.ts
 obtain⟨⟨vs,rs,ps,pm⟩,ts,ac,n⟩:=c
 dsimp only at ht ha hv Xl Xs ⊢
 obtain⟨Y,hY⟩:∃ Y,Y=ts:=⟨_,rfl⟩
 refine nI Tryz.func81 rfl Tryz.ntmps81 ?_
 refine ah ?_
 refine ax c1 [(1000,150),(1001,151),(1002,152),(1003,153)] ?_
 refine ah ?_
 refine oP ?_
 refine CW.loop (ι:=Nat) (fun j=>⟨[(1,.pt 501 [] 0),(2,.pt 502 [] 0),(3,.pt 503 [] 0),(4,.t (.int j))],[(501,.box 43 (.t (bw ⟨⟨vs,rs,ps,pm⟩,ts,ac,n⟩))),(502,.box 43 (.t (.agg [.agg [.sl 4 [],.agg [.sl 1 [],.sl 1 [],.sl 1 []]],.sl 6 [],.sl 5 [],.int 0]))),(503,.box 43 (.ag [.t (db ⟨vs,rs,ps,pm⟩),.own 504,.t (.sl 5 (ac.map bI)),.t (.int n)])),(504,lW (X j))]⟩) (fun j=>j≤ts.length) (fun j=>ts.length - j) 0 [(501,some 101),(502,some 102),(503,some 103),(504,none)] (by omega) ?_ ?_
 ·simp[go_sem,↓iO,iO,tN,X0,bZ]
 intro j hj
 by_cases hb:j < ts.length
 ·obtain⟨t,hx⟩:=aa hb
  obtain⟨e1,e2⟩:=Xs j t hx
  have c2:=KY t (hv t (au hx))
  obtain⟨t1,t2,t3,t4,t5,t6⟩:=t
  refine aJ hx ?_
  refine dr hx c2 [] ?_
  refine ah ?_
  refine nX (j+1) [(501,some 501),(502,some 502),(503,some 503),(504,some 131)] ?_ ?_ ?_
  ·omega
  ·omega
  simp[go_sem,↓iO,iO,tN,e1,bZ]
 ·obtain rfl:j=ts.length:=by omega
  rw[Xl]
  refine ah ?_
  first|rw[av]|rw[ae]
  refine⟨[(1000,some 504)],?_⟩
  simp[go_sem,↓iO,iO,tN,bZ]
theorem D2 (ts:List Tg) (hl:ts.length≤100) (hg:m5 (eV ts)) (t:Tg):∃ l b,(b=true→ND ts t l)∧aj Tryz.prog 84 [.own 0,.t (bQ t)] [(0,lW ts)] (.tup [.t (.sl 6 (l.map bQ)),.t (.bool b)]) []:=by
 obtain⟨c,hc⟩:=CH hg t.st
 have hcl:c≤ts.length:=by simpa [eV] using hc.le
 have key:∀ (i:Nat) (a:Tg),ts[i]? = some a→(eV ts)[i]? = some a.st:=fun i a ha=>by unfold eV;rw[List.getElem?_map,ha];rfl
 obtain⟨l,b,hr,hcase⟩:∃ l b,(b=true→ND ts t l)∧((∃ x,ts[c]? = some x∧x.st=t.st∧yQ x t=b∧(b=true→l=ts.set c t)∧(b=false→l=[]))∨(b=true∧l=ts.take c++t :: ts.drop c∧∀ x,ts[c]? = some x→x.st≠t.st)):=by
  by_cases hf:∃ a,ts[c]? = some a∧a.st=t.st
  ·obtain⟨a,ha,hs⟩:=hf
   cases hb:yQ a t
   ·exact⟨[],false,nofun,.inl ⟨a,ha,hs,hb,nofun,fun _=>rfl⟩⟩
   ·exact⟨_,true,fun _=> .set c a hc ha hs hb,.inl ⟨a,ha,hs,hb,fun _=>rfl,nofun⟩⟩
  ·exact⟨_,true,fun _=> .ins c hc fun a ha hs=>hf ⟨a,ha,hs⟩,.inr ⟨rfl,rfl,fun a ha hs=>hf ⟨a,ha,hs⟩⟩⟩
 refine⟨l,b,hr,?_⟩
 have hlo:∀ (i:Nat) (a:Tg),ts[i]? = some a→i < c→a.st < t.st:=fun i a ha hi=>hc.lo i _ hi (key i a ha)
 have hhi:∀ (i:Nat) (a:Tg),ts[i]? = some a→c≤i→¬ a.st < t.st:=fun i a ha hi=>by have:=hc.hi i _ hi (key i a ha);omega
 have cB:=fun (x:Tg) (hb:yQ x t=b)=>Cz x t b hb
 have htk:List.take ts.length (ts.map bQ)=ts.map bQ:=List.take_of_length_le (by simp)
 obtain⟨t1,t2,t3,t4,t5,t6⟩:=t
 dsimp only at hlo hhi hcase
 refine nI Tryz.func84 rfl Tryz.ntmps84 ?_
 refine ah ?_
 refine oP ?_
 refine lP (ι:=Nat) (fun k=>⟨[(0,.own 0),(3,.pt 503 [] 0),(6,.t (.int k))],[(0,lW ts),(503,.box 126 (.t (bQ ⟨t1,t2,t3,t4,t5,t6⟩)))]⟩) (fun k=>k≤c) (fun k=>c - k) 0 [(0,some 0),(503,some 103)] (by omega) ?_
 intro k hk
 by_cases hkc:k < c
 ·obtain⟨a,ha⟩:∃ a,ts[k]? = some a:=aa (by omega)
  have e1:=hlo k a ha hkc
  obtain⟨a1,a2,a3,a4,a5,a6⟩:=a
  dsimp only at e1
  have hkl:k < ts.length:=by omega
  refine c9 ha e1 ?_
  exact nY (k+1) [(0,some 0),(503,some 503)]
 ·obtain rfl:k=c:=by omega
  rcases hcase with ⟨x,hx,hs,hb,hl1,hl2⟩|⟨rfl,rfl,hno⟩
  ·have e1:=hhi k x hx (by omega)
   have c1:=cB x hb
   have hkl:=(List.getElem?_eq_some_iff.1 hx).1
   obtain⟨a1,a2,a3,a4,a5,a6⟩:=x
   dsimp only at e1 hs
   subst hs
   cases b
   ·obtain rfl:=hl2 rfl
    refine c9 hx e1 ?_
    refine dr hx c1 [] ?_
    refine ah ?_
    exact aF []
   ·obtain rfl:=hl1 rfl
    refine c9 hx e1 ?_
    refine dr hx c1 [] ?_
    refine aJ hx ?_
    first|rw[av]|rw[ae]
    refine⟨[],?_⟩
    simp[go_sem,↓iO,iO,tN,List.map_set]
  ·refine CW.weak (ρ:=[(503,some 503)]) (σ':=⟨[(0,.t (.sl 6 (ts.map bQ))),(3,.pt 503 [] 0),(6,.t (.int k))],[(503,.box 126 (.t (bQ ⟨t1,t2,t3,t4,t5,t6⟩)))]⟩) ?_ ?_
   ·exact dY
   by_cases hkl:k < ts.length
   ·obtain⟨a,ha⟩:=aa hkl
    have e1:=hhi k a ha (by omega)
    have e2:=hno a ha
    obtain⟨a1,a2,a3,a4,a5,a6⟩:=a
    dsimp only at e1 e2
    refine fg ha e1 e2 ?_
    first|rw[av]|rw[ae]
    refine⟨[],?_⟩
    simp[go_sem,↓iO,iO,tN,List.map_take,List.map_drop]
    try rw[List.take_of_length_le (by simp)]
   ·obtain rfl:k=ts.length:=by omega
    refine ah ?_
    first|rw[av]|rw[ae]
    refine⟨[],?_⟩
    simp[go_sem,↓iO,iO,tN,List.map_take,List.map_drop]
    try rw[List.take_of_length_le (by simp)]
theorem DI (l:List Int) (hl:l.length≤1000000):aj Tryz.prog 92 [.t (.sl 1 (l.map aC))] [] (.t (.sl 1 (l.map aC))) []:=by
 refine nI Tryz.func92 rfl Tryz.ntmps92 ?_
 iterate 1 (refine af rfl ?_;simp[go_sem,↓iO,iO,tN];(repeat (refine ba ?_));try (refine⟨aZ,?_⟩))
 refine CW.seq (CW.seq (CW.nilTest (k:=1) (xs:=l.map aC) (e:=3) (by simp[go_sem]) (by simp[go_sem]) ?_ ?_))
 ·intro hx
  have hx:l=[]:=by simpa using hx
  simp[go_sem,↓iO,iO,tN]
  refine ah ?_
  exact l9 hx []
 ·simp[go_sem,↓iO,iO,tN]
  refine ah ?_
  exact aF []
theorem zM (c:Ce) (h:Lo c):aj Tryz.prog 35 [.t (bw c)] [] (Rf c 1000) [(1000,lW c.ts)]:=by
 obtain⟨k,ht,ha,hv⟩:=h
 have c1:=EI c.dk k
 have c2:=QE c.ts (by omega)
 have c3:=NA c.ac (by omega)
 obtain⟨⟨vs,rs,ps,pm⟩,ts,ac,n⟩:=c
 dsimp only at ht ha hv c1 c2 c3 ⊢
 have hst:∀ (j:Nat) t,ts[j]? = some t→(ts.map bQ).set j (bQ t)=ts.map bQ:=fun j t hj=>by
  refine List.ext_getElem? fun i=>?_
  by_cases e:j=i
  ·subst e
   have:=(List.getElem?_eq_some_iff.1 hj).1
   rw[List.getElem?_set_self (by simpa using this),List.getElem?_map,hj];rfl
  ·rw[List.getElem?_set_ne e]
 refine nI Tryz.func35 rfl Tryz.ntmps35 ?_
 refine ah ?_
 refine ax c1 [(1000,150),(1001,151),(1002,152),(1003,153)] ?_
 refine ax c2 [(1000,154)] ?_
 refine ax c3 [(1000,155)] ?_
 refine ah ?_
 refine oP ?_
 refine CW.loop (ι:=Nat) (fun j=>⟨[(1,.pt 501 [] 0),(2,.pt 502 [] 0),(18,.own 504),(19,.t (.int ts.length)),(20,.t (.int j))],[(501,.box 43 (.ag [.t (db ⟨vs,rs,ps,pm⟩),.own 504,.t (.sl 5 (ac.map bI)),.t (.int n)])),(502,.box 43 (.t (.agg [.agg [.sl 4 [],.agg [.sl 1 [],.sl 1 [],.sl 1 []]],.sl 6 [],.sl 5 [],.int 0]))),(504,lW ts)]⟩) (fun j=>j≤ts.length) (fun j=>ts.length - j) 0 [(501,some 101),(502,some 102),(504,some 154)] (by omega) ?_ ?_
 ·simp[go_sem,↓iO,iO,tN,bZ]
 intro j hj
 by_cases hb:j < ts.length
 ·obtain⟨t,hx⟩:=aa hb
  have c4:=DI t.vs (by have:=hv t (au hx);omega)
  have e1:=hst j t hx
  obtain⟨t1,t2,t3,t4,t5,t6⟩:=t
  refine aJ hx ?_
  refine dr hx c4 [] ?_
  refine aJ hx ?_
  refine nX (j+1) [(501,some 501),(502,some 502),(504,some 504)] ?_ ?_ ?_
  ·omega
  ·omega
  simp[go_sem,↓iO,iO,tN,bZ]
  exact e1.symm
 ·obtain rfl:j=ts.length:=by omega
  refine ah ?_
  first|rw[av]|rw[ae]
  refine⟨[(1000,some 504)],?_⟩
  simp[go_sem,↓iO,iO,tN,bZ]
@[go_sem] theorem str_nil:(str []).toList=[]:=by rw[kS];rfl
theorem HU:aj Tryz.prog 233 [.t (dS jN),.t (dS jN)] [] (.t (.bool true)) []:=by
 refine nI Tryz.func233 rfl Tryz.ntmps233 ?_
 refine ah ?_
 refine oP ?_
 refine lP (ι:=Nat) (fun k=>⟨[(2,.pt 502 [] 0),(3,.pt 503 [] 0),(5,.t (.int k))],[(502,.box 57 (.t (dS jN))),(503,.box 57 (.t (dS jN)))]⟩) (fun k=>k=0) (fun k=>k) 0 [(502,some 102),(503,some 103)] rfl ?_
 rintro k rfl
 refine ah ?_
 exact aF []
theorem EB:aj Tryz.prog 82 [.t (cG gX)] [] (.t (.bool true)) []:=by
 have c1:aj Tryz.prog 155 [.t (cG gX),.t (cG gX)] [] (.t (.bool true)) []:=by
  have c:=HU
  refine nI Tryz.func155 rfl Tryz.ntmps155 ?_
  refine ah ?_
  refine ax c [] ?_
  refine ah ?_
  exact aF []
 refine nI Tryz.func82 rfl Tryz.ntmps82 ?_
 refine ah ?_
 refine ax c1 [] ?_
 refine ah ?_
 exact aF []
theorem nT:aj Tryz.prog 167 [.t (cG gX)] [] (.t (.bool true)) []:=by
 refine nI Tryz.func167 rfl Tryz.ntmps167 ?_
 refine ah ?_
 exact aF []
inductive HH:Rc→Prop
 | tele (t:Tg):gy t→t.vs.length≤3→HH ⟨1,jK t,gX,oG⟩
 | step (s:Ev):s.pa.hs.length≤64→HH ⟨2,[],s,oG⟩
 | entry (e:En):Gi e→HH ⟨3,[],gX,e⟩
 | blank (m:Int):HH ⟨m,[],gX,oG⟩
theorem Gj (d:aB) (hd:bq d) (c:Ce) (h:nS d c) (hn:c.n≤9) (r:Rc) (hr:HH r):∃ c' e,(e=0→AR d c r c')∧aj Tryz.prog 32 [.t (.agg d.l),.t (bw c),.t (dH r)] [] (.tup [.t (bw c'),.t (.int e)]) []:=by
 have cC:=KP c (h.sz hd)
 have cN:=EB
 have hn0:=h.n
 have n1:¬ c.n=1000:=by omega
 cases hr with
 | tele t ht hv=>
  obtain⟨l,b,hl,cS⟩:=D2 c.ts (h.sz hd).t h.tg t
  have cV:=HY t (by omega) true (decide_eq_true ht)
  obtain⟨c',e,he,hfin⟩:∃ (c':Ce) (e:Int),(e=0→AR d c ⟨1,jK t,gX,oG⟩ c')∧((b=true∧c'=⟨c.dk,l,c.ac,c.n+1⟩∧e=0)∨(b=false∧c'=c∧e=6)):=by
   cases b
   ·exact⟨c,6,by omega,.inr ⟨rfl,rfl,rfl⟩⟩
   ·exact⟨_,0,fun _=> .tele t l ht hv (hl rfl),.inl ⟨rfl,rfl,rfl⟩⟩
  refine⟨c',e,he,?_⟩
  clear h hl he
  obtain⟨⟨vs,rs,ps,pm⟩,ts,ac,n⟩:=c
  obtain⟨t1,t2,t3,t4,t5,t6⟩:=t
  dsimp only at hv n1 hn hn0 hfin
  have q1:¬ ((t6.length:Int)+1+1+1+1+1 < 5):=by omega
  have htk:List.take t6.length (t6.map aC)=t6.map aC:=List.take_of_length_le (by simp)
  rcases hfin with ⟨rfl,rfl,rfl⟩|⟨rfl,rfl,rfl⟩
  ·refine nI Tryz.func32 rfl Tryz.ntmps32 ?_
   refine aJ n1 ?_
   refine ax cC [(1000,150)] ?_
   repeat (first|(refine af rfl ?_;simp[go_sem,↓iO,iO,tN,jK,q1,htk])|refine ba ?_|refine⟨aZ,?_⟩|refine iP ?_|refine iN ?_)
   refine ax cN [] ?_
   repeat (first|(refine af rfl ?_;simp[go_sem,↓iO,iO,tN,jK,q1,htk])|refine ba ?_|refine⟨aZ,?_⟩|refine iP ?_|refine iN ?_)
   refine Lu htk cV [] [168] [] ?_
   refine ah ?_
   refine Lu htk cS [(0,150)] [] [168] ?_
   refine ah ?_
   first|rw[av]|rw[ae]
   refine⟨[],?_⟩
   simp[go_sem,↓iO,iO,tN,bZ]
  ·refine nI Tryz.func32 rfl Tryz.ntmps32 ?_
   refine aJ n1 ?_
   refine ax cC [(1000,150)] ?_
   repeat (first|(refine af rfl ?_;simp[go_sem,↓iO,iO,tN,jK,q1,htk])|refine ba ?_|refine⟨aZ,?_⟩|refine iP ?_|refine iN ?_)
   refine ax cN [] ?_
   repeat (first|(refine af rfl ?_;simp[go_sem,↓iO,iO,tN,jK,q1,htk])|refine ba ?_|refine⟨aZ,?_⟩|refine iP ?_|refine iN ?_)
   refine Lu htk cV [] [168] [] ?_
   refine ah ?_
   refine Lu htk cS [(0,150)] [] [168] ?_
   refine ah ?_
   first|rw[av]|rw[ae]
   refine⟨[],?_⟩
   simp[go_sem,↓iO,iO,tN,bZ]
 | step s hs=>
  obtain⟨k,e,he,cA⟩:=re d hd c.dk h.dk s hs
  obtain⟨c',hc',hfin⟩:∃ c',(e=0→AR d c ⟨2,[],s,oG⟩ c')∧((e=0∧c'=⟨k,c.ts,c.ac,c.n+1⟩)∨(e≠0∧c'=c)):=by
   by_cases e0:e=0
   ·exact⟨_,fun _=> .step s k (he e0),.inl ⟨e0,rfl⟩⟩
   ·exact⟨c,fun z=>absurd z e0,.inr ⟨e0,rfl⟩⟩
  refine⟨c',e,hc',?_⟩
  clear h he hc'
  obtain⟨⟨vs,rs,ps,pm⟩,ts,ac,n⟩:=c
  obtain⟨kd,ix,vl,i,o,hs',r'⟩:=s
  obtain⟨vs',rs',ps',pm'⟩:=k
  dsimp only at n1 hn hn0 cA hfin
  rcases hfin with ⟨rfl,rfl⟩|⟨e0,rfl⟩
  ·refine nI Tryz.func32 rfl Tryz.ntmps32 ?_
   refine aJ n1 ?_
   refine ax cC [(1000,150)] ?_
   refine ah ?_
   refine ax cA [] ?_
   refine ah ?_
   first|rw[av]|rw[ae]
   refine⟨[],?_⟩
   simp[go_sem,↓iO,iO,tN,bZ]
  ·refine nI Tryz.func32 rfl Tryz.ntmps32 ?_
   refine aJ n1 ?_
   refine ax cC [(1000,150)] ?_
   refine ah ?_
   refine ax cA [] ?_
   refine aJ e0 ?_
   first|rw[av]|rw[ae]
   refine⟨[],?_⟩
   simp[go_sem,↓iO,iO,tN,bZ]
 | entry en hE=>
  obtain⟨l,hl,cP⟩:=Lg c.ac c.n ⟨h.ac,h.ag,by have:=h.na;omega,by omega⟩ en hE
  refine⟨_,0,fun _=> .entry en l hE hl,?_⟩
  clear h hl
  obtain⟨⟨vs,rs,ps,pm⟩,ts,ac,n⟩:=c
  obtain⟨sh,kd,vl⟩:=en
  dsimp only at n1 hn hn0 cP
  refine nI Tryz.func32 rfl Tryz.ntmps32 ?_
  refine aJ n1 ?_
  refine ax cC [(1000,150)] ?_
  refine ah ?_
  refine ax cN [] ?_
  refine ah ?_
  refine ax cP [] ?_
  refine ah ?_
  first|rw[av]|rw[ae]
  refine⟨[],?_⟩
  simp[go_sem,↓iO,iO,tN,bZ]
 | blank m=>
  have cZ:=DK
  have cV:=xG c.ac c.n ⟨h.ac,h.ag,by have:=h.na;omega,by omega⟩
  have cP:aj Tryz.prog 86 [.t (.sl 5 (c.ac.map bI)),.t (jb oG)] [] (.tup [.t (.sl 5 (c.ac.map bI)),.t (.int 27)]) []:=by
   refine nI Tryz.func86 rfl Tryz.ntmps86 ?_
   refine ah ?_
   refine ax cV [] ?_
   refine ax cZ [] ?_
   refine ah ?_
   exact aF []
  obtain⟨k,e,he,cA⟩:=re d hd c.dk h.dk gX (by simp)
  have e0:e≠0:=fun z=>by cases he z
  clear h he
  by_cases m1:m=1
  ·subst m1
   refine⟨c,28,by omega,?_⟩
   obtain⟨⟨vs,rs,ps,pm⟩,ts,ac,n⟩:=c
   dsimp only at n1 hn hn0
   refine nI Tryz.func32 rfl Tryz.ntmps32 ?_
   refine aJ n1 ?_
   refine ax cC [(1000,150)] ?_
   refine ah ?_
   first|rw[av]|rw[ae]
   refine⟨[],?_⟩
   simp[go_sem,↓iO,iO,tN,bZ]
  by_cases m2:m=2
  ·subst m2
   refine⟨c,e,fun z=>absurd z e0,?_⟩
   obtain⟨⟨vs,rs,ps,pm⟩,ts,ac,n⟩:=c
   obtain⟨vs',rs',ps',pm'⟩:=k
   dsimp only at n1 hn hn0 cA
   refine nI Tryz.func32 rfl Tryz.ntmps32 ?_
   refine aJ n1 ?_
   refine ax cC [(1000,150)] ?_
   refine ah ?_
   refine ax cA [] ?_
   refine aJ e0 ?_
   first|rw[av]|rw[ae]
   refine⟨[],?_⟩
   simp[go_sem,↓iO,iO,tN,bZ]
  by_cases m3:m=3
  ·subst m3
   refine⟨c,27,by omega,?_⟩
   obtain⟨⟨vs,rs,ps,pm⟩,ts,ac,n⟩:=c
   dsimp only at n1 hn hn0 cP
   refine nI Tryz.func32 rfl Tryz.ntmps32 ?_
   refine aJ n1 ?_
   refine ax cC [(1000,150)] ?_
   refine ah ?_
   refine ax cN [] ?_
   refine ah ?_
   refine ax cP [] ?_
   refine ah ?_
   first|rw[av]|rw[ae]
   refine⟨[],?_⟩
   simp[go_sem,↓iO,iO,tN,bZ]
  ·refine⟨c,28,by omega,?_⟩
   obtain⟨⟨vs,rs,ps,pm⟩,ts,ac,n⟩:=c
   dsimp only at n1 hn hn0
   refine nI Tryz.func32 rfl Tryz.ntmps32 ?_
   refine aJ n1 ?_
   refine ax cC [(1000,150)] ?_
   refine fg m1 m2 m3 ?_
   first|rw[av]|rw[ae]
   refine⟨[],?_⟩
   simp[go_sem,↓iO,iO,tN,bZ]
abbrev JX (c:Ce):List (Nat×aA):=[(0,.box 43 (Rf c 1)),(1,lW c.ts)]
abbrev AK (c:Ce):List (Nat×aA):=[(0,.box 43 (.t (bw c)))]
theorem uo (l:List Tg) (hl:l.length≤100) (k:Int) (c:Nat) (hc:kY (eV l) k c) (b:Bool) (hb:(∃ a,l[c]? = some a∧a.st=k)↔b=true) :
  aj Tryz.prog 168 [.t (.sl 6 (l.map bQ)),.t (.int k)] [] (.tup [.t (.int c),.t (.bool b)]) []:=by
 have key:∀ (i:Nat) (x:Int),(eV l)[i]? = some x→∃ a,l[i]? = some a∧a.st=x:=fun i x hx=>by
  unfold eV at hx
  rw[List.getElem?_map]at hx
  cases ha:l[i]? with
  | none=>rw[ha]at hx;cases hx
  | some a=>rw[ha]at hx;exact⟨a,rfl,by simpa using hx⟩
 have c1:=Nq (l.map bQ) (eV l) 6 (.int k) k _ _ (.inr ⟨rfl,rfl,rfl⟩) (by simp[eV]) (by simp;omega) (fun i x hx=>by
  obtain⟨a,ha,e⟩:=key i x hx
  refine⟨_,by rw[List.getElem?_map,ha];rfl,rfl,?_⟩
  have:=Hq a k
  rw[e]at this
  exact this) c hc b ⟨fun hx=>hb.1 (key c _ hx),fun e=>by
   obtain⟨a,ha,e2⟩:=hb.2 e
   unfold eV
   rw[List.getElem?_map,ha,←e2];rfl⟩
 refine nI Tryz.func168 rfl Tryz.ntmps168 ?_
 refine ah ?_
 refine ax c1 [] ?_
 refine ah ?_
 exact aF []
theorem GJ (d:aB) (c:Ce) (h:Lo c) (t:Tg) (ht:gy t) (hv:t.vs.length≤3) (l:List Tg) (hr:ND c.ts t l):aj Tryz.prog 87 [.t (.agg d.l),.pt 0 [] 0,.t (dH ⟨1,jK t,gX,oG⟩)] (JX c) (.t (.int 0)) (AK ⟨c.dk,l,c.ac,c.n⟩):=by
 have cN:=nT
 have cL:=DI t.vs (by omega)
 have cV:=tE t (by omega) true (decide_eq_true ht)
 have hts:=h.t
 obtain⟨dk,ts,ac,n⟩:=c
 dsimp only at hr hts ⊢
 cases hr with
 | set i x hp hx hs hb=>
  have cF:=uo ts hts t.st i hp true ⟨fun _=>rfl,fun _=>⟨x,hx,hs⟩⟩
  have cB:=xc x t true hb
  have hil:=(List.getElem?_eq_some_iff.1 hx).1
  obtain⟨t1,t2,t3,t4,t5,t6⟩:=t
  obtain⟨x1,x2,x3,x4,x5,x6⟩:=x
  dsimp only at hs cL cF hv
  have q1:¬ ((t6.length:Int)+1+1+1+1+1 < 5):=by omega
  have htk:List.take t6.length (t6.map aC)=t6.map aC:=List.take_of_length_le (by simp)
  refine nI Tryz.func87 rfl Tryz.ntmps87 ?_
  repeat (first|(refine af rfl ?_;simp[go_sem,↓iO,iO,tN,jK,q1,htk])|refine ba ?_|refine⟨aZ,?_⟩|refine iP ?_|refine iN ?_)
  refine ax cN [] ?_
  repeat (first|(refine af rfl ?_;simp[go_sem,↓iO,iO,tN,jK,q1,htk])|refine ba ?_|refine⟨aZ,?_⟩|refine iP ?_|refine iN ?_)
  refine dr htk cL [] ?_
  refine aJ htk ?_
  refine dr htk cV [] ?_
  refine aJ htk ?_
  refine gj cF [] [1] [] ?_
  refine aJ hx ?_
  refine dr hx cB [] ?_
  refine aJ hx ?_
  first|rw[av]|rw[ae]
  refine⟨[(0,some 0)],?_⟩
  simp[go_sem,↓iO,iO,tN,List.map_set,bZ]
 | ins i hp hno=>
  have hil:i≤ts.length:=by simpa [eV] using hp.le
  have cF:=uo ts hts t.st i hp false ⟨fun⟨a,ha,e⟩=>absurd e (hno a ha),fun e=>by cases e⟩
  have cI:=DH ts t i hil (by omega)
  obtain⟨t1,t2,t3,t4,t5,t6⟩:=t
  dsimp only at cL cF hv
  have q1:¬ ((t6.length:Int)+1+1+1+1+1 < 5):=by omega
  have htk:List.take t6.length (t6.map aC)=t6.map aC:=List.take_of_length_le (by simp)
  refine nI Tryz.func87 rfl Tryz.ntmps87 ?_
  repeat (first|(refine af rfl ?_;simp[go_sem,↓iO,iO,tN,jK,q1,htk])|refine ba ?_|refine⟨aZ,?_⟩|refine iP ?_|refine iN ?_)
  refine ax cN [] ?_
  repeat (first|(refine af rfl ?_;simp[go_sem,↓iO,iO,tN,jK,q1,htk])|refine ba ?_|refine⟨aZ,?_⟩|refine iP ?_|refine iN ?_)
  refine dr htk cL [] ?_
  refine aJ htk ?_
  refine dr htk cV [] ?_
  refine aJ htk ?_
  refine gj cF [] [1] [] ?_
  refine ah ?_
  refine ax cI [(1,1),(2,178),(1000,150)] ?_
  refine ah ?_
  first|rw[av]|rw[ae]
  refine⟨[(0,some 0)],?_⟩
  simp[go_sem,↓iO,iO,tN,bZ,List.map_take,List.map_drop]
theorem Ec (d:aB) (hd:bq d) (c:Ce) (h:nS d c) (s:Ev) (k:Dk) (hr:gh d c.dk s k):aj Tryz.prog 88 [.t (.agg d.l),.pt 0 [] 0,.t (dH ⟨2,[],s,oG⟩)] (JX c) (.t (.int 0)) (AK ⟨k,c.ts,c.ac,c.n⟩):=by
 have cA:=Ha d hd c.dk k s h.dk hr
 clear hr h
 obtain⟨⟨vs,rs,ps,pm⟩,ts,ac,n⟩:=c
 obtain⟨kd,ix,vl,i,o,hs',r'⟩:=s
 obtain⟨vs',rs',ps',pm'⟩:=k
 dsimp only at cA
 refine nI Tryz.func88 rfl Tryz.ntmps88 ?_
 refine ah ?_
 refine ax cA [] ?_
 refine ah ?_
 first|rw[av]|rw[ae]
 refine⟨[(0,some 0)],?_⟩
 simp[go_sem,↓iO,iO,tN,bZ]
theorem LO (d:aB) (c:Ce) (h:nS d c) (hn:c.n≤9) (e:En) (he:Gi e) (l:List Ac) (hr:Py c.ac e l):aj Tryz.prog 89 [.t (.agg d.l),.pt 0 [] 0,.t (dH ⟨3,[],gX,e⟩)] (JX c) (.t (.int 0)) (AK ⟨c.dk,c.ts,l,c.n⟩):=by
 have cN:=nT
 have cP:=Jm c.ac l c.n ⟨h.ac,h.ag,by have:=h.na;omega,by have:=h.n;omega⟩ e he hr
 clear hr h
 obtain⟨⟨vs,rs,ps,pm⟩,ts,ac,n⟩:=c
 obtain⟨sh,kd,vl⟩:=e
 dsimp only at cP
 refine nI Tryz.func89 rfl Tryz.ntmps89 ?_
 refine ah ?_
 refine ax cN [] ?_
 refine ah ?_
 refine ax cP [] ?_
 refine ah ?_
 first|rw[av]|rw[ae]
 refine⟨[(0,some 0)],?_⟩
 simp[go_sem,↓iO,iO,tN,bZ]
@[go_sem] def dI (l:List Nat):T:=.sl 1 (l.map jh)
@[go_sem] def iD (l:List Nat):aA:=.list 5 1 (l.map jh)
@[go_sem] theorem HX:∀ l:List Nat,dG (l.map jh)
 | []=>by simp[dG]
 | p :: r=>by simp[dG,jj,jh,HX r]
def cX (z:Int):List Nat:=Wire.put (Wire.fold z)
theorem J5 (bs:List Nat) (z:Int) (hb:bs.length≤1099511627776) (h1:-9223372036854775808≤z) (h2:z≤9223372036854775807) :
  aj Tryz.prog 39 [.t (dI bs),.t (.int z)] [] (.own 1000) [(1000,iD (bs++cX z))]:=by
 have hlt:=Wire.ij h1 h2
 have hp10:=Wire.eU hlt
 by_cases hz:0≤z
 ·have hx:=Kf hz h2
  unfold cX
  obtain⟨F,hF⟩:∃ F,Wire.fold z=F:=⟨_,rfl⟩
  rw[hF]at hx hlt hp10 ⊢
  refine nI Tryz.func39 rfl Tryz.ntmps39 ?_
  refine aJ hx ?_
  refine oP ?_
  refine lP (ι:=Nat×List Nat) (fun p=>⟨[(5,.t (.lit (.int .u64 p.1))),(6,.own 500)],[(500,iD (bs++p.2))]⟩) (fun p=>p.2++Wire.put p.1=Wire.put F∧p.1 < 18446744073709551616) (fun p=>p.1) (F,[]) [(500,some 115)] ⟨by simp,hlt⟩ ?_
  rintro ⟨u,q⟩ ⟨hq,hu⟩
  dsimp only at hq hu ⊢
  have hqs:q.length≤10:=by
   have:=congrArg List.length hq
   rw[List.length_append]at this
   have:=Wire.kE u
   omega
  by_cases hb2:128≤u
  ·have ho:=JQ (c:=u % 256) (by omega)
   have ew:=E5 u
   have e3:(u:Int) % 256=((u % 256:Nat):Int):=by omega
   have e5:u % 256 % 128=u % 128:=by omega
   rw[e3]at ew
   rw[e5]at ho
   rw[Wire.jy hb2]at hq
   by_cases hu8:u≤255
   ·have e4:u % 256=u:=by omega
    rw[e4]at ho
    refine aJ ho ?_
    refine nX (u / 128,q++[u % 128+128]) [(500,some 125)] ?_ ?_ ?_
    ·exact⟨by simpa using hq,by dsimp only;omega⟩
    ·dsimp only
     omega
    exact dY
   ·have e6:bits BinOp.or IntKind.u8 ((u:Int) % 256) 128=((u % 128+128:Nat):Int):=by rw[e3,ho]
    refine aJ ew ?_
    refine nX (u / 128,q++[u % 128+128]) [(500,some 125)] ?_ ?_ ?_
    ·exact⟨by simpa using hq,by dsimp only;omega⟩
    ·dsimp only
     omega
    simp[go_sem,↓iO,iO,tN]
    rw[e6]
    rfl
  ·rw[Wire.eY (by omega)]at hq
   refine ah ?_
   first|rw[av]|rw[ae]
   refine⟨[(1000,some 130)],?_⟩
   simp[go_sem,↓iO,iO,tN]
   rw[←hq]
   exact dY
 ·have hx:=Ii (show z < 0 by omega) h1
  have w1:IntKind.u64.wrap z=z+18446744073709551616:=by rw[od];omega
  have w2:IntKind.u64.wrap ((z+18446744073709551616) * 2)=2 * z+18446744073709551616:=by rw[od];omega
  have w3:IntKind.u64.wrap (z / 9223372036854775808)=18446744073709551615:=by rw[od];omega
  unfold cX
  obtain⟨F,hF⟩:∃ F,Wire.fold z=F:=⟨_,rfl⟩
  rw[hF]at hx hlt hp10 ⊢
  refine nI Tryz.func39 rfl Tryz.ntmps39 ?_
  refine lO w1 w2 w3 hx ?_
  refine oP ?_
  refine lP (ι:=Nat×List Nat) (fun p=>⟨[(5,.t (.lit (.int .u64 p.1))),(6,.own 500)],[(500,iD (bs++p.2))]⟩) (fun p=>p.2++Wire.put p.1=Wire.put F∧p.1 < 18446744073709551616) (fun p=>p.1) (F,[]) [(500,some 115)] ⟨by simp,hlt⟩ ?_
  rintro ⟨u,q⟩ ⟨hq,hu⟩
  dsimp only at hq hu ⊢
  have hqs:q.length≤10:=by
   have:=congrArg List.length hq
   rw[List.length_append]at this
   have:=Wire.kE u
   omega
  by_cases hb2:128≤u
  ·have ho:=JQ (c:=u % 256) (by omega)
   have ew:=E5 u
   have e3:(u:Int) % 256=((u % 256:Nat):Int):=by omega
   have e5:u % 256 % 128=u % 128:=by omega
   rw[e3]at ew
   rw[e5]at ho
   rw[Wire.jy hb2]at hq
   by_cases hu8:u≤255
   ·have e4:u % 256=u:=by omega
    rw[e4]at ho
    refine aJ ho ?_
    refine nX (u / 128,q++[u % 128+128]) [(500,some 125)] ?_ ?_ ?_
    ·exact⟨by simpa using hq,by dsimp only;omega⟩
    ·dsimp only
     omega
    exact dY
   ·have e6:bits BinOp.or IntKind.u8 ((u:Int) % 256) 128=((u % 128+128:Nat):Int):=by rw[e3,ho]
    refine aJ ew ?_
    refine nX (u / 128,q++[u % 128+128]) [(500,some 125)] ?_ ?_ ?_
    ·exact⟨by simpa using hq,by dsimp only;omega⟩
    ·dsimp only
     omega
    simp[go_sem,↓iO,iO,tN]
    rw[e6]
    rfl
  ·rw[Wire.eY (by omega)]at hq
   refine ah ?_
   first|rw[av]|rw[ae]
   refine⟨[(1000,some 130)],?_⟩
   simp[go_sem,↓iO,iO,tN]
   rw[←hq]
   exact dY
def Dx (h:Hp):Int:=if h.bk then 1 else 0
def kW (hs:List Hp):List Int:=(hs.map fun h=>[h.sg,Dx h]).flatten
def dh (l:List Int):List Nat:=(l.map cX).flatten
def dg (r:Rc):List Nat:=dh ([r.kd,r.vs.length]++r.vs++[r.st.kd,r.st.ix,r.st.vl,r.st.pa.i,r.st.pa.o,r.st.pa.hs.length]++kW r.st.pa.hs++[r.st.pa.r,r.en.kd,r.en.vl,r.en.sh.length])++r.en.sh
abbrev i64 (z:Int):Prop:=-9007199254740992≤z∧z≤9007199254740992
structure QU (r:Rc):Prop where
 kd:i64 r.kd
 vs:r.vs.length≤8∧∀ v∈r.vs,i64 v
 s1:i64 r.st.kd
 s2:i64 r.st.ix
 s3:i64 r.st.vl
 p1:i64 r.st.pa.i
 p2:i64 r.st.pa.o
 hs:r.st.pa.hs.length≤32∧∀ h∈r.st.pa.hs,i64 h.sg
 p3:i64 r.st.pa.r
 e1:i64 r.en.kd
 e2:i64 r.en.vl
 sh:r.en.sh.length≤12∧∀ c∈r.en.sh,c < 256
theorem ot (a b:List Int):dh (a++b)=dh a++dh b:=by simp[dh]
theorem sZ (z:Int) (h:i64 z):1≤(cX z).length∧(cX z).length≤10:=⟨Wire.kE _,Wire.eU (Wire.ij (by have:=h.1;omega) (by have:=h.2;omega))⟩
theorem fX:∀ (l:List Int),(∀ z∈l,i64 z)→(dh l).length≤10 * l.length
 | [],_=>by simp[dh]
 | z :: r,h=>by
  have:=fX r fun y hy=>h y (by simp[hy])
  have h1:=(sZ z (h z (by simp))).2
  simp only[dh,List.map_cons,List.flatten_cons,List.length_append,List.length_cons]at this ⊢
  omega
abbrev PX (bs:List Nat):List (Nat×aA):=[(0,.box 50 (.own 1)),(1,iD bs)]
theorem oQ (l:List Int) (bs:List Nat) (hb:bs.length≤1000000) (hl:l.length≤200) (h:∀ z∈l,i64 z):aj Tryz.prog 38 [.t (bB l),.pt 0 [] 0] (PX bs) (.tup []) [(0,.box 50 (.own 1000)),(1000,iD (bs++dh l))]:=by
 obtain⟨X,X0,Xl,Xs⟩:∃ X:Nat→List Nat,X 0=bs∧X l.length=bs++dh l∧∀ k z,l[k]? = some z→X (k+1)=X k++cX z∧(X k).length≤1000000+10 * 200:=by
  refine⟨fun k=>bs++dh (l.take k),by simp[dh],by dsimp only;rw[List.take_length],fun k z hz=>⟨?_,?_⟩⟩
  ·dsimp only
   rw[bC hz,ot,List.append_assoc]
   simp[dh]
  ·have:=fX (l.take k) fun y hy=>h y (List.mem_of_mem_take hy)
   have h2:(l.take k).length≤l.length:=by rw[List.length_take];omega
   dsimp only
   rw[List.length_append];omega
 refine nI Tryz.func38 rfl Tryz.ntmps38 ?_
 refine ah ?_
 refine oP ?_
 refine CW.loop (ι:=Nat) (fun k=>⟨[(1,.pt 0 [] 0),(5,.t (bB l)),(6,.t (.int l.length)),(7,.t (.int k))],[(0,.box 50 (.own 501)),(501,iD (X k))]⟩) (fun k=>k≤l.length) (fun k=>l.length - k) 0 [(0,some 0),(501,some 1)] (by omega) ?_ ?_
 ·exact dJ X0
 intro k hk
 by_cases hbk:k < l.length
 ·obtain⟨z,hz⟩:=aa hbk
  obtain⟨e1,e2⟩:=Xs k z hz
  have hz2:=h z (au hz)
  have c:=J5 (X k) z (by omega) (by have:=hz2.1;omega) (by have:=hz2.2;omega)
  rw[←e1]at c
  refine aJ hz ?_
  refine Lu hz c [(1000,550)] [501] [] ?_
  refine ah ?_
  exact nY (k+1) [(0,some 0),(501,some 550)]
 ·obtain rfl:k=l.length:=by omega
  rw[Xl]
  refine ah ?_
  exact aF [(0,some 0),(1000,some 501)]
theorem xm (r:Rc) (h:QU r):aj Tryz.prog 11 [.t (dH r)] [] (.tup [.t (dI (dg r)),.t (.int 0)]) []:=by
 obtain⟨hkd,⟨hv1,hv2⟩,h1,h2,h3,h4,h5,⟨hh1,hh2⟩,h6,h7,h8,hs1,hs2⟩:=h
 obtain⟨kd,vs,⟨sk,si,sv,i,o,hs,pr⟩,sh,ek,ev⟩:=r
 dsimp only at *
 have z0:∀ n:Nat,n≤1000→i64 (n:Int):=fun n hn=>⟨by omega,by omega⟩
 obtain⟨B1,hB1⟩:∃ B,B=dh [kd,(vs.length:Int)]:=⟨_,rfl⟩
 obtain⟨B2,hB2⟩:∃ B,B=B1++dh vs:=⟨_,rfl⟩
 obtain⟨B3,hB3⟩:∃ B,B=B2++dh [sk,si,sv,i,o,(hs.length:Int)]:=⟨_,rfl⟩
 have l1:=fX [kd,(vs.length:Int)] (by simp;exact⟨hkd,z0 _ (by omega)⟩)
 have l2:=fX vs hv2
 have q3:∀ z∈[sk,si,sv,i,o,(hs.length:Int)],i64 z:=by simp;exact⟨h1,h2,h3,h4,h5,z0 _ (by omega)⟩
 have l3:=fX _ q3
 have b1:B1.length≤20:=by rw[hB1];simpa using l1
 have b2:B2.length≤100:=by rw[hB2,List.length_append];omega
 have b3:B3.length≤160:=by rw[hB3,List.length_append];simp at l3;omega
 obtain⟨X,X0,Xl,Xs⟩:∃ X:Nat→List Nat,X 0=B3∧X hs.length=B3++dh (kW hs)∧∀ k x,hs[k]? = some x→X (k+1)=X k++dh [x.sg,Dx x]∧(X k).length≤1000:=by
  refine⟨fun k=>B3++dh (kW (hs.take k)),by simp[dh,kW],by dsimp only;rw[List.take_length],fun k x hx=>⟨?_,?_⟩⟩
  ·dsimp only
   rw[bC hx]
   simp[kW,dh]
  ·have hq:∀ z∈kW (hs.take k),i64 z:=by
    intro z hz
    simp only[kW,List.mem_flatten,List.mem_map]at hz
    obtain⟨_,⟨y,hy,rfl⟩,hz⟩:=hz
    simp only[List.mem_cons,List.not_mem_nil,or_false]at hz
    rcases hz with rfl|rfl
    ·exact hh2 y (List.mem_of_mem_take hy)
    ·unfold Dx;split<;>exact⟨by omega,by omega⟩
   have h2:=fX _ hq
   have h3:(kW (hs.take k)).length≤64:=by
    have:∀ l:List Hp,(kW l).length=2 * l.length:=fun l=>by
     induction l with
     | nil=>rfl
     | cons a b ih=>simp only[kW,List.map_cons,List.flatten_cons,List.length_append,List.length_cons,List.length_nil]at ih ⊢;omega
    rw[this,List.length_take];omega
   dsimp only
   rw[List.length_append];omega
 obtain⟨B4,hB4⟩:∃ B,B=X hs.length:=⟨_,rfl⟩
 have b4:B4.length≤1000:=by
  rw[hB4,Xl,List.length_append]
  have h3:(kW hs).length≤64:=by
   have:∀ l:List Hp,(kW l).length=2 * l.length:=fun l=>by
    induction l with
    | nil=>rfl
    | cons a b ih=>simp only[kW,List.map_cons,List.flatten_cons,List.length_append,List.length_cons,List.length_nil]at ih ⊢;omega
   rw[this];omega
  have hq:∀ z∈kW hs,i64 z:=by
   intro z hz
   simp only[kW,List.mem_flatten,List.mem_map]at hz
   obtain⟨_,⟨y,hy,rfl⟩,hz⟩:=hz
   simp only[List.mem_cons,List.not_mem_nil,or_false]at hz
   rcases hz with rfl|rfl
   ·exact hh2 y hy
   ·unfold Dx;split<;>exact⟨by omega,by omega⟩
  have h2:=fX _ hq
  omega
 have q4:∀ z∈[pr,ek,ev,(sh.length:Int)],i64 z:=by simp;exact⟨h6,h7,h8,z0 _ (by omega)⟩
 have fin:dg ⟨kd,vs,⟨sk,si,sv,i,o,hs,pr⟩,sh,ek,ev⟩=B4++dh [pr,ek,ev,(sh.length:Int)]++sh:=by
  rw[hB4,Xl,hB3,hB2,hB1]
  simp only[dg,ot]
 rw[fin]
 have c1:=oQ [kd,(vs.length:Int)] [] (by simp) (by simp) (by simp;exact⟨hkd,z0 _ (by omega)⟩)
 rw[List.nil_append,←hB1]at c1
 have c2:=oQ vs B1 (by omega) (by omega) hv2
 rw[←hB2]at c2
 have c3:=oQ _ B2 (by omega) (by simp) q3
 rw[←hB3]at c3
 have c5:=oQ _ B4 (by omega) (by simp) q4
 obtain⟨B5,hB5⟩:∃ B,B=B4++dh [pr,ek,ev,(sh.length:Int)]:=⟨_,rfl⟩
 rw[←hB5]at c5 ⊢
 have b5:B5.length≤1100:=by rw[hB5,List.length_append];have:=fX _ q4;simp at this;omega
 have hsz:(str sh).size=sh.length:=by show (List.map (fun c=>UInt8.ofNat c) sh).toArray.size=_;simp
 have hst:nr (str sh)=sh.map jh:=by
  have e:(str sh).data.toList=sh.map fun c=>UInt8.ofNat c:=by simp[str]
  unfold nr
  rw[e,List.map_map]
  refine List.map_congr_left fun c hc=>?_
  have:=hs2 c hc
  have e2:(UInt8.ofNat c).toNat=c:=by rw[UInt8.toNat_ofNat'];omega
  simp only[Function.comp,e2]
  rfl
 clear fin hB5 Xl hB1 hB2 hB3 l1 l2 l3
 have hX:∀ k x,hs[k]? = some x→aj Tryz.prog 38 [.t (bB [x.sg,Dx x]),.pt 0 [] 0] (PX (X k)) (.tup []) [(0,.box 50 (.own 1000)),(1000,iD (X (k+1)))]:=fun k x hx=>by
  obtain⟨e1,e2⟩:=Xs k x hx
  rw[e1]
  refine oQ _ _ (by omega) (by simp) ?_
  simp only[List.mem_cons,List.not_mem_nil,or_false]
  rintro z (rfl|rfl)
  ·exact hh2 x (au hx)
  ·unfold Dx;split<;>exact⟨by omega,by omega⟩
 clear Xs
 refine nI Tryz.func11 rfl Tryz.ntmps11 ?_
 have q1:¬ (21:Int) < vs.length:=by omega
 have q2:¬ (32:Int) < hs.length:=by omega
 have q5:¬ (12:Int) < sh.length:=by omega
 iterate 5 (refine af rfl ?_;simp[go_sem,↓iO,iO,tN,hsz,q1,q2,q5];(repeat (refine ba ?_));try (refine⟨aZ,?_⟩))
 refine CW.weak (ρ:=[(501,some 101),(504,some 104),(520,none)]) (σ':=⟨[(1,.pt 501 [] 0),(4,.pt 504 [] 0)],[(501,.box 63 (.t (dH ⟨kd,vs,⟨sk,si,sv,i,o,hs,pr⟩,sh,ek,ev⟩))),(504,.box 50 (.own 520)),(520,iD [])]⟩) ?_ ?_
 ·exact dY
 refine ah ?_
 refine gj c1 [(0,504),(1,520),(1000,521)] [142] [] ?_
 refine ah ?_
 refine ax c2 [(0,504),(1,521),(1000,522)] ?_
 refine ah ?_
 refine gj c3 [(0,504),(1,522),(1000,523)] [162] [] ?_
 refine ah ?_
 refine oP ?_
 refine CW.loop (ι:=Nat) (fun k=>⟨[(1,.pt 501 [] 0),(4,.pt 504 [] 0),(5,.fn 38 [.pt 504 [] 0]),(7,.pt 507 [] 0),(65,.t (.sl 2 (hs.map gV))),(66,.t (.int hs.length)),(67,.t (.int k))],[(501,.box 63 (.t (dH ⟨kd,vs,⟨sk,si,sv,i,o,hs,pr⟩,sh,ek,ev⟩))),(504,.box 50 (.own 520)),(507,.box 57 (.t (dS ⟨i,o,hs,pr⟩))),(520,iD (X k))]⟩) (fun k=>k≤hs.length) (fun k=>hs.length - k) 0 [(501,some 501),(504,some 504),(507,some 107),(520,some 523)] (by omega) ?_ ?_
 ·exact dJ X0
 intro k hk
 by_cases hb:k < hs.length
 ·obtain⟨x,hx⟩:=aa hb
  have c:=hX k x hx
  obtain⟨g,b⟩:=x
  cases b
  all_goals
   simp only[Dx]at c
   refine aJ hx ?_
   refine Lu hx c [(0,504),(1,520),(1000,551)] [177] [] ?_
   refine ah ?_
   exact nY (k+1) [(501,some 501),(504,some 504),(507,some 507),(520,some 551)]
 ·obtain rfl:k=hs.length:=by omega
  rw[←hB4]
  refine ah ?_
  refine gj c5 [(0,504),(1,520),(1000,552)] [193] [] ?_
  refine aJ hsz ?_
  exact l9 hst []
theorem rX {bs:List Nat} {a:Int} (h:a < 0∨(bs.length:Int) < a):Wire.eX bs a=(0,0,1):=by unfold Wire.eX;rw[if_pos h]
theorem yi {bs:List Nat} {a:Nat} (h:a≤bs.length):Wire.eX bs a=if (Wire.scan (bs.drop a) 0 0).2.2=0 then ((Wire.scan (bs.drop a) 0 0).1,(a:Int)+(Wire.scan (bs.drop a) 0 0).2.1,0) else (0,0,(Wire.scan (bs.drop a) 0 0).2.2):=by
 unfold Wire.eX
 rw[if_neg (by omega)]
 simp
theorem BK {c k:Nat} (hc:c < 256) (hk:k < 10):∀ K:Value→Prop,qe .shl (.int .u64 ((c:Int) % 128)) (.int .i64 (7 * (k:Int))) K=K (.int .u64 (((c % 128:Nat):Int) * 2 ^ (7 * k) % 18446744073709551616)):=by
 intro K
 have e1:(7 * (k:Int)).toNat=7 * k:=by omega
 have e2:(c:Int) % 128=((c % 128:Nat):Int):=by omega
 have hp:(2:Int) ^ (7 * k)=((2 ^ (7 * k):Nat):Int):=by simp
 unfold qe
 dsimp only
 rw[if_pos (show 0≤7 * (k:Int)∧7 * (k:Int)≤kB .u64 from ⟨by omega,by simp only[kB];omega⟩),e1,e2]
 unfold E4
 dsimp only
 split
 ·rename_i h
  unfold Cc at h
  congr 2
  omega
 ·rw[od]
theorem Ov (bs:List Nat) (a:Nat) (hb:bs.length≤1099511627776) (h8:∀ c∈bs,c < 256) (ha:a≤bs.length) (x y e:Int) (hr:Wire.eX bs a=(x,y,e)) :
  aj Tryz.prog 172 [.t (dI bs),.t (.int a)] [] (.tup [.t (.int x),.t (.int y),.t (.int e)]) []:=by
 rw[yi ha]at hr
 obtain⟨⟨s1,s2,s3⟩,hs⟩:∃ s,Wire.scan (bs.drop a) 0 0=s:=⟨_,rfl⟩
 rw[hs]at hr
 dsimp only at hr
 refine nI Tryz.func172 rfl Tryz.ntmps172 ?_
 refine ah ?_
 refine oP ?_
 refine lP (ι:=Nat×Nat) (fun p=>⟨[(0,.t (dI bs)),(1,.t (.int a)),(18,.t (.int p.1)),(7,.t (.lit (.int .u64 p.2)))],[]⟩) (fun p=>p.1≤10∧p.2 < 18446744073709551616∧(p.1 < 10→p.2 < 2 ^ (7 * p.1))∧Wire.scan (bs.drop (a+p.1)) p.1 p.2=(s1,s2,s3)) (fun p=>10 - p.1) (0,0) [] ⟨by simp,by simp,by simp,by simpa using hs⟩ ?_
 rintro ⟨k,u⟩ ⟨hk,hu,hu7,hsc⟩
 dsimp only at hk hu hu7 hsc ⊢
 by_cases hk10:k < 10
 ·by_cases hlen:a+k < bs.length
  ·obtain⟨c,hc⟩:=aa hlen
   have hc8:=h8 c (au hc)
   have hand:=LV hc8
   have e2:((c % 128:Nat):Int)=(c:Int) % 128:=by omega
   rw[e2]at hand
   have hsh:=BK hc8 hk10
   have hor:=Ks hk10 (hu7 hk10) hc8
   obtain⟨E,hE⟩:∃ E,((c % 128:Nat):Int) * 2 ^ (7 * k) % 18446744073709551616=E:=⟨_,rfl⟩
   rw[hE]at hor
   simp only[hE]at hsh
   have hlt:(u+c % 128 * 2 ^ (7 * k)) % 18446744073709551616 < 18446744073709551616:=Nat.mod_lt _ (by omega)
   have hst:k < 9→(u+c % 128 * 2 ^ (7 * k)) % 18446744073709551616 < 2 ^ (7 * (k+1)):=fun h=>Wire.Ft h (hu7 hk10)
   rw[eu hc]at hsc
   by_cases hbig:128≤c
   ·rw[Wire.jQ hk10 hbig]at hsc
    obtain⟨U,hU⟩:∃ U,(u+c % 128 * 2 ^ (7 * k)) % 18446744073709551616=U:=⟨_,rfl⟩
    rw[hU]at hor hsc hlt hst
    repeat (first|(refine af rfl ?_;simp[go_sem,↓iO,iO,tN,hc,hand,↓hsh,hor])|refine ba ?_|refine⟨aZ,?_⟩|refine iP ?_|refine iN ?_)
    refine nX (k+1,U) [] ?_ ?_ ?_
    ·exact⟨by dsimp only;omega,hlt,fun h=>hst (by dsimp only at h;omega),by rw[←Nat.add_assoc];exact hsc⟩
    ·dsimp only
     omega
    exact dY
   ·by_cases hbad:(k=9∧1 < c)∨(0 < k∧c=0)
    ·rw[Wire.uG hk10 (by omega) hbad]at hsc
     obtain⟨rfl,rfl,rfl⟩:0=s1∧0=s2∧3=s3:=by simpa using hsc
     rw[if_neg (by decide)]at hr
     obtain⟨rfl,rfl,rfl⟩:0=x∧0=y∧3=e:=by simpa using hr
     obtain⟨U,hU⟩:∃ U,(u+c % 128 * 2 ^ (7 * k)) % 18446744073709551616=U:=⟨_,rfl⟩
     rw[hU]at hor
     rcases hbad with ⟨hk9,h1c⟩|⟨h0k,hc0⟩
     ·repeat (first|(refine af rfl ?_;simp[go_sem,↓iO,iO,tN,hc,hand,↓hsh,hor])|refine ba ?_|refine⟨aZ,?_⟩|refine iP ?_|refine iN ?_)
      exact aF []
     ·by_cases hk9:k=9
      ·repeat (first|(refine af rfl ?_;simp[go_sem,↓iO,iO,tN,hc,hand,↓hsh,hor])|refine ba ?_|refine⟨aZ,?_⟩|refine iP ?_|refine iN ?_)
       exact aF []
      ·repeat (first|(refine af rfl ?_;simp[go_sem,↓iO,iO,tN,hc,hand,↓hsh,hor])|refine ba ?_|refine⟨aZ,?_⟩|refine iP ?_|refine iN ?_)
       exact aF []
    ·rw[Wire.pM hk10 (by omega) hbad]at hsc
     have hx:=BW hlt
     have ha1:=and_1 hlt
     obtain⟨U,hU⟩:∃ U,(u+c % 128 * 2 ^ (7 * k)) % 18446744073709551616=U:=⟨_,rfl⟩
     rw[hU]at hor hsc hlt hx ha1
     have e3:((U % 2:Nat):Int)=(U:Int) % 2:=by omega
     rw[e3]at ha1
     obtain⟨rfl,rfl,rfl⟩:Wire.dL U=s1∧k+1=s2∧0=s3:=by simpa using hsc
     rw[if_pos rfl]at hr
     obtain⟨rfl,rfl,rfl⟩:Wire.dL U=x∧(a:Int)+(k+1:Nat)=y∧0=e:=by simpa using hr
     by_cases hk9:k=9
     ·have:c≤1:=by omega
      by_cases hc0:c=0
      ·omega
      ·repeat (first|(refine af rfl ?_;simp[go_sem,↓iO,iO,tN,hc,hand,↓hsh,hor,ha1,hx])|refine ba ?_|refine⟨aZ,?_⟩|refine iP ?_|refine iN ?_)
       first|rw[av]|rw[ae]
       refine⟨[],?_⟩
       simp[go_sem,↓iO,iO,tN]
       omega
     ·by_cases hk0:k=0
      ·repeat (first|(refine af rfl ?_;simp[go_sem,↓iO,iO,tN,hc,hand,↓hsh,hor,ha1,hx])|refine ba ?_|refine⟨aZ,?_⟩|refine iP ?_|refine iN ?_)
       first|rw[av]|rw[ae]
       refine⟨[],?_⟩
       simp[go_sem,↓iO,iO,tN]
       omega
      ·have hc0:¬ c=0:=by omega
       repeat (first|(refine af rfl ?_;simp[go_sem,↓iO,iO,tN,hc,hand,↓hsh,hor,ha1,hx])|refine ba ?_|refine⟨aZ,?_⟩|refine iP ?_|refine iN ?_)
       first|rw[av]|rw[ae]
       refine⟨[],?_⟩
       simp[go_sem,↓iO,iO,tN]
       omega
  ·rw[List.drop_eq_nil_of_le (by omega)]at hsc
   unfold Wire.scan at hsc
   rw[if_pos hk10]at hsc
   obtain⟨rfl,rfl,rfl⟩:0=s1∧0=s2∧2=s3:=by simpa using hsc
   rw[if_neg (by decide)]at hr
   obtain⟨rfl,rfl,rfl⟩:0=x∧0=y∧2=e:=by simpa using hr
   refine ah ?_
   exact aF []
 ·rw[Wire.tU hk10]at hsc
  obtain⟨rfl,rfl,rfl⟩:0=s1∧0=s2∧3=s3:=by simpa using hsc
  rw[if_neg (by decide)]at hr
  obtain⟨rfl,rfl,rfl⟩:0=x∧0=y∧3=e:=by simpa using hr
  refine ah ?_
  exact aF []
theorem Kn (bs:List Nat) (a:Int) (hb:bs.length≤1099511627776) (h8:∀ c∈bs,c < 256) (x y e:Int) (hr:Wire.eX bs a=(x,y,e)) :
  aj Tryz.prog 172 [.t (dI bs),.t (.int a)] [] (.tup [.t (.int x),.t (.int y),.t (.int e)]) []:=by
 by_cases h0:a < 0
 ·rw[rX (.inl h0)]at hr
  obtain⟨rfl,rfl,rfl⟩:0=x∧0=y∧1=e:=by simpa using hr
  refine nI Tryz.func172 rfl Tryz.ntmps172 ?_
  refine ah ?_
  exact aF []
 ·by_cases h1:(bs.length:Int) < a
  ·rw[rX (.inr h1)]at hr
   obtain⟨rfl,rfl,rfl⟩:0=x∧0=y∧1=e:=by simpa using hr
   refine nI Tryz.func172 rfl Tryz.ntmps172 ?_
   refine ah ?_
   exact aF []
  ·obtain⟨n,rfl⟩:∃ n:Nat,a=(n:Int):=⟨a.toNat,by omega⟩
   exact Ov bs n hb h8 (by omega) x y e hr
structure y8 (bs:List Nat) (a:Nat) (L:List Int) (t:List Nat):Prop where
 e:bs.drop a=dh L++t
 a:a≤bs.length
abbrev H5 (l:Nat) (bs:List Nat) (a:Nat):Nat×aA:=(l,.box 192 (.t (.agg [dI bs,.int a,.bool false])))
theorem y8.skip {bs:List Nat} {a:Nat} {L1 L2:List Int} {t:List Nat} (h:y8 bs a (L1++L2) t):y8 bs (a+(dh L1).length) L2 t:=by
 obtain⟨h1,h2⟩:=h
 rw[ot,List.append_assoc]at h1
 have hl:=congrArg List.length h1
 simp only[List.length_drop,List.length_append]at hl
 refine⟨?_,by omega⟩
 rw[←List.drop_drop,h1,List.drop_left]
theorem y8.get {bs:List Nat} {a:Nat} {z:Int} {L:List Int} {t:List Nat} (h:y8 bs a (z :: L) t) (hz:i64 z):Wire.eX bs a=(z,((a+(cX z).length:Nat):Int),0):=by
 obtain⟨h1,h2⟩:=h
 have e:bs=bs.take a++cX z++(dh L++t):=by
  rw[List.append_assoc,←List.append_assoc (cX z),←show dh (z :: L)=cX z++dh L by simp[dh],←h1,List.take_append_drop]
 have hl:(bs.take a).length=a:=by rw[List.length_take];omega
 have:=Wire.s6 (bs.take a) (dh L++t) z (by have:=hz.1;omega) (by have:=hz.2;omega)
 rw[hl]at this
 have e2:bs.take a++Wire.put (Wire.fold z)++(dh L++t)=bs:=e.symm
 rw[e2]at this
 rw[this]
 rfl
theorem dv {bs:List Nat} (hb:bs.length≤1000000) (h8:∀ c∈bs,c < 256) {a:Nat} {z:Int} {L:List Int} {t:List Nat} (h:y8 bs a (z :: L) t) (hz:i64 z):aj Tryz.prog 100 [.pt 0 [] 0] [H5 0 bs a] (.t (.int z)) [H5 0 bs (a+(cX z).length)]:=by
 have c:=Kn bs a (by omega) h8 _ _ _ (h.get hz)
 refine nI Tryz.func100 rfl Tryz.ntmps100 ?_
 refine ah ?_
 refine ax c [] ?_
 refine ah ?_
 exact aF [(0,some 0)]
theorem mF {bs:List Nat} (hb:bs.length≤1000000) (h8:∀ c∈bs,c < 256) {a:Nat} {z most:Int} {L:List Int} {t:List Nat} (h:y8 bs a (z :: L) t) (hz:i64 z) (h0:0≤z) (h1:z≤most):aj Tryz.prog 101 [.pt 0 [] 0,.t (.int most)] [H5 0 bs a] (.t (.int z)) [H5 0 bs (a+(cX z).length)]:=by
 have c:=dv hb h8 h hz
 have h2:¬ z < 0:=by omega
 have h3:¬ most < z:=by omega
 refine nI Tryz.func101 rfl Tryz.ntmps101 ?_
 refine ah ?_
 refine ax c [(0,0)] ?_
 refine c9 h2 h3 ?_
 exact aF [(0,some 0)]
theorem y8.next {bs:List Nat} {a:Nat} {z:Int} {L:List Int} {t:List Nat} (h:y8 bs a (z :: L) t):y8 bs (a+(cX z).length) L t:=by
 have:=y8.skip (L1:=[z]) (L2:=L) h
 simpa [dh] using this
theorem JK (z:Int) (h:i64 z):∀ c∈cX z,c < 256:=by
 have gen:∀ (n u:Nat),u < n→∀ c∈Wire.put u,c < 256:=by
  intro n
  induction n with
  | zero=>intro u hu;omega
  | succ n ih=>
   intro u hu c hc
   by_cases h:u < 128
   ·rw[Wire.eY h]at hc
    have:=List.mem_singleton.1 hc
    omega
   ·rw[Wire.jy (by omega)]at hc
    rcases List.mem_cons.1 hc with rfl|hc
    ·omega
    ·exact ih (u / 128) (by omega) c hc
 exact gen _ _ (Nat.lt_succ_self _)
theorem EU (r:Rc) (h:QU r):(dg r).length≤1200∧∀ c∈dg r,c < 256:=by
 obtain⟨hkd,⟨hv1,hv2⟩,h1,h2,h3,h4,h5,⟨hh1,hh2⟩,h6,h7,h8,hs1,hs2⟩:=h
 obtain⟨kd,vs,⟨sk,si,sv,i,o,hs,pr⟩,sh,ek,ev⟩:=r
 dsimp only at *
 have z0:∀ n:Nat,n≤1000→i64 (n:Int):=fun n hn=>⟨by omega,by omega⟩
 obtain⟨L,hL⟩:∃ L,L=[kd,(vs.length:Int)]++vs++[sk,si,sv,i,o,(hs.length:Int)]++kW hs++[pr,ek,ev,(sh.length:Int)]:=⟨_,rfl⟩
 have hz:∀ z∈L,i64 z:=by
  rw[hL]
  intro z hz
  simp only[List.mem_append,List.mem_cons,List.not_mem_nil,or_false]at hz
  rcases hz with (((((rfl|rfl)|hz)|(rfl|rfl|rfl|rfl|rfl|rfl))|hz)|(rfl|rfl|rfl|rfl))
  ·exact hkd
  ·exact z0 _ (by omega)
  ·exact hv2 z hz
  ·exact h1
  ·exact h2
  ·exact h3
  ·exact h4
  ·exact h5
  ·exact z0 _ (by omega)
  ·simp only[kW,List.mem_flatten,List.mem_map]at hz
   obtain⟨_,⟨y,hy,rfl⟩,hz⟩:=hz
   simp only[List.mem_cons,List.not_mem_nil,or_false]at hz
   rcases hz with rfl|rfl
   ·exact hh2 y hy
   ·unfold Dx;split<;>exact⟨by omega,by omega⟩
  ·exact h6
  ·exact h7
  ·exact h8
  ·exact z0 _ (by omega)
 have hl:L.length≤84:=by
  have:∀ l:List Hp,(kW l).length=2 * l.length:=fun l=>by
   induction l with
   | nil=>rfl
   | cons a b ih=>simp only[kW,List.map_cons,List.flatten_cons,List.length_append,List.length_cons,List.length_nil]at ih ⊢;omega
  rw[hL]
  simp only[List.length_append,List.length_cons,List.length_nil,this]
  omega
 have e:dg ⟨kd,vs,⟨sk,si,sv,i,o,hs,pr⟩,sh,ek,ev⟩=dh L++sh:=by rw[hL];rfl
 have h9:=fX L hz
 refine⟨by rw[e,List.length_append];omega,fun c hc=>?_⟩
 rw[e]at hc
 rcases List.mem_append.1 hc with hc|hc
 ·simp only[dh,List.mem_flatten,List.mem_map]at hc
  obtain⟨_,⟨z,hzL,rfl⟩,hc⟩:=hc
  exact JK z (hz z hzL) c hc
 ·exact hs2 c hc
theorem iA (l:List Nat):gA (l.map jh)=l:=by
 induction l with
 | nil=>rfl
 | cons c r ih=>simp only[List.map_cons,jh,gA,ih];simp
theorem Hf (r:Rc) (h:QU r):aj Tryz.prog 45 [.t (dI (dg r))] [] (.tup [.t (dH r),.t (.int 0)]) []:=by
 obtain⟨hb0,h8⟩:=EU r h
 obtain⟨bs,hbs⟩:∃ bs,dg r=bs:=⟨_,rfl⟩
 rw[hbs]at hb0 h8 ⊢
 obtain⟨hkd,⟨hv1,hv2⟩,h1,h2,h3,h4,h5,⟨hh1,hh2⟩,h6,h7,h8',hs1,hs2⟩:=h
 obtain⟨kd,vs,⟨sk,si,sv,i,o,hs,pr⟩,sh,ek,ev⟩:=r
 dsimp only at *
 have hb:bs.length≤1000000:=by omega
 have z0:∀ n:Nat,n≤1000→i64 (n:Int):=fun n hn=>⟨by omega,by omega⟩
 have r0:y8 bs 0 (kd :: (vs.length:Int) :: (vs++(sk :: si :: sv :: i :: o :: (hs.length:Int) :: (kW hs++[pr,ek,ev,(sh.length:Int)])))) sh:=by
  refine⟨?_,Nat.zero_le _⟩
  rw[List.drop_zero,←hbs]
  simp only[dg,List.append_assoc,List.cons_append,List.nil_append]
 have c0:=dv hb h8 r0 hkd
 have r1:=r0.next
 have c1:=mF hb h8 (most:=21) r1 (z0 _ (by omega)) (by omega) (by omega)
 have r2:=r1.next
 obtain⟨a0,ha0⟩:∃ a,a=0+(cX kd).length:=⟨_,rfl⟩
 rw[←ha0]at c0 c1 r1 r2
 obtain⟨a1,ha1⟩:∃ a,a=a0+(cX vs.length).length:=⟨_,rfl⟩
 rw[←ha1]at c1 r2
 obtain⟨A,A0,Al,As⟩:∃ A:Nat→Nat,A 0=a1∧y8 bs (A vs.length) (sk :: si :: sv :: i :: o :: (hs.length:Int) :: (kW hs++[pr,ek,ev,(sh.length:Int)])) sh∧∀ k z,vs[k]? = some z→aj Tryz.prog 100 [.pt 0 [] 0] [H5 0 bs (A k)] (.t (.int z)) [H5 0 bs (A (k+1))]:=by
  have sk:∀ k,y8 bs (a1+(dh (vs.take k)).length) (vs.drop k++(sk :: si :: sv :: i :: o :: (hs.length:Int) :: (kW hs++[pr,ek,ev,(sh.length:Int)]))) sh:=fun k=>by
   refine y8.skip (L1:=vs.take k) ?_
   rw[←List.append_assoc,List.take_append_drop];exact r2
  refine⟨fun k=>a1+(dh (vs.take k)).length,by simp[dh],?_,fun k z hz=>?_⟩
  ·have:=sk vs.length
   rw[List.drop_length]at this
   exact this
  ·have:=sk k
   rw[eu hz]at this
   have c:=dv hb h8 this (hv2 z (au hz))
   have e:a1+(dh (vs.take k)).length+(cX z).length=a1+(dh (vs.take (k+1))).length:=by
    rw[bC hz,ot,List.length_append];simp[dh];omega
   rw[e]at c
   exact c
 obtain⟨a2,ha2⟩:∃ a,a=A vs.length:=⟨_,rfl⟩
 rw[←ha2]at Al
 have n1:=dv hb h8 Al h1
 have q1:=Al.next
 have n2:=dv hb h8 q1 h2
 have q2:=q1.next
 have n3:=dv hb h8 q2 h3
 have q3:=q2.next
 have n4:=dv hb h8 q3 h4
 have q4:=q3.next
 have n5:=dv hb h8 q4 h5
 have q5:=q4.next
 have n6:=mF hb h8 (most:=32) q5 (z0 _ (by omega)) (by omega) (by omega)
 have q6:=q5.next
 obtain⟨b1,hb1⟩:∃ a,a=a2+(cX sk).length:=⟨_,rfl⟩
 rw[←hb1]at n1 n2 n3 n4 n5 n6 q6
 obtain⟨b2,hb2⟩:∃ a,a=b1+(cX si).length:=⟨_,rfl⟩
 rw[←hb2]at n2 n3 n4 n5 n6 q6
 obtain⟨b3,hb3⟩:∃ a,a=b2+(cX sv).length:=⟨_,rfl⟩
 rw[←hb3]at n3 n4 n5 n6 q6
 obtain⟨b4,hb4⟩:∃ a,a=b3+(cX i).length:=⟨_,rfl⟩
 rw[←hb4]at n4 n5 n6 q6
 obtain⟨b5,hb5⟩:∃ a,a=b4+(cX o).length:=⟨_,rfl⟩
 rw[←hb5]at n5 n6 q6
 obtain⟨b6,hb6⟩:∃ a,a=b5+(cX hs.length).length:=⟨_,rfl⟩
 rw[←hb6]at n6 q6
 obtain⟨B,C,B0,Bl,Bs⟩:∃ B C:Nat→Nat,B 0=b6∧y8 bs (B hs.length) [pr,ek,ev,(sh.length:Int)] sh∧∀ k x,hs[k]? = some x→aj Tryz.prog 100 [.pt 0 [] 0] [H5 0 bs (B k)] (.t (.int x.sg)) [H5 0 bs (C k)]∧aj Tryz.prog 101 [.pt 0 [] 0,.t (.int 1)] [H5 0 bs (C k)] (.t (.int (Dx x))) [H5 0 bs (B (k+1))]:=by
  have hsp:∀ k,kW hs=kW (hs.take k)++kW (hs.drop k):=fun k=>by
   unfold kW
   rw[←List.flatten_append,←List.map_append,List.take_append_drop]
  have sk:∀ k,y8 bs (b6+(dh (kW (hs.take k))).length) (kW (hs.drop k)++[pr,ek,ev,(sh.length:Int)]) sh:=fun k=>by
   refine y8.skip (L1:=kW (hs.take k)) ?_
   rw[←List.append_assoc,←hsp k];exact q6
  refine⟨fun k=>b6+(dh (kW (hs.take k))).length,fun k=>b6+(dh (kW (hs.take k))).length+(cX ((hs[k]?).map (·.sg) |>.getD 0)).length,by simp[dh,kW],?_,fun k x hx=>?_⟩
  ·have:=sk hs.length
   rw[List.drop_length]at this
   exact this
  ·have e0:=sk k
   rw[eu hx]at e0
   have e1:y8 bs (b6+(dh (kW (hs.take k))).length) (x.sg :: Dx x :: (kW (hs.drop (k+1))++[pr,ek,ev,(sh.length:Int)])) sh:=by simpa [kW] using e0
   have c1:=dv hb h8 e1 (hh2 x (au hx))
   have hbz:0≤Dx x∧Dx x≤1:=by unfold Dx;split<;>omega
   have c2:=mF hb h8 (most:=1) e1.next ⟨by omega,by omega⟩ hbz.1 hbz.2
   have e2:b6+(dh (kW (hs.take k))).length+(cX x.sg).length+(cX (Dx x)).length=b6+(dh (kW (hs.take (k+1)))).length:=by
    rw[bC hx]
    simp only[kW,List.map_append,List.flatten_append,List.map_cons,List.map_nil,List.flatten_cons,List.flatten_nil,dh,List.length_append,List.length_nil]
    omega
   rw[e2]at c2
   simp only[hx,Option.map_some,Option.getD_some]
   exact⟨c1,c2⟩
 obtain⟨b7,hb7⟩:∃ a,a=B hs.length:=⟨_,rfl⟩
 rw[←hb7]at Bl
 have m1:=dv hb h8 Bl h6
 have m2:=dv hb h8 Bl.next h7
 have m3:=dv hb h8 Bl.next.next h8'
 have m4:=mF hb h8 (most:=12) Bl.next.next.next (z0 _ (by omega)) (by omega) (by omega)
 have rl:=Bl.next.next.next.next
 obtain⟨d1,hd1⟩:∃ a,a=b7+(cX pr).length:=⟨_,rfl⟩
 rw[←hd1]at m1 m2 m3 m4 rl
 obtain⟨d2,hd2⟩:∃ a,a=d1+(cX ek).length:=⟨_,rfl⟩
 rw[←hd2]at m2 m3 m4 rl
 obtain⟨d3,hd3⟩:∃ a,a=d2+(cX ev).length:=⟨_,rfl⟩
 rw[←hd3]at m3 m4 rl
 obtain⟨d4,hd4⟩:∃ a,a=d3+(cX sh.length).length:=⟨_,rfl⟩
 rw[←hd4]at m4 rl
 have rle:bs.drop d4=sh:=by have:=rl.e;simpa [dh] using this
 have rll:(bs.length:Int) - d4=sh.length:=by have:=congrArg List.length rle;rw[List.length_drop]at this;have:=rl.a;omega
 have rla:(d4:Int)≤bs.length:=by have:=rl.a;omega
 have hdr:(bs.map jh).drop d4=sh.map jh:=by rw[←List.map_drop,rle]
 have hbt:=iA sh
 obtain⟨V,V0,Vl,Vs⟩:=Ch vs
 obtain⟨H,H0,Hl,Hs⟩:=Ch hs
 clear r0 r1 r2 Al q1 q2 q3 q4 q5 q6 Bl rl hbs ha0 ha1 hb1 hb2 hb3 hb4 hb5 hb6 hd1 hd2 hd3 hd4
 refine nI Tryz.func45 rfl Tryz.ntmps45 ?_
 refine ah ?_
 refine ax c0 [(0,111)] ?_
 refine ah ?_
 refine ax c1 [(0,111)] ?_
 refine ah ?_
 refine oP ?_
 refine CW.loop (ι:=Nat) (fun k=>⟨[(0,.t (dI bs)),(2,.pt 502 [] 0),(4,.pt 511 [] 0),(5,.pt 505 [] 0),(16,.t (.int vs.length)),(17,.t (.int k))],[(502,.box 63 (.t (dH ⟨0,[],gX,oG⟩))),H5 511 bs (A k),(505,.box 63 (.ag [.t (.int kd),.own 520,.t (.agg [.int 0,.int 0,.int 0,.agg [.int 0,.int 0,.lit (.slice none 0 0),.int 0]]),.t (jb oG)])),(520,gm (V k))]⟩) (fun k=>k≤vs.length) (fun k=>vs.length - k) 0 [(502,some 102),(511,some 111),(505,some 105),(520,none)] (by omega) ?_ ?_
 ·simp[go_sem,↓iO,iO,tN,A0,V0,bZ]
  rfl
 intro k hk
 by_cases hbk:k < vs.length
 ·obtain⟨z,hz⟩:=aa hbk
  have c:=As k z hz
  obtain⟨e1,e2⟩:=Vs k z hz
  refine ah ?_
  refine ax c [(0,511)] ?_
  refine ah ?_
  exact nX (k+1) [(502,some 502),(511,some 511),(505,some 505),(520,some 124)] (by omega) (by omega) (dJ e1)
 ·obtain rfl:k=vs.length:=by omega
  rw[Vl,←ha2]
  refine ah ?_
  refine ax n1 [(0,511)] ?_
  refine ax n2 [(0,511)] ?_
  refine ax n3 [(0,511)] ?_
  refine ax n4 [(0,511)] ?_
  refine ax n5 [(0,511)] ?_
  refine ah ?_
  refine ax n6 [(0,511)] ?_
  refine ah ?_
  refine CW.weak (ρ:=[(502,some 502),(511,some 511),(505,some 505)]) (σ':=⟨[(0,.t (dI bs)),(2,.pt 502 [] 0),(4,.pt 511 [] 0),(5,.pt 505 [] 0),(6,.pt 505 [2,3] 5),(52,.t (.int hs.length)),(53,.t (.int 0))],[(502,.box 63 (.t (dH ⟨0,[],gX,oG⟩))),H5 511 bs b6,(505,.box 63 (.ag [.t (.int kd),.t (bB vs),.ag [.t (.int sk),.t (.int si),.t (.int sv),.t (.agg [.int i,.int o,.lit (.slice none 0 0),.int 0])],.t (jb oG)]))]⟩) ?_ ?_
  ·simp[go_sem,↓iO,iO,tN,bZ]
  refine oP ?_
  refine CW.loop (ι:=Nat) (fun k=>⟨[(0,.t (dI bs)),(2,.pt 502 [] 0),(4,.pt 511 [] 0),(5,.pt 505 [] 0),(6,.pt 505 [2,3] 5),(52,.t (.int hs.length)),(53,.t (.int k))],[(502,.box 63 (.t (dH ⟨0,[],gX,oG⟩))),H5 511 bs (B k),(505,.box 63 (.ag [.t (.int kd),.t (bB vs),.ag [.t (.int sk),.t (.int si),.t (.int sv),.ag [.t (.int i),.t (.int o),.own 521,.t (.int 0)]],.t (jb oG)])),(521,An (H k))]⟩) (fun k=>k≤hs.length) (fun k=>hs.length - k) 0 [(502,some 502),(511,some 511),(505,some 505),(521,none)] (by omega) ?_ ?_
  ·simp[go_sem,↓iO,iO,tN,B0,H0,bZ]
  intro k hk
  by_cases hbk:k < hs.length
  ·obtain⟨x,hx⟩:=aa hbk
   obtain⟨c1,c2⟩:=Bs k x hx
   obtain⟨e1,e2⟩:=Hs k x hx
   obtain⟨g,b⟩:=x
   cases b
   all_goals
    simp only[Dx]at c2
    refine ah ?_
    refine ax c1 [(0,511)] ?_
    refine ah ?_
    refine ax c2 [(0,511)] ?_
    refine ah ?_
    exact nX (k+1) [(502,some 502),(511,some 511),(505,some 505),(521,some 168)] (by omega) (by omega) (dJ e1)
  ·obtain rfl:k=hs.length:=by omega
   rw[Hl,←hb7]
   refine ah ?_
   refine ax m1 [(0,511)] ?_
   refine ax m2 [(0,511)] ?_
   refine ax m3 [(0,511)] ?_
   refine ah ?_
   refine ax m4 [(0,511)] ?_
   refine fg rll hdr hbt ?_
   first|rw[av]|rw[ae]
   refine⟨[],?_⟩
   simp[go_sem,↓iO,iO,tN,rle]
end Go.Proofs.YtocndodilpimnaaGreat
