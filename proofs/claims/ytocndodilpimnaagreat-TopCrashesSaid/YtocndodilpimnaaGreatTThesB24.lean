/- Several texts of this proof, one behind the other. No condition. -/
import Derived.Test.YtocndodilpimnaaGreatTThesB21
import Derived.Test.YtocndodilpimnaaGreatTThesB23
import Derived.Test.YtocndodilpimnaaGreatTThesB16
import Derived.Test.YtocndodilpimnaaGreatTThesB19
set_option maxRecDepth 100000
set_option maxHeartbeats 16000000
set_option linter.unusedVariables false
set_option linter.unusedSimpArgs false
namespace Go.Proofs.YtocndodilpimnaaGreat
open Go.RowKit Sy
open Go.IntWalk renaming iteOmega → iO, toNatUp → tN
theorem Fs {α:Type} (f:α→α) (l:List α):∃ Y:Nat→List α,Y 0=l∧Y l.length=l.map f∧(∀ j,(Y j).length=l.length)∧∀ j x,l[j]? = some x→(Y j)[j]? = some x∧Y (j+1)=(Y j).set j (f x):=by
 have get:∀ j i,((l.take j).map f++l.drop j)[i]? = if i < j then (l[i]?).map f else l[i]?:=fun j i=>by
  by_cases hi:i < j
  ·rw[if_pos hi]
   by_cases hl:i < l.length
   ·rw[List.getElem?_append_left (by simp;omega),List.getElem?_map,List.getElem?_take_of_lt hi]
   ·rw[List.getElem?_eq_none (by simp;omega),List.getElem?_eq_none (by omega)];rfl
  ·rw[if_neg hi]
   by_cases hj:j≤l.length
   ·rw[List.getElem?_append_right (by simp;omega),List.getElem?_drop]
    congr 1
    simp;omega
   ·rw[List.getElem?_eq_none (by simp;omega),List.getElem?_eq_none (by omega)]
 refine⟨fun j=>(l.take j).map f++l.drop j,by simp,by simp,fun j=>by simp;omega,fun j x hx=>?_⟩
 have hjl:=(List.getElem?_eq_some_iff.1 hx).1
 refine⟨by dsimp only;rw[get,if_neg (by omega)];exact hx,List.ext_getElem? fun i=>?_⟩
 dsimp only
 rw[get]
 by_cases e:i=j
 ·subst e
  rw[if_pos (by omega),List.getElem?_set_self (by simp;omega),hx];rfl
 ·rw[List.getElem?_set_ne (Ne.symm e),get]
  by_cases h:i < j
  ·rw[if_pos h,if_pos (by omega)]
  ·rw[if_neg h,if_neg (by omega)]
theorem KU (d:aB) (k k':Dk) (s:Ev) (h:gh d k s k'):aj Tryz.prog 209 [.t (cG s)] [] (.t (.bool true)) []:=by
 cases h with
 | open_ i v hv=>
  refine nI Tryz.func209 rfl Tryz.ntmps209 ?_
  refine ah ?_
  exact aF []
 | close i v hv hn=>
  refine nI Tryz.func209 rfl Tryz.ntmps209 ?_
  refine ah ?_
  exact aF []
 | start i hi hf=>
  refine nI Tryz.func209 rfl Tryz.ntmps209 ?_
  refine ah ?_
  exact aF []
 | stop i hi=>
  refine nI Tryz.func209 rfl Tryz.ntmps209 ?_
  refine ah ?_
  exact aF []
 | flow x v hr hf=>
  obtain⟨i,o,hs,r⟩:=x
  dsimp only at hr
  subst hr
  by_cases h1:i=0<;>by_cases h2:o=0<;>by_cases h3:hs.length=0
  all_goals
   have h4:(hs.length:Int)=0∨¬ (hs.length:Int)=0:=by omega
   refine nI Tryz.func209 rfl Tryz.ntmps209 ?_
   refine fg h1 h2 h3 ?_
   exact aF []
 | wait n h1 h2=>
  refine nI Tryz.func209 rfl Tryz.ntmps209 ?_
  refine ah ?_
  exact aF []
abbrev ni (l:Nat) (k:Dk):List (Nat×aA):=[(l,.box 39 (.ag [.own 1,.ag [.own 2,.own 3,.own 4]])),(1,vM k.vs),(2,gm k.pl.rs),(3,gm k.pl.ps),(4,k8 k.pl.pm)]
abbrev mq (k:Dk):List (Nat×aA):=[(0,.box 39 (.t (db k)))]
theorem vF (d:aB) (hd:bq d) (k:Dk) (h:gT d k) (i:Nat) (v:Vv) (hv:k.vs[i]? = some v):aj Tryz.prog 210 [.t (.agg d.l),.pt 0 [] 0,.t (cG ⟨1,i,0,jN⟩)] (ni 0 k) (.t (.int 0)) (mq ⟨k.vs.set i {v with wa:=true},k.pl⟩):=by
 have sv:=(h.sz hd).v
 have c1:=rk v (h.vo v (au hv)) true
 obtain⟨vs,r,q,m⟩:=k
 obtain⟨v1,v2,v3,v4⟩:=v
 dsimp only at hv sv c1 ⊢
 have hil:=(List.getElem?_eq_some_iff.1 hv).1
 refine nI Tryz.func210 rfl Tryz.ntmps210 ?_
 refine aJ hv ?_
 refine dr hv c1 [] ?_
 refine aJ hv ?_
 first|rw[av]|rw[ae]
 refine⟨[(0,some 0)],?_⟩
 simp[go_sem,↓iO,iO,tN,List.map_set,bZ]
theorem ug (d:aB) (hd:bq d) (k:Dk) (h:gT d k) (i:Nat) (v:Vv) (hv:k.vs[i]? = some v) (hn:(jo k.pl)[i]? = some false):aj Tryz.prog 210 [.t (.agg d.l),.pt 0 [] 0,.t (cG ⟨2,i,0,jN⟩)] (ni 0 k) (.t (.int 0)) (mq ⟨k.vs.set i {v with wa:=false},k.pl⟩):=by
 obtain⟨sv,p1,p2,p3⟩:=h.sz hd
 have c1:=rk v (h.vo v (au hv)) false
 have cN:=EN d hd k.pl h.fl
 have cA:=tK (mZ k.pl.rs) (mZ k.pl.ps) (by rw[eW];omega) (by rw[eW];omega)
 have nl:=my k.pl
 obtain⟨N,hN⟩:∃ N,jo k.pl=N:=⟨_,rfl⟩
 rw[show mZ k.pl.rs++mZ k.pl.ps=N from hN]at cA
 rw[hN]at hn
 obtain⟨vs,r,q,m⟩:=k
 obtain⟨v1,v2,v3,v4⟩:=v
 dsimp only at hv sv c1 cN cA ⊢
 have hil:=(List.getElem?_eq_some_iff.1 hv).1
 have hin:=(List.getElem?_eq_some_iff.1 hn).1
 refine nI Tryz.func210 rfl Tryz.ntmps210 ?_
 refine CW.weak (ρ:=[(0,some 0),(1,some 1)]) (σ':=⟨[(0,.t (.agg d.l)),(1,.pt 0 [] 0),(2,.t (cG ⟨2,i,0,jN⟩))],[(0,.box 39 (.ag [.own 1,.t (bW ⟨r,q,m⟩)])),(1,vM vs)]⟩) ?_ ?_
 ·simp[go_sem,↓iO,iO,tN,bZ]
 refine aJ hv ?_
 refine ax cN [] ?_
 refine ah ?_
 refine dr hn cA [] ?_
 refine c9 hn hv ?_
 refine dr hv c1 [] ?_
 refine aJ hv ?_
 first|rw[av]|rw[ae]
 refine⟨[(0,some 0)],?_⟩
 simp[go_sem,↓iO,iO,tN,List.map_set,bZ]
theorem GM (d:aB) (p:Pn) (m:List Bool) (k:Int):fO d {p with pm:=m} k=fO d p k:=rfl
theorem vI (d:aB) (hd:bq d) (k:Dk) (h:gT d k) (i:Nat) (hi:i < d.stns.length) (hf:Ig d {k.pl with pm:=k.pl.pm.set i true}):aj Tryz.prog 211 [.t (.agg d.l),.pt 0 [] 0,.t (cG ⟨3,i,0,jN⟩)] (ni 0 k) (.t (.int 0)) (mq ⟨k.vs,{k.pl with pm:=k.pl.pm.set i true}⟩):=by
 have sv:=(h.sz hd).v
 have lm:=h.fl.pum
 rw[List.length_map]at lm
 have hil:i < k.pl.pm.length:=by omega
 obtain⟨s,hs⟩:=aa hi
 have c1:=xF d hd k.pl h.fl i s hs
 have hz:=hf i s hs (List.getElem?_set_self hil)
 rw[GM]at hz
 rw[decide_eq_true hz]at c1
 obtain⟨x,hx⟩:=aa hil
 have ht:=hd.t
 obtain⟨vs,r,q,m⟩:=k
 dsimp only at sv c1 hil hx ⊢
 refine nI Tryz.func211 rfl Tryz.ntmps211 ?_
 refine ah ?_
 refine gj c1 [] [2,3,4] [] ?_
 refine aJ hx ?_
 first|rw[av]|rw[ae]
 refine⟨[(0,some 0)],?_⟩
 simp[go_sem,↓iO,iO,tN,List.map_set,bZ]
theorem x9 (d:aB) (hd:bq d) (k:Dk) (h:gT d k) (i:Nat) (hi:i < d.stns.length):aj Tryz.prog 211 [.t (.agg d.l),.pt 0 [] 0,.t (cG ⟨4,i,0,jN⟩)] (ni 0 k) (.t (.int 0)) (mq ⟨k.vs,{k.pl with pm:=k.pl.pm.set i false}⟩):=by
 have sv:=(h.sz hd).v
 have lm:=h.fl.pum
 rw[List.length_map]at lm
 have hil:i < k.pl.pm.length:=by omega
 obtain⟨x,hx⟩:=aa hil
 have ht:=hd.t
 obtain⟨vs,r,q,m⟩:=k
 dsimp only at sv hil hx ⊢
 refine nI Tryz.func211 rfl Tryz.ntmps211 ?_
 refine aJ hx ?_
 first|rw[av]|rw[ae]
 refine⟨[(0,some 0)],?_⟩
 simp[go_sem,↓iO,iO,tN,List.map_set,bZ]
theorem KD (d:aB) (hd:bq d) (k:Dk) (h:gT d k) (n:Nat) (h1:1≤n) (h2:n≤100):aj Tryz.prog 213 [.t (.agg d.l),.pt 0 [] 0,.t (cG ⟨6,0,n,jN⟩)] (ni 0 k) (.t (.int 0)) (mq ⟨k.vs.map fun v=>de v n,k.pl⟩):=by
 have sv:=(h.sz hd).v
 have vo:=h.vo
 obtain⟨Y,Y0,Yl,Yn,Ys⟩:=Fs (fun v=>de v n) k.vs
 rw[←Yl]
 obtain⟨vs,r,q,m⟩:=k
 dsimp only at *
 refine nI Tryz.func213 rfl Tryz.ntmps213 ?_
 refine ah ?_
 refine oP ?_
 refine CW.loop (ι:=Nat) (fun j=>⟨[(1,.pt 0 [] 0),(5,.pt 505 [] 0),(22,.own 1),(23,.t (.int vs.length)),(24,.t (.int j))],[(505,.box 59 (.t (cG ⟨6,0,n,jN⟩))),(0,.box 39 (.ag [.own 1,.ag [.own 2,.own 3,.own 4]])),(1,vM (Y j)),(2,gm r),(3,gm q),(4,k8 m)]⟩) (fun j=>j≤vs.length) (fun j=>vs.length - j) 0 [(505,some 105),(0,some 0),(1,some 1),(2,some 2),(3,some 3),(4,some 4)] (by omega) ?_ ?_
 ·exact dJ Y0
 intro j hj
 have hyn:=Yn j
 by_cases hb':j < vs.length
 ·obtain⟨u,hu⟩:=aa hb'
  obtain⟨e1,e2⟩:=Ys j u hu
  have c:=KF u (vo u (au hu)) n (by omega)
  obtain⟨w,hw⟩:∃ w,de u n=w:=⟨_,rfl⟩
  rw[hw]at c e2
  obtain⟨u1,u2,u3,u4⟩:=u
  obtain⟨w1,w2,w3,w4⟩:=w
  refine c9 hyn e1 ?_
  refine lf hyn e1 c [] ?_
  refine c9 hyn e1 ?_
  refine nX (j+1) [(505,some 505),(0,some 0),(1,some 1),(2,some 2),(3,some 3),(4,some 4)] ?_ ?_ ?_
  ·omega
  ·omega
  simp[go_sem,↓iO,iO,tN,e2,List.map_set]
 ·obtain rfl:j=vs.length:=by omega
  refine aJ hyn ?_
  first|rw[av]|rw[ae]
  refine⟨[(0,some 0)],?_⟩
  simp[go_sem,↓iO,iO,tN,bZ]
@[go_sem] theorem zeroFn:zeroOf Tryz.prog 206=some (.lit .nilFunc):=by kernel_rfl
theorem H7 (h:Hp) (v:Int) (hv:-1000≤v∧v≤1000):aj Tryz.prog 201 [.t (gV h),.t (.int v)] [] (.t (.int (mG h v))) []:=by
 obtain⟨g,b⟩:=h
 cases b
 all_goals
  refine nI Tryz.func201 rfl Tryz.ntmps201 ?_
  refine ah ?_
  first|rw[av]|rw[ae]
  refine⟨[],?_⟩
  simp[go_sem,↓iO,iO,tN,mG]
theorem JH (p:Pn) (h:Hp) (r:Int) (h0:0≤h.sg) (hr:p.rs[h.sg.toNat]? = some r) (hb:-1000≤r∧r≤1000) (hl:p.rs.length≤64):aj Tryz.prog 288 [.t (bW p),.t (gV h)] [] (.t (.int (mG h r))) []:=by
 obtain⟨g,b⟩:=h
 obtain⟨rs,q,m⟩:=p
 dsimp only at h0 hr hl
 have hgl:=(List.getElem?_eq_some_iff.1 hr).1
 cases b
 all_goals
  refine nI Tryz.func288 rfl Tryz.ntmps288 ?_
  refine c9 hr h0 ?_
  first|rw[av]|rw[ae]
  refine⟨[],?_⟩
  simp[go_sem,↓iO,iO,tN,mG]
abbrev Ra (l:Nat) (k:Dk):Nat×aA:=(l,.box 39 (.t (db k)))
abbrev bxF (l m:Nat):Nat×aA:=(l,.box 206 (.fn 285 [.pt m [] 0]))
abbrev bxI (l:Nat) (v:Int):Nat×aA:=(l,.box 3 (.t (.int v)))
abbrev uE (k:Dk) (v:Int):List (Nat×aA):=[Ra 0 k,bxF 1 0,bxI 2 v]
abbrev Q2:S:=.fn 287 [.pt 0 [] 0,.pt 1 [] 0,.pt 2 [] 0]
theorem uu (d:aB) (hd:bq d) (k:Dk) (h:gT d k) (g:Int) (h0:0≤g) (hr:fa k g):aj Tryz.prog 285 [.t (.int g),.pt 0 [] 0] [Ra 0 k] (.t (.bool true)) [Ra 0 k]:=by
 obtain⟨v,hv,e1,e2⟩:=hr
 have c:=BV v (h.vo v (au hv))
 have e3:nZ v=true:=by unfold nZ;rw[e2,decide_eq_true e1];rfl
 rw[e3]at c
 have sv:=(h.sz hd).v
 obtain⟨vs,r,q,m⟩:=k
 obtain⟨v1,v2,v3,v4⟩:=v
 dsimp only at hv sv
 have hgl:=(List.getElem?_eq_some_iff.1 hv).1
 refine nI Tryz.func285 rfl Tryz.ntmps285 ?_
 refine c9 hv h0 ?_
 refine lf hv h0 c [] ?_
 refine ah ?_
 exact aF [(0,some 0)]
theorem LK (d:aB) (hd:bq d) (k:Dk) (h:gT d k) (v:Int) (hv:-1000≤v∧v≤1000) (x:Hp) (hx:0≤x.sg∧x.sg < d.segs.length) (hr:fa k x.sg) (hs:0≤mG x (k.pl.rs.getD x.sg.toNat 0)∧0≤mG x (k.pl.rs.getD x.sg.toNat 0)+v) :
  aj Tryz.prog 287 [.t (gV x),.pt 0 [] 0,.pt 1 [] 0,.pt 2 [] 0] (uE k v) (.t (.bool false)) (uE k v):=by
 have c1:=uu d hd k h x.sg hx.1 hr
 have l1:=h.fl.pln.l1
 have s1:=hd.s
 obtain⟨r,hr'⟩:∃ r,k.pl.rs[x.sg.toNat]? = some r:=aa (by omega)
 have hrb:=h.fl.pln.b1 r (au hr')
 have c2:=JH k.pl x r hx.1 hr' hrb (by omega)
 have gr:k.pl.rs.getD x.sg.toNat 0=r:=by rw[List.getD_eq_getElem?_getD,hr'];rfl
 rw[gr]at hs
 have hb:-1000≤mG x r∧mG x r≤1000:=by unfold mG;split<;>omega
 obtain⟨y,hy⟩:∃ y,mG x r=y:=⟨_,rfl⟩
 rw[hy]at c2 hs hb
 obtain⟨y1,y2⟩:=hs
 obtain⟨vs,rs,q,m⟩:=k
 obtain⟨g,b⟩:=x
 dsimp only at c1 c2
 refine nI Tryz.func287 rfl Tryz.ntmps287 ?_
 refine ah ?_
 refine ax c2 [] ?_
 refine ah ?_
 refine ax c1 [(0,0)] ?_
 refine ah ?_
 first|rw[av]|rw[ae]
 refine⟨[(0,some 0),(1,some 1),(2,some 2)],?_⟩
 simp[go_sem,↓iO,iO,tN]
 exact y2
theorem MO (k:Dk) (v:Int) (l:List Hp) (hl:l.length≤1000000) (hc:∀ x∈l,aj Tryz.prog 287 [.t (gV x),.pt 0 [] 0,.pt 1 [] 0,.pt 2 [] 0] (uE k v) (.t (.bool false)) (uE k v)) :
  aj Tryz.prog 301 [.t (.sl 2 (l.map gV)),Q2] (uE k v) (.t (.int (-1))) (uE k v):=by
 refine nI Tryz.func301 rfl Tryz.ntmps301 ?_
 refine ah ?_
 refine oP ?_
 refine lP (ι:=Nat) (fun j=>⟨[(0,.t (.sl 2 (l.map gV))),(1,Q2),(7,.t (.int l.length)),(8,.t (.int j))],uE k v⟩) (fun j=>j≤l.length) (fun j=>l.length - j) 0 [(0,some 0),(1,some 1),(2,some 2)] (by omega) ?_
 intro j hj
 by_cases hb:j < l.length
 ·obtain⟨x,hx⟩:=aa hb
  have c:=hc x (au hx)
  refine aJ hx ?_
  refine dr hx c [(0,0),(1,1),(2,2)] ?_
  refine ah ?_
  exact nY (j+1) [(0,some 0),(1,some 1),(2,some 2)]
 ·obtain rfl:j=l.length:=by omega
  refine ah ?_
  exact aF [(0,some 0),(1,some 1),(2,some 2)]
theorem Jo (k:Dk) (v:Int) (l:List Hp) (hl:l.length≤1000000) (hc:∀ x∈l,aj Tryz.prog 287 [.t (gV x),.pt 0 [] 0,.pt 1 [] 0,.pt 2 [] 0] (uE k v) (.t (.bool false)) (uE k v)) :
  aj Tryz.prog 286 [.t (.sl 2 (l.map gV)),Q2] (uE k v) (.t (.bool false)) (uE k v):=by
 have c:=MO k v l hl hc
 refine nI Tryz.func286 rfl Tryz.ntmps286 ?_
 refine ah ?_
 refine ax c [(0,0),(1,1),(2,2)] ?_
 refine ah ?_
 exact aF [(0,some 0),(1,some 1),(2,some 2)]
theorem Jd (d:aB) (hd:bq d) (k:Dk) (h:gT d k) (x:Pa) (v:Int) (hx:QQ d k x v) (w:Int):aj Tryz.prog 260 [.t (.agg d.l),.t (db k),.t (dS ⟨x.i,x.o,x.hs,w⟩),.t (.int v)] [] (.t (.bool true)) []:=by
 have pi:=hx.p.i
 have po:=hx.p.o
 have ph:=hx.p.hl
 dsimp only at pi po ph
 have s1:=hd.s
 have s2:=hd.p
 have c1:=uu d hd k h _ (by omega) hx.ri
 have c2:=uu d hd k h _ (by omega) hx.ro
 have c3:=Jo k v x.hs (by omega) fun y hy=>LK d hd k h v hx.b y (kP hx.p.w y hy) (hx.rh y hy) (hx.hh y hy)
 have l2:=h.fl.pln.l2
 obtain⟨a,ha⟩:∃ a,k.pl.ps[x.i.toNat]? = some a:=aa (by omega)
 obtain⟨b,hb⟩:∃ b,k.pl.ps[x.o.toNat]? = some b:=aa (by omega)
 have ha2:=h.fl.pln.b2 a (au ha)
 have hb2:=h.fl.pln.b2 b (au hb)
 have ga:k.pl.ps.getD x.i.toNat 0=a:=by rw[List.getD_eq_getElem?_getD,ha];rfl
 have gb:k.pl.ps.getD x.o.toNat 0=b:=by rw[List.getD_eq_getElem?_getD,hb];rfl
 have gi:=hx.pi
 have go:=hx.po
 have hv:=hx.b
 rw[ga]at gi
 rw[gb]at go
 have g1:¬ a < 0:=by omega
 have g2:¬ -b < 0:=by omega
 have g3:¬ a+v < 0:=by omega
 have g4:¬ -b+v < 0:=by omega
 have i1:=pi.1
 have i2:=po.1
 have i3:x.i.toNat < k.pl.ps.length:=by omega
 have i4:x.o.toNat < k.pl.ps.length:=by omega
 clear hx ga gb gi go
 obtain⟨vs,rs,q,m⟩:=k
 obtain⟨i,o,hs,r⟩:=x
 dsimp only at *
 refine nI Tryz.func260 rfl Tryz.ntmps260 ?_
 refine lO ha hb i1 i2 ?_
 refine ax c1 [(0,105)] ?_
 refine ah ?_
 refine ax c2 [(0,105)] ?_
 refine lO g1 g2 g3 g4 ?_
 refine ax c3 [(0,105),(1,109),(2,107)] ?_
 refine ah ?_
 exact aF []
theorem L7 (d:aB) (hd:bq d) (k:Dk) (h:gT d k) (x:Pa) (v:Int) (hx:QQ d k x v) (w:Int):aj Tryz.prog 133 [.pt 0 [1] 1,.t (dS ⟨x.i,x.o,x.hs,w⟩),.t (.int v)] (ni 0 k) (.tup []) (ni 0 ⟨k.vs,yR k.pl x v⟩):=by
 have pi:=hx.p.i
 have po:=hx.p.o
 have ph:=hx.p.hl
 have hne:=hx.p.ne
 dsimp only at pi po ph hne
 have s1:=hd.s
 have s2:=hd.p
 have l1:=h.fl.pln.l1
 have l2:=h.fl.pln.l2
 have b1:=h.fl.pln.b1
 obtain⟨i,hi⟩:∃ i:Nat,x.i=i:=⟨x.i.toNat,by omega⟩
 obtain⟨o,ho⟩:∃ o:Nat,x.o=o:=⟨x.o.toNat,by omega⟩
 have hio:¬ i=o:=by omega
 obtain⟨a,ha⟩:∃ a,k.pl.ps[i]? = some a:=aa (by omega)
 obtain⟨b,hb⟩:∃ b,k.pl.ps[o]? = some b:=aa (by omega)
 have ha2:=h.fl.pln.b2 a (au ha)
 have hb2:=h.fl.pln.b2 b (au hb)
 have hil:i < k.pl.ps.length:=by omega
 have hol:o < k.pl.ps.length:=by omega
 have ga:k.pl.ps.getD x.i.toNat 0=a:=by rw[hi,Int.toNat_natCast,List.getD_eq_getElem?_getD,ha];rfl
 have gb:k.pl.ps.getD x.o.toNat 0=b:=by rw[ho,Int.toNat_natCast,List.getD_eq_getElem?_getD,hb];rfl
 have hnd:=qi hx.p.w (by simp)
 have hrg:∀ h∈x.hs,0≤h.sg∧h.sg < k.pl.rs.length:=by rw[l1];exact kP hx.p.w
 obtain⟨X,X0,Xl,Xn,Xs⟩:=KV v k.pl.rs x.hs hnd hrg
 obtain⟨PS,hPS⟩:∃ P,(k.pl.ps.set i (a+v)).set o (b - v)=P:=⟨_,rfl⟩
 have hFP:yR k.pl x v=⟨X x.hs.length,PS,k.pl.pm⟩:=by unfold yR;rw[ga,gb,hi,ho,Int.toNat_natCast,Int.toNat_natCast,hPS,Xl]
 rw[hFP]
 have PSm:((k.pl.ps.map aC).set i (.int (a+v))).set o (.int (b - v))=PS.map aC:=by rw[←hPS,List.map_set,List.map_set];rfl
 have hv:=hx.b
 clear hFP hx hPS ga gb Xl
 obtain⟨vs,rs,q,m⟩:=k
 obtain⟨xi,xo,hs,r⟩:=x
 dsimp only at *
 subst hi ho
 refine nI Tryz.func133 rfl Tryz.ntmps133 ?_
 refine fg ha hb hio ?_
 refine oP ?_
 refine CW.loop (ι:=Nat) (fun j=>⟨[(0,.pt 0 [1] 1),(2,.t (.int v)),(31,.t (.sl 2 (hs.map gV))),(32,.t (.int hs.length)),(33,.t (.int j))],[(0,.box 39 (.ag [.own 1,.ag [.own 2,.own 3,.own 4]])),(1,vM vs),(2,gm (X j)),(3,gm PS),(4,k8 m)]⟩) (fun j=>j≤hs.length) (fun j=>hs.length - j) 0 [(0,some 0),(1,some 1),(2,some 2),(3,some 3),(4,some 4)] (by omega) ?_ ?_
 ·exact sw X0 PSm
 intro j hj
 by_cases hb':j < hs.length
 ·obtain⟨h',hh'⟩:=aa hb'
  obtain⟨r',r1,r2,r3⟩:=Xs j h' hh'
  have hsr:=hrg h' (au hh')
  have hrb:=b1 r' (au r1)
  have hxl:=Xn j
  have c:=H7 h' v hv
  have hsb:-1000≤mG h' v∧mG h' v≤1000:=by unfold mG;split<;>omega
  obtain⟨y,hy⟩:∃ y,mG h' v=y:=⟨_,rfl⟩
  rw[hy]at c r3 hsb
  obtain⟨g,bk⟩:=h'
  dsimp only at *
  have hgl:g.toNat < (X j).length:=by omega
  obtain⟨t1,t2⟩:=hsr
  repeat (first|(refine af rfl ?_;simp[go_sem,↓iO,iO,tN,hh',r2,t1])|refine ba ?_|refine⟨aZ,?_⟩|refine iP ?_|refine iN ?_)
  refine aY.fn (c) [] [] [] (by kernel_rfl) ?_ ?_ ?_ (Or.inl rfl) ?_<;>simp[go_sem,↓iO,iO,tN,hh',r2,t1]
  repeat (first|(refine af rfl ?_;simp[go_sem,↓iO,iO,tN,hh',r2,t1])|refine ba ?_|refine⟨aZ,?_⟩|refine iP ?_|refine iN ?_)
  refine nX (j+1) [(0,some 0),(1,some 1),(2,some 2),(3,some 3),(4,some 4)] ?_ ?_ ?_
  ·omega
  ·omega
  simp[go_sem,↓iO,iO,tN,r3,List.map_set]
 ·obtain rfl:j=hs.length:=by omega
  refine ah ?_
  exact aF [(0,some 0),(1,some 1),(2,some 2),(3,some 3),(4,some 4)]
theorem Cv (d:aB) (hd:bq d) (k:Dk) (h:gT d k) (x:Pa) (v:Int) (hr:x.r=0) (hx:QQ d k x v):aj Tryz.prog 212 [.t (.agg d.l),.pt 0 [] 0,.t (cG ⟨5,0,v,x⟩)] (ni 0 k) (.t (.int 0)) (mq ⟨k.vs,yR k.pl x v⟩):=by
 obtain⟨w,hw⟩:∃ w,max v (-v)=w:=⟨_,rfl⟩
 have hp:=hx.p
 rw[hw]at hp
 have c1:=GP d hd _ hp
 have c2:=Jd d hd k h x v hx w
 have c3:=L7 d hd k h x v hx w
 have c4:=kJ d hd.ok _ _ _ hx.ok
 have c5:=Bo d hd _ hx.ok hx.fd
 obtain⟨b1,b2⟩:=hx.b
 obtain⟨P,hP⟩:∃ P,yR k.pl x v=P:=⟨_,rfl⟩
 rw[hP]at c3 c4 c5 ⊢
 clear hP hx hp
 obtain⟨vs,rs,q,m⟩:=k
 obtain⟨i,o,hs,r⟩:=x
 obtain⟨R,Q,M⟩:=P
 dsimp only at c1 c2 c3 c4 c5
 refine nI Tryz.func212 rfl Tryz.ntmps212 ?_
 refine aJ hw ?_
 refine ax c1 [] ?_
 refine ah ?_
 refine gj c2 [] [1,2,3,4] [] ?_
 refine ah ?_
 refine ax c3 [(0,0),(1,1),(2,2),(3,3),(4,4)] ?_
 refine ah ?_
 refine gj c4 [] [2,3,4] [] ?_
 refine ah ?_
 refine gj c5 [] [2,3,4] [] ?_
 refine ah ?_
 first|rw[av]|rw[ae]
 refine⟨[(0,some 0)],?_⟩
 simp[go_sem,↓iO,iO,tN,bZ]
theorem Gf (d:aB) (hd:bq d) (k k':Dk) (s:Ev) (hk:gT d k) (h:gh d k s k'):aj Tryz.prog 140 [.t (.agg d.l),.pt 0 [] 0,.t (cG s)] (ni 0 k) (.t (.int 0)) (mq k'):=by
 have cB:=KU d k k' s h
 obtain⟨c,hc⟩:∃ f:Nat,aj Tryz.prog f [.t (.agg d.l),.pt 0 [] 0,.t (cG s)] (ni 0 k) (.t (.int 0)) (mq k')∧((f=210∧(s.kd=1∨s.kd=2))∨(f=211∧(s.kd=3∨s.kd=4))∨(f=212∧s.kd=5)∨(f=213∧s.kd=6)):=by
  cases h with
  | open_ i v hv=>exact⟨_,vF d hd k hk i v hv,.inl ⟨rfl,.inl rfl⟩⟩
  | close i v hv hn=>exact⟨_,ug d hd k hk i v hv hn,.inl ⟨rfl,.inr rfl⟩⟩
  | start i hi hf=>exact⟨_,vI d hd k hk i hi hf,.inr (.inl ⟨rfl,.inl rfl⟩)⟩
  | stop i hi=>exact⟨_,x9 d hd k hk i hi,.inr (.inl ⟨rfl,.inr rfl⟩)⟩
  | flow x v hr hf=>exact⟨_,Cv d hd k hk x v hr hf,.inr (.inr (.inl ⟨rfl,rfl⟩))⟩
  | wait n h1 h2=>exact⟨_,KD d hd k hk n h1 h2,.inr (.inr (.inr ⟨rfl,rfl⟩))⟩
 obtain⟨c1,hc⟩:=hc
 clear h
 obtain⟨vs,rs,q,m⟩:=k
 obtain⟨kd,ix,vl,i,o,hs,r⟩:=s
 dsimp only at hc
 rcases hc with ⟨rfl,rfl|rfl⟩|⟨rfl,rfl|rfl⟩|⟨rfl,rfl⟩|⟨rfl,rfl⟩
 all_goals
  refine nI Tryz.func140 rfl Tryz.ntmps140 ?_
  refine ah ?_
  refine ax cB [] ?_
  refine ah ?_
  refine ax c1 [(0,0),(1,1),(2,2),(3,3),(4,4)] ?_
  refine ah ?_
  exact aF [(0,some 0)]
theorem Ha (d:aB) (hd:bq d) (k k':Dk) (s:Ev) (hk:gT d k) (h:gh d k s k'):aj Tryz.prog 71 [.t (.agg d.l),.t (db k),.t (cG s)] [] (.tup [.t (db k'),.t (.int 0)]) []:=by
 have c1:=xD d hd k hk
 have c2:=EI k (hk.sz hd)
 have c3:=Gf d hd k k' s hk h
 clear h
 obtain⟨vs,rs,q,m⟩:=k
 obtain⟨vs',rs',q',m'⟩:=k'
 obtain⟨kd,ix,vl,i,o,hs,r⟩:=s
 refine nI Tryz.func71 rfl Tryz.ntmps71 ?_
 refine ah ?_
 refine ax c1 [] ?_
 refine ah ?_
 refine ax c2 [(1000,150),(1001,151),(1002,152),(1003,153)] ?_
 refine ah ?_
 refine ax c3 [(0,109),(1,150),(2,151),(3,152),(4,153)] ?_
 refine ah ?_
 exact aF []
theorem jO (n m:Int) (g:Bool) (hg:decide (0≤n∧n≤m)=g):aj Tryz.prog 156 [.t (.int n),.t (.int m)] [] (.t (.bool g)) []:=by
 subst hg
 by_cases h1:0≤n
 ·by_cases h2:n≤m
  ·refine nI Tryz.func156 rfl Tryz.ntmps156 ?_
   refine ah ?_
   exact BJ h1 h2 []
  ·refine nI Tryz.func156 rfl Tryz.ntmps156 ?_
   refine ah ?_
   exact BJ h1 h2 []
 ·refine nI Tryz.func156 rfl Tryz.ntmps156 ?_
  refine ah ?_
  exact l9 h1 []
theorem Cz (a b:Tg) (g:Bool) (hg:yQ a b=g):aj Tryz.prog 157 [.t (bQ a),.t (bQ b)] [] (.t (.bool g)) []:=by
 obtain⟨a1,a2,a3,a4,a5,a6⟩:=a
 obtain⟨b1,b2,b3,b4,b5,b6⟩:=b
 subst hg
 unfold yQ
 dsimp only
 by_cases h1:a1=b1
 ·subst h1
  by_cases h2:a2 < b2
  ·refine nI Tryz.func157 rfl Tryz.ntmps157 ?_
   refine ah ?_
   exact l9 h2 []
  ·by_cases h3:a2=b2
   ·subst h3
    refine nI Tryz.func157 rfl Tryz.ntmps157 ?_
    refine ah ?_
    exact aF []
   ·refine nI Tryz.func157 rfl Tryz.ntmps157 ?_
    refine aJ h3 ?_
    exact BJ h2 h3 []
 ·refine nI Tryz.func157 rfl Tryz.ntmps157 ?_
  refine aJ h1 ?_
  exact l9 h1 []
theorem HY (t:Tg) (hl:t.vs.length≤9223372036854775807) (g:Bool) (hg:decide (gy t)=g):aj Tryz.prog 83 [.t (bQ t)] [] (.t (.bool g)) []:=by
 subst hg
 obtain⟨t1,t2,t3,t4,t5,vs⟩:=t
 dsimp only at hl
 refine nI Tryz.func83 rfl Tryz.ntmps83 ?_
 refine ah ?_
 refine oP ?_
 refine lP (ι:=Nat) (fun k=>⟨[(1,.pt 501 [] 0),(2,.t (.lit (.bool false))),(6,.t (.int vs.length)),(7,.t (.int k))],[(501,.box 126 (.t (.agg [.int t1,.int t2,.int t3,.int t4,.int t5,bB vs])))]⟩) (fun k=>k≤vs.length∧∀ v∈vs.take k,yt v) (fun k=>vs.length - k) 0 [(501,some 101)] ⟨by omega,by simp⟩ ?_
 rintro k ⟨hk,hok⟩
 by_cases hk2:k < vs.length
 ·obtain⟨v,hx⟩:=aa hk2
  by_cases hv:yt v
  ·have hok2:∀ v∈vs.take (k+1),yt v:=by
    rw[bC hx]
    intro y hy
    rcases List.mem_append.1 hy with hy|hy
    ·exact hok y hy
    ·obtain rfl:=List.mem_singleton.1 hy
     exact hv
   unfold yt at hv
   refine aJ hx ?_
   refine nX (k+1) [(501,some 501)] ?_ ?_ ?_
   ·exact⟨by omega,hok2⟩
   ·omega
   exact dY
  ·rw[decide_eq_false (show ¬ gy ⟨t1,t2,t3,t4,t5,vs⟩ from fun g=>hv (g.vs v (au hx)))]
   unfold yt at hv
   by_cases h0:v < -9007199254740992
   ·refine aJ hx ?_
    exact aF []
   ·have h1:9007199254740992 < v:=by omega
    refine aJ hx ?_
    exact aF []
 ·obtain rfl:k=vs.length:=by omega
  have hv:∀ v∈vs,yt v:=by rw[List.take_length]at hok;exact hok
  by_cases h1:0≤t1∧t1≤255
  ·have c1:=jO t1 255 true (decide_eq_true h1)
   by_cases h2:0≤t2∧t2≤255
   ·have c2:=jO t2 255 true (decide_eq_true h2)
    by_cases h3:0≤t3∧t3≤2147483648
    ·have c3:=jO t3 2147483648 true (decide_eq_true h3)
     by_cases h4:0≤t4∧t4≤1099511627776
     ·have c4:=jO t4 1099511627776 true (decide_eq_true h4)
      by_cases h5:0≤t5∧t5≤63
      ·have c5:=jO t5 63 true (decide_eq_true h5)
       by_cases h6:vs.length≤16
       ·rw[decide_eq_true (show gy ⟨t1,t2,t3,t4,t5,vs⟩ from ⟨h1,h2,h3,h4,h5,h6,hv⟩)]
        refine ah ?_
        refine ax c1 [] ?_
        refine ax c2 [] ?_
        refine ax c3 [] ?_
        refine ax c4 [] ?_
        refine ax c5 [] ?_
        refine ah ?_
        first|rw[av]|rw[ae]
        refine⟨[],?_⟩
        simp[go_sem,↓iO,iO,tN]
        try omega
       ·rw[decide_eq_false (show ¬ gy ⟨t1,t2,t3,t4,t5,vs⟩ from fun g=>h6 g.ln)]
        refine ah ?_
        refine ax c1 [] ?_
        refine ax c2 [] ?_
        refine ax c3 [] ?_
        refine ax c4 [] ?_
        refine ax c5 [] ?_
        refine ah ?_
        first|rw[av]|rw[ae]
        refine⟨[],?_⟩
        simp[go_sem,↓iO,iO,tN]
        try omega
      ·have c5:=jO t5 63 false (decide_eq_false h5)
       rw[decide_eq_false (show ¬ gy ⟨t1,t2,t3,t4,t5,vs⟩ from fun g=>h5 g.kd)]
       refine ah ?_
       refine ax c1 [] ?_
       refine ax c2 [] ?_
       refine ax c3 [] ?_
       refine ax c4 [] ?_
       refine ax c5 [] ?_
       refine ah ?_
       exact aF []
     ·have c4:=jO t4 1099511627776 false (decide_eq_false h4)
      rw[decide_eq_false (show ¬ gy ⟨t1,t2,t3,t4,t5,vs⟩ from fun g=>h4 g.tm)]
      refine ah ?_
      refine ax c1 [] ?_
      refine ax c2 [] ?_
      refine ax c3 [] ?_
      refine ax c4 [] ?_
      refine ah ?_
      exact aF []
    ·have c3:=jO t3 2147483648 false (decide_eq_false h3)
     rw[decide_eq_false (show ¬ gy ⟨t1,t2,t3,t4,t5,vs⟩ from fun g=>h3 g.sq)]
     refine ah ?_
     refine ax c1 [] ?_
     refine ax c2 [] ?_
     refine ax c3 [] ?_
     refine ah ?_
     exact aF []
   ·have c2:=jO t2 255 false (decide_eq_false h2)
    rw[decide_eq_false (show ¬ gy ⟨t1,t2,t3,t4,t5,vs⟩ from fun g=>h2 g.ep)]
    refine ah ?_
    refine ax c1 [] ?_
    refine ax c2 [] ?_
    refine ah ?_
    exact aF []
  ·have c1:=jO t1 255 false (decide_eq_false h1)
   rw[decide_eq_false (show ¬ gy ⟨t1,t2,t3,t4,t5,vs⟩ from fun g=>h1 g.st)]
   refine ah ?_
   refine ax c1 [] ?_
   refine ah ?_
   exact aF []
theorem np (d:aB) (h:bq d):aj Tryz.prog 148 [.t (.agg d.l)] [] (.t (.int (d.segs.length+d.ports.length))) []:=by
 have h1:=h.s
 have h2:=h.p
 refine nI Tryz.func148 rfl Tryz.ntmps148 ?_
 refine ah ?_
 exact aF []
theorem yo (d:aB) (h:bq d) (l:List Vv) (hl:l.length=d.segs.length+d.ports.length) (hv:∀ v∈l,jJ v):aj Tryz.prog 234 [.t (.agg d.l),.t (.sl 4 (l.map bL))] [] (.t (.int 0)) []:=by
 have c1:=np d h
 have h1:=h.s
 have h2:=h.p
 have hl2:(l.length:Int)=d.segs.length+d.ports.length:=by omega
 rw[←hl2]at c1
 refine nI Tryz.func234 rfl Tryz.ntmps234 ?_
 refine ah ?_
 refine ax c1 [] ?_
 refine ah ?_
 refine oP ?_
 refine lP (ι:=Nat) (fun k=>⟨[(1,.t (.sl 4 (l.map bL))),(5,.t (.int k))],[]⟩) (fun k=>k≤l.length) (fun k=>l.length - k) 0 [] (by omega) ?_
 intro k hk
 by_cases hb:k < l.length
 ·obtain⟨v,hx⟩:=aa hb
  have c:=iG v (hv v (au hx))
  refine aJ hx ?_
  refine dr hx c [] ?_
  refine ah ?_
  exact nY (k+1) []
 ·obtain rfl:k=l.length:=by omega
  refine ah ?_
  exact aF []
def Qg (d:aB) (p:Pn) (k:Nat):Prop:=k≤d.stns.length∧∀ (i:Nat) (s:vx),i < k→d.stns[i]? = some s→p.pm[i]? = some true→fO d p s.2.1≠0
theorem mD (d:aB) (hd:bq d) (p:Pn) (h:jE d p):∃ b:Bool,(b=true↔Ig d p)∧aj Tryz.prog 238 [.t (.agg d.l),.t (bW p)] [] (.t (.bool b)) []:=by
 obtain⟨b,hbt,hbf⟩:∃ b:Bool,(Ig d p→b=true)∧(¬ Ig d p→b=false):=by
  by_cases hf:Ig d p
  ·exact⟨true,fun _=>rfl,fun g=>absurd hf g⟩
  ·exact⟨false,fun g=>absurd g hf,fun _=>rfl⟩
 refine⟨b,⟨fun e=>Classical.byContradiction fun hn=>(by rw[hbf hn]at e;cases e),hbt⟩,?_⟩
 have hc:∀ (i:Nat) (s:vx),d.stns[i]? = some s→aj Tryz.prog 277 [.t (.agg d.l),.t (bW p),.t (.int s.2.1)] [] (.tup [.t (.int (fO d p s.2.1)),.t (.int 0)]) []:=fun i s hs=>by
  have hk:=hd.ok.knT s (au hs)
  have:=Cf d hd p h s.2.1.toNat (by omega)
  rwa [Int.toNat_of_nonneg hk.1]at this
 have hl:=h.pum
 have hn:=hd.t
 obtain⟨r,q,m⟩:=p
 simp only[List.length_map]at hl
 try dsimp only at hc ⊢
 refine nI Tryz.func238 rfl Tryz.ntmps238 ?_
 refine ah ?_
 refine oP ?_
 refine lP (ι:=Nat) (fun k=>⟨[(2,.pt 502 [] 0),(3,.pt 503 [] 0),(5,.t (.int k))],[(502,.box 32 (.t (.agg d.l))),(503,.box 37 (.t (bW ⟨r,q,m⟩)))]⟩) (Qg d ⟨r,q,m⟩) (fun k=>d.stns.length - k) 0 [(502,some 102),(503,some 103)] ⟨by omega,by omega⟩ ?_
 rintro k ⟨hk,hg⟩
 by_cases hb:k < d.stns.length
 ·obtain⟨s,hs⟩:=aa hb
  obtain⟨x,hx⟩:∃ x,m[k]? = some x:=aa (by omega)
  have nxt:(x=true→fO d ⟨r,q,m⟩ s.2.1≠0)→Qg d ⟨r,q,m⟩ (k+1):=fun hz=>⟨by omega,fun i s' hi hs' hm=>by
   by_cases e:i=k
   ·subst e;rw[hs]at hs';rw[hx]at hm;cases hs';cases hm;exact hz rfl
   ·exact hg i s' (by omega) hs' hm⟩
  cases x
  ·refine aJ hx ?_
   refine nX (k+1) [(502,some 502),(503,some 503)] ?_ ?_ ?_
   ·exact nxt (fun e=>by cases e)
   ·omega
   exact dY
  ·have c1:=hc k s hs
   have hz:fO d ⟨r,q,m⟩ s.2.1=0→b=false:=fun e=>hbf fun g=>g k s hs hx e
   obtain⟨y,hy⟩:∃ y,fO d ⟨r,q,m⟩ s.2.1=y:=⟨_,rfl⟩
   rw[hy]at c1 hz nxt
   obtain⟨s1,s2,s3,s4,s5⟩:=s
   dsimp only at c1
   by_cases y0:y=0
   ·obtain rfl:=hz y0
    refine c9 hx hs ?_
    refine lf hs hx c1 [] ?_
    refine aJ y0 ?_
    exact aF []
   ·refine c9 hx hs ?_
    refine lf hs hx c1 [] ?_
    refine aJ y0 ?_
    refine nX (k+1) [(502,some 502),(503,some 503)] ?_ ?_ ?_
    ·exact nxt fun _=>y0
    ·omega
    exact dY
 ·obtain rfl:k=d.stns.length:=by omega
  obtain rfl:=hbt fun i s hs hm=>hg i s (List.getElem?_eq_some_iff.1 hs).1 hs hm
  refine ah ?_
  exact aF []
theorem BL (d:aB) (hd:bq d) (k:Dk) (h:gT d k):aj Tryz.prog 158 [.t (.agg d.l),.t (db k)] [] (.t (.int 0)) []:=by
 have c1:=jk d hd.ok
 have c2:=yo d hd k.vs h.ln h.vo
 have c3:=mf d hd k.pl h.fl
 obtain⟨p1,p2,p3⟩:=h.fl.sz hd
 have c4:=xj k.pl ⟨p1,p2,p3⟩
 have c5:=F4 (mZ k.pl.rs) (mZ k.pl.ps) (by rw[eW];omega) (by rw[eW];omega)
 obtain⟨b,hb1,c6⟩:=mD d hd k.pl h.fl
 obtain rfl:=hb1.2 h.fd
 have nl:=my k.pl
 have rd:=h.rd
 have ln:=h.ln
 have l1:=h.fl.pln.l1
 have l2:=h.fl.pln.l2
 have vo:=h.vo
 have hs:=hd.s
 have hp:=hd.p
 obtain⟨N,hN⟩:∃ N,jo k.pl=N:=⟨_,rfl⟩
 rw[show mZ k.pl.rs++mZ k.pl.ps=N from hN]at c5
 rw[hN]at nl rd
 obtain⟨vs,r,q,m⟩:=k
 dsimp only at c1 c2 c3 c4 c5 c6 nl rd ln l1 l2 vo
 refine nI Tryz.func158 rfl Tryz.ntmps158 ?_
 refine ah ?_
 refine ax c1 [] ?_
 refine ah ?_
 refine ax c2 [] ?_
 refine ah ?_
 refine ax c3 [] ?_
 refine ah ?_
 refine ax c4 [] ?_
 refine ax c5 [] ?_
 refine ah ?_
 refine oP ?_
 refine lP (ι:=Nat) (fun i=>⟨[(2,.pt 502 [] 0),(3,.pt 503 [] 0),(8,.t (BM N)),(9,.t (.int i))],[(502,.box 32 (.t (.agg d.l))),(503,.box 39 (.t (db ⟨vs,r,q,m⟩)))]⟩) (fun i=>i≤N.length) (fun i=>N.length - i) 0 [(502,some 102),(503,some 103)] (by omega) ?_
 intro i hi
 by_cases hb:i < N.length
 ·obtain⟨x,hx⟩:=aa hb
  cases x
  ·refine aJ hx ?_
   exact nY (i+1) [(502,some 502),(503,some 503)]
  ·obtain⟨v,hv⟩:∃ v,vs[i]? = some v:=aa (by omega)
   have hil:i < vs.length:=by omega
   obtain⟨e1,e2⟩:=rd i v hv hx
   have c:=xL v (vo v (au hv))
   rw[decide_eq_true e1]at c
   obtain⟨v1,v2,v3,v4⟩:=v
   dsimp only at e1 e2
   subst e2
   refine c9 hx hv ?_
   refine lf hx hv c [] ?_
   refine c9 hx hv ?_
   exact nY (i+1) [(502,some 502),(503,some 503)]
 ·obtain rfl:i=N.length:=by omega
  refine ah ?_
  refine ax c6 [] ?_
  refine ah ?_
  exact aF []
theorem DU (p:Pa) (hl:p.hs.length≤64) (b:Bool) (hb:decide (p.i=0∧p.o=0∧p.hs=[]∧p.r=0)=b):aj Tryz.prog 239 [.t (dS p)] [] (.t (.bool b)) []:=by
 subst hb
 obtain⟨i,o,hs,r⟩:=p
 dsimp only at hl ⊢
 have hz:¬ hs=[]→¬ hs.length=0:=fun h e=>h (List.eq_nil_of_length_eq_zero e)
 by_cases h1:i=0<;>by_cases h2:o=0<;>by_cases h3:hs=[]<;>by_cases h4:r=0
 all_goals
  refine nI Tryz.func239 rfl Tryz.ntmps239 ?_
  refine lO h1 h2 h3 h4 ?_
  first|rw[av]|rw[ae]
  refine⟨[],?_⟩
  simp[go_sem,↓iO,iO,tN,h1,h2,h3,h4]
inductive QO:Ev→Prop
 | op (kd ix:Int):1≤kd→kd≤4→QO ⟨kd,ix,0,jN⟩
 | fl (v:Int) (x:Pa):x.r=0→QO ⟨5,0,v,x⟩
 | wt (v:Int):QO ⟨6,0,v,jN⟩
theorem yP (s:Ev) (hl:s.pa.hs.length≤64):∃ b:Bool,(b=true→QO s)∧aj Tryz.prog 159 [.t (cG s)] [] (.t (.bool b)) []:=by
 obtain⟨kd,ix,vl,pa⟩:=s
 obtain⟨z,hz⟩:∃ z,decide (pa.i=0∧pa.o=0∧pa.hs=[]∧pa.r=0)=z:=⟨_,rfl⟩
 have c1:=DU pa hl z hz
 have zp:z=true→pa=jN:=fun e=>by
  rw[e]at hz
  obtain⟨a,b,c,e⟩:=of_decide_eq_true hz
  obtain⟨i,o,hs,r⟩:=pa
  dsimp only at a b c e
  subst a b c e;rfl
 by_cases h14:kd=1∨kd=2∨kd=3∨kd=4
 ·by_cases hv:vl=0
  ·refine⟨z,fun e=>?_,?_⟩
   ·rw[zp e,hv];exact .op kd ix (by omega) (by omega)
   ·obtain⟨i,o,hs,r⟩:=pa
    rcases h14 with rfl|rfl|rfl|rfl
    all_goals
     refine nI Tryz.func159 rfl Tryz.ntmps159 ?_
     refine aJ hv ?_
     refine ax c1 [] ?_
     refine ah ?_
     exact aF []
  ·refine⟨false,nofun,?_⟩
   rcases h14 with rfl|rfl|rfl|rfl
   all_goals
    refine nI Tryz.func159 rfl Tryz.ntmps159 ?_
    refine aJ hv ?_
    exact aF []
 ·have h1:¬ kd=1:=by omega
  have h2:¬ kd=2:=by omega
  have h3:¬ kd=3:=by omega
  have h4:¬ kd=4:=by omega
  by_cases h5:kd=5
  ·subst h5
   by_cases hx:ix=0
   ·by_cases hr:pa.r=0
    ·refine⟨true,fun _=>by rw[hx];exact .fl vl pa hr,?_⟩
     obtain⟨i,o,hs,r⟩:=pa
     dsimp only at hr
     refine nI Tryz.func159 rfl Tryz.ntmps159 ?_
     refine c9 hx hr ?_
     exact aF []
    ·refine⟨false,nofun,?_⟩
     obtain⟨i,o,hs,r⟩:=pa
     dsimp only at hr
     refine nI Tryz.func159 rfl Tryz.ntmps159 ?_
     refine c9 hx hr ?_
     exact aF []
   ·refine⟨false,nofun,?_⟩
    refine nI Tryz.func159 rfl Tryz.ntmps159 ?_
    refine aJ hx ?_
    exact aF []
  ·by_cases h6:kd=6
   ·subst h6
    by_cases hx:ix=0
    ·refine⟨z,fun e=>by rw[zp e,hx];exact .wt vl,?_⟩
     obtain⟨i,o,hs,r⟩:=pa
     refine nI Tryz.func159 rfl Tryz.ntmps159 ?_
     refine aJ hx ?_
     refine ax c1 [] ?_
     refine ah ?_
     exact aF []
    ·refine⟨false,nofun,?_⟩
     refine nI Tryz.func159 rfl Tryz.ntmps159 ?_
     refine aJ hx ?_
     exact aF []
   ·refine⟨false,nofun,?_⟩
    refine nI Tryz.func159 rfl Tryz.ntmps159 ?_
    refine JM h1 h2 h3 h4 h5 h6 ?_
    exact aF []
theorem Ek (d:aB) (hd:bq d) (k:Dk) (h:gT d k) (kd ix:Int) (hk:kd=1∨kd=2):∃ k' e,(e=0→gh d k ⟨kd,ix,0,jN⟩ k')∧aj Tryz.prog 160 [.t (db k),.t (cG ⟨kd,ix,0,jN⟩)] [] (.tup [.t (db k'),.t (.int e)]) []:=by
 obtain⟨sv,p1,p2,p3⟩:=h.sz hd
 have vo:=h.vo
 have ln:=h.ln
 have cN:=xj k.pl ⟨p1,p2,p3⟩
 have cA:=F4 (mZ k.pl.rs) (mZ k.pl.ps) (by rw[eW];omega) (by rw[eW];omega)
 have cC:=lM k ⟨sv,p1,p2,p3⟩
 have nl:=my k.pl
 rw[h.fl.pln.l1,h.fl.pln.l2]at nl
 obtain⟨N,hN⟩:∃ N,jo k.pl=N:=⟨_,rfl⟩
 rw[show mZ k.pl.rs++mZ k.pl.ps=N from hN]at cA
 rw[hN]at nl
 by_cases x1:ix < 0
 ·refine⟨k,8,by omega,?_⟩
  obtain⟨vs,r,q,m⟩:=k
  refine nI Tryz.func160 rfl Tryz.ntmps160 ?_
  refine aJ x1 ?_
  exact aF []
 by_cases x2:(k.vs.length:Int)≤ix
 ·refine⟨k,8,by omega,?_⟩
  obtain⟨vs,r,q,m⟩:=k
  dsimp only at x2
  refine nI Tryz.func160 rfl Tryz.ntmps160 ?_
  refine c9 x1 x2 ?_
  exact aF []
 obtain⟨i,rfl⟩:∃ i:Nat,ix=(i:Int):=⟨ix.toNat,by omega⟩
 obtain⟨v,hv⟩:∃ v,k.vs[i]? = some v:=aa (by omega)
 have c1:=fun b=>zd v (vo v (au hv)) b
 have hil:i < k.vs.length:=by omega
 rcases hk with rfl|rfl
 ·refine⟨_,0,fun _=> .open_ i v hv,?_⟩
  have c1:=c1 true
  obtain⟨vs,r,q,m⟩:=k
  obtain⟨v1,v2,v3,v4⟩:=v
  dsimp only at hv sv p1 p2 p3 cC x2 hil c1 ⊢
  refine nI Tryz.func160 rfl Tryz.ntmps160 ?_
  refine ah ?_
  refine ax cC [(1000,150),(1001,151),(1002,152),(1003,153)] ?_
  refine aJ hv ?_
  refine dr hv c1 [] ?_
  refine aJ hv ?_
  first|rw[av]|rw[ae]
  refine⟨[],?_⟩
  simp[go_sem,↓iO,iO,tN,List.map_set]
 ·obtain⟨y,hy⟩:∃ y,N[i]? = some y:=aa (by omega)
  have hiN:i < N.length:=by omega
  cases y
  ·refine⟨_,0,fun _=> .close i v hv (by rw[hN];exact hy),?_⟩
   have c1:=c1 false
   obtain⟨vs,r,q,m⟩:=k
   obtain⟨v1,v2,v3,v4⟩:=v
   dsimp only at hv sv p1 p2 p3 cC cN cA x2 hil c1 ⊢
   refine nI Tryz.func160 rfl Tryz.ntmps160 ?_
   refine ah ?_
   refine ax cN [] ?_
   refine dr hy cA [] ?_
   refine aJ hy ?_
   refine ax cC [(1000,150),(1001,151),(1002,152),(1003,153)] ?_
   refine aJ hv ?_
   refine dr hv c1 [] ?_
   refine aJ hv ?_
   first|rw[av]|rw[ae]
   refine⟨[],?_⟩
   simp[go_sem,↓iO,iO,tN,List.map_set]
  ·refine⟨k,22,by omega,?_⟩
   obtain⟨vs,r,q,m⟩:=k
   dsimp only at hv sv p1 p2 p3 cC cN cA x2 hil ⊢
   refine nI Tryz.func160 rfl Tryz.ntmps160 ?_
   refine ah ?_
   refine ax cN [] ?_
   refine dr hy cA [] ?_
   refine aJ hy ?_
   exact aF []
theorem Ig.stop {d:aB} {p:Pn} (h:Ig d p) (i:Nat):Ig d {p with pm:=p.pm.set i false}:=fun j s hs hp=>by
 rcases mI hp with ⟨_,e⟩|⟨_,hp⟩
 ·cases e
 ·exact h j s hs hp
theorem jE.pump {d:aB} {p:Pn} (h:jE d p) (i:Nat) (b:Bool):jE d {p with pm:=p.pm.set i b}:=⟨h.pln,h.cap,by simpa using h.pum,h.bal,h.acy⟩
theorem CI (d:aB) (hd:bq d) (k:Dk) (h:gT d k) (kd ix:Int) (hk:kd=3∨kd=4):∃ k' e,(e=0→gh d k ⟨kd,ix,0,jN⟩ k')∧aj Tryz.prog 161 [.t (.agg d.l),.t (db k),.t (cG ⟨kd,ix,0,jN⟩)] [] (.tup [.t (db k'),.t (.int e)]) []:=by
 obtain⟨sv,p1,p2,p3⟩:=h.sz hd
 have cC:=lM k ⟨sv,p1,p2,p3⟩
 have lm:=h.fl.pum
 have ht:=hd.t
 rw[List.length_map]at lm
 by_cases x1:ix < 0
 ·refine⟨k,8,by omega,?_⟩
  obtain⟨vs,r,q,m⟩:=k
  refine nI Tryz.func161 rfl Tryz.ntmps161 ?_
  refine aJ x1 ?_
  exact aF []
 by_cases x2:(d.stns.length:Int)≤ix
 ·refine⟨k,8,by omega,?_⟩
  obtain⟨vs,r,q,m⟩:=k
  refine nI Tryz.func161 rfl Tryz.ntmps161 ?_
  refine c9 x1 x2 ?_
  exact aF []
 obtain⟨i,rfl⟩:∃ i:Nat,ix=(i:Int):=⟨ix.toNat,by omega⟩
 obtain⟨x,hx⟩:∃ x,k.pl.pm[i]? = some x:=aa (by omega)
 have hil:i < k.pl.pm.length:=by omega
 rcases hk with rfl|rfl
 ·obtain⟨b,hb,cF⟩:=mD d hd _ (h.fl.pump i true)
  cases b
  ·refine⟨k,22,by omega,?_⟩
   obtain⟨vs,r,q,m⟩:=k
   dsimp only at hx sv p1 p2 p3 cC hil cF lm ⊢
   simp only[bW,List.map_set]at cF
   refine nI Tryz.func161 rfl Tryz.ntmps161 ?_
   refine ah ?_
   refine ax cC [(1000,150),(1001,151),(1002,152),(1003,153)] ?_
   refine aJ hx ?_
   refine gj cF [] [151,152,153] [] ?_
   refine ah ?_
   exact aF []
  ·refine⟨_,0,fun _=> .start i (by omega) (hb.1 rfl),?_⟩
   obtain⟨vs,r,q,m⟩:=k
   dsimp only at hx sv p1 p2 p3 cC hil cF lm ⊢
   simp only[bW,List.map_set]at cF
   refine nI Tryz.func161 rfl Tryz.ntmps161 ?_
   refine ah ?_
   refine ax cC [(1000,150),(1001,151),(1002,152),(1003,153)] ?_
   refine aJ hx ?_
   refine gj cF [] [151,152,153] [] ?_
   refine ah ?_
   first|rw[av]|rw[ae]
   refine⟨[],?_⟩
   simp[go_sem,↓iO,iO,tN,List.map_set]
 ·obtain⟨b,hb,cF⟩:=mD d hd _ (h.fl.pump i false)
  obtain rfl:=hb.2 (h.fd.stop i)
  refine⟨_,0,fun _=> .stop i (by omega),?_⟩
  obtain⟨vs,r,q,m⟩:=k
  dsimp only at hx sv p1 p2 p3 cC hil cF lm ⊢
  simp only[bW,List.map_set]at cF
  refine nI Tryz.func161 rfl Tryz.ntmps161 ?_
  refine ah ?_
  refine ax cC [(1000,150),(1001,151),(1002,152),(1003,153)] ?_
  refine aJ hx ?_
  refine gj cF [] [151,152,153] [] ?_
  refine ah ?_
  first|rw[av]|rw[ae]
  refine⟨[],?_⟩
  simp[go_sem,↓iO,iO,tN,List.map_set]
def OR (k:Dk) (L:List Int) (j:Nat):Prop:=j≤L.length∧∀ i g,i < j→L[i]? = some g→fa k g
theorem zP (d:aB) (hd:bq d) (k:Dk) (h:gT d k) (x:Pa) (hp:oz d x):∃ b:Bool,(b=true↔fa k (d.segs.length+x.i)∧fa k (d.segs.length+x.o)∧∀ h∈x.hs,fa k h.sg)∧
  aj Tryz.prog 242 [.t (.agg d.l),.t (db k),.t (dS x)] [] (.t (.bool b)) []:=by
 obtain⟨L,hL⟩:∃ L:List Int,(d.segs.length+x.i) :: (d.segs.length+x.o) :: (x.hs.map fun h=>h.sg)=L:=⟨_,rfl⟩
 have hiff:(∀ g∈L,fa k g)↔fa k (d.segs.length+x.i)∧fa k (d.segs.length+x.o)∧∀ h∈x.hs,fa k h.sg:=by
  rw[←hL]
  simp only[List.mem_cons,List.mem_map,forall_eq_or_imp]
  exact⟨fun⟨a,b,c⟩=>⟨a,b,fun h hh=>c _ ⟨h,hh,rfl⟩⟩,fun⟨a,b,c⟩=>⟨a,b,fun g ⟨h,hh,e⟩=>e ▸ c h hh⟩⟩
 obtain⟨b,hbt,hbf⟩:∃ b:Bool,((∀ g∈L,fa k g)→b=true)∧(¬ (∀ g∈L,fa k g)→b=false):=by
  by_cases hf:∀ g∈L,fa k g
  ·exact⟨true,fun _=>rfl,fun g=>absurd hf g⟩
  ·exact⟨false,fun g=>absurd g hf,fun _=>rfl⟩
 refine⟨b,Iff.trans ⟨fun e=>Classical.byContradiction fun hn=>(by rw[hbf hn]at e;cases e),hbt⟩ hiff,?_⟩
 have s1:=hd.s
 have s2:=hd.p
 have ln:=h.ln
 have vo:=h.vo
 have rng:∀ g∈L,0≤g∧g < k.vs.length:=by
  rw[←hL]
  simp only[List.mem_cons,List.mem_map,forall_eq_or_imp]
  have pi:=hp.i
  have po:=hp.o
  refine⟨by omega,by omega,fun g ⟨h,hh,e⟩=>?_⟩
  have:=kP hp.w h hh
  omega
 have hll:=hp.hl
 obtain⟨X,X0,Xs,Xl⟩:∃ X:Nat→List Int,X 0=[d.segs.length+x.i,d.segs.length+x.o]∧(∀ j h,x.hs[j]? = some h→X (j+1)=X j++[h.sg]∧(X j).length=j+2)∧X x.hs.length=L:=by
  refine⟨fun j=>(d.segs.length+x.i) :: (d.segs.length+x.o) :: ((x.hs.take j).map fun h=>h.sg),by simp,fun j h hj=>?_,by dsimp only;rw[List.take_length];exact hL⟩
  have:=(List.getElem?_eq_some_iff.1 hj).1
  dsimp only
  rw[bC hj]
  simp
  omega
 have hLl:L.length=x.hs.length+2:=by rw[←hL];simp
 have pi:=hp.i
 have po:=hp.o
 have rdy:∀ {g:Int} {v:Vv},k.vs[g.toNat]? = some v→(fa k g↔v.op=v.tr∧v.wa=true):=fun {g v} hv=>by
  unfold fa
  constructor
  ·rintro ⟨u,hu,e⟩;rw[hv]at hu;cases hu;exact e
  ·exact fun e=>⟨v,hv,e⟩
 obtain⟨K,hK⟩:∃ K,K=k:=⟨_,rfl⟩
 have rdy:∀ {g:Int} {v:Vv},k.vs[g.toNat]? = some v→(fa K g↔v.op=v.tr∧v.wa=true):=by rw[hK];exact rdy
 rw[←hK]at hbt hbf
 obtain⟨vs,r,q,m⟩:=k
 obtain⟨i,o,hs,rr⟩:=x
 dsimp only at ln vo rng hll X0 Xs Xl hLl pi po rdy
 refine nI Tryz.func242 rfl Tryz.ntmps242 ?_
 refine ah ?_
 refine oP ?_
 refine CW.loop (ι:=Nat) (fun j=>⟨[(4,.pt 504 [] 0),(5,.pt 505 [] 0),(7,.own 507),(8,.t (.int j))],[(504,.box 39 (.t (db ⟨vs,r,q,m⟩))),(505,.box 57 (.t (dS ⟨i,o,hs,rr⟩))),(507,gm (X j))]⟩) (fun j=>j≤hs.length) (fun j=>hs.length - j) 0 [(504,some 104),(505,some 105),(507,some 122)] (by omega) ?_ ?_
 ·exact dJ X0
 intro j hj
 by_cases hb:j < hs.length
 ·obtain⟨h,hh⟩:=aa hb
  obtain⟨e1,e2⟩:=Xs j h hh
  obtain⟨g,bk⟩:=h
  dsimp only at e1
  refine aJ hh ?_
  exact nX (j+1) [(504,some 504),(505,some 505),(507,some 138)] (by omega) (by omega) (dJ e1)
 ·obtain rfl:j=hs.length:=by omega
  rw[Xl]
  refine ah ?_
  refine oP ?_
  refine lP (ι:=Nat) (fun j=>⟨[(4,.pt 504 [] 0),(7,.own 507),(9,.t (.int j))],[(504,.box 39 (.t (db ⟨vs,r,q,m⟩))),(507,gm L)]⟩) (OR K L) (fun j=>L.length - j) 0 [(504,some 504),(507,some 507)] ⟨by omega,by omega⟩ ?_
  rintro j ⟨hj,hg⟩
  by_cases hb:j < L.length
  ·obtain⟨g,hgj⟩:=aa hb
   have hr:=rng g (au hgj)
   obtain⟨v,hv⟩:∃ v,vs[g.toNat]? = some v:=aa (by omega)
   have c:=xL v (vo v (au hv))
   have hrd:=rdy hv
   have nxt:fa K g→OR K L (j+1):=fun hz=>⟨by omega,fun i g' hi hx=>by
    by_cases e:i=j
    ·subst e;rw[hgj]at hx;cases hx;exact hz
    ·exact hg i g' (by omega) hx⟩
   have no:¬ fa K g→b=false:=fun hz=>hbf fun q=>hz (q g (au hgj))
   obtain⟨v1,v2,v3,v4⟩:=v
   dsimp only at c hrd
   obtain⟨g0,g1⟩:=hr
   by_cases e1:v2=v1
   ·rw[decide_eq_true e1]at c
    cases v3
    ·obtain rfl:=no fun q=>by have:=(hrd.1 q).2;cases this
     refine fg hgj hv g0 ?_
     refine Fu hgj hv g0 c [] ?_
     refine fg hgj hv g0 ?_
     exact aF []
    ·refine fg hgj hv g0 ?_
     refine Fu hgj hv g0 c [] ?_
     refine fg hgj hv g0 ?_
     refine nX (j+1) [(504,some 504),(507,some 507)] ?_ ?_ ?_
     ·exact nxt (hrd.2 ⟨e1,rfl⟩)
     ·omega
     exact dY
   ·rw[decide_eq_false e1]at c
    obtain rfl:=no fun q=>e1 (hrd.1 q).1
    refine fg hgj hv g0 ?_
    refine Fu hgj hv g0 c [] ?_
    refine fg hgj hv g0 ?_
    exact aF []
  ·obtain rfl:j=L.length:=by omega
   obtain rfl:=hbt fun g hgm=>by
    obtain⟨i,hi,e⟩:=List.getElem_of_mem hgm
    exact hg i g hi (by rw[List.getElem?_eq_getElem hi,e])
   refine ah ?_
   exact aF []
theorem OI {v:Int} {rs:List Int} {hs:List Hp} (hn:(hs.map fun h=>h.sg.toNat).Nodup) (hr:∀ h∈hs,0≤h.sg∧h.sg < rs.length) (hb:∀ r∈rs,-1000≤r∧r≤1000) (hv:-1000≤v∧v≤1000):∀ r∈pO v rs hs,-1000000≤r∧r≤1000000:=by
 intro x hx
 obtain⟨g,hg,e⟩:=List.getElem_of_mem hx
 have hx2:(pO v rs hs)[g]? = some x:=by rw[List.getElem?_eq_getElem hg,e]
 rw[mN]at hg
 by_cases hm:g∈hs.map fun h=>h.sg.toNat
 ·obtain⟨h,hh,eg⟩:=List.mem_map.1 hm
  rw[IZ hn hh eg hg]at hx2
  obtain⟨y,hy⟩:=aa hg
  have hy2:=hb y (au hy)
  rw[List.getD_eq_getElem?_getD,hy]at hx2
  simp only[Option.getD_some,Option.some.injEq]at hx2
  unfold mG at hx2
  split at hx2<;>omega
 ·rw[mH hm]at hx2
  have:=hb x (au hx2)
  omega
def Qx (v:Int) (rs:List Int) (hs:List Hp) (j:Nat):Prop:=j≤hs.length∧∀ i h,i < j→hs[i]? = some h→0≤mG h (rs.getD h.sg.toNat 0)∧0≤mG h (rs.getD h.sg.toNat 0)+v
theorem C3 (d:aB) (hd:bq d) (k:Dk) (h:gT d k) (x:Pa) (v:Int) (hl:x.hs.length≤64) (hr:x.r=0):∃ k' e,(e=0→gh d k ⟨5,0,v,x⟩ k')∧aj Tryz.prog 162 [.t (.agg d.l),.t (db k),.t (cG ⟨5,0,v,x⟩)] [] (.tup [.t (db k'),.t (.int e)]) []:=by
 obtain⟨sv,p1,p2,p3⟩:=h.sz hd
 have cP:=zI x (by omega)
 have cD:=lM k ⟨sv,p1,p2,p3⟩
 by_cases x1:v < -1000
 ·refine⟨k,23,by omega,?_⟩
  obtain⟨vs,r,q,m⟩:=k
  refine nI Tryz.func162 rfl Tryz.ntmps162 ?_
  refine aJ x1 ?_
  exact aF []
 by_cases x2:1000 < v
 ·refine⟨k,23,by omega,?_⟩
  obtain⟨vs,r,q,m⟩:=k
  refine nI Tryz.func162 rfl Tryz.ntmps162 ?_
  refine c9 x1 x2 ?_
  exact aF []
 obtain⟨w,hw⟩:∃ w,max v (-v)=w:=⟨_,rfl⟩
 obtain⟨bV,hbV,cV⟩:=Cb d hd ⟨x.i,x.o,x.hs,w⟩ hl
 cases bV
 ·refine⟨k,23,by omega,?_⟩
  obtain⟨vs,r,q,m⟩:=k
  obtain⟨i,o,hs,rr⟩:=x
  dsimp only at cV cP
  refine nI Tryz.func162 rfl Tryz.ntmps162 ?_
  refine ah ?_
  refine ax cP [] ?_
  refine aJ hw ?_
  refine ax cV [] ?_
  refine ah ?_
  exact aF []
 have hVP:=hbV.1 rfl
 obtain⟨bR,hbR,cR⟩:=zP d hd k h _ hVP
 cases bR
 ·refine⟨k,22,by omega,?_⟩
  obtain⟨vs,r,q,m⟩:=k
  obtain⟨i,o,hs,rr⟩:=x
  dsimp only at cV cP cR cD
  refine nI Tryz.func162 rfl Tryz.ntmps162 ?_
  refine ah ?_
  refine ax cP [] ?_
  refine aJ hw ?_
  refine ax cV [] ?_
  refine ah ?_
  refine ax cD [(1000,150),(1001,151),(1002,152),(1003,153)] ?_
  refine ah ?_
  refine gj cR [] [150,151,152,153] [] ?_
  refine ah ?_
  exact aF []
 obtain⟨rI,rO,rH⟩:=hbR.1 rfl
 have hpi:=hVP.i
 have hpo:=hVP.o
 have hne:=hVP.ne
 have hhl:=hVP.hl
 have l1:=h.fl.pln.l1
 have l2:=h.fl.pln.l2
 have b1:=h.fl.pln.b1
 have b2:=h.fl.pln.b2
 dsimp only at hpi hpo hne hhl
 obtain⟨i,hi⟩:∃ i:Nat,x.i=i:=⟨x.i.toNat,by omega⟩
 obtain⟨o,ho⟩:∃ o:Nat,x.o=o:=⟨x.o.toNat,by omega⟩
 have hio:¬ i=o:=by omega
 obtain⟨a,ha⟩:∃ a,k.pl.ps[i]? = some a:=aa (by omega)
 obtain⟨b,hb⟩:∃ b,k.pl.ps[o]? = some b:=aa (by omega)
 have ha2:=b2 a (au ha)
 have hb2:=b2 b (au hb)
 have hil:i < k.pl.ps.length:=by omega
 have hol:o < k.pl.ps.length:=by omega
 have ga:k.pl.ps.getD x.i.toNat 0=a:=by rw[hi,Int.toNat_natCast,List.getD_eq_getElem?_getD,ha];rfl
 have gb:k.pl.ps.getD x.o.toNat 0=b:=by rw[ho,Int.toNat_natCast,List.getD_eq_getElem?_getD,hb];rfl
 have hnd:=qi hVP.w (by simp)
 have hrg:∀ h∈x.hs,0≤h.sg∧h.sg < k.pl.rs.length:=by rw[l1];exact kP hVP.w
 obtain⟨X,X0,Xl,Xn,Xs⟩:=KV v k.pl.rs x.hs hnd hrg
 obtain⟨PS,hPS⟩:∃ P,(k.pl.ps.set i (a+v)).set o (b - v)=P:=⟨_,rfl⟩
 have hFP:yR k.pl x v=⟨X x.hs.length,PS,k.pl.pm⟩:=by unfold yR;rw[ga,gb,hi,ho,Int.toNat_natCast,Int.toNat_natCast,hPS,Xl]
 have bPS:∀ r∈PS,-1000000≤r∧r≤1000000:=fun r hr=>by
  rw[←hPS]at hr
  rcases List.mem_or_eq_of_mem_set hr with hr|rfl
  ·rcases List.mem_or_eq_of_mem_set hr with hr|rfl
   ·have:=b2 r hr;omega
   ·omega
  ·omega
 have lm:=h.fl.pum
 rw[List.length_map]at lm
 have lPS:PS.length=d.ports.length:=by rw[←hPS];simpa using l2
 obtain⟨e,he,cE⟩:=qR d hd ⟨X x.hs.length,PS,k.pl.pm⟩ (by dsimp only;rw[Xn,l1]) lPS lm (by rw[Xl];exact OI hnd hrg b1 (by omega)) bPS
 have sg1:∀ h:Hp,∀ r:Int,h.bk=false→mG h r=r:=fun h r e=>by unfold mG;rw[e];simp
 have sg2:∀ h:Hp,∀ r:Int,h.bk=true→mG h r=-r:=fun h r e=>by unfold mG;rw[e];simp
 have PSa:PS[i]? = some (a+v):=by rw[←hPS,List.getElem?_set_ne (Ne.symm hio),List.getElem?_set_self hil]
 have PSb:PS[o]? = some (b - v):=by rw[←hPS,List.getElem?_set_self (by simpa using hol)]
 have PSl:i < PS.length∧o < PS.length:=by omega
 have PSm:((k.pl.ps.map aC).set i (.int (a+v))).set o (.int (b - v))=PS.map aC:=by rw[←hPS,List.map_set,List.map_set];rfl
 obtain⟨k',e',hk',hno,fin⟩:∃ k' e',(e'=0→gh d k ⟨5,0,v,x⟩ k')∧(¬ ((0≤a∧0≤a+v∧b≤0∧b - v≤0)∧Qx v k.pl.rs x.hs x.hs.length)→k'=k∧e'=22)∧((0≤a∧0≤a+v∧b≤0∧b - v≤0)∧Qx v k.pl.rs x.hs x.hs.length→(e≠0∧k'=k∧e'=e)∨∃ b,e=0∧aj Tryz.prog 238 [.t (.agg d.l),.t (bW ⟨X x.hs.length,PS,k.pl.pm⟩)] [] (.t (.bool b)) []∧((b=false∧k'=k∧e'=22)∨(b=true∧k'=⟨k.vs,X x.hs.length,PS,k.pl.pm⟩∧e'=0))):=by
  by_cases gd:(0≤a∧0≤a+v∧b≤0∧b - v≤0)∧Qx v k.pl.rs x.hs x.hs.length
  ·by_cases e0:e=0
   ·have ok:=he.1 e0
    obtain⟨b,hbF,cF⟩:=mD d hd _ ok
    cases b
    ·exact⟨k,22,by omega,fun g=>absurd gd g,fun _=>Or.inr ⟨false,e0,cF,Or.inl ⟨rfl,rfl,rfl⟩⟩⟩
    ·refine⟨_,0,fun _=>?_,fun g=>absurd gd g,fun _=>Or.inr ⟨true,e0,cF,Or.inr ⟨rfl,rfl,rfl⟩⟩⟩
     have:=gh.flow (d:=d) (k:=k) x v hr ⟨by omega,by rw[hw];exact hVP,rI,rO,rH,by rw[ga];omega,by rw[gb];omega,fun h hh=>by
      obtain⟨j,hj,ej⟩:=List.getElem_of_mem hh
      exact gd.2.2 j h hj (by rw[List.getElem?_eq_getElem hj,ej]),by rw[hFP];exact ok,by rw[hFP];exact hbF.1 rfl⟩
     rw[hFP]at this
     exact this
   ·exact⟨k,e,fun z=>absurd z e0,fun g=>absurd gd g,fun _=>Or.inl ⟨e0,rfl,rfl⟩⟩
  ·exact⟨k,22,by omega,fun _=>⟨rfl,rfl⟩,fun g=>absurd g gd⟩
 refine⟨k',e',hk',?_⟩
 clear hk' he hbV hbR rI rO rH hFP bPS hVP Xl hPS
 obtain⟨K,hK⟩:∃ K,K=k:=⟨_,rfl⟩
 rw[←hK]at hno
 obtain⟨vs,rs,q,m⟩:=k
 obtain⟨xi,xo,hs,rr⟩:=x
 dsimp only at *
 subst hi ho
 have hnk:K=⟨vs,rs,q,m⟩:=hK
 clear hK
 obtain⟨i1,i2⟩:=PSl
 refine nI Tryz.func162 rfl Tryz.ntmps162 ?_
 refine ah ?_
 refine ax cP [] ?_
 refine aJ hw ?_
 refine ax cV [] ?_
 refine ah ?_
 refine ax cD [(1000,150),(1001,151),(1002,152),(1003,153)] ?_
 refine ah ?_
 refine gj cR [] [150,151,152,153] [] ?_
 iterate 4 (refine af rfl ?_;simp[go_sem,↓iO,iO,tN,ha,hb,hio];(repeat (refine ba ?_));try (refine⟨aZ,?_⟩))
 refine CW.weak (ρ:=[(503,some 103),(504,some 104),(505,some 105),(506,some 106),(508,some 108),(509,some 109),(520,some 150),(521,some 151),(522,some 152),(523,some 153)]) (σ':=⟨[(3,.pt 503 [] 0),(4,.pt 504 [] 0),(5,.pt 505 [] 0),(6,.pt 506 [] 0),(8,.pt 508 [] 0),(9,.pt 509 [] 0)],[(503,.box 32 (.t (.agg d.l))),(504,.box 39 (.t (db ⟨vs,rs,q,m⟩))),(505,.box 59 (.t (cG ⟨5,0,v,i,o,hs,rr⟩))),(506,.box 39 (.t (.agg [.sl 4 [],.agg [.sl 1 [],.sl 1 [],.sl 1 []]]))),(508,.box 57 (.t (dS ⟨i,o,hs,w⟩))),(509,.box 39 (.ag [.own 520,.ag [.own 521,.own 522,.own 523]])),(520,vM vs),(521,gm rs),(522,gm PS),(523,k8 m)]⟩) ?_ ?_
 ·simp[go_sem,↓iO,iO,tN,bZ,PSm]
 have key:(a+v < 0)∨(¬ a+v < 0∧0 < b - v)∨(¬ a+v < 0∧¬ 0 < b - v∧a < 0)∨(¬ a+v < 0∧¬ 0 < b - v∧¬ a < 0∧0 < b)∨(0≤a∧0≤a+v∧b≤0∧b - v≤0):=by omega
 rcases key with g1|⟨g1,g2⟩|⟨g1,g2,g3⟩|⟨g1,g2,g3,g4⟩|gd
 ·obtain⟨rfl,rfl⟩:=hno fun z=>by omega
  subst hnk
  refine yB PSa PSb ha hb g1 ?_
  exact aF []
 ·obtain⟨rfl,rfl⟩:=hno fun z=>by omega
  subst hnk
  refine JM PSa PSb ha hb g1 g2 ?_
  exact aF []
 ·obtain⟨rfl,rfl⟩:=hno fun z=>by omega
  subst hnk
  repeat (first|(refine af rfl ?_;simp[go_sem,↓iO,iO,tN,PSa,PSb,ha,hb,g1,g2,g3])|refine ba ?_|refine⟨aZ,?_⟩|refine iP ?_|refine iN ?_)
  exact aF []
 ·obtain⟨rfl,rfl⟩:=hno fun z=>by omega
  subst hnk
  repeat (first|(refine af rfl ?_;simp[go_sem,↓iO,iO,tN,PSa,PSb,ha,hb,g1,g2,g3,g4])|refine ba ?_|refine⟨aZ,?_⟩|refine iP ?_|refine iN ?_)
  exact aF []
 have g1:¬ a+v < 0:=by omega
 have g2:¬ 0 < b - v:=by omega
 have g3:¬ a < 0:=by omega
 have g4:¬ 0 < b:=by omega
 repeat (first|(refine af rfl ?_;simp[go_sem,↓iO,iO,tN,PSa,PSb,ha,hb,g1,g2,g3,g4])|refine ba ?_|refine⟨aZ,?_⟩|refine iP ?_|refine iN ?_)
 refine oP ?_
 refine CW.loop (ι:=Nat) (fun j=>⟨[(3,.pt 503 [] 0),(4,.pt 504 [] 0),(5,.pt 505 [] 0),(6,.pt 506 [] 0),(8,.pt 508 [] 0),(9,.pt 509 [] 0),(10,.t (.int j))],[(503,.box 32 (.t (.agg d.l))),(504,.box 39 (.t (db ⟨vs,rs,q,m⟩))),(505,.box 59 (.t (cG ⟨5,0,v,i,o,hs,rr⟩))),(506,.box 39 (.t (.agg [.sl 4 [],.agg [.sl 1 [],.sl 1 [],.sl 1 []]]))),(508,.box 57 (.t (dS ⟨i,o,hs,w⟩))),(509,.box 39 (.ag [.own 520,.ag [.own 521,.own 522,.own 523]])),(520,vM vs),(521,gm (X j)),(522,gm PS),(523,k8 m)]⟩) (Qx v rs hs) (fun j=>hs.length - j) 0 [(503,some 503),(504,some 504),(505,some 505),(506,some 506),(508,some 508),(509,some 509),(520,some 520),(521,some 521),(522,some 522),(523,some 523)] ⟨by omega,by omega⟩ ?_ ?_
 ·exact dJ X0
 rintro j ⟨hj,hg⟩
 by_cases hb':j < hs.length
 ·obtain⟨h',hh'⟩:=aa hb'
  obtain⟨r,r1,r2,r3⟩:=Xs j h' hh'
  have hsr:=hrg h' (au hh')
  have hrb:=b1 r (au r1)
  have hxl:=Xn j
  have gr:rs.getD h'.sg.toNat 0=r:=by rw[List.getD_eq_getElem?_getD,r1];rfl
  have nxt:0≤mG h' r∧0≤mG h' r+v→Qx v rs hs (j+1):=fun z=>⟨by omega,fun i' h'' hi' hx=>by
   by_cases e:i'=j
   ·subst e;rw[hh']at hx;cases hx;rw[gr];exact z
   ·exact hg i' h'' (by omega) hx⟩
  have no:¬ (0≤mG h' r∧0≤mG h' r+v)→k'=K∧e'=22:=fun z=>hno fun y=>z (by have:=y.2.2 j h' hb' hh';rwa [show K.pl.rs=rs by rw[hnk],gr]at this)
  have s1:=sg1 h' r
  have s2:=sg2 h' r
  have s3:=sg1 h' v
  have s4:=sg2 h' v
  obtain⟨g,bk⟩:=h'
  dsimp only at hsr r1 r2 r3 s1 s2 s3 s4
  have hgl:g.toNat < (X j).length:=by omega
  have hgl2:g.toNat < rs.length:=by omega
  obtain⟨t1,t2⟩:=hsr
  cases bk
  ·rw[s3 rfl]at r3
   rw[s1 rfl]at nxt no
   have key:r < 0∨(¬ r < 0∧r+v < 0)∨(0≤r∧0≤r+v):=by omega
   rcases key with y1|⟨y1,y2⟩|y1
   ·obtain⟨rfl,rfl⟩:=no (by omega)
    subst hnk
    repeat (first|(refine af rfl ?_;simp[go_sem,↓iO,iO,tN,hh',r1,r2,t1,hxl,y1])|refine ba ?_|refine⟨aZ,?_⟩|refine iP ?_|refine iN ?_)
    exact aF []
   ·obtain⟨rfl,rfl⟩:=no (by omega)
    subst hnk
    repeat (first|(refine af rfl ?_;simp[go_sem,↓iO,iO,tN,hh',r1,r2,t1,hxl,y1,y2])|refine ba ?_|refine⟨aZ,?_⟩|refine iP ?_|refine iN ?_)
    exact aF []
   ·have y2:¬ r < 0:=by omega
    have y3:¬ r+v < 0:=by omega
    repeat (first|(refine af rfl ?_;simp[go_sem,↓iO,iO,tN,hh',r1,r2,t1,hxl,y2,y3])|refine ba ?_|refine⟨aZ,?_⟩|refine iP ?_|refine iN ?_)
    refine nX (j+1) [(503,some 503),(504,some 504),(505,some 505),(506,some 506),(508,some 508),(509,some 509),(520,some 520),(521,some 521),(522,some 522),(523,some 523)] ?_ ?_ ?_
    ·exact nxt y1
    ·omega
    simp[go_sem,↓iO,iO,tN,r3,List.map_set]
  ·rw[s4 rfl]at r3
   rw[s2 rfl]at nxt no
   have key:-r < 0∨(¬ -r < 0∧-r+v < 0)∨(0≤-r∧0≤-r+v):=by omega
   rcases key with y1|⟨y1,y2⟩|y1
   ·obtain⟨rfl,rfl⟩:=no (by omega)
    subst hnk
    repeat (first|(refine af rfl ?_;simp[go_sem,↓iO,iO,tN,hh',r1,r2,t1,hxl,y1])|refine ba ?_|refine⟨aZ,?_⟩|refine iP ?_|refine iN ?_)
    exact aF []
   ·obtain⟨rfl,rfl⟩:=no (by omega)
    subst hnk
    repeat (first|(refine af rfl ?_;simp[go_sem,↓iO,iO,tN,hh',r1,r2,t1,hxl,y1,y2])|refine ba ?_|refine⟨aZ,?_⟩|refine iP ?_|refine iN ?_)
    exact aF []
   ·have y2:¬ -r < 0:=by omega
    have y3:¬ -r+v < 0:=by omega
    have e5:-(-r+v)=r+-v:=by omega
    repeat (first|(refine af rfl ?_;simp[go_sem,↓iO,iO,tN,hh',r1,r2,t1,hxl,y2,y3])|refine ba ?_|refine⟨aZ,?_⟩|refine iP ?_|refine iN ?_)
    refine nX (j+1) [(503,some 503),(504,some 504),(505,some 505),(506,some 506),(508,some 508),(509,some 509),(520,some 520),(521,some 521),(522,some 522),(523,some 523)] ?_ ?_ ?_
    ·exact nxt y1
    ·omega
    simp[go_sem,↓iO,iO,tN,r3,List.map_set,e5]
 ·obtain rfl:j=hs.length:=by omega
  rcases fin ⟨gd,hj,hg⟩ with ⟨e0,rfl,rfl⟩|⟨b',rfl,cF,⟨rfl,rfl,rfl⟩|⟨rfl,rfl,rfl⟩⟩
  ·subst hnk
   refine ah ?_
   refine gj cE [] [521,522,523] [] ?_
   refine aJ e0 ?_
   exact aF []
  ·subst hnk
   refine ah ?_
   refine gj cE [] [521,522,523] [] ?_
   refine ah ?_
   refine gj cF [] [521,522,523] [] ?_
   refine ah ?_
   exact aF []
  ·refine ah ?_
   refine gj cE [] [521,522,523] [] ?_
   refine ah ?_
   refine gj cF [] [521,522,523] [] ?_
   refine ah ?_
   exact aF []
end Go.Proofs.YtocndodilpimnaaGreat
