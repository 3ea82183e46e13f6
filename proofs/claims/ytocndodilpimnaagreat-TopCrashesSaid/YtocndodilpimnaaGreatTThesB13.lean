/- Several texts of this proof, one behind the other. No condition. -/
import Derived.Test.YtocndodilpimnaaGreatTThesB12
set_option maxRecDepth 100000
set_option maxHeartbeats 16000000
set_option linter.unusedVariables false
set_option linter.unusedSimpArgs false
namespace Go.Proofs.YtocndodilpimnaaGreat
open Go.RowKit Sy
open Go.IntWalk renaming iteOmega → iO, toNatUp → tN
attribute [go_sem] yx B9
structure fk where
 nodes:T
 segs:List eH
 ports:List jz
 stat:T
 vap:T
 stl:T
 rates:List Int
 prates:List Int
 pumps:T
 feeds:List Int
structure ml (d:fk):Prop where
 w1:d.nodes.width=1
 w2:d.stat.width=1
 w3:d.vap.width=1
 w4:d.stl.width=1
 w5:d.pumps.width=1
 lenR:d.rates.length=d.segs.length
 lenP:d.prates.length=d.ports.length
 lenF:d.feeds.length=d.ports.length
 neS:d.segs≠[]
 neP:d.ports≠[]
 maxS:d.segs.length≤1000
 maxP:d.ports.length≤1000
 bR:∀ r∈d.rates,-1000000≤r∧r≤1000000
 bP:∀ r∈d.prates,-1000000≤r∧r≤1000000
 bF:∀ r∈d.feeds,-1000000≤r∧r≤1000000
@[go_sem] def fk.net (d:fk):List T:=[d.nodes,.sl 7 (d.segs.map bA),.sl 3 (d.ports.map dO),d.stat,d.vap,d.stl]
@[go_sem] def fk.plan (d:fk):List T:=[.sl 1 (d.rates.map aC),.sl 1 (d.prates.map aC),d.pumps]
theorem pQ {node:Int} {inn:Bool}:∀ {ps:List jz} {rs:List Int} {k:Nat} {y:Nat×Int},y∈cd node inn k ps rs→k≤y.1∧y.1 < k+ps.length∧0 < y.2∧∃ r∈rs,y.2=gn r
 | [],rs,k,y,h=>by simp[cd]at h
 | p :: ps,[],k,y,h=>by simp[cd]at h
 | p :: ps,r :: rs,k,y,h=>by
  simp only[cd]at h
  have go:y∈cd node inn (k+1) ps rs→k≤y.1∧y.1 < k+(p :: ps).length∧0 < y.2∧∃ r'∈r :: rs,y.2=gn r':=fun h=>by
   obtain⟨h1,h2,h3,r',h4,h5⟩:=pQ h
   exact⟨by omega,by simp only[List.length_cons];omega,h3,r',by simp[h4],h5⟩
  split at h
  ·rename_i hc
   rcases List.mem_cons.1 h with rfl|h
   ·refine⟨Nat.le_refl _,by simp,?_,r,by simp,rfl⟩
    have:=hc.2.1
    simp only[gn];omega
   ·exact go h
  ·exact go h
theorem jc (node:Int) (inn:Bool):∀ (k:Nat) (ps:List jz) (rs:List Int),(cd node inn k ps rs).length≤ps.length
 | k,[],rs=>by simp[cd]
 | k,p :: ps,[]=>by simp[cd]
 | k,p :: ps,r :: rs=>by
  have:=jc node inn (k+1) ps rs
  simp only[cd]
  split<;>simp<;>omega
def ve (feeds:List Int) (ys:List (Nat×Int)):List (Int×Int):=ys.map fun y=>(feeds.getD y.1 0,y.2)
theorem mQ {node:Int} {inn:Bool}:∀ {ps:List vO} {rs:List Int} {k:Nat} {y:Nat×Int},y∈bz node inn k ps rs→k≤y.1∧y.1 < k+ps.length∧0 < y.2∧∃ r∈rs,y.2=gn r
 | [],rs,k,y,h=>by simp[bz]at h
 | p :: ps,[],k,y,h=>by simp[bz]at h
 | p :: ps,r :: rs,k,y,h=>by
  simp only[bz]at h
  have go:y∈bz node inn (k+1) ps rs→k≤y.1∧y.1 < k+(p :: ps).length∧0 < y.2∧∃ r'∈r :: rs,y.2=gn r':=fun h=>by
   obtain⟨h1,h2,h3,r',h4,h5⟩:=mQ h
   exact⟨by omega,by simp only[List.length_cons];omega,h3,r',by simp[h4],h5⟩
  split at h
  ·rename_i hc
   rcases List.mem_cons.1 h with rfl|h
   ·refine⟨Nat.le_refl _,by simp,?_,r,by simp,rfl⟩
    have:=hc.1
    simp only[gn];omega
   ·exact go h
  ·exact go h
def gJ (gi:List (Option (List (Int×Int)))) (z:Nat×Int):List (Int×Int):=(gi.getD z.1 none).getD []
def kH (d:fk) (gi:List (Option (List (Int×Int)))) (node:Int):List (Int×Int):=ve d.feeds (cd node true 0 d.ports d.prates)++(bz node true 0 (d.segs.map (·.1)) d.rates).flatMap (gJ gi)
theorem Hj (d:fk) (hd:ml d) (order:T) (w6:order.width=1) (fi gi oo:List (Option (List (Int×Int)))) (node:Int) (hg:gi.length=d.segs.length) (hS:Pc.jd (kH d gi node)) (hnz:∀ z∈bz node true 0 (d.segs.map (·.1)) d.rates,∀ p∈gJ gi z,p.2≠0) :
  aj Tryz.prog 218 [.pt 0 [] 0,.t (.int node)] [(0,dB d.net d.plan (.sl 1 (d.feeds.map aC)) order),(1,aT fi),(2,aT gi),(3,aT oo)]
   (.own 1000) [(0,dB d.net d.plan (.sl 1 (d.feeds.map aC)) order),(1,aT fi),(2,aT gi),(3,aT oo),(1000,gP (Pc.join (kH d gi node)))]:=by
 unfold kH at hS ⊢
 refine nI Tryz.func218 rfl Tryz.ntmps218 ?_
 refine ah ?_
 refine ax (ta d.net d.plan (.sl 1 (d.feeds.map aC)) order fi gi oo node true) [(0,0),(1,1),(2,2),(3,3),(1000,500),(1001,501),(1002,502)] ?_
 refine oP ?_
 obtain⟨Y,hY⟩:∃ Y,cd node true 0 d.ports d.prates=Y:=⟨_,rfl⟩
 have hYg:∀ y∈Y,y.1 < d.ports.length∧0 < y.2∧y.2≤1000000:=fun y hy=>by
  rw[←hY]at hy
  obtain⟨h1,h2,h3,r,h4,h5⟩:=pQ hy
  have:=hd.bP r h4
  unfold gn at h5
  exact⟨by omega,h3,by omega⟩
 obtain⟨pc,hpc⟩:∃ pc,ve d.feeds Y=pc:=⟨_,rfl⟩
 obtain⟨Z,hZ⟩:∃ Z,bz node true 0 (d.segs.map (·.1)) d.rates=Z:=⟨_,rfl⟩
 have hZg:∀ z∈Z,z.1 < d.segs.length∧0 < z.2:=fun y hy=>by
  rw[←hZ]at hy
  obtain⟨h1,h2,h3,_⟩:=mQ hy
  exact⟨by simpa using h2,h3⟩
 rw[hY,hpc,hZ]at hS
 rw[hZ]at hnz
 rw[hY,hpc,hZ]
 refine CW.rangeF (N:=41) [(0,.pt 0 [] 0),(1,.t (.int node)),(2,.pt 102 [] 0),(5,.pt 105 [] 0),(11,.fn 264 [.pt 500 [] 0,.pt 501 [] 0,.pt 502 [] 0])]
  (fun k=>[(0,dB d.net d.plan (.sl 1 (d.feeds.map aC)) order),(1,aT fi),(2,aT gi),(3,aT oo),(102,.box 159 (.pt 0 [] 0)),(105,.box 89 (.own 510)),(510,gP (Pc.join (pc.take k))),(500,.box 159 (.pt 0 [] 0)),(501,.box 3 (.t (.int node))),(502,.box 4 (.t (.bool true)))])
  [(0,some 0),(1,some 1),(2,some 2),(3,some 3),(102,some 102),(105,some 105),(510,none),(500,some 500),(501,some 501),(502,some 502)]
  (eJ 500 501 502 0 (.t (.int node)) (.t (.bool true)) 3 4 d.net d.plan [.t (.sl 1 (d.feeds.map aC)),.t order,.own 1,.own 2,.own 3]) (Y.map dF)
  [(0,some 0),(1,some 1),(2,some 2),(3,some 3),(102,some 102),(105,some 105),(510,some 510),(500,some 500),(501,some 501),(502,some 502)]
  ?_ rfl (by kernel_rfl) (by kernel_rfl) (by kernel_rfl) (by kernel_rfl) (by kernel_rfl) (by kernel_rfl) (by kernel_rfl) ?_ ?_ ?_ rfl ?_ ?_ ?_
 ·simp[go_sem,↓iO,iO,tN,Pc.join]
 ·intro y hy
  obtain⟨z,_,rfl⟩:=List.mem_map.1 hy
  rfl
 ·intro y hy v hv
  obtain⟨z,_,rfl⟩:=List.mem_map.1 hy
  simp[dF]at hv
  rcases hv with rfl|rfl<;>rfl
 ·rw[←hY]
  exact nM 500 501 502 0 rfl node true d.nodes (.sl 7 (d.segs.map bA)) d.stat d.ports d.vap d.stl (.sl 1 (d.rates.map aC)) d.pumps d.prates _ hd.w1 rfl rfl hd.w2 hd.w3 hd.w4 hd.lenP hd.neP hd.maxP (fun r hr=>by have:=hd.bP r hr;omega)
 ·intro k hk
  simp[go_sem,↓iO,iO,tN,eJ]
  rfl
 ·intro k y hy
  obtain⟨z,hz,rfl⟩:∃ z,Y[k]? = some z∧y=dF z:=by
   rw[List.getElem?_map]at hy
   obtain⟨z,h1,h2⟩:=Option.map_eq_some_iff.1 hy
   exact⟨z,h1,h2.symm⟩
  obtain⟨z1,z2⟩:=z
  obtain⟨q1,q2,q3⟩:=hYg _ (List.mem_of_getElem? hz)
  dsimp only at q1 q2 q3
  obtain⟨f,hf⟩:∃ f,d.feeds[z1]? = some f:=aa (by rw[hd.lenF];exact q1)
  have hpk:pc[k]? = some (f,z2):=by rw[←hpc];simp[ve,hz,List.getD,hf]
  have hlf:=hd.lenF
  have hmx:=hd.maxP
  have w1:=hd.w1
  have w2:=hd.w2
  have w3:=hd.w3
  have w4:=hd.w4
  have w5:=hd.w5
  have q4:z1 < d.feeds.length:=by omega
  have hf2:d.feeds[z1]=f:=by rw[List.getElem?_eq_getElem q4]at hf;exact Option.some.inj hf
  have j1:=yD (pc.take k) [(f,z2)] (by
   refine⟨?_,fun p hp=>?_⟩
   ·have:pc.length=Y.length:=by rw[←hpc];simp[ve]
    have h3:=jc node true 0 d.ports d.prates
    rw[hY]at h3
    simp;omega
   ·rcases List.mem_append.1 hp with hp|hp
    ·have hp:=List.mem_of_mem_take hp
     rw[←hpc]at hp
     obtain⟨y,hy,rfl⟩:=List.mem_map.1 hp
     have:=hYg y hy
     dsimp only;omega
    ·simp at hp;subst hp;dsimp only;omega) (by simp;omega)
  have e1:pc.take k++[(f,z2)]=pc.take (k+1):=by
   obtain⟨hk,e⟩:=List.getElem?_eq_some_iff.1 hpk
   rw[List.take_succ_eq_append_getElem hk,e]
  rw[e1]at j1
  refine⟨[(0,0),(1,1),(2,2),(3,3),(4,102),(5,105),(6,510),(1000,511)],[(2,.pt 4 [] 0),(5,.pt 5 [] 0)],
   [(0,dB d.net d.plan (.sl 1 (d.feeds.map aC)) order),(1,aT fi),(2,aT gi),(3,aT oo),(4,.box 159 (.pt 0 [] 0)),(5,.box 89 (.own 6)),(6,gP (Pc.join (pc.take k)))],
   [(0,dB d.net d.plan (.sl 1 (d.feeds.map aC)) order),(1,aT fi),(2,aT gi),(3,aT oo),(4,.box 159 (.pt 0 [] 0)),(5,.box 89 (.own 1000)),(1000,gP (Pc.join (pc.take (k+1))))],
   [(0,some 0),(1,some 1),(2,some 2),(3,some 3),(102,some 102),(105,some 105),(510,some 511),(500,some 500),(501,some 501),(502,some 502)],?_⟩
  refine⟨by kernel_rfl,?_,?_,rfl,by kernel_rfl,?_,?_⟩
  ·exact dY
  ·simp[go_sem,↓iO,iO,tN,ku,S.ren]
  ·simp[go_sem,↓iO,iO,tN,Cd,dF,hf,w1,w2,w3,w4,w5,q4]
   repeat (refine ba ?_)
   refine aY.fn (j1) [(0,6),(1000,600)] [124] [] (by kernel_rfl) ?_ ?_ ?_ (Or.inr ⟨?_,?_⟩) ?_<;>simp[go_sem,↓iO,iO,tN,w1,w2,w3,w4,w5,hf,hf2]
   repeat (refine ba ?_)
   try (refine⟨aZ,?_⟩)
   refine⟨[(0,some 0),(1,some 1),(2,some 2),(3,some 3),(4,some 4),(5,some 5),(1000,some 600)],?_⟩
   exact dY
  ·exact dY
 ·have hpl:(Y.map dF).length=pc.length:=by rw[←hpc];simp[ve]
  rw[hpl]
  simp[go_sem,↓iO,iO,tN,List.take_length]
  refine ah ?_
  refine ax (lZ d.net d.plan (.sl 1 (d.feeds.map aC)) order fi gi oo node true) [(0,0),(1,1),(2,2),(3,3),(1000,520),(1001,521),(1002,522)] ?_
  refine oP ?_
  refine CW.rangeF (N:=41) [(0,.pt 0 [] 0),(1,.t (.int node)),(2,.pt 102 [] 0),(5,.pt 105 [] 0),(28,.fn 265 [.pt 520 [] 0,.pt 521 [] 0,.pt 522 [] 0])]
   (fun k=>[(0,dB d.net d.plan (.sl 1 (d.feeds.map aC)) order),(1,aT fi),(2,aT gi),(3,aT oo),(102,.box 159 (.pt 0 [] 0)),(105,.box 89 (.own 510)),(510,gP (Pc.join (pc++(Z.take k).flatMap (gJ gi)))),(520,.box 159 (.pt 0 [] 0)),(521,.box 4 (.t (.bool true))),(522,.box 3 (.t (.int node)))])
   [(0,some 0),(1,some 1),(2,some 2),(3,some 3),(102,some 102),(105,some 105),(510,some 510),(520,some 520),(521,some 521),(522,some 522)]
   (eJ 520 521 522 0 (.t (.bool true)) (.t (.int node)) 4 3 d.net d.plan [.t (.sl 1 (d.feeds.map aC)),.t order,.own 1,.own 2,.own 3]) (Z.map dF)
   [(0,some 0),(1,some 1),(2,some 2),(3,some 3),(102,some 102),(105,some 105),(510,some 510),(520,some 520),(521,some 521),(522,some 522)]
   ?_ rfl (by kernel_rfl) (by kernel_rfl) (by kernel_rfl) (by kernel_rfl) (by kernel_rfl) (by kernel_rfl) (by kernel_rfl) ?_ ?_ ?_ rfl ?_ ?_ ?_
  ·exact dY
  ·intro y hy
   obtain⟨z,_,rfl⟩:=List.mem_map.1 hy
   rfl
  ·intro y hy v hv
   obtain⟨z,_,rfl⟩:=List.mem_map.1 hy
   simp[dF]at hv
   rcases hv with rfl|rfl<;>rfl
  ·rw[←hZ]
   exact qx 520 521 522 0 rfl node true d.nodes (.sl 3 (d.ports.map dO)) d.stat d.segs d.vap d.stl (.sl 1 (d.prates.map aC)) d.pumps d.rates _ hd.w1 rfl hd.w2 hd.w3 hd.w4 hd.lenR hd.neS hd.maxS (fun r hr=>by have:=hd.bR r hr;omega)
  ·intro k hk
   simp[go_sem,↓iO,iO,tN,eJ]
   rfl
  ·intro k y hy
   obtain⟨z,hz,rfl⟩:∃ z,Z[k]? = some z∧y=dF z:=by
    rw[List.getElem?_map]at hy
    obtain⟨z,h1,h2⟩:=Option.map_eq_some_iff.1 hy
    exact⟨z,h1,h2.symm⟩
   obtain⟨q1,q2⟩:=hZg _ (List.mem_of_getElem? hz)
   have hnz:=hnz _ (List.mem_of_getElem? hz)
   obtain⟨o,ho⟩:∃ o,gi[z.1]? = some o:=aa (by rw[hg];exact q1)
   have hgv:gJ gi z=o.getD []:=by unfold gJ;rw[List.getD_eq_getElem?_getD,ho];rfl
   have e1:(Z.take (k+1)).flatMap (gJ gi)=(Z.take k).flatMap (gJ gi)++gJ gi z:=by
    obtain⟨hk,e⟩:=List.getElem?_eq_some_iff.1 hz
    rw[List.take_succ_eq_append_getElem hk,e,List.flatMap_append];simp
   obtain⟨z1,z2⟩:=z
   dsimp only at q1 q2 ho
   have j1:=yD (pc++(Z.take k).flatMap (gJ gi)) (gJ gi (z1,z2)) (by
    have h3:pc++Z.flatMap (gJ gi)=(pc++(Z.take k).flatMap (gJ gi))++gJ gi (z1,z2)++(Z.drop (k+1)).flatMap (gJ gi):=by
     rw[List.append_assoc pc,←e1,List.append_assoc,←List.flatMap_append,List.take_append_drop]
    rw[h3]at hS
    exact⟨by have:=hS.len;simp only[List.length_append]at this ⊢;omega,fun p hp=>hS.each p (List.mem_append_left _ hp)⟩) hnz
   rw[List.append_assoc,←e1]at j1
   rw[hgv]at j1
   have w1:=hd.w1
   have w2:=hd.w2
   have w3:=hd.w3
   have w4:=hd.w4
   have w5:=hd.w5
   have hmx:=hd.maxS
   have q4:z1 < gi.length:=by omega
   have hf2:gi[z1]=o:=by rw[List.getElem?_eq_getElem q4]at ho;exact Option.some.inj ho
   refine⟨[(0,0),(1,1),(2,2),(3,3),(4,102),(5,105),(6,510),(1000,511)],[(2,.pt 4 [] 0),(5,.pt 5 [] 0)],
    [(0,dB d.net d.plan (.sl 1 (d.feeds.map aC)) order),(1,aT fi),(2,aT gi),(3,aT oo),(4,.box 159 (.pt 0 [] 0)),(5,.box 89 (.own 6)),(6,gP (Pc.join (pc++(Z.take k).flatMap (gJ gi))))],
    [(0,dB d.net d.plan (.sl 1 (d.feeds.map aC)) order),(1,aT fi),(2,aT gi),(3,aT oo),(4,.box 159 (.pt 0 [] 0)),(5,.box 89 (.own 1000)),(1000,gP (Pc.join (pc++(Z.take (k+1)).flatMap (gJ gi))))],
    [(0,some 0),(1,some 1),(2,some 2),(3,some 3),(102,some 102),(105,some 105),(510,some 511),(520,some 520),(521,some 521),(522,some 522)],?_⟩
   refine⟨by kernel_rfl,?_,?_,rfl,by kernel_rfl,?_,?_⟩
   ·exact dY
   ·simp[go_sem,↓iO,iO,tN,ku,S.ren]
   ·obtain⟨J,hJ⟩:∃ J,Pc.join (pc++(Z.take k).flatMap (gJ gi))=J:=⟨_,rfl⟩
    obtain⟨J2,hJ2⟩:∃ J2,Pc.join (pc++(Z.take (k+1)).flatMap (gJ gi))=J2:=⟨_,rfl⟩
    rw[hJ,hJ2]at j1
    rw[hJ,hJ2]
    cases o with
    | none=>
     simp[go_sem,↓iO,iO,tN,Cd,dF,ho,w1,w2,w3,w4,w5,w6,q4,hf2,bK,cH]
     repeat (refine ba ?_)
     refine aY.fn (j1) [(0,6),(1000,600)] [] [] (by kernel_rfl) ?_ ?_ ?_ (Or.inl rfl) ?_<;>simp[go_sem,↓iO,iO,tN,w1,w2,w3,w4,w5,w6,ho,hf2]
     repeat (refine ba ?_)
     try (refine⟨aZ,?_⟩)
     refine⟨[(0,some 0),(1,some 1),(2,some 2),(3,some 3),(4,some 4),(5,some 5),(1000,some 600)],?_⟩
     exact dY
    | some l=>
     simp[go_sem,↓iO,iO,tN,Cd,dF,ho,w1,w2,w3,w4,w5,w6,q4,hf2,bK,cH]
     repeat (refine ba ?_)
     refine aY.fn (j1) [(0,6),(1000,600)] [] [] (by kernel_rfl) ?_ ?_ ?_ (Or.inl rfl) ?_<;>simp[go_sem,↓iO,iO,tN,w1,w2,w3,w4,w5,w6,ho,hf2]
     repeat (refine ba ?_)
     try (refine⟨aZ,?_⟩)
     refine⟨[(0,some 0),(1,some 1),(2,some 2),(3,some 3),(4,some 4),(5,some 5),(1000,some 600)],?_⟩
     exact dY
   ·exact dY
  ·have hpl:(Z.map dF).length=Z.length:=by simp
   rw[hpl]
   simp[go_sem,↓iO,iO,tN,List.take_length]
   refine ah ?_
   exact aF [(0,some 0),(1,some 1),(2,some 2),(3,some 3),(1000,some 510)]
theorem j8 (l:List (Int×Int)) (hl:l.length≤1000000):aj Tryz.prog 144 [.t (aU l)] [] (.own 1000) [(1000,gP l)]:=by
 refine nI Tryz.func144 rfl Tryz.ntmps144 ?_
 iterate 1 (refine af rfl ?_;simp[go_sem,↓iO,iO,tN];(repeat (refine ba ?_));try (refine⟨aZ,?_⟩))
 refine CW.seq (CW.seq (CW.nilTest (k:=2) (xs:=l.map eI) (e:=88) (by simp[go_sem]) (by simp[go_sem]) ?_ ?_))
 ·intro hx
  have hx:l=[]:=by simpa using hx
  simp[go_sem,↓iO,iO,tN]
  refine ah ?_
  exact l9 hx [(1000,none)]
 ·simp[go_sem,↓iO,iO,tN]
  refine ah ?_
  exact aF [(1000,some 107)]
theorem II (l:List (Int×Int)) (k:Int) (h:Pc.jd l) (hk:0≤k) (hk2:k≤1000000000000):aj Tryz.prog 293 [.t (aU l),.t (.int k)] [] (.tup [.own 1000,.own 1001])
  [(1000,gP (Pc.join (Pc.dp l k))),(1001,gP (Pc.join (Pc.dq l k)))]:=by
 have hlen:=h.len
 refine nI Tryz.func293 rfl Tryz.ntmps293 ?_
 refine ah ?_
 refine ax (j8 l (by omega)) [(1000,111)] ?_
 refine ax (j8 l (by omega)) [(1000,113)] ?_
 refine ah ?_
 refine oP ?_
 refine CW.loop (ι:=Nat) (fun i=>⟨[(6,.own 500),(7,.own 501),(1,.t (.int (Pc.rest (l.take i) k))),(14,.t (aU l)),(15,.t (.int l.length)),(16,.t (.int i))],[(500,gP (Pc.dp (l.take i) k++l.drop i)),(501,gP (Pc.dq (l.take i) k++l.drop i))]⟩)
  (fun i=>i≤l.length) (fun i=>l.length - i) 0 [(500,some 111),(501,some 113)] (by omega) ?_ ?_
 ·simp[go_sem,↓iO,iO,tN,Pc.dp,Pc.dq,Pc.rest]
 intro i hi
 have hrr:=Pc.D0 (l.take i) (fun p hp=>((h.take i).each p hp).1) k hk
 by_cases hb:i < l.length
 ·obtain⟨p,hp⟩:=aa hb
  have hpv:=h.each p (au hp)
  have e1:=Pc.D5 k hp
  have e2:=Pc.Cu k hp
  have e3:=Pc.HD k hp
  have e4:=eu hp
  have l1:(Pc.dp (l.take i) k).length=i:=by rw[Pc.kU,List.length_take];omega
  have l2:(Pc.dq (l.take i) k).length=i:=by rw[Pc.kF,List.length_take];omega
  obtain⟨hd,hhd⟩:∃ x,x=Pc.dp (l.take i) k:=⟨_,rfl⟩
  obtain⟨tl,htl⟩:∃ x,x=Pc.dq (l.take i) k:=⟨_,rfl⟩
  obtain⟨r,hr⟩:∃ x,x=Pc.rest (l.take i) k:=⟨_,rfl⟩
  obtain⟨d,hdd⟩:∃ x,x=l.drop (i+1):=⟨_,rfl⟩
  rw[←hr]at e1 e2 e3 hrr
  rw[←hhd]at e1 l1
  rw[←htl]at e2 l2
  rw[←hdd]at e4
  have hdl:d.length=l.length - (i+1):=by rw[hdd,List.length_drop]
  have hm:0≤min p.2 r∧min p.2 r≤p.2∧min p.2 r≤r:=by omega
  repeat (first|(refine af rfl ?_;simp[go_sem,↓iO,iO,tN,hp,←hhd,←htl,←hr,e4,l1,l2])|refine ba ?_|refine⟨aZ,?_⟩|refine iP ?_|refine iN ?_)
  have hdm:(l.map eI).drop (i+1)=d.map eI:=by rw[hdd,List.map_drop]
  refine nX (i+1) [(500,some 500),(501,some 501)] ?_ ?_ ?_
  ·omega
  ·omega
  simp[go_sem,↓iO,iO,tN,e1,e2,e3,hdm]
 ·obtain rfl:i=l.length:=by omega
  refine ah ?_
  refine gj (qC (Pc.dp l k) (tH h hk)) [(1000,150)] [500] [] ?_
  refine gj (qC (Pc.dq l k) (uO h hk)) [(1000,152)] [501] [] ?_
  refine ah ?_
  exact aF [(1000,some 150),(1001,some 152)]
theorem AZ (p:Int×Int):aj Tryz.prog 262 [.t (eI p)] [] (.t (.bool (decide (Lit p)))) []:=by
 refine nI Tryz.func262 rfl Tryz.ntmps262 ?_
 by_cases h1:0≤p.1
 ·by_cases h2:p.1 < 1000
  ·by_cases h3:0≤p.2
   ·by_cases h4:p.2≤1000000
    ·refine ah ?_
     first|rw[av]|rw[ae]
     refine⟨[],?_⟩
     simp[go_sem,↓iO,iO,tN,h1,h2,h3,h4]
    ·refine ah ?_
     first|rw[av]|rw[ae]
     refine⟨[],?_⟩
     simp[go_sem,↓iO,iO,tN,h1,h2,h3,h4]
   ·refine ah ?_
    exact ff3 h1 h2 h3 []
  ·refine ah ?_
   exact BJ h1 h2 []
 ·refine ah ?_
  exact l9 h1 []
theorem o7 (l:List (Int×Int)) (h:Pc.jd l):aj Tryz.prog 263 [.t (aU l)] [] (.t (.int (Pc.bN l))) []:=by
 have hlen:=h.len
 refine nI Tryz.func263 rfl Tryz.ntmps263 ?_
 refine ah ?_
 refine oP ?_
 refine CW.loop (ι:=Nat) (fun k=>⟨[(3,.t (.int (Pc.bN (l.take k)))),(6,.t (aU l)),(7,.t (.int l.length)),(8,.t (.int k))],[]⟩) (fun k=>k≤l.length) (fun k=>l.length - k) 0 [] (by omega) ?_ ?_
 ·simp[go_sem,↓iO,iO,tN,Pc.bN]
 intro k hk
 by_cases hb:k < l.length
 ·obtain⟨p,hp⟩:=aa hb
  have hs:=Pc.lT hp
  have hv:=(h.take k).bN
  have hpv:=h.each p (au hp)
  refine aJ hp ?_
  exact nX (k+1) [] (by omega) (by omega) (dJ hs)
 ·obtain rfl:k=l.length:=by omega
  refine ah ?_
  first|rw[av]|rw[ae]
  refine⟨[],?_⟩
  simp[go_sem,↓iO,iO,tN,List.take_length]
theorem kl (p:Int×Int) (b:Bool) (h:decide (Lit p)=b):aj Tryz.prog 262 [.t (eI p)] [] (.t (.bool b)) []:=h ▸ AZ p
theorem Dm {l:List (Int×Int)} (h:l.length≤200) (ho:∀ i,i < l.length→Pc.vB l i):Pc.jd l:=by
 refine⟨by omega,fun p hp=>?_⟩
 obtain⟨i,hi⟩:=List.getElem?_of_mem hp
 have:=(ho i (List.getElem?_eq_some_iff.1 hi).1 p hi).1
 omega
theorem F6 {l:List (Int×Int)} {k:Nat} (h:∀ i,i < k→Pc.vB l i) (hk:Pc.vB l k):∀ i,i < k+1→Pc.vB l i:=fun i hi=>by
 rcases Nat.lt_or_ge i k with h1|h1
 ·exact h i h1
 ·obtain rfl:i=k:=by omega
  exact hk
theorem Ge (l:List (Int×Int)) (hl:l.length≤1000000):aj Tryz.prog 216 [.t (aU l)] [] (.t (.bool (Pc.valid l))) []:=by
 refine nI Tryz.func216 rfl Tryz.ntmps216 ?_
 by_cases h2:l.length≤200
 ·refine ah ?_
  refine oP ?_
  refine lP (ι:=Nat) (fun k=>⟨[(0,.t (aU l)),(8,.t (aU l)),(9,.t (.int l.length)),(10,.t (.int k))],[]⟩) (fun k=>k≤l.length∧∀ i,i < k→Pc.vB l i) (fun k=>l.length - k) 0 [] ⟨by omega,fun i hi=>absurd hi (by omega)⟩ ?_
  rintro k ⟨hk,ho⟩
  by_cases hb:k < l.length
  ·obtain⟨p,hp⟩:=aa hb
   by_cases hL:Lit p
   ·by_cases hz:p.2=0
    ·have hn:Pc.valid l=false:=Pc.oB fun h=>by have:=(h.ok k hb p hp).1;omega
     refine aJ hp ?_
     refine dr hp (kl p true (decide_eq_true hL)) [] ?_
     refine c9 hp hz ?_
     exact l9 hn []
    ·rcases k with _|j
     ·have hok:Pc.vB l 0:=fun x hx=>by
       rw[hp]at hx;obtain rfl:=Option.some.inj hx
       exact⟨by omega,fun _ h0=>by omega⟩
      refine aJ hp ?_
      refine dr hp (kl p true (decide_eq_true hL)) [] ?_
      refine c9 hp hz ?_
      refine nX 1 [] ?_ ?_ ?_
      ·exact⟨by omega,F6 ho hok⟩
      ·omega
      exact dY
     ·obtain⟨q,hq⟩:=aa (show j < l.length by omega)
      by_cases he:q.1=p.1
      ·have hn:Pc.valid l=false:=Pc.oB fun h=>(h.ok (j+1) hb p hp).2 q (by omega) hq he
       refine c9 hp hq ?_
       refine lf hp hq (kl p true (decide_eq_true hL)) [] ?_
       refine lO hp hz hq he ?_
       exact l9 hn []
      ·have hok:Pc.vB l (j+1):=fun x hx=>by
        rw[hp]at hx;obtain rfl:=Option.some.inj hx
        refine⟨by omega,fun y _ hy=>?_⟩
        rw[Nat.add_sub_cancel,hq]at hy;obtain rfl:=Option.some.inj hy
        exact he
       refine c9 hp hq ?_
       refine lf hp hq (kl p true (decide_eq_true hL)) [] ?_
       refine lO hp hz hq he ?_
       refine nX (j+1+1) [] ?_ ?_ ?_
       ·exact⟨by omega,F6 ho hok⟩
       ·omega
       exact dY
   ·have hn:Pc.valid l=false:=Pc.oB fun h=>hL (by have:=(h.ok k hb p hp).1;omega)
    refine aJ hp ?_
    refine dr hp (kl p false (decide_eq_false hL)) [] ?_
    refine aJ hp ?_
    exact l9 hn []
  ·obtain rfl:k=l.length:=by omega
   have hs:=Dm h2 ho
   have hv:Pc.valid l=decide (Pc.bN l≤1000000):=by
    by_cases h:Pc.bN l≤1000000
    ·rw[Pc.iq ⟨h2,ho,h⟩,decide_eq_true h]
    ·rw[Pc.oB fun hh=>h hh.bN,decide_eq_false h]
   refine ah ?_
   refine ax (o7 l hs) [] ?_
   refine ah ?_
   exact l9 hv []
 ·have hn:Pc.valid l=false:=Pc.oB fun h=>h2 h.len
  refine ah ?_
  exact l9 hn []
theorem fC (l:List (Int×Int)) (hl:l.length≤1000000) (b:Bool) (h:Pc.valid l=b):aj Tryz.prog 216 [.t (aU l)] [] (.t (.bool b)) []:=h ▸ Ge l hl
theorem zU {f g:List (Int×Int)} {back:Bool} (h:¬ (Pc.valid f=true∧Pc.valid g=true)):Pc.push f g back=([],[],9):=by
 unfold Pc.push;rw[if_neg h]
theorem mT {f g:List (Int×Int)} {back:Bool} (h1:Pc.valid f=true) (h2:Pc.valid g=true) (h:¬ ((Pc.shift f g back).1.length≤200∧(Pc.shift f g back).2.length≤200)):Pc.push f g back=([],[],4):=by
 unfold Pc.push;rw[if_pos ⟨h1,h2⟩,if_neg h]
theorem sH {f g:List (Int×Int)} {back:Bool} (h1:Pc.valid f=true) (h2:Pc.valid g=true) (h:(Pc.shift f g back).1.length≤200∧(Pc.shift f g back).2.length≤200):Pc.push f g back=((Pc.shift f g back).1,(Pc.shift f g back).2,0):=by
 unfold Pc.push;rw[if_pos ⟨h1,h2⟩,if_pos h]
theorem pz {f g:List (Int×Int)} (h1:Pc.Vd f) (h2:Pc.Vd g):Pc.jd (f++g):=by
 refine⟨by rw[List.length_append];have:=h1.len;have:=h2.len;omega,fun p hp=>?_⟩
 rcases List.mem_append.1 hp with hp|hp
 ·exact h1.sane.each p hp
 ·exact h2.sane.each p hp
theorem EW (f g:List (Int×Int)) (back:Bool) (hf:f.length≤1000000) (hg:g.length≤1000000):aj Tryz.prog 271 [.t (aU f),.t (aU g),.t (.bool back)] []
  (.tup [.own 1000,.own 1001,.t (.int (Pc.push f g back).2.2)]) [(1000,gP (Pc.push f g back).1),(1001,gP (Pc.push f g back).2.1)]:=by
 refine nI Tryz.func271 rfl Tryz.ntmps271 ?_
 by_cases vf:Pc.valid f=true
 ·by_cases vg:Pc.valid g=true
  ·have hvf:=(Pc.du.1 vf).sane.bN
   have hvg:=(Pc.du.1 vg).sane.bN
   have hlf:=(Pc.du.1 vf).len
   have hlg:=(Pc.du.1 vg).len
   have s1:=pz (Pc.du.1 vf) (Pc.du.1 vg)
   have s2:=pz (Pc.du.1 vg) (Pc.du.1 vf)
   refine ah ?_
   refine ax (fC f hf true vf) [] ?_
   refine ax (fC g hg true vg) [] ?_
   refine ah ?_
   cases back with
   | true=>
    have hsh:Pc.shift f g true=(Pc.join (Pc.dq (f++g) (Pc.bN g)),Pc.join (Pc.dp (f++g) (Pc.bN g))):=rfl
    refine ah ?_
    refine ax (j8 f hf) [(1000,622)] ?_
    refine ax (o7 g (Pc.du.1 vg).sane) [] ?_
    refine gj (II (f++g) (Pc.bN g) s1 hvg.1 (by omega)) [(1000,600),(1001,601)] [124] [] ?_
    by_cases hA:(Pc.join (Pc.dq (f++g) (Pc.bN g))).length≤200
    ·by_cases hB:(Pc.join (Pc.dp (f++g) (Pc.bN g))).length≤200
     ·have hp:=sH (back:=true) vf vg (by rw[hsh];exact⟨hA,hB⟩)
      rw[hsh]at hp
      refine ah ?_
      exact l9 hp [(1000,some 601),(1001,some 600)]
     ·have hp:=mT (back:=true) vf vg (by rw[hsh];exact fun h=>hB h.2)
      refine ah ?_
      exact l9 hp [(1000,none),(1001,none)]
    ·have hp:=mT (back:=true) vf vg (by rw[hsh];exact fun h=>hA h.1)
     refine ah ?_
     try rw[if_pos (by omega)]
     refine ah ?_
     exact l9 hp [(1000,none),(1001,none)]
   | false=>
    have hsh:Pc.shift f g false=(Pc.join (Pc.dp (g++f) (Pc.bN f)),Pc.join (Pc.dq (g++f) (Pc.bN f))):=rfl
    refine ah ?_
    refine ax (j8 g hg) [(1000,622)] ?_
    refine ax (o7 f (Pc.du.1 vf).sane) [] ?_
    refine gj (II (g++f) (Pc.bN f) s2 hvf.1 (by omega)) [(1000,600),(1001,601)] [134] [] ?_
    by_cases hA:(Pc.join (Pc.dp (g++f) (Pc.bN f))).length≤200
    ·by_cases hB:(Pc.join (Pc.dq (g++f) (Pc.bN f))).length≤200
     ·have hp:=sH (back:=false) vf vg (by rw[hsh];exact⟨hA,hB⟩)
      rw[hsh]at hp
      refine ah ?_
      exact l9 hp [(1000,some 600),(1001,some 601)]
     ·have hp:=mT (back:=false) vf vg (by rw[hsh];exact fun h=>hB h.2)
      refine ah ?_
      exact l9 hp [(1000,none),(1001,none)]
    ·have hp:=mT (back:=false) vf vg (by rw[hsh];exact fun h=>hA h.1)
     refine ah ?_
     try rw[if_pos (by omega)]
     refine ah ?_
     exact l9 hp [(1000,none),(1001,none)]
  ·have vg':Pc.valid g=false:=by simpa using vg
   have hp:=zU (back:=back) (fun h=>vg h.2:¬ (Pc.valid f=true∧Pc.valid g=true))
   refine ah ?_
   refine ax (fC f hf true vf) [] ?_
   refine ax (fC g hg false vg') [] ?_
   refine ah ?_
   exact l9 hp [(1000,none),(1001,none)]
 ·have vf':Pc.valid f=false:=by simpa using vf
  have hp:=zU (back:=back) (fun h=>vf h.1:¬ (Pc.valid f=true∧Pc.valid g=true))
  refine ah ?_
  refine ax (fC f hf false vf') [] ?_
  refine ah ?_
  exact l9 hp [(1000,none),(1001,none)]
def ru {α:Type} (l:List α) (k:Nat):List α:=(l.reverse.take k++(l.drop k).take (l.length - 2 * k))++l.reverse.drop (l.length - k)
theorem mC {α:Type} {l:List α} {k i:Nat} (hk:2 * k≤l.length) (hi:i < l.length):(ru l k)[i]? = if i < k∨l.length - k≤i then l.reverse[i]? else l[i]?:=by
 unfold ru
 have h1:(l.reverse.take k).length=k:=by rw[List.length_take,List.length_reverse];omega
 have h2:((l.drop k).take (l.length - 2 * k)).length=l.length - 2 * k:=by rw[List.length_take,List.length_drop];omega
 by_cases ha:i < k
 ·rw[if_pos (.inl ha),List.getElem?_append_left (by rw[List.length_append];omega),List.getElem?_append_left (by omega),List.getElem?_take,if_pos ha]
 ·by_cases hb:l.length - k≤i
  ·rw[if_pos (.inr hb),List.getElem?_append_right (by rw[List.length_append];omega),List.length_append,h1,h2,List.getElem?_drop]
   congr 1;omega
  ·rw[if_neg (by omega),List.getElem?_append_left (by rw[List.length_append];omega),List.getElem?_append_right (by omega),h1,List.getElem?_take,if_pos (by omega),List.getElem?_drop]
   congr 1;omega
theorem fI {α:Type} {l:List α} {k:Nat} (hk:2 * k≤l.length):(ru l k).length=l.length:=by
 unfold ru
 simp only[List.length_append,List.length_take,List.length_drop,List.length_reverse]
 omega
theorem LD {α:Type} (l:List α):∃ Y:Nat→List α,Y 0=l∧(∀ k,2 * k+1 < l.length→∃ p q,(Y k)[k]? = some p∧(Y k)[l.length - 1 - k]? = some q∧((Y k).set k q).set (l.length - 1 - k) p=Y (k+1))∧(∀ k,2 * k≤l.length→(Y k).length=l.length)∧∀ k,2 * k≤l.length→l.length≤2 * k+1→Y k=l.reverse:=by
 refine⟨ru l,?_,?_,fun k hk=>fI hk,?_⟩
 ·simp[ru]
 ·intro k hk
  obtain⟨p,hp⟩:=aa (l:=ru l k) (k:=k) (by rw[fI (by omega)];omega)
  obtain⟨q,hq⟩:=aa (l:=ru l k) (k:=l.length - 1 - k) (by rw[fI (by omega)];omega)
  refine⟨p,q,hp,hq,?_⟩
  rw[mC (by omega) (by omega),if_neg (by omega)]at hp hq
  apply List.ext_getElem?
  intro i
  by_cases hi:i < l.length
  ·rw[mC (by omega) hi,List.getElem?_set,List.length_set,fI (by omega)]
   by_cases e1:l.length - 1 - k=i
   ·rw[if_pos e1,if_pos (by omega),if_pos (by omega),List.getElem?_reverse hi,←hp]
    congr 1;omega
   ·rw[if_neg e1,List.getElem?_set,fI (by omega)]
    by_cases e2:k=i
    ·rw[if_pos e2,if_pos (by omega),if_pos (by omega),List.getElem?_reverse hi,←hq]
     congr 1;omega
    ·rw[if_neg e2,mC (by omega) hi]
     by_cases h3:i < k∨l.length - k≤i
     ·rw[if_pos h3,if_pos (by omega)]
     ·rw[if_neg h3,if_neg (by omega)]
  ·rw[List.getElem?_eq_none (by rw[List.length_set,List.length_set,fI (by omega)];omega),List.getElem?_eq_none (by rw[fI (by omega)];omega)]
 ·intro k h1 h2
  apply List.ext_getElem?
  intro i
  by_cases hi:i < l.length
  ·rw[mC h1 hi]
   by_cases h3:i < k∨l.length - k≤i
   ·rw[if_pos h3]
   ·rw[if_neg h3,List.getElem?_reverse hi]
    congr 1;omega
  ·rw[List.getElem?_eq_none (by rw[fI h1];omega),List.getElem?_eq_none (by rw[List.length_reverse];omega)]
theorem DD (l:List (Int×Int)) (hl:l.length≤1000000):aj Tryz.prog 292 [.own 0] [(0,gP l)] (.tup []) [(0,gP l.reverse)]:=by
 obtain⟨Y,y0,ys,yl,ye⟩:=LD l
 refine nI Tryz.func292 rfl Tryz.ntmps292 ?_
 refine ah ?_
 refine oP ?_
 refine CW.loop (ι:=Nat) (fun k=>⟨[(0,.own 0),(2,.t (.int k)),(3,.t (.int ((l.length:Int) - 1 - k)))],[(0,gP (Y k))]⟩) (fun k=>2 * k≤l.length) (fun k=>l.length - k) 0 [(0,some 0)] (by omega) ?_ ?_
 ·exact dJ y0
 intro k hk
 have hyl:=yl k hk
 by_cases hb:2 * k+1 < l.length
 ·obtain⟨p,q,hp,hq,hs⟩:=ys k hb
  obtain⟨V,hV⟩:∃ V,Y k=V:=⟨_,rfl⟩
  rw[hV]at hp hq hs hyl ⊢
  obtain⟨p1,p2⟩:=p
  obtain⟨q1,q2⟩:=q
  have e1:((l.length:Int) - 1 - k).toNat=l.length - 1 - k:=by omega
  have hq2:∀ X,((V.map eI).set k X)[l.length - 1 - k]? = some (.agg [.int q1,.int q2]):=fun X=>by
   rw[List.getElem?_set_ne (by omega),List.getElem?_map,hq];rfl
  have hs2:((V.map eI).set k (eI (q1,q2))).set (l.length - 1 - k) (eI (p1,p2))=(Y (k+1)).map eI:=by rw[←hs,List.map_set,List.map_set]
  simp only[eI]at hs2
  repeat (first|(refine af rfl ?_;simp[go_sem,↓iO,iO,tN,hp,hq,e1,↓hq2])|refine ba ?_|refine⟨aZ,?_⟩|refine iP ?_|refine iN ?_)
  refine nX (k+1) [(0,some 0)] ?_ ?_ ?_
  ·omega
  ·omega
  simp[go_sem,↓iO,iO,tN,hs2]
  omega
 ·have hy:=ye k hk (by omega)
  rw[hy]
  refine ah ?_
  exact aF [(0,some 0)]
theorem sQ (l:List (Int×Int)) (hl:l.length≤1000000):aj Tryz.prog 270 [.t (aU l)] [] (.own 1000) [(1000,gP l.reverse)]:=by
 have c1:=j8 l hl
 have c2:=DD l hl
 refine nI Tryz.func270 rfl Tryz.ntmps270 ?_
 refine ah ?_
 refine ax c1 [(1000,600)] ?_
 refine ah ?_
 refine ax c2 [(0,600)] ?_
 refine ah ?_
 exact aF [(1000,some 600)]
noncomputable def y9 (f l:List (Int×Int)) (back:Bool):List (Int×Int):=if back then (Pc.push f l true).2.1 else (Pc.push f l.reverse false).2.1.reverse
noncomputable def tW (f l:List (Int×Int)) (back:Bool):List (Int×Int):=if back then (Pc.push f l true).1 else (Pc.push f l.reverse false).1
noncomputable def wo (f l:List (Int×Int)) (back:Bool):Int:=if back then (Pc.push f l true).2.2 else (Pc.push f l.reverse false).2.2
theorem K9 (d:fk) (hd:ml d) (order:T) (w6:order.width=1) (fi gi oo:List (Option (List (Int×Int)))) (hg:gi.length=d.segs.length) (hfl:fi.length=d.segs.length) (s:Nat) (r:Int) (f l:List (Int×Int)) (hr:d.rates[s]? = some r) (hf:fi[s]? = some (some f))
  (hf6:f.length≤1000000) (hl6:l.length≤1000000) (ho6:(y9 f l (decide (r < 0))).length≤1000000) (he:wo f l (decide (r < 0))=0) :
  aj Tryz.prog 222 [.pt 0 [] 0,.t (.int s),.t (aU l)] [(0,dB d.net d.plan (.sl 1 (d.feeds.map aC)) order),(1,aT fi),(2,aT gi),(3,aT oo)]
   (.t (.int 0)) [(0,dB d.net d.plan (.sl 1 (d.feeds.map aC)) order),(1,aT (fi.set s (some (tW f l (decide (r < 0)))))),(2,aT (gi.set s (some (y9 f l (decide (r < 0)))))),(3,aT oo)]:=by
 have w1:=hd.w1
 have w2:=hd.w2
 have w3:=hd.w3
 have w4:=hd.w4
 have w5:=hd.w5
 have q1:s < d.rates.length:=(List.getElem?_eq_some_iff.1 hr).1
 have q2:s < fi.length:=(List.getElem?_eq_some_iff.1 hf).1
 have q3:s < gi.length:=by omega
 obtain⟨og,hgo⟩:∃ og,gi[s]? = some og:=aa q3
 have hmx:=hd.maxS
 have r2:d.rates[s]=r:=(List.getElem?_eq_some_iff.1 hr).2
 have f2:fi[s]=some f:=(List.getElem?_eq_some_iff.1 hf).2
 have hlr:=hd.lenR
 refine nI Tryz.func222 rfl Tryz.ntmps222 ?_
 by_cases hn:r < 0
 ·have e0:decide (r < 0)=true:=by simpa using hn
  rw[e0]at he ho6
  rw[e0]
  unfold y9 at ho6 ⊢
  unfold tW
  unfold wo at he
  simp only[if_true]at he ho6 ⊢
  have p1:=EW f l true hf6 hl6
  rw[he]at p1
  obtain⟨F',hF⟩:∃ F',(Pc.push f l true).1=F':=⟨_,rfl⟩
  obtain⟨O,hO⟩:∃ O,(Pc.push f l true).2.1=O:=⟨_,rfl⟩
  rw[hF,hO]at p1
  rw[hF,hO]
  repeat (first|(refine af rfl ?_;simp[go_sem,↓iO,iO,tN,hr,r2,hn,hf,f2,w1,w2,w3,w4,w5,w6,q1,q2,bK,cH])|refine ba ?_|refine⟨aZ,?_⟩|refine iP ?_|refine iN ?_)
  refine aY.fn (p1) [(1000,600),(1001,601)] [] [] (by kernel_rfl) ?_ ?_ ?_ (Or.inl rfl) ?_<;>simp[go_sem,↓iO,iO,tN,hr,r2,hn,hf,f2,w1,w2,w3,w4,w5,w6,q1,q2,bK,cH]
  repeat (refine ba ?_)
  try (refine⟨aZ,?_⟩)
  refine CW.weak (ρ:=[(0,some 0),(1,some 1),(2,some 2),(3,some 3)]) (σ':=⟨[(0,.pt 0 [] 0),(1,.t (.int s)),(7,.t (.bool true)),(8,.t (aU F')),(9,.t (aU O)),(10,.t (.int 0))],[(0,dB d.net d.plan (.sl 1 (d.feeds.map aC)) order),(1,aT fi),(2,aT gi),(3,aT oo)]⟩) ?_ ?_
  ·exact dY
  repeat (first|(refine af rfl ?_;simp[go_sem,↓iO,iO,tN,hr,r2,hn,hf,f2,w1,w2,w3,w4,w5,w6,q1,q2,q3,hgo,hg,hfl,bK,cH])|refine ba ?_|refine⟨aZ,?_⟩|refine iP ?_|refine iN ?_)
  refine⟨by cases og<;>rfl,?_⟩
  refine⟨aZ,?_⟩
  refine ah ?_
  first|rw[av]|rw[ae]
  refine⟨[(0,some 0),(1,some 1),(2,some 2),(3,some 3)],?_⟩
  simp[go_sem,↓iO,iO,tN,List.map_set]
 ·have e0:decide (r < 0)=false:=by simpa using hn
  rw[e0]at he ho6
  rw[e0]
  unfold y9 at ho6 ⊢
  unfold tW
  unfold wo at he
  simp only[if_false,Bool.false_eq_true]at he ho6 ⊢
  have p1:=EW f l.reverse false hf6 (by simpa using hl6)
  rw[he]at p1
  obtain⟨F',hF⟩:∃ F',(Pc.push f l.reverse false).1=F':=⟨_,rfl⟩
  obtain⟨O,hO⟩:∃ O,(Pc.push f l.reverse false).2.1=O:=⟨_,rfl⟩
  rw[hF,hO]at p1
  rw[hO]at ho6
  rw[hF,hO]
  have t1:=sQ l hl6
  obtain⟨L,hL⟩:∃ L,l.reverse=L:=⟨_,rfl⟩
  rw[hL]at p1 t1
  have t2:=sQ O (by simpa using ho6)
  obtain⟨O',hO'⟩:∃ O',O.reverse=O':=⟨_,rfl⟩
  rw[hO']at t2
  rw[hO']
  repeat (first|(refine af rfl ?_;simp[go_sem,↓iO,iO,tN,hr,r2,hn,hf,f2,w1,w2,w3,w4,w5,w6,q1,q2,bK,cH])|refine ba ?_|refine⟨aZ,?_⟩|refine iP ?_|refine iN ?_)
  refine aY.fn (t1) [(1000,600)] [] [] (by kernel_rfl) ?_ ?_ ?_ (Or.inl rfl) ?_<;>simp[go_sem,↓iO,iO,tN,hr,r2,hn]
  repeat (first|(refine af rfl ?_;simp[go_sem,↓iO,iO,tN,hr,r2,hn,hf,f2,w1,w2,w3,w4,w5,w6,q1,q2,bK,cH])|refine ba ?_|refine⟨aZ,?_⟩|refine iP ?_|refine iN ?_)
  refine aY.fn (p1) [(1000,601),(1001,602)] [600] [] (by kernel_rfl) ?_ ?_ ?_ (Or.inr ⟨?_,?_⟩) ?_<;>simp[go_sem,↓iO,iO,tN,hr,r2,hn,hf,f2,w1,w2,w3,w4,w5,w6,q1,q2,bK,cH]
  repeat (refine ba ?_)
  try (refine⟨aZ,?_⟩)
  refine aJ hn ?_
  refine gj t2 [(1000,603)] [602] [] ?_
  refine CW.weak (ρ:=[(0,some 0),(1,some 1),(2,some 2),(3,some 3)]) (σ':=⟨[(0,.pt 0 [] 0),(1,.t (.int s)),(7,.t (.bool false)),(8,.t (aU F')),(9,.t (aU O')),(10,.t (.int 0))],[(0,dB d.net d.plan (.sl 1 (d.feeds.map aC)) order),(1,aT fi),(2,aT gi),(3,aT oo)]⟩) ?_ ?_
  ·exact dY
  repeat (first|(refine af rfl ?_;simp[go_sem,↓iO,iO,tN,hr,r2,hn,hf,f2,w1,w2,w3,w4,w5,w6,q1,q2,q3,hgo,hg,hfl,bK,cH])|refine ba ?_|refine⟨aZ,?_⟩|refine iP ?_|refine iN ?_)
  refine⟨by cases og<;>rfl,?_⟩
  refine⟨aZ,?_⟩
  refine ah ?_
  first|rw[av]|rw[ae]
  refine⟨[(0,some 0),(1,some 1),(2,some 2),(3,some 3)],?_⟩
  simp[go_sem,↓iO,iO,tN,List.map_set]
@[go_sem] def gm (l:List Int):aA:=.list 3 1 (l.map aC)
end Go.Proofs.YtocndodilpimnaaGreat
namespace Go.Proofs.YtocndodilpimnaaGreat
open Go.RowKit Sy
open Go.IntWalk renaming iteOmega → iO, toNatUp → tN
@[go_sem] theorem qW:∀ l:List Int,T.widths (l.map aC)=l.length
 | []=>rfl
 | x :: r=>by simp[T.widths,aC,T.width,qW r];omega
@[go_sem] theorem Gd (n:Nat) (l:List Int):T.widths ((l.map aC).take n)=min n l.length:=by
 rw[←List.map_take,qW,List.length_take]
namespace Dl
def rt (r:List Int) (i:Nat):Int:=r.getD i 0
theorem DR {r:List Int} {i:Nat} {x:Int} (h:r[i]? = some x):rt r i=x:=by unfold rt;rw[List.getD_eq_getElem?_getD,h];rfl
theorem mi {r:List Int} {i:Nat} (h:i < r.length):r[i]? = some (rt r i):=by
 obtain⟨x,hx⟩:=aa h
 rw[hx,DR hx]
theorem vm {r z:List Int} {i:Nat} (h:i < r.length):rt (r++z) i=rt r i:=DR (by rw[List.getElem?_append_left h];exact mi h)
def nx (R C:List Int):Nat→Int
 | 0=>-1
 | k+1=>if 0 < rt R k∧(nx R C k < 0∨(rt C k+1) * rt R (nx R C k).toNat < (rt C (nx R C k).toNat+1) * rt R k) then k else nx R C k
theorem lv (R C:List Int):∀ k,-1≤nx R C k∧nx R C k < k
 | 0=>by simp[nx]
 | k+1=>by
  have:=lv R C k
  unfold nx
  split<;>omega
theorem KT {r z c y:List Int}:∀ {k:Nat},k≤r.length→k≤c.length→nx (r++z) (c++y) k=nx r c k
 | 0,_,_=>rfl
 | k+1,h1,h2=>by
  have ih:=KT (r:=r) (z:=z) (c:=c) (y:=y) (k:=k) (by omega) (by omega)
  have hr:=lv r c k
  unfold nx
  rw[ih,vm (by omega),vm (by omega)]
  by_cases h0:nx r c k < 0
  ·simp[h0]
  ·rw[vm (by omega),vm (by omega)]
end Dl
open Dl
@[go_sem] def Qz (n:Nat) (R C:List Int):T:=.agg [.int n,.agg (R.map aC),.agg (C.map aC)]
@[go_sem] def Gw (n:Nat) (R C:List Int):aA:=.box 313 (.t (Qz n R C))
structure NJ (n:Nat) (R C:List Int):Prop where
 r:R.length=64
 c:C.length=64
 n:n≤64
 rr:∀ x∈R,0≤x∧x≤1000
 cr:∀ x∈C,0≤x∧x≤1000000
theorem JT {a b A B:Int} (h1:0≤a) (h2:a≤A) (h3:0≤b) (h4:b≤B):0≤a * b∧a * b≤A * B:=
 ⟨Int.mul_nonneg h1 h3,Int.mul_le_mul h2 h4 h3 (by omega)⟩
theorem LC (n:Nat) (R C:List Int) (h:NJ n R C):aj Tryz.prog 269 [.pt 0 [] 0] [(0,Gw n R C)] (.t (.int (nx R C n))) [(0,Gw n R C)]:=by
 obtain⟨hR,hC,hn,hr,hc⟩:=h
 refine nI Tryz.func269 rfl Tryz.ntmps269 ?_
 refine ah ?_
 refine oP ?_
 refine CW.loop (ι:=Nat) (fun k=>⟨[(0,.pt 0 [] 0),(3,.t (.int (nx R C k))),(8,.t (.int n)),(9,.t (.int k))],[(0,Gw n R C)]⟩) (fun k=>k≤n) (fun k=>n - k) 0 [(0,some 0)] (by omega) ?_ ?_
 ·simp[go_sem,↓iO,iO,tN,nx]
 intro k hk
 have hx:=lv R C k
 by_cases hb:k < n
 ·have gr:=mi (r:=R) (i:=k) (by omega)
  have gc:=mi (r:=C) (i:=k) (by omega)
  have b1:=hr _ (au gr)
  have b2:=hc _ (au gc)
  have step:nx R C (k+1)=if 0 < rt R k∧(nx R C k < 0∨(rt C k+1) * rt R (nx R C k).toNat < (rt C (nx R C k).toNat+1) * rt R k) then (k:Int) else nx R C k:=rfl
  obtain⟨u,hu⟩:∃ u,rt R k=u:=⟨_,rfl⟩
  obtain⟨v,hv⟩:∃ v,rt C k=v:=⟨_,rfl⟩
  obtain⟨q,hq⟩:∃ q,nx R C k=q:=⟨_,rfl⟩
  rw[hu]at gr b1
  rw[hv]at gc b2
  rw[hu,hv,hq]at step
  rw[hq]at hx ⊢
  by_cases h1:0 < u
  ·by_cases h2:q < 0
   ·rw[if_pos ⟨h1,.inl h2⟩]at step
    refine c9 gr gc ?_
    exact nX (k+1) [(0,some 0)] (by omega) (by omega) (dJ step)
   ·obtain⟨j,rfl⟩:∃ j:Nat,q=(j:Int):=⟨q.toNat,by omega⟩
    rw[Int.toNat_natCast]at step
    have gr2:=mi (r:=R) (i:=j) (by omega)
    have gc2:=mi (r:=C) (i:=j) (by omega)
    have b3:=hr _ (au gr2)
    have b4:=hc _ (au gc2)
    obtain⟨y,hy⟩:∃ y,rt R j=y:=⟨_,rfl⟩
    obtain⟨z,hz⟩:∃ z,rt C j=z:=⟨_,rfl⟩
    rw[hy]at gr2 b3 step
    rw[hz]at gc2 b4 step
    have m1:=JT (a:=v+1) (A:=1000001) (b:=y) (B:=1000) (by omega) (by omega) (by omega) (by omega)
    have m2:=JT (a:=z+1) (A:=1000001) (b:=u) (B:=1000) (by omega) (by omega) (by omega) (by omega)
    obtain⟨p1,hp1⟩:∃ p,(v+1) * y=p:=⟨_,rfl⟩
    obtain⟨p2,hp2⟩:∃ p,(z+1) * u=p:=⟨_,rfl⟩
    rw[hp1]at m1 step
    rw[hp2]at m2 step
    by_cases h3:p1 < p2
    ·rw[if_pos ⟨h1,.inr h3⟩]at step
     refine JM gr gc gr2 gc2 hp1 hp2 ?_
     exact nX (k+1) [(0,some 0)] (by omega) (by omega) (dJ step)
    ·rw[if_neg (by omega)]at step
     refine JM gr gc gr2 gc2 hp1 hp2 ?_
     exact nX (k+1) [(0,some 0)] (by omega) (by omega) (dJ step)
  ·rw[if_neg (fun h=>h1 h.1)]at step
   refine c9 gr gc ?_
   exact nX (k+1) [(0,some 0)] (by omega) (by omega) (dJ step)
 ·obtain rfl:k=n:=by omega
  refine ah ?_
  exact aF [(0,some 0)]
end Go.Proofs.YtocndodilpimnaaGreat
