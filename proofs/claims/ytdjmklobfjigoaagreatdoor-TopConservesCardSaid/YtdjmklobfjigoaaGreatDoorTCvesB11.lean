import Derived.Test.YtdjmklobfjigoaaGreatDoorTCvesB10
import Derived.Test.YtdjmklobfjigoaaGreatDoorTCvesB8
set_option maxRecDepth 100000
set_option maxHeartbeats 16000000
set_option linter.unusedVariables false
set_option linter.unusedSimpArgs false
namespace Go.Proofs.YtdjmklobfjigoaaGreatDoor
open Go.RowKit Sy
open Go.IntWalk renaming iteOmega → iO, toNatUp → tN
attribute [go_sem] ThenB_normal EndQ_normal
structure LineD where
 nodes:T
 segs:List Sgm
 ports:List Prt
 stat:T
 vap:T
 stl:T
 rates:List Int
 prates:List Int
 pumps:T
 feeds:List Int
structure LineOk (d:LineD):Prop where
 w1:d.nodes.width=1
 w2:d.stat.width=1
 w3:d.vap.width=1
 w4:d.stl.width=1
 w5:d.pumps.width=1
 lenR:d.rates.length=d.segs.length
 lenP:d.prates.length=d.ports.length
 lenF:d.feeds.length=d.ports.length
 neS:d.segs≠[]
 neP:d.ports≠[]
 maxS:d.segs.length≤1000
 maxP:d.ports.length≤1000
 bR:∀ r∈d.rates,-1000000≤r∧r≤1000000
 bP:∀ r∈d.prates,-1000000≤r∧r≤1000000
 bF:∀ r∈d.feeds,-1000000≤r∧r≤1000000
@[go_sem] def LineD.net (d:LineD):List T:=[d.nodes,.sl 7 (d.segs.map encSg),.sl 3 (d.ports.map encPr),d.stat,d.vap,d.stl]
@[go_sem] def LineD.plan (d:LineD):List T:=[.sl 1 (d.rates.map encI),.sl 1 (d.prates.map encI),d.pumps]
theorem prtYs_get {node:Int} {inn:Bool}:∀ {ps:List Prt} {rs:List Int} {k:Nat} {y:Nat×Int},y∈prtYs node inn k ps rs→k≤y.1∧y.1 < k+ps.length∧0 < y.2∧∃ r∈rs,y.2=absI r
 | [],rs,k,y,h=>by simp[prtYs]at h
 | p :: ps,[],k,y,h=>by simp[prtYs]at h
 | p :: ps,r :: rs,k,y,h=>by
  simp only[prtYs]at h
  have go:y∈prtYs node inn (k+1) ps rs→k≤y.1∧y.1 < k+(p :: ps).length∧0 < y.2∧∃ r'∈r :: rs,y.2=absI r':=fun h=>by
   obtain⟨h1,h2,h3,r',h4,h5⟩:=prtYs_get h
   exact⟨by omega,by simp only[List.length_cons];omega,h3,r',by simp[h4],h5⟩
  split at h
  ·rename_i hc
   rcases List.mem_cons.1 h with rfl|h
   ·refine⟨Nat.le_refl _,by simp,?_,r,by simp,rfl⟩
    have:=hc.2.1
    simp only[absI];omega
   ·exact go h
  ·exact go h
theorem prtYs_len2 (node:Int) (inn:Bool):∀ (k:Nat) (ps:List Prt) (rs:List Int),(prtYs node inn k ps rs).length≤ps.length
 | k,[],rs=>by simp[prtYs]
 | k,p :: ps,[]=>by simp[prtYs]
 | k,p :: ps,r :: rs=>by
  have:=prtYs_len2 node inn (k+1) ps rs
  simp only[prtYs]
  split<;>simp<;>omega
def prtPc (feeds:List Int) (ys:List (Nat×Int)):List (Int×Int):=ys.map fun y=>(feeds.getD y.1 0,y.2)
theorem segYs_get {node:Int} {inn:Bool}:∀ {ps:List SegV} {rs:List Int} {k:Nat} {y:Nat×Int},y∈segYs node inn k ps rs→k≤y.1∧y.1 < k+ps.length∧0 < y.2∧∃ r∈rs,y.2=absI r
 | [],rs,k,y,h=>by simp[segYs]at h
 | p :: ps,[],k,y,h=>by simp[segYs]at h
 | p :: ps,r :: rs,k,y,h=>by
  simp only[segYs]at h
  have go:y∈segYs node inn (k+1) ps rs→k≤y.1∧y.1 < k+(p :: ps).length∧0 < y.2∧∃ r'∈r :: rs,y.2=absI r':=fun h=>by
   obtain⟨h1,h2,h3,r',h4,h5⟩:=segYs_get h
   exact⟨by omega,by simp only[List.length_cons];omega,h3,r',by simp[h4],h5⟩
  split at h
  ·rename_i hc
   rcases List.mem_cons.1 h with rfl|h
   ·refine⟨Nat.le_refl _,by simp,?_,r,by simp,rfl⟩
    have:=hc.1
    simp only[absI];omega
   ·exact go h
  ·exact go h
def gvAt (gi:List (Option (List (Int×Int)))) (z:Nat×Int):List (Int×Int):=(gi.getD z.1 none).getD []
def comesV (d:LineD) (gi:List (Option (List (Int×Int)))) (node:Int):List (Int×Int):=prtPc d.feeds (prtYs node true 0 d.ports d.prates)++(segYs node true 0 (d.segs.map (·.1)) d.rates).flatMap (gvAt gi)
theorem stream_fn (d:LineD) (hd:LineOk d) (order:T) (w6:order.width=1) (fi gi oo:List (Option (List (Int×Int)))) (node:Int) (hg:gi.length=d.segs.length) (hS:Pc.Sane (comesV d gi node)) (hnz:∀ z∈segYs node true 0 (d.segs.map (·.1)) d.rates,∀ p∈gvAt gi z,p.2≠0) :
  FnOk Tryz.prog 67 [.pt 0 [] 0,.t (.int node)] [(0,lineB d.net d.plan (.sl 1 (d.feeds.map encI)) order),(1,blkG fi),(2,blkG gi),(3,blkG oo)]
   (.own 1000) [(0,lineB d.net d.plan (.sl 1 (d.feeds.map encI)) order),(1,blkG fi),(2,blkG gi),(3,blkG oo),(1000,blkP (Pc.join (comesV d gi node)))]:=by
 unfold comesV at hS ⊢
 refine FnOk.intro fact_mixed Tryz.func67 rfl Tryz.ntmps67 (by rfl) (by simp) ?_
 repeat (first|(refine n1s rfl ?_;simp[go_sem,↓iO,iO,tN])|refine anI ?_|refine⟨dcK,?_⟩|refine iP ?_|refine iN ?_)
 refine cF (ports_fn d.net d.plan (.sl 1 (d.feeds.map encI)) order fi gi oo node true) [(0,0),(1,1),(2,2),(3,3),(1000,500),(1001,501),(1002,502)] ?_ ?_ ?_ ?_<;>simp[go_sem,↓iO,iO,tN]
 repeat (refine anI ?_)
 try (refine⟨dcK,?_⟩)
 refine nf1_sound' _ _ _ ?_;simp only[nf1]
 obtain⟨Y,hY⟩:∃ Y,prtYs node true 0 d.ports d.prates=Y:=⟨_,rfl⟩
 have hYg:∀ y∈Y,y.1 < d.ports.length∧0 < y.2∧y.2≤1000000:=fun y hy=>by
  rw[←hY]at hy
  obtain⟨h1,h2,h3,r,h4,h5⟩:=prtYs_get hy
  have:=hd.bP r h4
  unfold absI at h5
  exact⟨by omega,h3,by omega⟩
 obtain⟨pc,hpc⟩:∃ pc,prtPc d.feeds Y=pc:=⟨_,rfl⟩
 obtain⟨Z,hZ⟩:∃ Z,segYs node true 0 (d.segs.map (·.1)) d.rates=Z:=⟨_,rfl⟩
 have hZg:∀ z∈Z,z.1 < d.segs.length∧0 < z.2:=fun y hy=>by
  rw[←hZ]at hy
  obtain⟨h1,h2,h3,_⟩:=segYs_get hy
  exact⟨by simpa using h2,h3⟩
 rw[hY,hpc,hZ]at hS
 rw[hZ]at hnz
 rw[hY,hpc,hZ]
 refine CW.rangeF (N:=41) [(0,.pt 0 [] 0),(1,.t (.int node)),(2,.pt 102 [] 0),(5,.pt 105 [] 0),(11,.fn 98 [.pt 500 [] 0,.pt 501 [] 0,.pt 502 [] 0])]
  (fun k=>[(0,lineB d.net d.plan (.sl 1 (d.feeds.map encI)) order),(1,blkG fi),(2,blkG gi),(3,blkG oo),(102,.box 71 (.pt 0 [] 0)),(105,.box 41 (.own 510)),(510,blkP (Pc.join (pc.take k))),(500,.box 71 (.pt 0 [] 0)),(501,.box 3 (.t (.int node))),(502,.box 4 (.t (.bool true)))])
  [(0,some 0),(1,some 1),(2,some 2),(3,some 3),(102,some 102),(105,some 105),(510,none),(500,some 500),(501,some 501),(502,some 502)]
  (lineI 500 501 502 0 (.t (.int node)) (.t (.bool true)) 3 4 d.net d.plan [.t (.sl 1 (d.feeds.map encI)),.t order,.own 1,.own 2,.own 3]) (Y.map encY)
  [(0,some 0),(1,some 1),(2,some 2),(3,some 3),(102,some 102),(105,some 105),(510,some 510),(500,some 500),(501,some 501),(502,some 502)]
  ?_ rfl (by kernel_rfl) (by kernel_rfl) (by kernel_rfl) (by kernel_rfl) (by kernel_rfl) (by kernel_rfl) (by kernel_rfl) ?_ ?_ ?_ rfl ?_ ?_ ?_
 ·simp[go_sem,↓iO,iO,tN,Pc.join]
 ·intro y hy
  obtain⟨z,_,rfl⟩:=List.mem_map.1 hy
  rfl
 ·intro y hy v hv
  obtain⟨z,_,rfl⟩:=List.mem_map.1 hy
  simp[encY]at hv
  rcases hv with rfl|rfl<;>rfl
 ·rw[←hY]
  exact ports_iter 500 501 502 0 rfl node true d.nodes (.sl 7 (d.segs.map encSg)) d.stat d.ports d.vap d.stl (.sl 1 (d.rates.map encI)) d.pumps d.prates _ hd.w1 rfl rfl hd.w2 hd.w3 hd.w4 hd.lenP hd.neP hd.maxP (fun r hr=>by have:=hd.bP r hr;omega)
 ·intro k hk
  simp[go_sem,↓iO,iO,tN,lineI]
  rfl
 ·intro k y hy
  obtain⟨z,hz,rfl⟩:∃ z,Y[k]? = some z∧y=encY z:=by
   rw[List.getElem?_map]at hy
   obtain⟨z,h1,h2⟩:=Option.map_eq_some_iff.1 hy
   exact⟨z,h1,h2.symm⟩
  obtain⟨z1,z2⟩:=z
  obtain⟨q1,q2,q3⟩:=hYg _ (List.mem_of_getElem? hz)
  dsimp only at q1 q2 q3
  obtain⟨f,hf⟩:∃ f,d.feeds[z1]? = some f:=has_get (by rw[hd.lenF];exact q1)
  have hpk:pc[k]? = some (f,z2):=by rw[←hpc];simp[prtPc,hz,List.getD,hf]
  have hlf:=hd.lenF
  have hmx:=hd.maxP
  have w1:=hd.w1
  have w2:=hd.w2
  have w3:=hd.w3
  have w4:=hd.w4
  have w5:=hd.w5
  have q4:z1 < d.feeds.length:=by omega
  have hf2:d.feeds[z1]=f:=by rw[List.getElem?_eq_getElem q4]at hf;exact Option.some.inj hf
  have j1:=join_fn (pc.take k) [(f,z2)] (by
   refine⟨?_,fun p hp=>?_⟩
   ·have:pc.length=Y.length:=by rw[←hpc];simp[prtPc]
    have h3:=prtYs_len2 node true 0 d.ports d.prates
    rw[hY]at h3
    simp;omega
   ·rcases List.mem_append.1 hp with hp|hp
    ·have hp:=List.mem_of_mem_take hp
     rw[←hpc]at hp
     obtain⟨y,hy,rfl⟩:=List.mem_map.1 hp
     have:=hYg y hy
     dsimp only;omega
    ·simp at hp;subst hp;dsimp only;omega) (by simp;omega)
  have e1:pc.take k++[(f,z2)]=pc.take (k+1):=by
   obtain⟨hk,e⟩:=List.getElem?_eq_some_iff.1 hpk
   rw[List.take_succ_eq_append_getElem hk,e]
  rw[e1]at j1
  refine⟨[(0,0),(1,1),(2,2),(3,3),(4,102),(5,105),(6,510),(1000,511)],[(2,.pt 4 [] 0),(5,.pt 5 [] 0)],
   [(0,lineB d.net d.plan (.sl 1 (d.feeds.map encI)) order),(1,blkG fi),(2,blkG gi),(3,blkG oo),(4,.box 71 (.pt 0 [] 0)),(5,.box 41 (.own 6)),(6,blkP (Pc.join (pc.take k)))],
   [(0,lineB d.net d.plan (.sl 1 (d.feeds.map encI)) order),(1,blkG fi),(2,blkG gi),(3,blkG oo),(4,.box 71 (.pt 0 [] 0)),(5,.box 41 (.own 1000)),(1000,blkP (Pc.join (pc.take (k+1))))],
   [(0,some 0),(1,some 1),(2,some 2),(3,some 3),(102,some 102),(105,some 105),(510,some 511),(500,some 500),(501,some 501),(502,some 502)],?_⟩
  refine⟨by kernel_rfl,?_,?_,rfl,by kernel_rfl,?_,?_⟩
  ·simp[go_sem,↓iO,iO,tN]
  ·simp[go_sem,↓iO,iO,tN,slotsR,S.ren]
  ·simp[go_sem,↓iO,iO,tN,psS,encY,hf,w1,w2,w3,w4,w5,q4]
   repeat (refine anI ?_)
   refine CallK.fn (j1) [(0,6),(1000,600)] [124] [] (by kernel_rfl) ?_ ?_ ?_ (Or.inr ⟨?_,?_⟩) ?_<;>simp[go_sem,↓iO,iO,tN,w1,w2,w3,w4,w5,hf,hf2]
   repeat (refine anI ?_)
   try (refine⟨dcK,?_⟩)
   refine⟨[(0,some 0),(1,some 1),(2,some 2),(3,some 3),(4,some 4),(5,some 5),(1000,some 600)],?_⟩
   simp[go_sem,↓iO,iO,tN]
  ·simp[go_sem,↓iO,iO,tN]
 ·have hpl:(Y.map encY).length=pc.length:=by rw[←hpc];simp[prtPc]
  rw[hpl]
  simp[go_sem,↓iO,iO,tN,List.take_length]
  repeat (first|(refine n1s rfl ?_;simp[go_sem,↓iO,iO,tN])|refine anI ?_|refine⟨dcK,?_⟩|refine iP ?_|refine iN ?_)
  refine cF (segments_fn d.net d.plan (.sl 1 (d.feeds.map encI)) order fi gi oo node true) [(0,0),(1,1),(2,2),(3,3),(1000,520),(1001,521),(1002,522)] ?_ ?_ ?_ ?_<;>simp[go_sem,↓iO,iO,tN]
  repeat (refine anI ?_)
  try (refine⟨dcK,?_⟩)
  refine nf1_sound' _ _ _ ?_;simp only[nf1]
  refine CW.rangeF (N:=41) [(0,.pt 0 [] 0),(1,.t (.int node)),(2,.pt 102 [] 0),(5,.pt 105 [] 0),(28,.fn 99 [.pt 520 [] 0,.pt 521 [] 0,.pt 522 [] 0])]
   (fun k=>[(0,lineB d.net d.plan (.sl 1 (d.feeds.map encI)) order),(1,blkG fi),(2,blkG gi),(3,blkG oo),(102,.box 71 (.pt 0 [] 0)),(105,.box 41 (.own 510)),(510,blkP (Pc.join (pc++(Z.take k).flatMap (gvAt gi)))),(520,.box 71 (.pt 0 [] 0)),(521,.box 4 (.t (.bool true))),(522,.box 3 (.t (.int node)))])
   [(0,some 0),(1,some 1),(2,some 2),(3,some 3),(102,some 102),(105,some 105),(510,some 510),(520,some 520),(521,some 521),(522,some 522)]
   (lineI 520 521 522 0 (.t (.bool true)) (.t (.int node)) 4 3 d.net d.plan [.t (.sl 1 (d.feeds.map encI)),.t order,.own 1,.own 2,.own 3]) (Z.map encY)
   [(0,some 0),(1,some 1),(2,some 2),(3,some 3),(102,some 102),(105,some 105),(510,some 510),(520,some 520),(521,some 521),(522,some 522)]
   ?_ rfl (by kernel_rfl) (by kernel_rfl) (by kernel_rfl) (by kernel_rfl) (by kernel_rfl) (by kernel_rfl) (by kernel_rfl) ?_ ?_ ?_ rfl ?_ ?_ ?_
  ·simp[go_sem,↓iO,iO,tN]
  ·intro y hy
   obtain⟨z,_,rfl⟩:=List.mem_map.1 hy
   rfl
  ·intro y hy v hv
   obtain⟨z,_,rfl⟩:=List.mem_map.1 hy
   simp[encY]at hv
   rcases hv with rfl|rfl<;>rfl
  ·rw[←hZ]
   exact segs_iter 520 521 522 0 rfl node true d.nodes (.sl 3 (d.ports.map encPr)) d.stat d.segs d.vap d.stl (.sl 1 (d.prates.map encI)) d.pumps d.rates _ hd.w1 rfl hd.w2 hd.w3 hd.w4 hd.lenR hd.neS hd.maxS (fun r hr=>by have:=hd.bR r hr;omega)
  ·intro k hk
   simp[go_sem,↓iO,iO,tN,lineI]
   rfl
  ·intro k y hy
   obtain⟨z,hz,rfl⟩:∃ z,Z[k]? = some z∧y=encY z:=by
    rw[List.getElem?_map]at hy
    obtain⟨z,h1,h2⟩:=Option.map_eq_some_iff.1 hy
    exact⟨z,h1,h2.symm⟩
   obtain⟨q1,q2⟩:=hZg _ (List.mem_of_getElem? hz)
   have hnz:=hnz _ (List.mem_of_getElem? hz)
   obtain⟨o,ho⟩:∃ o,gi[z.1]? = some o:=has_get (by rw[hg];exact q1)
   have hgv:gvAt gi z=o.getD []:=by unfold gvAt;rw[List.getD_eq_getElem?_getD,ho];rfl
   have e1:(Z.take (k+1)).flatMap (gvAt gi)=(Z.take k).flatMap (gvAt gi)++gvAt gi z:=by
    obtain⟨hk,e⟩:=List.getElem?_eq_some_iff.1 hz
    rw[List.take_succ_eq_append_getElem hk,e,List.flatMap_append];simp
   obtain⟨z1,z2⟩:=z
   dsimp only at q1 q2 ho
   have j1:=join_fn (pc++(Z.take k).flatMap (gvAt gi)) (gvAt gi (z1,z2)) (by
    have h3:pc++Z.flatMap (gvAt gi)=(pc++(Z.take k).flatMap (gvAt gi))++gvAt gi (z1,z2)++(Z.drop (k+1)).flatMap (gvAt gi):=by
     rw[List.append_assoc pc,←e1,List.append_assoc,←List.flatMap_append,List.take_append_drop]
    rw[h3]at hS
    exact⟨by have:=hS.len;simp only[List.length_append]at this ⊢;omega,fun p hp=>hS.each p (List.mem_append_left _ hp)⟩) hnz
   rw[List.append_assoc,←e1]at j1
   rw[hgv]at j1
   have w1:=hd.w1
   have w2:=hd.w2
   have w3:=hd.w3
   have w4:=hd.w4
   have w5:=hd.w5
   have hmx:=hd.maxS
   have q4:z1 < gi.length:=by omega
   have hf2:gi[z1]=o:=by rw[List.getElem?_eq_getElem q4]at ho;exact Option.some.inj ho
   refine⟨[(0,0),(1,1),(2,2),(3,3),(4,102),(5,105),(6,510),(1000,511)],[(2,.pt 4 [] 0),(5,.pt 5 [] 0)],
    [(0,lineB d.net d.plan (.sl 1 (d.feeds.map encI)) order),(1,blkG fi),(2,blkG gi),(3,blkG oo),(4,.box 71 (.pt 0 [] 0)),(5,.box 41 (.own 6)),(6,blkP (Pc.join (pc++(Z.take k).flatMap (gvAt gi))))],
    [(0,lineB d.net d.plan (.sl 1 (d.feeds.map encI)) order),(1,blkG fi),(2,blkG gi),(3,blkG oo),(4,.box 71 (.pt 0 [] 0)),(5,.box 41 (.own 1000)),(1000,blkP (Pc.join (pc++(Z.take (k+1)).flatMap (gvAt gi))))],
    [(0,some 0),(1,some 1),(2,some 2),(3,some 3),(102,some 102),(105,some 105),(510,some 511),(520,some 520),(521,some 521),(522,some 522)],?_⟩
   refine⟨by kernel_rfl,?_,?_,rfl,by kernel_rfl,?_,?_⟩
   ·simp[go_sem,↓iO,iO,tN]
   ·simp[go_sem,↓iO,iO,tN,slotsR,S.ren]
   ·obtain⟨J,hJ⟩:∃ J,Pc.join (pc++(Z.take k).flatMap (gvAt gi))=J:=⟨_,rfl⟩
    obtain⟨J2,hJ2⟩:∃ J2,Pc.join (pc++(Z.take (k+1)).flatMap (gvAt gi))=J2:=⟨_,rfl⟩
    rw[hJ,hJ2]at j1
    rw[hJ,hJ2]
    cases o with
    | none=>
     simp[go_sem,↓iO,iO,tN,psS,encY,ho,w1,w2,w3,w4,w5,w6,q4,hf2,widths_gv,width_gv]
     repeat (refine anI ?_)
     refine cF (j1) [(0,6),(1000,600)] ?_ ?_ ?_ ?_<;>simp[go_sem,↓iO,iO,tN,w1,w2,w3,w4,w5,w6,ho,hf2]
     repeat (refine anI ?_)
     try (refine⟨dcK,?_⟩)
     refine⟨[(0,some 0),(1,some 1),(2,some 2),(3,some 3),(4,some 4),(5,some 5),(1000,some 600)],?_⟩
     simp[go_sem,↓iO,iO,tN]
    | some l=>
     simp[go_sem,↓iO,iO,tN,psS,encY,ho,w1,w2,w3,w4,w5,w6,q4,hf2,widths_gv,width_gv]
     repeat (refine anI ?_)
     refine cF (j1) [(0,6),(1000,600)] ?_ ?_ ?_ ?_<;>simp[go_sem,↓iO,iO,tN,w1,w2,w3,w4,w5,w6,ho,hf2]
     repeat (refine anI ?_)
     try (refine⟨dcK,?_⟩)
     refine⟨[(0,some 0),(1,some 1),(2,some 2),(3,some 3),(4,some 4),(5,some 5),(1000,some 600)],?_⟩
     simp[go_sem,↓iO,iO,tN]
   ·simp[go_sem,↓iO,iO,tN]
  ·have hpl:(Z.map encY).length=Z.length:=by simp
   rw[hpl]
   simp[go_sem,↓iO,iO,tN,List.take_length]
   repeat (first|(refine n1s rfl ?_;simp[go_sem,↓iO,iO,tN])|refine anI ?_|refine⟨dcK,?_⟩|refine iP ?_|refine iN ?_)
   first|rw[TqR]|rw[TqN]
   refine⟨[(0,some 0),(1,some 1),(2,some 2),(3,some 3),(1000,some 510)],?_⟩
   simp[go_sem,↓iO,iO,tN]
theorem clone_fn (l:List (Int×Int)) (hl:l.length≤1000000):FnOk Tryz.prog 37 [.t (encPs l)] [] (.own 1000) [(1000,blkP l)]:=by
 refine FnOk.intro fact_mixed Tryz.func37 rfl Tryz.ntmps37 (by rfl) (by simp) ?_
 iterate 1 (refine n1s rfl ?_;simp[go_sem,↓iO,iO,tN];(repeat (refine anI ?_));try (refine⟨dcK,?_⟩))
 refine CW.seq (CW.seq (CW.nilTest (k:=2) (xs:=l.map encP) (e:=40) (by simp[go_sem]) (by simp[go_sem]) ?_ ?_))
 ·intro hx
  have hx:l=[]:=by simpa using hx
  simp[go_sem,↓iO,iO,tN]
  repeat (first|(refine n1s rfl ?_;simp[go_sem,↓iO,iO,tN])|refine anI ?_|refine⟨dcK,?_⟩|refine iP ?_|refine iN ?_)
  first|rw[TqR]|rw[TqN]
  refine⟨[(1000,none)],?_⟩
  simp[go_sem,↓iO,iO,tN,hx]
 ·simp[go_sem,↓iO,iO,tN]
  repeat (first|(refine n1s rfl ?_;simp[go_sem,↓iO,iO,tN])|refine anI ?_|refine⟨dcK,?_⟩|refine iP ?_|refine iN ?_)
  first|rw[TqR]|rw[TqN]
  refine⟨[(1000,some 107)],?_⟩
  simp[go_sem,↓iO,iO,tN]
theorem cut_fn (l:List (Int×Int)) (k:Int) (h:Pc.Sane l) (hk:0≤k) (hk2:k≤1000000000000):FnOk Tryz.prog 123 [.t (encPs l),.t (.int k)] [] (.tup [.own 1000,.own 1001])
  [(1000,blkP (Pc.join (Pc.heads l k))),(1001,blkP (Pc.join (Pc.tails l k)))]:=by
 have hlen:=h.len
 refine FnOk.intro fact_mixed Tryz.func123 rfl Tryz.ntmps123 (by rfl) (by simp) ?_
 repeat (first|(refine n1s rfl ?_;simp[go_sem,↓iO,iO,tN])|refine anI ?_|refine⟨dcK,?_⟩|refine iP ?_|refine iN ?_)
 refine cF (clone_fn l (by omega)) [(1000,111)] ?_ ?_ ?_ ?_<;>simp[go_sem,↓iO,iO,tN]
 repeat (refine anI ?_)
 try (refine⟨dcK,?_⟩)
 refine cF (clone_fn l (by omega)) [(1000,113)] ?_ ?_ ?_ ?_<;>simp[go_sem,↓iO,iO,tN]
 repeat (first|(refine n1s rfl ?_;simp[go_sem,↓iO,iO,tN])|refine anI ?_|refine⟨dcK,?_⟩|refine iP ?_|refine iN ?_)
 refine nf1_sound' _ _ _ ?_;simp only[nf1]
 refine CW.loop (ι:=Nat) (fun i=>⟨[(6,.own 500),(7,.own 501),(1,.t (.int (Pc.rest (l.take i) k))),(14,.t (encPs l)),(15,.t (.int l.length)),(16,.t (.int i))],[(500,blkP (Pc.heads (l.take i) k++l.drop i)),(501,blkP (Pc.tails (l.take i) k++l.drop i))]⟩)
  (fun i=>i≤l.length) (fun i=>l.length - i) 0 [(500,some 111),(501,some 113)] (by omega) ?_ ?_
 ·simp[go_sem,↓iO,iO,tN,Pc.heads,Pc.tails,Pc.rest]
 intro i hi
 have hrr:=Pc.rest_range (l.take i) (fun p hp=>((h.take i).each p hp).1) k hk
 by_cases hb:i < l.length
 ·obtain⟨p,hp⟩:=has_get hb
  have hpv:=h.each p (mem_get hp)
  have e1:=Pc.heads_snoc k hp
  have e2:=Pc.tails_snoc k hp
  have e3:=Pc.rest_snoc k hp
  have e4:=drop_get hp
  have l1:(Pc.heads (l.take i) k).length=i:=by rw[Pc.heads_length,List.length_take];omega
  have l2:(Pc.tails (l.take i) k).length=i:=by rw[Pc.tails_length,List.length_take];omega
  obtain⟨hd,hhd⟩:∃ x,x=Pc.heads (l.take i) k:=⟨_,rfl⟩
  obtain⟨tl,htl⟩:∃ x,x=Pc.tails (l.take i) k:=⟨_,rfl⟩
  obtain⟨r,hr⟩:∃ x,x=Pc.rest (l.take i) k:=⟨_,rfl⟩
  obtain⟨d,hdd⟩:∃ x,x=l.drop (i+1):=⟨_,rfl⟩
  rw[←hr]at e1 e2 e3 hrr
  rw[←hhd]at e1 l1
  rw[←htl]at e2 l2
  rw[←hdd]at e4
  have hdl:d.length=l.length - (i+1):=by rw[hdd,List.length_drop]
  have hm:0≤min p.2 r∧min p.2 r≤p.2∧min p.2 r≤r:=by omega
  repeat (first|(refine n1s rfl ?_;simp[go_sem,↓iO,iO,tN,hp,←hhd,←htl,←hr,e4,l1,l2])|refine anI ?_|refine⟨dcK,?_⟩|refine iP ?_|refine iN ?_)
  have hdm:(l.map encP).drop (i+1)=d.map encP:=by rw[hdd,List.map_drop]
  rw[RqN];refine⟨i+1,[(500,some 500),(501,some 501)],?_,?_,?_⟩
  ·omega
  ·omega
  simp[go_sem,↓iO,iO,tN,e1,e2,e3,hdm]
 ·obtain rfl:i=l.length:=by omega
  repeat (first|(refine n1s rfl ?_;simp[go_sem,↓iO,iO,tN])|refine anI ?_|refine⟨dcK,?_⟩|refine iP ?_|refine iN ?_)
  refine CallK.fn (merged_fn (Pc.heads l k) (heads_sane h hk)) [(1000,150)] [500] [] (by kernel_rfl) ?_ ?_ ?_ (Or.inr ⟨?_,?_⟩) ?_<;>simp[go_sem,↓iO,iO,tN]
  repeat (refine anI ?_)
  try (refine⟨dcK,?_⟩)
  refine CallK.fn (merged_fn (Pc.tails l k) (tails_sane h hk)) [(1000,152)] [501] [] (by kernel_rfl) ?_ ?_ ?_ (Or.inr ⟨?_,?_⟩) ?_<;>simp[go_sem,↓iO,iO,tN]
  repeat (first|(refine n1s rfl ?_;simp[go_sem,↓iO,iO,tN])|refine anI ?_|refine⟨dcK,?_⟩|refine iP ?_|refine iN ?_)
  first|rw[TqR]|rw[TqN]
  refine⟨[(1000,some 150),(1001,some 152)],?_⟩
  simp[go_sem,↓iO,iO,tN]
theorem litre_fn (p:Int×Int):FnOk Tryz.prog 31 [.t (encP p)] [] (.t (.bool (decide (Lit p)))) []:=by
 refine FnOk.intro fact_mixed Tryz.func31 rfl Tryz.ntmps31 (by rfl) (by simp) ?_
 by_cases h1:0≤p.1
 ·by_cases h2:p.1 < 1000
  ·by_cases h3:0≤p.2
   ·by_cases h4:p.2≤1000000
    ·repeat (first|(refine n1s rfl ?_;simp[go_sem,↓iO,iO,tN])|refine anI ?_|refine⟨dcK,?_⟩|refine iP ?_|refine iN ?_)
     first|rw[TqR]|rw[TqN]
     refine⟨[],?_⟩
     simp[go_sem,↓iO,iO,tN,h1,h2,h3,h4]
    ·repeat (first|(refine n1s rfl ?_;simp[go_sem,↓iO,iO,tN])|refine anI ?_|refine⟨dcK,?_⟩|refine iP ?_|refine iN ?_)
     first|rw[TqR]|rw[TqN]
     refine⟨[],?_⟩
     simp[go_sem,↓iO,iO,tN,h1,h2,h3,h4]
   ·repeat (first|(refine n1s rfl ?_;simp[go_sem,↓iO,iO,tN])|refine anI ?_|refine⟨dcK,?_⟩|refine iP ?_|refine iN ?_)
    first|rw[TqR]|rw[TqN]
    refine⟨[],?_⟩
    simp[go_sem,↓iO,iO,tN,h1,h2,h3]
  ·repeat (first|(refine n1s rfl ?_;simp[go_sem,↓iO,iO,tN])|refine anI ?_|refine⟨dcK,?_⟩|refine iP ?_|refine iN ?_)
   first|rw[TqR]|rw[TqN]
   refine⟨[],?_⟩
   simp[go_sem,↓iO,iO,tN,h1,h2]
 ·repeat (first|(refine n1s rfl ?_;simp[go_sem,↓iO,iO,tN])|refine anI ?_|refine⟨dcK,?_⟩|refine iP ?_|refine iN ?_)
  first|rw[TqR]|rw[TqN]
  refine⟨[],?_⟩
  simp[go_sem,↓iO,iO,tN,h1]
theorem total_fn (l:List (Int×Int)) (h:Pc.Sane l):FnOk Tryz.prog 28 [.t (encPs l)] [] (.t (.int (Pc.vol l))) []:=by
 have hlen:=h.len
 refine FnOk.intro fact_mixed Tryz.func28 rfl Tryz.ntmps28 (by rfl) (by simp) ?_
 repeat (first|(refine n1s rfl ?_;simp[go_sem,↓iO,iO,tN])|refine anI ?_|refine⟨dcK,?_⟩|refine iP ?_|refine iN ?_)
 refine nf1_sound' _ _ _ ?_;simp only[nf1]
 refine CW.loop (ι:=Nat) (fun k=>⟨[(3,.t (.int (Pc.vol (l.take k)))),(6,.t (encPs l)),(7,.t (.int l.length)),(8,.t (.int k))],[]⟩) (fun k=>k≤l.length) (fun k=>l.length - k) 0 [] (by omega) ?_ ?_
 ·simp[go_sem,↓iO,iO,tN,Pc.vol]
 intro k hk
 by_cases hb:k < l.length
 ·obtain⟨p,hp⟩:=has_get hb
  have hs:=Pc.vol_snoc hp
  have hv:=(h.take k).vol
  have hpv:=h.each p (mem_get hp)
  repeat (first|(refine n1s rfl ?_;simp[go_sem,↓iO,iO,tN,hp])|refine anI ?_|refine⟨dcK,?_⟩|refine iP ?_|refine iN ?_)
  rw[RqN];refine⟨k+1,[],?_,?_,?_⟩
  ·omega
  ·omega
  simp[go_sem,↓iO,iO,tN,hs]
 ·obtain rfl:k=l.length:=by omega
  repeat (first|(refine n1s rfl ?_;simp[go_sem,↓iO,iO,tN])|refine anI ?_|refine⟨dcK,?_⟩|refine iP ?_|refine iN ?_)
  first|rw[TqR]|rw[TqN]
  refine⟨[],?_⟩
  simp[go_sem,↓iO,iO,tN,List.take_length]
theorem litre_fn' (p:Int×Int) (b:Bool) (h:decide (Lit p)=b):FnOk Tryz.prog 31 [.t (encP p)] [] (.t (.bool b)) []:=h ▸ litre_fn p
theorem sane_of_ok {l:List (Int×Int)} (h:l.length≤200) (ho:∀ i,i < l.length→Pc.OkAt l i):Pc.Sane l:=by
 refine⟨by omega,fun p hp=>?_⟩
 obtain⟨i,hi⟩:=List.getElem?_of_mem hp
 have:=(ho i (List.getElem?_eq_some_iff.1 hi).1 p hi).1
 omega
theorem ok_snoc {l:List (Int×Int)} {k:Nat} (h:∀ i,i < k→Pc.OkAt l i) (hk:Pc.OkAt l k):∀ i,i < k+1→Pc.OkAt l i:=fun i hi=>by
 rcases Nat.lt_or_ge i k with h1|h1
 ·exact h i h1
 ·obtain rfl:i=k:=by omega
  exact hk
theorem valid_fn (l:List (Int×Int)) (hl:l.length≤1000000):FnOk Tryz.prog 27 [.t (encPs l)] [] (.t (.bool (Pc.valid l))) []:=by
 refine FnOk.intro fact_mixed Tryz.func27 rfl Tryz.ntmps27 (by rfl) (by simp) ?_
 by_cases h2:l.length≤200
 ·repeat (
      first|(refine n1s rfl ?_;simp[go_sem,↓iO,iO,tN])|refine anI ?_|refine⟨dcK,?_⟩|refine iP ?_|refine iN ?_)
  refine nf1_sound' _ _ _ ?_;simp only[nf1]
  refine CW.loop (ι:=Nat) (fun k=>⟨[(0,.t (encPs l)),(8,.t (encPs l)),(9,.t (.int l.length)),(10,.t (.int k))],[]⟩) (fun k=>k≤l.length∧∀ i,i < k→Pc.OkAt l i) (fun k=>l.length - k) 0 [] ⟨by omega,fun i hi=>absurd hi (by omega)⟩ ?_ ?_
  ·simp[go_sem,↓iO,iO,tN]
  rintro k ⟨hk,ho⟩
  by_cases hb:k < l.length
  ·obtain⟨p,hp⟩:=has_get hb
   by_cases hL:Lit p
   ·by_cases hz:p.2=0
    ·have hn:Pc.valid l=false:=Pc.valid_f fun h=>by have:=(h.ok k hb p hp).1;omega
     repeat (first|(refine n1s rfl ?_;simp[go_sem,↓iO,iO,tN,hp])|refine anI ?_|refine⟨dcK,?_⟩|refine iP ?_|refine iN ?_)
     refine cF (litre_fn' p true (decide_eq_true hL)) [] ?_ ?_ ?_ ?_<;>simp[go_sem,↓iO,iO,tN,hp]
     repeat (first|(refine n1s rfl ?_;simp[go_sem,↓iO,iO,tN,hp,hz])|refine anI ?_|refine⟨dcK,?_⟩|refine iP ?_|refine iN ?_)
     first|rw[TqR]|rw[TqN]
     refine⟨[],?_⟩
     simp[go_sem,↓iO,iO,tN,hn]
    ·rcases k with _|j
     ·have hok:Pc.OkAt l 0:=fun x hx=>by
       rw[hp]at hx;obtain rfl:=Option.some.inj hx
       exact⟨by omega,fun _ h0=>by omega⟩
      repeat (first|(refine n1s rfl ?_;simp[go_sem,↓iO,iO,tN,hp])|refine anI ?_|refine⟨dcK,?_⟩|refine iP ?_|refine iN ?_)
      refine cF (litre_fn' p true (decide_eq_true hL)) [] ?_ ?_ ?_ ?_<;>simp[go_sem,↓iO,iO,tN,hp]
      repeat (first|(refine n1s rfl ?_;simp[go_sem,↓iO,iO,tN,hp,hz])|refine anI ?_|refine⟨dcK,?_⟩|refine iP ?_|refine iN ?_)
      rw[RqN];refine⟨1,[],?_,?_,?_⟩
      ·exact⟨by omega,ok_snoc ho hok⟩
      ·omega
      simp[go_sem,↓iO,iO,tN]
     ·obtain⟨q,hq⟩:=has_get (show j < l.length by omega)
      by_cases he:q.1=p.1
      ·have hn:Pc.valid l=false:=Pc.valid_f fun h=>(h.ok (j+1) hb p hp).2 q (by omega) hq he
       repeat (first|(refine n1s rfl ?_;simp[go_sem,↓iO,iO,tN,hp,hq])|refine anI ?_|refine⟨dcK,?_⟩|refine iP ?_|refine iN ?_)
       refine cF (litre_fn' p true (decide_eq_true hL)) [] ?_ ?_ ?_ ?_<;>simp[go_sem,↓iO,iO,tN,hp,hq]
       repeat (first|(refine n1s rfl ?_;simp[go_sem,↓iO,iO,tN,hp,hz,hq,he])|refine anI ?_|refine⟨dcK,?_⟩|refine iP ?_|refine iN ?_)
       first|rw[TqR]|rw[TqN]
       refine⟨[],?_⟩
       simp[go_sem,↓iO,iO,tN,hn]
      ·have hok:Pc.OkAt l (j+1):=fun x hx=>by
        rw[hp]at hx;obtain rfl:=Option.some.inj hx
        refine⟨by omega,fun y _ hy=>?_⟩
        rw[Nat.add_sub_cancel,hq]at hy;obtain rfl:=Option.some.inj hy
        exact he
       repeat (first|(refine n1s rfl ?_;simp[go_sem,↓iO,iO,tN,hp,hq])|refine anI ?_|refine⟨dcK,?_⟩|refine iP ?_|refine iN ?_)
       refine cF (litre_fn' p true (decide_eq_true hL)) [] ?_ ?_ ?_ ?_<;>simp[go_sem,↓iO,iO,tN,hp,hq]
       repeat (first|(refine n1s rfl ?_;simp[go_sem,↓iO,iO,tN,hp,hz,hq,he])|refine anI ?_|refine⟨dcK,?_⟩|refine iP ?_|refine iN ?_)
       rw[RqN];refine⟨j+1+1,[],?_,?_,?_⟩
       ·exact⟨by omega,ok_snoc ho hok⟩
       ·omega
       simp[go_sem,↓iO,iO,tN]
   ·have hn:Pc.valid l=false:=Pc.valid_f fun h=>hL (by have:=(h.ok k hb p hp).1;omega)
    repeat (first|(refine n1s rfl ?_;simp[go_sem,↓iO,iO,tN,hp])|refine anI ?_|refine⟨dcK,?_⟩|refine iP ?_|refine iN ?_)
    refine cF (litre_fn' p false (decide_eq_false hL)) [] ?_ ?_ ?_ ?_<;>simp[go_sem,↓iO,iO,tN,hp]
    repeat (first|(refine n1s rfl ?_;simp[go_sem,↓iO,iO,tN,hp])|refine anI ?_|refine⟨dcK,?_⟩|refine iP ?_|refine iN ?_)
    first|rw[TqR]|rw[TqN]
    refine⟨[],?_⟩
    simp[go_sem,↓iO,iO,tN,hn]
  ·obtain rfl:k=l.length:=by omega
   have hs:=sane_of_ok h2 ho
   have hv:Pc.valid l=decide (Pc.vol l≤1000000):=by
    by_cases h:Pc.vol l≤1000000
    ·rw[Pc.valid_t ⟨h2,ho,h⟩,decide_eq_true h]
    ·rw[Pc.valid_f fun hh=>h hh.vol,decide_eq_false h]
   repeat (first|(refine n1s rfl ?_;simp[go_sem,↓iO,iO,tN])|refine anI ?_|refine⟨dcK,?_⟩|refine iP ?_|refine iN ?_)
   refine cF (total_fn l hs) [] ?_ ?_ ?_ ?_<;>simp[go_sem,↓iO,iO,tN]
   repeat (first|(refine n1s rfl ?_;simp[go_sem,↓iO,iO,tN])|refine anI ?_|refine⟨dcK,?_⟩|refine iP ?_|refine iN ?_)
   first|rw[TqR]|rw[TqN]
   refine⟨[],?_⟩
   simp[go_sem,↓iO,iO,tN,hv]
 ·have hn:Pc.valid l=false:=Pc.valid_f fun h=>h2 h.len
  repeat (first|(refine n1s rfl ?_;simp[go_sem,↓iO,iO,tN])|refine anI ?_|refine⟨dcK,?_⟩|refine iP ?_|refine iN ?_)
  first|rw[TqR]|rw[TqN]
  refine⟨[],?_⟩
  simp[go_sem,↓iO,iO,tN,hn]
end Go.Proofs.YtdjmklobfjigoaaGreatDoor
namespace Go.Proofs.YtdjmklobfjigoaaGreatDoor
open Go.RowKit Sy
theorem valid_fn' (l:List (Int×Int)) (hl:l.length≤1000000) (b:Bool) (h:Pc.valid l=b):FnOk Tryz.prog 27 [.t (encPs l)] [] (.t (.bool b)) []:=h ▸ valid_fn l hl
theorem push_bad {f g:List (Int×Int)} {back:Bool} (h:¬ (Pc.valid f=true∧Pc.valid g=true)):Pc.push f g back=([],[],9):=by
 unfold Pc.push;rw[if_neg h]
theorem push_long {f g:List (Int×Int)} {back:Bool} (h1:Pc.valid f=true) (h2:Pc.valid g=true) (h:¬ ((Pc.shift f g back).1.length≤200∧(Pc.shift f g back).2.length≤200)):Pc.push f g back=([],[],4):=by
 unfold Pc.push;rw[if_pos ⟨h1,h2⟩,if_neg h]
theorem push_ok {f g:List (Int×Int)} {back:Bool} (h1:Pc.valid f=true) (h2:Pc.valid g=true) (h:(Pc.shift f g back).1.length≤200∧(Pc.shift f g back).2.length≤200):Pc.push f g back=((Pc.shift f g back).1,(Pc.shift f g back).2,0):=by
 unfold Pc.push;rw[if_pos ⟨h1,h2⟩,if_pos h]
theorem sane_app {f g:List (Int×Int)} (h1:Pc.Vd f) (h2:Pc.Vd g):Pc.Sane (f++g):=by
 refine⟨by rw[List.length_append];have:=h1.len;have:=h2.len;omega,fun p hp=>?_⟩
 rcases List.mem_append.1 hp with hp|hp
 ·exact h1.sane.each p hp
 ·exact h2.sane.each p hp
end Go.Proofs.YtdjmklobfjigoaaGreatDoor
namespace Go.Proofs.YtdjmklobfjigoaaGreatDoor
open Go.RowKit Sy
open Go.IntWalk renaming iteOmega → iO, toNatUp → tN
theorem push_fn (f g:List (Int×Int)) (back:Bool) (hf:f.length≤1000000) (hg:g.length≤1000000):FnOk Tryz.prog 104 [.t (encPs f),.t (encPs g),.t (.bool back)] []
  (.tup [.own 1000,.own 1001,.t (.int (Pc.push f g back).2.2)]) [(1000,blkP (Pc.push f g back).1),(1001,blkP (Pc.push f g back).2.1)]:=by
 refine FnOk.intro fact_mixed Tryz.func104 rfl Tryz.ntmps104 (by rfl) (by simp) ?_
 by_cases vf:Pc.valid f=true
 ·by_cases vg:Pc.valid g=true
  ·have hvf:=(Pc.valid_iff.1 vf).sane.vol
   have hvg:=(Pc.valid_iff.1 vg).sane.vol
   have hlf:=(Pc.valid_iff.1 vf).len
   have hlg:=(Pc.valid_iff.1 vg).len
   have s1:=sane_app (Pc.valid_iff.1 vf) (Pc.valid_iff.1 vg)
   have s2:=sane_app (Pc.valid_iff.1 vg) (Pc.valid_iff.1 vf)
   repeat (first|(refine n1s rfl ?_;simp[go_sem,↓iO,iO,tN])|refine anI ?_|refine⟨dcK,?_⟩|refine iP ?_|refine iN ?_)
   refine cF (valid_fn' f hf true vf) [] ?_ ?_ ?_ ?_<;>simp[go_sem,↓iO,iO,tN]
   repeat (refine anI ?_)
   try (refine⟨dcK,?_⟩)
   refine cF (valid_fn' g hg true vg) [] ?_ ?_ ?_ ?_<;>simp[go_sem,↓iO,iO,tN]
   repeat (first|(refine n1s rfl ?_;simp[go_sem,↓iO,iO,tN])|refine anI ?_|refine⟨dcK,?_⟩|refine iP ?_|refine iN ?_)
   cases back with
   | true=>
    have hsh:Pc.shift f g true=(Pc.join (Pc.tails (f++g) (Pc.vol g)),Pc.join (Pc.heads (f++g) (Pc.vol g))):=rfl
    repeat (first|(refine n1s rfl ?_;simp[go_sem,↓iO,iO,tN])|refine anI ?_|refine⟨dcK,?_⟩|refine iP ?_|refine iN ?_)
    refine cF (clone_fn f hf) [(1000,622)] ?_ ?_ ?_ ?_<;>simp[go_sem,↓iO,iO,tN]
    repeat (refine anI ?_)
    try (refine⟨dcK,?_⟩)
    refine cF (total_fn g (Pc.valid_iff.1 vg).sane) [] ?_ ?_ ?_ ?_<;>simp[go_sem,↓iO,iO,tN]
    repeat (refine anI ?_)
    try (refine⟨dcK,?_⟩)
    refine CallK.fn (cut_fn (f++g) (Pc.vol g) s1 hvg.1 (by omega)) [(1000,600),(1001,601)] [124] [] (by kernel_rfl) ?_ ?_ ?_ (Or.inr ⟨?_,?_⟩) ?_<;>simp[go_sem,↓iO,iO,tN]
    repeat (refine anI ?_)
    try (refine⟨dcK,?_⟩)
    by_cases hA:(Pc.join (Pc.tails (f++g) (Pc.vol g))).length≤200
    ·by_cases hB:(Pc.join (Pc.heads (f++g) (Pc.vol g))).length≤200
     ·have hp:=push_ok (back:=true) vf vg (by rw[hsh];exact⟨hA,hB⟩)
      rw[hsh]at hp
      repeat (first|(refine n1s rfl ?_;simp[go_sem,↓iO,iO,tN])|refine anI ?_|refine⟨dcK,?_⟩|refine iP ?_|refine iN ?_)
      first|rw[TqR]|rw[TqN]
      refine⟨[(1000,some 601),(1001,some 600)],?_⟩
      simp[go_sem,↓iO,iO,tN,hp]
     ·have hp:=push_long (back:=true) vf vg (by rw[hsh];exact fun h=>hB h.2)
      repeat (first|(refine n1s rfl ?_;simp[go_sem,↓iO,iO,tN])|refine anI ?_|refine⟨dcK,?_⟩|refine iP ?_|refine iN ?_)
      first|rw[TqR]|rw[TqN]
      refine⟨[(1000,none),(1001,none)],?_⟩
      simp[go_sem,↓iO,iO,tN,hp]
    ·have hp:=push_long (back:=true) vf vg (by rw[hsh];exact fun h=>hA h.1)
     repeat (first|(refine n1s rfl ?_;simp[go_sem,↓iO,iO,tN])|refine anI ?_|refine⟨dcK,?_⟩|refine iP ?_|refine iN ?_)
     try rw[if_pos (by omega)]
     repeat (first|(refine n1s rfl ?_;simp[go_sem,↓iO,iO,tN])|refine anI ?_|refine⟨dcK,?_⟩|refine iP ?_|refine iN ?_)
     first|rw[TqR]|rw[TqN]
     refine⟨[(1000,none),(1001,none)],?_⟩
     simp[go_sem,↓iO,iO,tN,hp]
   | false=>
    have hsh:Pc.shift f g false=(Pc.join (Pc.heads (g++f) (Pc.vol f)),Pc.join (Pc.tails (g++f) (Pc.vol f))):=rfl
    repeat (first|(refine n1s rfl ?_;simp[go_sem,↓iO,iO,tN])|refine anI ?_|refine⟨dcK,?_⟩|refine iP ?_|refine iN ?_)
    refine cF (clone_fn g hg) [(1000,622)] ?_ ?_ ?_ ?_<;>simp[go_sem,↓iO,iO,tN]
    repeat (refine anI ?_)
    try (refine⟨dcK,?_⟩)
    refine cF (total_fn f (Pc.valid_iff.1 vf).sane) [] ?_ ?_ ?_ ?_<;>simp[go_sem,↓iO,iO,tN]
    repeat (refine anI ?_)
    try (refine⟨dcK,?_⟩)
    refine CallK.fn (cut_fn (g++f) (Pc.vol f) s2 hvf.1 (by omega)) [(1000,600),(1001,601)] [134] [] (by kernel_rfl) ?_ ?_ ?_ (Or.inr ⟨?_,?_⟩) ?_<;>simp[go_sem,↓iO,iO,tN]
    repeat (refine anI ?_)
    try (refine⟨dcK,?_⟩)
    by_cases hA:(Pc.join (Pc.heads (g++f) (Pc.vol f))).length≤200
    ·by_cases hB:(Pc.join (Pc.tails (g++f) (Pc.vol f))).length≤200
     ·have hp:=push_ok (back:=false) vf vg (by rw[hsh];exact⟨hA,hB⟩)
      rw[hsh]at hp
      repeat (first|(refine n1s rfl ?_;simp[go_sem,↓iO,iO,tN])|refine anI ?_|refine⟨dcK,?_⟩|refine iP ?_|refine iN ?_)
      first|rw[TqR]|rw[TqN]
      refine⟨[(1000,some 600),(1001,some 601)],?_⟩
      simp[go_sem,↓iO,iO,tN,hp]
     ·have hp:=push_long (back:=false) vf vg (by rw[hsh];exact fun h=>hB h.2)
      repeat (first|(refine n1s rfl ?_;simp[go_sem,↓iO,iO,tN])|refine anI ?_|refine⟨dcK,?_⟩|refine iP ?_|refine iN ?_)
      first|rw[TqR]|rw[TqN]
      refine⟨[(1000,none),(1001,none)],?_⟩
      simp[go_sem,↓iO,iO,tN,hp]
    ·have hp:=push_long (back:=false) vf vg (by rw[hsh];exact fun h=>hA h.1)
     repeat (first|(refine n1s rfl ?_;simp[go_sem,↓iO,iO,tN])|refine anI ?_|refine⟨dcK,?_⟩|refine iP ?_|refine iN ?_)
     try rw[if_pos (by omega)]
     repeat (first|(refine n1s rfl ?_;simp[go_sem,↓iO,iO,tN])|refine anI ?_|refine⟨dcK,?_⟩|refine iP ?_|refine iN ?_)
     first|rw[TqR]|rw[TqN]
     refine⟨[(1000,none),(1001,none)],?_⟩
     simp[go_sem,↓iO,iO,tN,hp]
  ·have vg':Pc.valid g=false:=by simpa using vg
   have hp:=push_bad (back:=back) (fun h=>vg h.2:¬ (Pc.valid f=true∧Pc.valid g=true))
   repeat (first|(refine n1s rfl ?_;simp[go_sem,↓iO,iO,tN])|refine anI ?_|refine⟨dcK,?_⟩|refine iP ?_|refine iN ?_)
   refine cF (valid_fn' f hf true vf) [] ?_ ?_ ?_ ?_<;>simp[go_sem,↓iO,iO,tN]
   repeat (refine anI ?_)
   try (refine⟨dcK,?_⟩)
   refine cF (valid_fn' g hg false vg') [] ?_ ?_ ?_ ?_<;>simp[go_sem,↓iO,iO,tN]
   repeat (first|(refine n1s rfl ?_;simp[go_sem,↓iO,iO,tN])|refine anI ?_|refine⟨dcK,?_⟩|refine iP ?_|refine iN ?_)
   first|rw[TqR]|rw[TqN]
   refine⟨[(1000,none),(1001,none)],?_⟩
   simp[go_sem,↓iO,iO,tN,hp]
 ·have vf':Pc.valid f=false:=by simpa using vf
  have hp:=push_bad (back:=back) (fun h=>vf h.1:¬ (Pc.valid f=true∧Pc.valid g=true))
  repeat (first|(refine n1s rfl ?_;simp[go_sem,↓iO,iO,tN])|refine anI ?_|refine⟨dcK,?_⟩|refine iP ?_|refine iN ?_)
  refine cF (valid_fn' f hf false vf') [] ?_ ?_ ?_ ?_<;>simp[go_sem,↓iO,iO,tN]
  repeat (first|(refine n1s rfl ?_;simp[go_sem,↓iO,iO,tN])|refine anI ?_|refine⟨dcK,?_⟩|refine iP ?_|refine iN ?_)
  first|rw[TqR]|rw[TqN]
  refine⟨[(1000,none),(1001,none)],?_⟩
  simp[go_sem,↓iO,iO,tN,hp]
def swapV {α:Type} (l:List α) (k:Nat):List α:=(l.reverse.take k++(l.drop k).take (l.length - 2 * k))++l.reverse.drop (l.length - k)
theorem swapV_get {α:Type} {l:List α} {k i:Nat} (hk:2 * k≤l.length) (hi:i < l.length):(swapV l k)[i]? = if i < k∨l.length - k≤i then l.reverse[i]? else l[i]?:=by
 unfold swapV
 have h1:(l.reverse.take k).length=k:=by rw[List.length_take,List.length_reverse];omega
 have h2:((l.drop k).take (l.length - 2 * k)).length=l.length - 2 * k:=by rw[List.length_take,List.length_drop];omega
 by_cases ha:i < k
 ·rw[if_pos (.inl ha),List.getElem?_append_left (by rw[List.length_append];omega),List.getElem?_append_left (by omega),List.getElem?_take,if_pos ha]
 ·by_cases hb:l.length - k≤i
  ·rw[if_pos (.inr hb),List.getElem?_append_right (by rw[List.length_append];omega),List.length_append,h1,h2,List.getElem?_drop]
   congr 1;omega
  ·rw[if_neg (by omega),List.getElem?_append_left (by rw[List.length_append];omega),List.getElem?_append_right (by omega),h1,List.getElem?_take,if_pos (by omega),List.getElem?_drop]
   congr 1;omega
theorem swapV_len {α:Type} {l:List α} {k:Nat} (hk:2 * k≤l.length):(swapV l k).length=l.length:=by
 unfold swapV
 simp only[List.length_append,List.length_take,List.length_drop,List.length_reverse]
 omega
theorem swap_ex {α:Type} (l:List α):∃ Y:Nat→List α,Y 0=l∧(∀ k,2 * k+1 < l.length→∃ p q,(Y k)[k]? = some p∧(Y k)[l.length - 1 - k]? = some q∧((Y k).set k q).set (l.length - 1 - k) p=Y (k+1))∧(∀ k,2 * k≤l.length→(Y k).length=l.length)∧∀ k,2 * k≤l.length→l.length≤2 * k+1→Y k=l.reverse:=by
 refine⟨swapV l,?_,?_,fun k hk=>swapV_len hk,?_⟩
 ·simp[swapV]
 ·intro k hk
  obtain⟨p,hp⟩:=has_get (l:=swapV l k) (k:=k) (by rw[swapV_len (by omega)];omega)
  obtain⟨q,hq⟩:=has_get (l:=swapV l k) (k:=l.length - 1 - k) (by rw[swapV_len (by omega)];omega)
  refine⟨p,q,hp,hq,?_⟩
  rw[swapV_get (by omega) (by omega),if_neg (by omega)]at hp hq
  apply List.ext_getElem?
  intro i
  by_cases hi:i < l.length
  ·rw[swapV_get (by omega) hi,List.getElem?_set,List.length_set,swapV_len (by omega)]
   by_cases e1:l.length - 1 - k=i
   ·rw[if_pos e1,if_pos (by omega),if_pos (by omega),List.getElem?_reverse hi,←hp]
    congr 1;omega
   ·rw[if_neg e1,List.getElem?_set,swapV_len (by omega)]
    by_cases e2:k=i
    ·rw[if_pos e2,if_pos (by omega),if_pos (by omega),List.getElem?_reverse hi,←hq]
     congr 1;omega
    ·rw[if_neg e2,swapV_get (by omega) hi]
     by_cases h3:i < k∨l.length - k≤i
     ·rw[if_pos h3,if_pos (by omega)]
     ·rw[if_neg h3,if_neg (by omega)]
  ·rw[List.getElem?_eq_none (by rw[List.length_set,List.length_set,swapV_len (by omega)];omega),List.getElem?_eq_none (by rw[swapV_len (by omega)];omega)]
 ·intro k h1 h2
  apply List.ext_getElem?
  intro i
  by_cases hi:i < l.length
  ·rw[swapV_get h1 hi]
   by_cases h3:i < k∨l.length - k≤i
   ·rw[if_pos h3]
   ·rw[if_neg h3,List.getElem?_reverse hi]
    congr 1;omega
  ·rw[List.getElem?_eq_none (by rw[swapV_len h1];omega),List.getElem?_eq_none (by rw[List.length_reverse];omega)]
theorem reverse_fn (l:List (Int×Int)) (hl:l.length≤1000000):FnOk Tryz.prog 38 [.own 0] [(0,blkP l)] (.tup []) [(0,blkP l.reverse)]:=by
 obtain⟨Y,y0,ys,yl,ye⟩:=swap_ex l
 refine FnOk.intro fact_mixed Tryz.func38 rfl Tryz.ntmps38 (by rfl) (by simp) ?_
 repeat (first|(refine n1s rfl ?_;simp[go_sem,↓iO,iO,tN])|refine anI ?_|refine⟨dcK,?_⟩|refine iP ?_|refine iN ?_)
 refine nf1_sound' _ _ _ ?_;simp only[nf1]
 refine CW.loop (ι:=Nat) (fun k=>⟨[(0,.own 0),(2,.t (.int k)),(3,.t (.int ((l.length:Int) - 1 - k)))],[(0,blkP (Y k))]⟩) (fun k=>2 * k≤l.length) (fun k=>l.length - k) 0 [(0,some 0)] (by omega) ?_ ?_
 ·simp[go_sem,↓iO,iO,tN,y0]
 intro k hk
 have hyl:=yl k hk
 by_cases hb:2 * k+1 < l.length
 ·obtain⟨p,q,hp,hq,hs⟩:=ys k hb
  obtain⟨V,hV⟩:∃ V,Y k=V:=⟨_,rfl⟩
  rw[hV]at hp hq hs hyl ⊢
  obtain⟨p1,p2⟩:=p
  obtain⟨q1,q2⟩:=q
  have e1:((l.length:Int) - 1 - k).toNat=l.length - 1 - k:=by omega
  have hq2:∀ X,((V.map encP).set k X)[l.length - 1 - k]? = some (.agg [.int q1,.int q2]):=fun X=>by
   rw[List.getElem?_set_ne (by omega),List.getElem?_map,hq];rfl
  have hs2:((V.map encP).set k (encP (q1,q2))).set (l.length - 1 - k) (encP (p1,p2))=(Y (k+1)).map encP:=by rw[←hs,List.map_set,List.map_set]
  simp only[encP]at hs2
  repeat (first|(refine n1s rfl ?_;simp[go_sem,↓iO,iO,tN,hp,hq,e1,↓hq2])|refine anI ?_|refine⟨dcK,?_⟩|refine iP ?_|refine iN ?_)
  rw[RqN];refine⟨k+1,[(0,some 0)],?_,?_,?_⟩
  ·omega
  ·omega
  simp[go_sem,↓iO,iO,tN,hs2]
  omega
 ·have hy:=ye k hk (by omega)
  rw[hy]
  repeat (first|(refine n1s rfl ?_;simp[go_sem,↓iO,iO,tN])|refine anI ?_|refine⟨dcK,?_⟩|refine iP ?_|refine iN ?_)
  first|rw[TqR]|rw[TqN]
  refine⟨[(0,some 0)],?_⟩
  simp[go_sem,↓iO,iO,tN]
theorem aturned_fn (l:List (Int×Int)) (hl:l.length≤1000000):FnOk Tryz.prog 103 [.t (encPs l)] [] (.own 1000) [(1000,blkP l.reverse)]:=by
 have c1:=clone_fn l hl
 have c2:=reverse_fn l hl
 refine FnOk.intro fact_mixed Tryz.func103 rfl Tryz.ntmps103 (by rfl) (by simp) ?_
 repeat (first|(refine n1s rfl ?_;simp[go_sem,↓iO,iO,tN])|refine anI ?_|refine⟨dcK,?_⟩|refine iP ?_|refine iN ?_)
 refine cF (c1) [(1000,600)] ?_ ?_ ?_ ?_<;>simp[go_sem,↓iO,iO,tN]
 repeat (first|(refine n1s rfl ?_;simp[go_sem,↓iO,iO,tN])|refine anI ?_|refine⟨dcK,?_⟩|refine iP ?_|refine iN ?_)
 refine cF (c2) [(0,600)] ?_ ?_ ?_ ?_<;>simp[go_sem,↓iO,iO,tN]
 repeat (first|(refine n1s rfl ?_;simp[go_sem,↓iO,iO,tN])|refine anI ?_|refine⟨dcK,?_⟩|refine iP ?_|refine iN ?_)
 first|rw[TqR]|rw[TqN]
 refine⟨[(1000,some 600)],?_⟩
 simp[go_sem,↓iO,iO,tN]
noncomputable def outV (f l:List (Int×Int)) (back:Bool):List (Int×Int):=if back then (Pc.push f l true).2.1 else (Pc.push f l.reverse false).2.1.reverse
noncomputable def fillV (f l:List (Int×Int)) (back:Bool):List (Int×Int):=if back then (Pc.push f l true).1 else (Pc.push f l.reverse false).1
noncomputable def pushE (f l:List (Int×Int)) (back:Bool):Int:=if back then (Pc.push f l true).2.2 else (Pc.push f l.reverse false).2.2
theorem apush_fn (d:LineD) (hd:LineOk d) (order:T) (w6:order.width=1) (fi gi oo:List (Option (List (Int×Int)))) (hg:gi.length=d.segs.length) (hfl:fi.length=d.segs.length) (s:Nat) (r:Int) (f l:List (Int×Int)) (hr:d.rates[s]? = some r) (hf:fi[s]? = some (some f))
  (hf6:f.length≤1000000) (hl6:l.length≤1000000) (ho6:(outV f l (decide (r < 0))).length≤1000000) (he:pushE f l (decide (r < 0))=0) :
  FnOk Tryz.prog 71 [.pt 0 [] 0,.t (.int s),.t (encPs l)] [(0,lineB d.net d.plan (.sl 1 (d.feeds.map encI)) order),(1,blkG fi),(2,blkG gi),(3,blkG oo)]
   (.t (.int 0)) [(0,lineB d.net d.plan (.sl 1 (d.feeds.map encI)) order),(1,blkG (fi.set s (some (fillV f l (decide (r < 0)))))),(2,blkG (gi.set s (some (outV f l (decide (r < 0)))))),(3,blkG oo)]:=by
 have w1:=hd.w1
 have w2:=hd.w2
 have w3:=hd.w3
 have w4:=hd.w4
 have w5:=hd.w5
 have q1:s < d.rates.length:=(List.getElem?_eq_some_iff.1 hr).1
 have q2:s < fi.length:=(List.getElem?_eq_some_iff.1 hf).1
 have q3:s < gi.length:=by omega
 obtain⟨og,hgo⟩:∃ og,gi[s]? = some og:=has_get q3
 have hmx:=hd.maxS
 have r2:d.rates[s]=r:=(List.getElem?_eq_some_iff.1 hr).2
 have f2:fi[s]=some f:=(List.getElem?_eq_some_iff.1 hf).2
 have hlr:=hd.lenR
 refine FnOk.intro fact_mixed Tryz.func71 rfl Tryz.ntmps71 (by rfl) (by simp) ?_
 by_cases hn:r < 0
 ·have e0:decide (r < 0)=true:=by simpa using hn
  rw[e0]at he ho6
  rw[e0]
  unfold outV at ho6 ⊢
  unfold fillV
  unfold pushE at he
  simp only[if_true]at he ho6 ⊢
  have p1:=push_fn f l true hf6 hl6
  rw[he]at p1
  obtain⟨F',hF⟩:∃ F',(Pc.push f l true).1=F':=⟨_,rfl⟩
  obtain⟨O,hO⟩:∃ O,(Pc.push f l true).2.1=O:=⟨_,rfl⟩
  rw[hF,hO]at p1
  rw[hF,hO]
  repeat (first|(refine n1s rfl ?_;simp[go_sem,↓iO,iO,tN,hr,r2,hn,hf,f2,w1,w2,w3,w4,w5,w6,q1,q2,widths_gv,width_gv])|refine anI ?_|refine⟨dcK,?_⟩|refine iP ?_|refine iN ?_)
  refine cF (p1) [(1000,600),(1001,601)] ?_ ?_ ?_ ?_<;>simp[go_sem,↓iO,iO,tN,hr,r2,hn,hf,f2,w1,w2,w3,w4,w5,w6,q1,q2,widths_gv,width_gv]
  repeat (refine anI ?_)
  try (refine⟨dcK,?_⟩)
  refine CW.weak (ρ:=[(0,some 0),(1,some 1),(2,some 2),(3,some 3)]) (σ':=⟨[(0,.pt 0 [] 0),(1,.t (.int s)),(7,.t (.bool true)),(8,.t (encPs F')),(9,.t (encPs O)),(10,.t (.int 0))],[(0,lineB d.net d.plan (.sl 1 (d.feeds.map encI)) order),(1,blkG fi),(2,blkG gi),(3,blkG oo)]⟩) ?_ ?_
  ·simp[go_sem,↓iO,iO,tN]
  repeat (first|(refine n1s rfl ?_;simp[go_sem,↓iO,iO,tN,hr,r2,hn,hf,f2,w1,w2,w3,w4,w5,w6,q1,q2,q3,hgo,hg,hfl,widths_gv,width_gv])|refine anI ?_|refine⟨dcK,?_⟩|refine iP ?_|refine iN ?_)
  refine⟨by cases og<;>rfl,?_⟩
  refine⟨dcK,?_⟩
  repeat (first|(refine n1s rfl ?_;simp[go_sem,↓iO,iO,tN])|refine anI ?_|refine⟨dcK,?_⟩|refine iP ?_|refine iN ?_)
  first|rw[TqR]|rw[TqN]
  refine⟨[(0,some 0),(1,some 1),(2,some 2),(3,some 3)],?_⟩
  simp[go_sem,↓iO,iO,tN,List.map_set]
 ·have e0:decide (r < 0)=false:=by simpa using hn
  rw[e0]at he ho6
  rw[e0]
  unfold outV at ho6 ⊢
  unfold fillV
  unfold pushE at he
  simp only[if_false,Bool.false_eq_true]at he ho6 ⊢
  have p1:=push_fn f l.reverse false hf6 (by simpa using hl6)
  rw[he]at p1
  obtain⟨F',hF⟩:∃ F',(Pc.push f l.reverse false).1=F':=⟨_,rfl⟩
  obtain⟨O,hO⟩:∃ O,(Pc.push f l.reverse false).2.1=O:=⟨_,rfl⟩
  rw[hF,hO]at p1
  rw[hO]at ho6
  rw[hF,hO]
  have t1:=aturned_fn l hl6
  obtain⟨L,hL⟩:∃ L,l.reverse=L:=⟨_,rfl⟩
  rw[hL]at p1 t1
  have t2:=aturned_fn O (by simpa using ho6)
  obtain⟨O',hO'⟩:∃ O',O.reverse=O':=⟨_,rfl⟩
  rw[hO']at t2
  rw[hO']
  repeat (first|(refine n1s rfl ?_;simp[go_sem,↓iO,iO,tN,hr,r2,hn,hf,f2,w1,w2,w3,w4,w5,w6,q1,q2,widths_gv,width_gv])|refine anI ?_|refine⟨dcK,?_⟩|refine iP ?_|refine iN ?_)
  refine cF (t1) [(1000,600)] ?_ ?_ ?_ ?_<;>simp[go_sem,↓iO,iO,tN,hr,r2,hn]
  repeat (first|(refine n1s rfl ?_;simp[go_sem,↓iO,iO,tN,hr,r2,hn,hf,f2,w1,w2,w3,w4,w5,w6,q1,q2,widths_gv,width_gv])|refine anI ?_|refine⟨dcK,?_⟩|refine iP ?_|refine iN ?_)
  refine CallK.fn (p1) [(1000,601),(1001,602)] [600] [] (by kernel_rfl) ?_ ?_ ?_ (Or.inr ⟨?_,?_⟩) ?_<;>simp[go_sem,↓iO,iO,tN,hr,r2,hn,hf,f2,w1,w2,w3,w4,w5,w6,q1,q2,widths_gv,width_gv]
  repeat (first|(refine n1s rfl ?_;simp[go_sem,↓iO,iO,tN,hn])|refine anI ?_|refine⟨dcK,?_⟩|refine iP ?_|refine iN ?_)
  refine CallK.fn (t2) [(1000,603)] [602] [] (by kernel_rfl) ?_ ?_ ?_ (Or.inr ⟨?_,?_⟩) ?_<;>simp[go_sem,↓iO,iO,tN]
  repeat (refine anI ?_)
  try (refine⟨dcK,?_⟩)
  refine CW.weak (ρ:=[(0,some 0),(1,some 1),(2,some 2),(3,some 3)]) (σ':=⟨[(0,.pt 0 [] 0),(1,.t (.int s)),(7,.t (.bool false)),(8,.t (encPs F')),(9,.t (encPs O')),(10,.t (.int 0))],[(0,lineB d.net d.plan (.sl 1 (d.feeds.map encI)) order),(1,blkG fi),(2,blkG gi),(3,blkG oo)]⟩) ?_ ?_
  ·simp[go_sem,↓iO,iO,tN]
  repeat (first|(refine n1s rfl ?_;simp[go_sem,↓iO,iO,tN,hr,r2,hn,hf,f2,w1,w2,w3,w4,w5,w6,q1,q2,q3,hgo,hg,hfl,widths_gv,width_gv])|refine anI ?_|refine⟨dcK,?_⟩|refine iP ?_|refine iN ?_)
  refine⟨by cases og<;>rfl,?_⟩
  refine⟨dcK,?_⟩
  repeat (first|(refine n1s rfl ?_;simp[go_sem,↓iO,iO,tN])|refine anI ?_|refine⟨dcK,?_⟩|refine iP ?_|refine iN ?_)
  first|rw[TqR]|rw[TqN]
  refine⟨[(0,some 0),(1,some 1),(2,some 2),(3,some 3)],?_⟩
  simp[go_sem,↓iO,iO,tN,List.map_set]
end Go.Proofs.YtdjmklobfjigoaaGreatDoor
namespace Go.Proofs.YtdjmklobfjigoaaGreatDoor
open Go.RowKit Sy
@[go_sem] def blkI (l:List Int):Blk:=.list 3 1 (l.map encI)
@[go_sem] theorem flat_encI:∀ l:List Int,flatTs (l.map encI)
 | []=>by simp[flatTs]
 | p :: r=>by simp[flatTs,flatT,encI,flat_encI r]
end Go.Proofs.YtdjmklobfjigoaaGreatDoor
namespace Go.Proofs.YtdjmklobfjigoaaGreatDoor
open Go.RowKit Sy
open Go.IntWalk renaming iteOmega → iO, toNatUp → tN
@[go_sem] theorem widths_encI:∀ l:List Int,T.widths (l.map encI)=l.length
 | []=>rfl
 | x :: r=>by simp[T.widths,encI,T.width,widths_encI r];omega
@[go_sem] theorem widths_encI_take (n:Nat) (l:List Int):T.widths ((l.map encI).take n)=min n l.length:=by
 rw[←List.map_take,widths_encI,List.length_take]
namespace Dl
def rt (r:List Int) (i:Nat):Int:=r.getD i 0
theorem rt_get {r:List Int} {i:Nat} {x:Int} (h:r[i]? = some x):rt r i=x:=by unfold rt;rw[List.getD_eq_getElem?_getD,h];rfl
theorem get_rt {r:List Int} {i:Nat} (h:i < r.length):r[i]? = some (rt r i):=by
 obtain⟨x,hx⟩:=has_get h
 rw[hx,rt_get hx]
theorem rt_app {r z:List Int} {i:Nat} (h:i < r.length):rt (r++z) i=rt r i:=rt_get (by rw[List.getElem?_append_left h];exact get_rt h)
def nx (R C:List Int):Nat→Int
 | 0=>-1
 | k+1=>if 0 < rt R k∧(nx R C k < 0∨(rt C k+1) * rt R (nx R C k).toNat < (rt C (nx R C k).toNat+1) * rt R k) then k else nx R C k
theorem nx_range (R C:List Int):∀ k,-1≤nx R C k∧nx R C k < k
 | 0=>by simp[nx]
 | k+1=>by
  have:=nx_range R C k
  unfold nx
  split<;>omega
theorem nx_app {r z c y:List Int}:∀ {k:Nat},k≤r.length→k≤c.length→nx (r++z) (c++y) k=nx r c k
 | 0,_,_=>rfl
 | k+1,h1,h2=>by
  have ih:=nx_app (r:=r) (z:=z) (c:=c) (y:=y) (k:=k) (by omega) (by omega)
  have hr:=nx_range r c k
  unfold nx
  rw[ih,rt_app (by omega),rt_app (by omega)]
  by_cases h0:nx r c k < 0
  ·simp[h0]
  ·rw[rt_app (by omega),rt_app (by omega)]
end Dl
open Dl
@[go_sem] def tblT (n:Nat) (R C:List Int):T:=.agg [.int n,.agg (R.map encI),.agg (C.map encI)]
@[go_sem] def tblB (n:Nat) (R C:List Int):Blk:=.box 158 (.t (tblT n R C))
structure TblOk (n:Nat) (R C:List Int):Prop where
 r:R.length=64
 c:C.length=64
 n:n≤64
 rr:∀ x∈R,0≤x∧x≤1000
 cr:∀ x∈C,0≤x∧x≤1000000
theorem mul_bd {a b A B:Int} (h1:0≤a) (h2:a≤A) (h3:0≤b) (h4:b≤B):0≤a * b∧a * b≤A * B:=
 ⟨Int.mul_nonneg h1 h3,Int.mul_le_mul h2 h4 h3 (by omega)⟩
theorem next_fn (n:Nat) (R C:List Int) (h:TblOk n R C):FnOk Tryz.prog 102 [.pt 0 [] 0] [(0,tblB n R C)] (.t (.int (nx R C n))) [(0,tblB n R C)]:=by
 obtain⟨hR,hC,hn,hr,hc⟩:=h
 refine FnOk.intro fact_mixed Tryz.func102 rfl Tryz.ntmps102 (by rfl) (by simp) ?_
 repeat (first|(refine n1s rfl ?_;simp[go_sem,↓iO,iO,tN])|refine anI ?_|refine⟨dcK,?_⟩|refine iP ?_|refine iN ?_)
 refine nf1_sound' _ _ _ ?_;simp only[nf1]
 refine CW.loop (ι:=Nat) (fun k=>⟨[(0,.pt 0 [] 0),(3,.t (.int (nx R C k))),(8,.t (.int n)),(9,.t (.int k))],[(0,tblB n R C)]⟩) (fun k=>k≤n) (fun k=>n - k) 0 [(0,some 0)] (by omega) ?_ ?_
 ·simp[go_sem,↓iO,iO,tN,nx]
 intro k hk
 have hx:=nx_range R C k
 by_cases hb:k < n
 ·have gr:=get_rt (r:=R) (i:=k) (by omega)
  have gc:=get_rt (r:=C) (i:=k) (by omega)
  have b1:=hr _ (mem_get gr)
  have b2:=hc _ (mem_get gc)
  have step:nx R C (k+1)=if 0 < rt R k∧(nx R C k < 0∨(rt C k+1) * rt R (nx R C k).toNat < (rt C (nx R C k).toNat+1) * rt R k) then (k:Int) else nx R C k:=rfl
  obtain⟨u,hu⟩:∃ u,rt R k=u:=⟨_,rfl⟩
  obtain⟨v,hv⟩:∃ v,rt C k=v:=⟨_,rfl⟩
  obtain⟨q,hq⟩:∃ q,nx R C k=q:=⟨_,rfl⟩
  rw[hu]at gr b1
  rw[hv]at gc b2
  rw[hu,hv,hq]at step
  rw[hq]at hx ⊢
  by_cases h1:0 < u
  ·by_cases h2:q < 0
   ·rw[if_pos ⟨h1,.inl h2⟩]at step
    repeat (first|(refine n1s rfl ?_;simp[go_sem,↓iO,iO,tN,gr,gc])|refine anI ?_|refine⟨dcK,?_⟩|refine iP ?_|refine iN ?_)
    rw[RqN];refine⟨k+1,[(0,some 0)],?_,?_,?_⟩
    ·omega
    ·omega
    simp[go_sem,↓iO,iO,tN,step]
   ·obtain⟨j,rfl⟩:∃ j:Nat,q=(j:Int):=⟨q.toNat,by omega⟩
    rw[Int.toNat_natCast]at step
    have gr2:=get_rt (r:=R) (i:=j) (by omega)
    have gc2:=get_rt (r:=C) (i:=j) (by omega)
    have b3:=hr _ (mem_get gr2)
    have b4:=hc _ (mem_get gc2)
    obtain⟨y,hy⟩:∃ y,rt R j=y:=⟨_,rfl⟩
    obtain⟨z,hz⟩:∃ z,rt C j=z:=⟨_,rfl⟩
    rw[hy]at gr2 b3 step
    rw[hz]at gc2 b4 step
    have m1:=mul_bd (a:=v+1) (A:=1000001) (b:=y) (B:=1000) (by omega) (by omega) (by omega) (by omega)
    have m2:=mul_bd (a:=z+1) (A:=1000001) (b:=u) (B:=1000) (by omega) (by omega) (by omega) (by omega)
    obtain⟨p1,hp1⟩:∃ p,(v+1) * y=p:=⟨_,rfl⟩
    obtain⟨p2,hp2⟩:∃ p,(z+1) * u=p:=⟨_,rfl⟩
    rw[hp1]at m1 step
    rw[hp2]at m2 step
    by_cases h3:p1 < p2
    ·rw[if_pos ⟨h1,.inr h3⟩]at step
     repeat (first|(refine n1s rfl ?_;simp[go_sem,↓iO,iO,tN,gr,gc,gr2,gc2,hp1,hp2])|refine anI ?_|refine⟨dcK,?_⟩|refine iP ?_|refine iN ?_)
     rw[RqN];refine⟨k+1,[(0,some 0)],?_,?_,?_⟩
     ·omega
     ·omega
     simp[go_sem,↓iO,iO,tN,step]
    ·rw[if_neg (by omega)]at step
     repeat (first|(refine n1s rfl ?_;simp[go_sem,↓iO,iO,tN,gr,gc,gr2,gc2,hp1,hp2])|refine anI ?_|refine⟨dcK,?_⟩|refine iP ?_|refine iN ?_)
     rw[RqN];refine⟨k+1,[(0,some 0)],?_,?_,?_⟩
     ·omega
     ·omega
     simp[go_sem,↓iO,iO,tN,step]
  ·rw[if_neg (fun h=>h1 h.1)]at step
   repeat (first|(refine n1s rfl ?_;simp[go_sem,↓iO,iO,tN,gr,gc])|refine anI ?_|refine⟨dcK,?_⟩|refine iP ?_|refine iN ?_)
   rw[RqN];refine⟨k+1,[(0,some 0)],?_,?_,?_⟩
   ·omega
   ·omega
   simp[go_sem,↓iO,iO,tN,step]
 ·obtain rfl:k=n:=by omega
  repeat (first|(refine n1s rfl ?_;simp[go_sem,↓iO,iO,tN])|refine anI ?_|refine⟨dcK,?_⟩|refine iP ?_|refine iN ?_)
  first|rw[TqR]|rw[TqN]
  refine⟨[(0,some 0)],?_⟩
  simp[go_sem,↓iO,iO,tN]
end Go.Proofs.YtdjmklobfjigoaaGreatDoor
namespace Go.Proofs.YtdjmklobfjigoaaGreatDoor.Sy
open Go.RowKit
section
variable {N:Nat} {W:World} {G0:Gh} {A:Nat→Prop} {G:Gh} {w:World} {g:Nat→S} {h:Nat→Option Blk} {a:Act}
theorem SatG.alter (hs:SatG N W G0 A G g h a w) {l:Nat} {b b':Blk} (hl:h l=some b) (h1:RepB G w b' (G.β l)) (h2:Inn G w b' (G.β l) (G.φ l)):SatG N W G0 A G g (hput h l (some b')) a w:=by
 have other:∀ k x,hput h l (some b') k=some x→(k=l∧x=b')∨(k≠l∧h k=some x):=by
  intro k x hx
  unfold hput at hx
  split at hx
  ·exact .inl ⟨‹_›,(Option.some.inj hx).symm⟩
  ·exact .inr ⟨‹_›,hx⟩
 have some':∀ k x,hput h l (some b') k=some x→∃ y,h k=some y:=by
  intro k x hx
  rcases other k x hx with ⟨rfl,_⟩|⟨_,h3⟩
  ·exact⟨b,hl⟩
  ·exact⟨x,h3⟩
 refine⟨hs.size,hs.defers,hs.slots,⟨?_,?_,?_,?_,hs.heap.fb⟩,⟨hs.frm.os,hs.frm.tape,hs.frm.output,hs.frm.size,hs.frm.block,?_,hs.frm.fin,hs.frm.fout,hs.frm.same⟩⟩
 ·intro k x hx
  rcases other k x hx with ⟨rfl,rfl⟩|⟨_,h3⟩
  ·exact h1
  ·exact hs.heap.rep k x h3
 ·intro k x hx
  rcases other k x hx with ⟨rfl,rfl⟩|⟨_,h3⟩
  ·exact h2
  ·exact hs.heap.inn k x h3
 ·intro k x j hx hj
  obtain⟨y,hy⟩:=some' k x hx
  exact hs.heap.sep k y j hy hj
 ·intro k k' x x' j hx hx' hj hj'
  obtain⟨y,hy⟩:=some' k x hx
  obtain⟨y',hy'⟩:=some' k' x' hx'
  exact hs.heap.inj k k' y y' j hy hy' hj hj'
 ·intro k x j hx hj
  obtain⟨y,hy⟩:=some' k x hx
  exact hs.frm.own k y j hy hj
def relTU:T→U→Prop
 | .lit (.slice none 0 0),.ow _ _ []=>True
 | .agg xs,.fw fs _ _ []=>xs=fs++[.nil]
 | x,.t y=>x=y
 | _,_=>False
theorem repU_of (x:T) (u:U) (v:Value) (h:relTU x u) (hr:Rep G.F w x v):RepU G w u v none:=by
 unfold relTU at h
 split at h
 ·unfold Rep at hr
  rw[hr.1]
  exact⟨⟨none,0,[],rfl,by unfold Reps;rfl,by simp,World.ownsRow_nil _ _ _ _⟩,rfl⟩
 ·rename_i xs fs e s
  subst h
  unfold Rep at hr
  obtain⟨cells,rfl,h2⟩:=hr
  have h3:=Reps.split fs.length h2
  rw[List.take_left,List.drop_left]at h3
  obtain⟨h4,h5⟩:=h3
  unfold Reps at h5
  obtain⟨v',cs',h6,h7,h8⟩:=h5
  unfold Reps at h8
  subst h8
  unfold Rep at h7
  rw[h7.1]at h6
  refine⟨_,.slice none 0 0,?_,h4,⟨none,0,[],rfl,by unfold Reps;rfl,by simp,World.ownsRow_nil _ _ _ _⟩,rfl⟩
  have h9:cells=cells.take (T.widths fs)++[.slice none 0 0]:=by
   conv=>lhs;rw[←List.take_append_drop (T.widths fs) cells,h6]
   rfl
  rw[←h9]
 ·subst h
  exact⟨hr,rfl⟩
 ·exact h.elim
theorem RepU.frame {G':Gh} (hF:∀ b,G.F b→G'.F b) {u:U} {v:Value} {k:Option Nat} (h:RepU G w u v k):RepU G' w u v k:=h.mono hF
theorem SatG.toRows (hs:SatG N W G0 A G g h a w) {l e s:Nat} {xs:List T} {us:List U} (hl:h l=some (.list e s xs)) (hlen:us.length=xs.length) (hus:∀ (i:Nat) (x:T) (u:U),xs[i]? = some x→us[i]? = some u→relTU x u) :
  SatG N W G0 A G g (hput h l (some (.rows e s us []))) a w:=by
 obtain⟨x,cap,cells,h1,h2,h3,h4⟩:=hs.heap.rep l _ hl
 have h5:=hs.heap.inn l _ hl
 refine hs.alter hl ⟨x,cap,cells,by rw[h1,hlen],by rw[hlen];exact h4⟩ ⟨cells,fun _=>none,by rw[hlen];exact h4,?_,fun k=>⟨fun hk=>(h5 k hk).elim,fun⟨i,hi⟩=>by cases hi⟩,(fun i j k hk=>by cases hk),(fun i k hk=>by cases hk),fun i _=>rfl⟩
 intro i u hu
 have hi:i < xs.length:=by rw[←hlen];exact (List.getElem?_eq_some_iff.1 hu).1
 have hx:=List.getElem?_eq_getElem hi
 obtain⟨v,h6,h7,_⟩:=Reps.get h2 hx
 rw[widths_take_const h3 (Nat.le_of_lt hi)]at h7
 have hw:xs[i].width=s:=h3 _ (List.getElem_mem hi)
 refine⟨v,h7,by rw[Rep.width _ _ h6,hw],Rep.one _ _ h6,?_⟩
 unfold RowOk
 simp only[lkE]
 exact repU_of _ u v (hus i _ u hx hu) h6
def U.open (d:Nat):U→S
 | .t x=> .t x
 | .ow _ _ _=> .own d
 | .fw fs _ _ _=> .ag (fs.map S.t++[.own d])
def U.blk:U→Option Blk
 | .t _=>none
 | .ow e s xs=>some (.list e s xs)
 | .fw _ e s xs=>some (.list e s xs)
theorem repSs_t:∀ {fs:List T} {cs:List Value},Reps G.F w fs cs→RepSs G w (fs.map S.t) cs
 | [],cs,h=>by unfold Reps at h;simp only[List.map_nil];unfold RepSs;exact h
 | x :: r,cs,h=>by
  unfold Reps at h
  obtain⟨v,cs',h1,h2,h3⟩:=h
  simp only[List.map_cons]
  unfold RepSs
  exact⟨v,cs',h1,by simp only[S.width];exact Rep.width _ _ h2,Rep.one _ _ h2,by unfold RepS;exact h2,repSs_t h3⟩
theorem sslice_cells {u:Value} {x:Option Addr} {n c:Nat} (h:u = .slice x n c):u.cells=#[u]:=by subst h;rfl
theorem SatG.openRow (hs:SatG N W G0 A G g h a w) {l i d e s:Nat} {us:List U} {ex:List (Nat×S)} {u:U} {b:Blk} (hl:h l=some (.rows e s us ex)) (hu:us[i]? = some u) (hex:lkE ex i=none) (hb:u.blk=some b)
  (hd:100≤d) (hf:Fresh g h d):∃ G',SatG N W G0 A G' g (hput (hput h l (some (.rows e s us (putE ex i (u.open d))))) d (some b)) a w:=by
 obtain⟨hd0,hgf,hhf⟩:=hf
 obtain⟨cells,κ,h1,h2,h3,h4,h5,h6⟩:=hs.heap.inn l _ hl
 obtain⟨x,cap,cells0,hβ,h7⟩:=hs.heap.rep l _ hl
 obtain⟨v,g1,g2,g3,g4⟩:=h2 i u hu
 unfold RowOk at g4
 rw[hex]at g4
 simp only at g4
 have hdl:l≠d:=by rintro rfl;rw[hd0]at hl;cases hl
 obtain⟨v',hvb,hvk,hopen⟩:∃ v',RepB G w b v'∧κ i=hblk v'∧∀ G':Gh,(∀ b,G.F b→G'.F b)→G'.β d=v'→RepS G' w (u.open d) v:=by
  cases u with
  | t x=>cases hb
  | ow e' s' xs=>
   cases hb
   refine⟨v,g4.1,g4.2,fun G' _ hd'=>?_⟩
   obtain⟨x',cap',cells',hv,_⟩:=g4.1
   unfold U.open RepS
   exact⟨hd'.symm,_,_,_,hv⟩
  | fw fs e' s' xs=>
   cases hb
   obtain⟨cs,v',rfl,k1,k2,k3⟩:=g4
   refine⟨v',k2,k3,fun G' hF hd'=>?_⟩
   obtain⟨x',cap',cells',hv,_⟩:=k2
   have hcv:=sslice_cells hv
   unfold U.open RepS
   refine⟨_,rfl,RepSs.append (repSs_t (Reps.mono hF (fun _ _ _=>rfl) fs cs k1)) ?_⟩
   unfold RepSs
   refine⟨v',[],by rw[hcv];rfl,by rw[hcv];rfl,?_,by unfold RepS;exact⟨hd'.symm,_,_,_,hv⟩,by unfold RepSs;rfl⟩
   intro c hc
   rw[hcv]at hc
   simp at hc
   rw[hc,hv];rfl
 have hbl:∃ e' s' xs',b = .list e' s' xs':=by
  cases u with
  | t x=>cases hb
  | ow e' s' xs=>exact⟨_,_,_,(Option.some.inj hb).symm⟩
  | fw fs e' s' xs=>exact⟨_,_,_,(Option.some.inj hb).symm⟩
 obtain⟨e',s',xs',rfl⟩:=hbl
 let G':Gh:=⟨G.F,bput G.β d v',pput (pput G.φ l (fun k=>G.φ l k∧hblk v'≠some k)) d noF⟩
 have K:Keep G w G' w [d]:=⟨fun _ h=>h,fun _ _ _=>rfl,fun k hk=>bput_other v' (by simpa using hk)⟩
 have hβo:∀ k,k≠d→G'.β k=G.β k:=fun k hk=>bput_other v' hk
 have hβd:G'.β d=v':=bput_same _ _ _
 have hφd:G'.φ d=noF:=pput_same _ _ _
 have hφl:G'.φ l=fun k=>G.φ l k∧hblk v'≠some k:=by
  show pput (pput G.φ l _) d noF l=_
  rw[pput_other _ hdl,pput_same]
 have hφo:∀ k,k≠d→k≠l→G'.φ k=G.φ k:=fun k hk hk2=>by
  show pput (pput G.φ l _) d noF k=_
  rw[pput_other _ hk,pput_other _ hk2]
 have ft':∀ k j,k≠d→G'.ft k j→G.ft k j:=by
  intro k j hk hj
  rcases hj with hj|hj
  ·left;rw[hβo k hk]at hj;exact hj
  ·right
   by_cases e1:k=l
   ·subst e1;rw[hφl]at hj;exact hj.1
   ·rw[hφo k hk e1]at hj;exact hj
 have ftd:∀ j,G'.ft d j→hblk v'=some j∧G.φ l j:=by
  intro j hj
  rcases hj with hj|hj
  ·rw[hβd]at hj
   exact⟨hj,(h3 j).2 ⟨i,by rw[hvk];exact hj⟩⟩
  ·rw[hφd]at hj;exact hj.elim
 have ftl:∀ j,hblk v'=some j→¬ G'.ft l j:=by
  intro j hj hl'
  rcases hl' with hl'|hl'
  ·rw[hβo l hdl]at hl'
   exact h5 i j (by rw[hvk];exact hj) hl'
  ·rw[hφl]at hl';exact hl'.2 hj
 have cases':∀ k x,hput (hput h l (some (.rows e s us (putE ex i (u.open d))))) d (some (.list e' s' xs')) k=some x→(k=d∧x = .list e' s' xs')∨(k≠d∧k=l∧x = .rows e s us (putE ex i (u.open d)))∨(k≠d∧k≠l∧h k=some x):=by
  intro k x hx
  simp only[hput]at hx
  split at hx
  ·exact .inl ⟨‹_›,(Option.some.inj hx).symm⟩
  ·split at hx
   ·exact .inr (.inl ⟨‹_›,‹_›,(Option.some.inj hx).symm⟩)
   ·exact .inr (.inr ⟨‹_›,‹_›,hx⟩)
 have old:∀ k x,hput (hput h l (some (.rows e s us (putE ex i (u.open d))))) d (some (.list e' s' xs')) k=some x→k≠d→∃ y,h k=some y:=by
  intro k x hx hk
  rcases cases' k x hx with ⟨h8,_⟩|⟨_,rfl,_⟩|⟨_,_,h8⟩
  ·exact (hk h8).elim
  ·exact⟨_,hl⟩
  ·exact⟨_,h8⟩
 refine⟨G',hs.size,hs.defers,fun t=>RepS.keep K (g t) _ (fun k hk=>by simp at hk;subst hk;exact hgf t) (hs.slots t),⟨?_,?_,?_,?_,hs.heap.fb⟩,?_⟩
 ·intro k y hy
  rcases cases' k y hy with ⟨rfl,rfl⟩|⟨h8,rfl,rfl⟩|⟨h8,h9,h10⟩
  ·rw[hβd];exact RepB.keep2 K (fun _ _=>rfl) (fun _ _=>rfl) hvb
  ·rw[hβo _ h8];exact⟨x,cap,cells0,hβ,h7⟩
  ·rw[hβo k h8];exact RepB.keep2 K (fun q hq=>by simp at hq;subst hq;exact hhf k y h10) (fun _ _=>rfl) (hs.heap.rep k y h10)
 ·intro k y hy
  rcases cases' k y hy with ⟨rfl,rfl⟩|⟨h8,rfl,rfl⟩|⟨h8,h9,h10⟩
  ·rw[hφd];exact fun _ h=>h
  ·rw[hβo _ h8,hφl]
   refine⟨cells,fun j=>if j=i then none else κ j,h1,?_,?_,?_,?_,?_⟩
   ·intro j x hx
    by_cases hj:j=i
    ·subst hj
     rw[hu]at hx
     cases hx
     refine⟨v,g1,g2,g3,?_⟩
     unfold RowOk
     rw[lkE_put,if_pos rfl]
     refine⟨hopen G' (fun _ h=>h) hβd,?_,by simp⟩
     have h11:=hopen G' (fun _ h=>h) hβd
     have hso:(u.open d).solid=true:=by cases u<;>rfl
     have:=(RepS.lens h11 hso).1
     omega
    ·obtain⟨v1,k1,k2,k3,k4⟩:=h2 j x hx
     refine⟨v1,k1,k2,k3,?_⟩
     unfold RowOk at k4 ⊢
     rw[lkE_put,if_neg hj]
     simp only[if_neg hj]
     cases hc:lkE ex j with
     | some c=>
      rw[hc]at k4
      have:=hhf k _ hl
      exact⟨RepS.keep K c v1 (fun q hq=>by simp at hq;subst hq;exact freesE_spec this hc) k4.1,k4.2⟩
     | none=>
      rw[hc]at k4
      exact k4.keep2 K (fun _ _=>rfl)
   ·intro q
    refine⟨fun⟨hq1,hq2⟩=>?_,fun⟨j,hj⟩=>?_⟩
    ·obtain⟨j,hj⟩:=(h3 q).1 hq1
     refine⟨j,?_⟩
     show (if j=i then none else κ j)=some q
     rw[if_neg]
     ·exact hj
     ·rintro rfl
      rw[hvk]at hj
      exact hq2 hj
    ·dsimp only at hj
     by_cases e1:j=i
     ·rw[if_pos e1]at hj;cases hj
     ·rw[if_neg e1]at hj
      refine⟨(h3 q).2 ⟨j,hj⟩,fun hq=>e1 (h4 j i q hj (by rw[hvk];exact hq))⟩
   ·intro j1 j2 q hq1 hq2
    dsimp only at hq1 hq2
    by_cases e1:j1=i
    ·rw[if_pos e1]at hq1;cases hq1
    ·by_cases e2:j2=i
     ·rw[if_pos e2]at hq2;cases hq2
     ·rw[if_neg e1]at hq1;rw[if_neg e2]at hq2
      exact h4 j1 j2 q hq1 hq2
   ·intro j q hq
    dsimp only at hq
    by_cases e1:j=i
    ·rw[if_pos e1]at hq;cases hq
    ·rw[if_neg e1]at hq;exact h5 j q hq
   ·intro j hj
    show (if j=i then none else κ j)=none
    by_cases e1:j=i
    ·rw[if_pos e1]
    ·rw[if_neg e1];exact h6 j hj
  ·rw[hβo k h8,hφo k h8 h9]
   exact Inn.keep2 K (fun q hq=>by simp at hq;subst hq;exact hhf k y h10) (fun _ _=>rfl) (hs.heap.inn k y h10)
 ·intro k y j hy hj
  by_cases hk:k=d
  ·subst hk
   exact hs.heap.sep l _ j hl (.inr (ftd j hj).2)
  ·obtain⟨y0,h8⟩:=old k y hy hk
   exact hs.heap.sep k y0 j h8 (ft' k j hk hj)
 ·intro k k' y y' j hy hy' hj hj'
  by_cases hk:k=d<;>by_cases hk':k'=d
  ·rw[hk,hk']
  ·subst hk
   obtain⟨y0,h8⟩:=old k' y' hy' hk'
   obtain⟨h9,h10⟩:=ftd j hj
   have:=hs.heap.inj l k' _ y0 j hl h8 (.inr h10) (ft' k' j hk' hj')
   subst this
   exact (ftl j h9 hj').elim
  ·subst hk'
   obtain⟨y0,h8⟩:=old k y hy hk
   obtain⟨h9,h10⟩:=ftd j hj'
   have:=hs.heap.inj l k _ y0 j hl h8 (.inr h10) (ft' k j hk hj)
   subst this
   exact (ftl j h9 hj).elim
  ·obtain⟨y0,h8⟩:=old k y hy hk
   obtain⟨y0',h8'⟩:=old k' y' hy' hk'
   exact hs.heap.inj k k' y0 y0' j h8 h8' (ft' k j hk hj) (ft' k' j hk' hj')
 ·refine⟨hs.frm.os,hs.frm.tape,hs.frm.output,hs.frm.size,hs.frm.block,?_,hs.frm.fin,hs.frm.fout,fun k hk=>(hβo k (by omega)).trans (hs.frm.same k hk)⟩
  intro k y j hy hj
  by_cases hk:k=d
  ·subst hk
   exact hs.frm.own l _ j hl (.inr (ftd j hj).2)
  ·obtain⟨y0,h8⟩:=old k y hy hk
   exact hs.frm.own k y0 j h8 (ft' k j hk hj)
theorem SatG.closeRow (hs:SatG N W G0 A G g h a w) {l i d e s e' s':Nat} {us:List U} {ex:List (Nat×S)} {xs:List T} {u':U} (hl:h l=some (.rows e s us ex)) (hd:h d=some (.list e' s' xs))
  (hex:lkE ex i=some (u'.open d)) (hb:u'.blk=some (.list e' s' xs)):∃ G',SatG N W G0 A G' g (hput (hput h l (some (.rows e s (us.set i u') (delE i ex)))) d none) a w:=by
 obtain⟨cells,κ,h1,h2,h3,h4,h5,h6⟩:=hs.heap.inn l _ hl
 obtain⟨x0,cap,cells0,hβ,h7⟩:=hs.heap.rep l _ hl
 have hrd:=hs.heap.rep d _ hd
 have hld:l≠d:=by rintro rfl;rw[hl]at hd;cases hd
 by_cases hnlt:us.length≤i
 ·
  have e1:us.set i u'=us:=List.set_eq_of_length_le (by omega)
  let G':Gh:=⟨G.F,G.β,G.φ⟩
  have cases':∀ k x,hput (hput h l (some (.rows e s (us.set i u') (delE i ex)))) d none k=some x→k≠d∧((k=l∧x = .rows e s us (delE i ex))∨(k≠l∧h k=some x)):=by
   intro k x hx
   simp only[hput,e1]at hx
   split at hx
   ·cases hx
   ·refine⟨‹_›,?_⟩
    split at hx
    ·exact .inl ⟨‹_›,(Option.some.inj hx).symm⟩
    ·exact .inr ⟨‹_›,hx⟩
  have old:∀ k x,hput (hput h l (some (.rows e s (us.set i u') (delE i ex)))) d none k=some x→∃ y,h k=some y:=by
   intro k x hx
   rcases (cases' k x hx).2 with ⟨rfl,_⟩|⟨_,h8⟩
   ·exact⟨_,hl⟩
   ·exact⟨_,h8⟩
  refine⟨G,hs.size,hs.defers,hs.slots,⟨?_,?_,?_,?_,hs.heap.fb⟩,⟨hs.frm.os,hs.frm.tape,hs.frm.output,hs.frm.size,hs.frm.block,?_,hs.frm.fin,hs.frm.fout,hs.frm.same⟩⟩
  ·intro k x hx
   rcases (cases' k x hx).2 with ⟨rfl,rfl⟩|⟨_,h8⟩
   ·exact⟨x0,cap,cells0,hβ,h7⟩
   ·exact hs.heap.rep k x h8
  ·intro k x hx
   rcases (cases' k x hx).2 with ⟨rfl,rfl⟩|⟨_,h8⟩
   ·refine⟨cells,κ,h1,fun j y hy=>?_,h3,h4,h5,h6⟩
    have hj:j < us.length:=(List.getElem?_eq_some_iff.1 hy).1
    obtain⟨v,g1,g2,g3,g4⟩:=h2 j y hy
    refine⟨v,g1,g2,g3,?_⟩
    unfold RowOk at g4 ⊢
    rw[lkE_del,if_neg (by omega)]
    exact g4
   ·exact hs.heap.inn k x h8
  ·intro k x j hx hj
   obtain⟨y,hy⟩:=old k x hx
   exact hs.heap.sep k y j hy hj
  ·intro k k' x x' j hx hx' hj hj'
   obtain⟨y,hy⟩:=old k x hx
   obtain⟨y',hy'⟩:=old k' x' hx'
   exact hs.heap.inj k k' y y' j hy hy' hj hj'
  ·intro k x j hx hj
   obtain⟨y,hy⟩:=old k x hx
   exact hs.frm.own k y j hy hj
 have hlt:i < us.length:=by omega
 obtain⟨v,g1,g2,g3,g4⟩:=h2 i _ (List.getElem?_eq_getElem hlt)
 unfold RowOk at g4
 rw[hex]at g4
 obtain⟨g5,g6,g7⟩:=g4
 have hru:RepU G w u' v (hblk (G.β d)):=by
  cases u' with
  | t x=>cases hb
  | ow e1 s1 xs1=>
   simp only[U.blk,Option.some.injEq,Blk.list.injEq]at hb
   obtain⟨rfl,rfl,rfl⟩:=hb
   unfold U.open RepS at g5
   rw[g5.1]
   exact⟨hrd,rfl⟩
  | fw fs e1 s1 xs1=>
   simp only[U.blk,Option.some.injEq,Blk.list.injEq]at hb
   obtain⟨rfl,rfl,rfl⟩:=hb
   unfold U.open RepS at g5
   obtain⟨cs,rfl,k1⟩:=g5
   have:∀ {fs:List T} {cs:List Value},RepSs G w (fs.map S.t++[.own d]) cs→∃ cs1 v',cs=cs1++[v']∧Reps G.F w fs cs1∧v'=G.β d:=by
    intro fs
    induction fs with
    | nil=>
     intro cs hc
     simp only[List.map_nil,List.nil_append]at hc
     unfold RepSs at hc
     obtain⟨v1,cs',q1,_,_,q2,q3⟩:=hc
     unfold RepSs at q3
     subst q3
     unfold RepS at q2
     obtain⟨q4,_,_,_,q5⟩:=q2
     exact⟨[],v1,by rw[q1,sslice_cells q5];rfl,by unfold Reps;rfl,q4⟩
    | cons f fs ih=>
     intro cs hc
     simp only[List.map_cons,List.cons_append]at hc
     unfold RepSs at hc
     obtain⟨v1,cs',q1,_,_,q2,q3⟩:=hc
     obtain⟨cs1,v',q4,q5,q6⟩:=ih q3
     refine⟨v1.cells.toList++cs1,v',by rw[q1,q4,List.append_assoc],?_,q6⟩
     unfold Reps
     unfold RepS at q2
     exact⟨v1,cs1,rfl,q2,q5⟩
   obtain⟨cs1,v',rfl,k2,rfl⟩:=this k1
   exact⟨cs1,_,rfl,k2,hrd,rfl⟩
 let G':Gh:=⟨G.F,G.β,pput G.φ l (fun k=>G.φ l k∨hblk (G.β d)=some k)⟩
 have K:Keep G w G' w []:=⟨fun _ h=>h,fun _ _ _=>rfl,fun _ _=>rfl⟩
 have hφl:G'.φ l=fun k=>G.φ l k∨hblk (G.β d)=some k:=pput_same _ _ _
 have hφo:∀ k,k≠l→G'.φ k=G.φ k:=fun k hk=>pput_other _ hk
 have ftl:∀ j,G'.ft l j→G.ft l j∨G.ft d j:=by
  intro j hj
  rcases hj with hj|hj
  ·exact .inl (.inl hj)
  ·rw[hφl]at hj
   rcases hj with hj|hj
   ·exact .inl (.inr hj)
   ·exact .inr (.inl hj)
 have fto:∀ k j,k≠l→G'.ft k j→G.ft k j:=by
  intro k j hk hj
  rcases hj with hj|hj
  ·exact .inl hj
  ·rw[hφo k hk]at hj;exact .inr hj
 have cases':∀ k x,hput (hput h l (some (.rows e s (us.set i u') (delE i ex)))) d none k=some x→k≠d∧((k=l∧x = .rows e s (us.set i u') (delE i ex))∨(k≠l∧h k=some x)):=by
  intro k x hx
  simp only[hput]at hx
  split at hx
  ·cases hx
  ·refine⟨‹_›,?_⟩
   split at hx
   ·exact .inl ⟨‹_›,(Option.some.inj hx).symm⟩
   ·exact .inr ⟨‹_›,hx⟩
 refine⟨G',hs.size,hs.defers,fun t=>RepS.keep K (g t) _ (by simp) (hs.slots t),⟨?_,?_,?_,?_,hs.heap.fb⟩,?_⟩
 ·intro k x hx
  rcases (cases' k x hx).2 with ⟨rfl,rfl⟩|⟨_,h8⟩
  ·exact⟨x0,cap,cells0,by rw[List.length_set];exact hβ,by rw[List.length_set];exact h7⟩
  ·exact RepB.keep2 K (by simp) (fun _ _=>rfl) (hs.heap.rep k x h8)
 ·intro k x hx
  rcases (cases' k x hx).2 with ⟨rfl,rfl⟩|⟨hk,h8⟩
  ·rw[hφl]
   refine⟨cells,fun j=>if j=i then hblk (G.β d) else κ j,by rw[List.length_set];exact h1,?_,?_,?_,?_,?_⟩
   ·intro j y hy
    rw[List.getElem?_set]at hy
    by_cases hj:i=j
    ·subst hj
     rw[if_pos rfl,if_pos hlt]at hy
     cases hy
     refine⟨v,g1,g2,g3,?_⟩
     unfold RowOk
     rw[lkE_del,if_pos rfl]
     simp only[if_pos]
     exact hru.keep2 K (fun _ _=>rfl)
    ·rw[if_neg hj]at hy
     obtain⟨v1,k1,k2,k3,k4⟩:=h2 j y hy
     refine⟨v1,k1,k2,k3,?_⟩
     have hj':¬ j=i:=fun e=>hj e.symm
     unfold RowOk at k4 ⊢
     rw[lkE_del,if_neg hj']
     simp only[if_neg hj']
     cases hc:lkE ex j with
     | some c=>
      rw[hc]at k4
      exact⟨RepS.keep K c v1 (by simp) k4.1,k4.2⟩
     | none=>
      rw[hc]at k4
      exact k4.keep2 K (fun _ _=>rfl)
   ·intro q
    refine⟨fun hq=>?_,fun⟨j,hj⟩=>?_⟩
    ·rcases hq with hq|hq
     ·obtain⟨j,hj⟩:=(h3 q).1 hq
      refine⟨j,?_⟩
      show (if j=i then _ else κ j)=some q
      rw[if_neg]
      ·exact hj
      ·rintro rfl;rw[g7]at hj;cases hj
     ·exact⟨i,by show (if i=i then _ else κ i)=some q;rw[if_pos rfl];exact hq⟩
    ·dsimp only at hj
     by_cases e1:j=i
     ·rw[if_pos e1]at hj;exact .inr hj
     ·rw[if_neg e1]at hj;exact .inl ((h3 q).2 ⟨j,hj⟩)
   ·intro j1 j2 q hq1 hq2
    dsimp only at hq1 hq2
    by_cases e1:j1=i<;>by_cases e2:j2=i
    ·rw[e1,e2]
    ·rw[if_pos e1]at hq1;rw[if_neg e2]at hq2
     exact (hld (hs.heap.inj k d _ _ q hl hd (.inr ((h3 q).2 ⟨j2,hq2⟩)) (.inl hq1))).elim
    ·rw[if_neg e1]at hq1;rw[if_pos e2]at hq2
     exact (hld (hs.heap.inj k d _ _ q hl hd (.inr ((h3 q).2 ⟨j1,hq1⟩)) (.inl hq2))).elim
    ·rw[if_neg e1]at hq1;rw[if_neg e2]at hq2
     exact h4 j1 j2 q hq1 hq2
   ·intro j q hq hlq
    dsimp only at hq
    by_cases e1:j=i
    ·rw[if_pos e1]at hq
     exact hld (hs.heap.inj k d _ _ q hl hd (.inl hlq) (.inl hq))
    ·rw[if_neg e1]at hq;exact h5 j q hq hlq
   ·intro j hj
    rw[List.length_set]at hj
    show (if j=i then _ else κ j)=none
    rw[if_neg (by omega)]
    exact h6 j hj
  ·rw[hφo k hk]
   exact Inn.keep2 K (by simp) (fun _ _=>rfl) (hs.heap.inn k x h8)
 ·intro k x j hx hj
  rcases (cases' k x hx).2 with ⟨rfl,rfl⟩|⟨hk,h8⟩
  ·rcases ftl j hj with h9|h9
   ·exact hs.heap.sep k _ j hl h9
   ·exact hs.heap.sep d _ j hd h9
  ·exact hs.heap.sep k x j h8 (fto k j hk hj)
 ·intro k k' x x' j hx hx' hj hj'
  obtain⟨hkd,hx⟩:=cases' k x hx
  obtain⟨hkd',hx'⟩:=cases' k' x' hx'
  rcases hx with ⟨rfl,rfl⟩|⟨hk,h8⟩<;>rcases hx' with ⟨rfl,rfl⟩|⟨hk',h8'⟩
  ·rfl
  ·rcases ftl j hj with h9|h9
   ·exact hs.heap.inj k k' _ _ j hl h8' h9 (fto k' j hk' hj')
   ·exact (hkd' (hs.heap.inj k' d _ _ j h8' hd (fto k' j hk' hj') h9)).elim
  ·rcases ftl j hj' with h9|h9
   ·exact hs.heap.inj k k' _ _ j h8 hl (fto k j hk hj) h9
   ·exact (hkd (hs.heap.inj k d _ _ j h8 hd (fto k j hk hj) h9)).elim
  ·exact hs.heap.inj k k' _ _ j h8 h8' (fto k j hk hj) (fto k' j hk' hj')
 ·refine⟨hs.frm.os,hs.frm.tape,hs.frm.output,hs.frm.size,hs.frm.block,?_,hs.frm.fin,hs.frm.fout,hs.frm.same⟩
  intro k x j hx hj
  rcases (cases' k x hx).2 with ⟨rfl,rfl⟩|⟨hk,h8⟩
  ·rcases ftl j hj with h9|h9
   ·exact hs.frm.own k _ j hl h9
   ·exact hs.frm.own d _ j hd h9
  ·exact hs.frm.own k x j h8 (fto k j hk hj)
end
section
variable {N:Nat} {P:Program} {Q:Exit→St→Prop} {c:Code}
theorem lkB_put (l:Nat) (b:Blk) (h:List (Nat×Blk)):lkB ((l,b) :: delB l h)=hput (lkB h) l (some b):=by
 funext k
 simp only[lkB,lkB_delB,hput]
 split<;>rfl
theorem lkB_drop (l:Nat) (h:List (Nat×Blk)):lkB (delB l h)=hput (lkB h) l none:=by
 funext k
 simp only[lkB_delB,hput]
theorem CW.toRows {σ:St} (l:Nat) (us:List U) {e s:Nat} {xs:List T} (hl:lkB σ.h l=some (.list e s xs)) (hlen:us.length=xs.length) (hus:∀ (i:Nat) (x:T) (u:U),xs[i]? = some x→us[i]? = some u→relTU x u)
  (h:CW N P c Q ⟨σ.g,(l,.rows e s us []) :: delB l σ.h⟩):CW N P c Q σ:=by
 intro hm hc W G0 A a w ⟨G,hs⟩
 refine h hm hc W G0 A a w ⟨G,?_⟩
 rw[lkB_put]
 exact hs.toRows hl hlen hus
theorem CW.openRow {σ:St} (l i d:Nat) {e s:Nat} {us:List U} {ex:List (Nat×S)} {u:U} {b:Blk} (hl:lkB σ.h l=some (.rows e s us ex)) (hu:us[i]? = some u) (hex:lkE ex i=none) (hb:u.blk=some b)
  (hd:nwOk σ [d]=true) (h100:100≤d) (h:CW N P c Q ⟨σ.g,(d,b) :: delB d ((l,.rows e s us (putE ex i (u.open d))) :: delB l σ.h)⟩):CW N P c Q σ:=by
 intro hm hc W G0 A a w ⟨G,hs⟩
 obtain⟨G',hs'⟩:=hs.openRow hl hu hex hb h100 (nwOk_spec hd d (by simp))
 refine h hm hc W G0 A a w ⟨G',?_⟩
 rw[lkB_put,lkB_put]
 exact hs'
theorem CW.closeRow {σ:St} (l i d:Nat) (u':U) {e s e' s':Nat} {us:List U} {ex:List (Nat×S)} {xs:List T} (hl:lkB σ.h l=some (.rows e s us ex)) (hd:lkB σ.h d=some (.list e' s' xs))
  (hex:lkE ex i=some (u'.open d)) (hb:u'.blk=some (.list e' s' xs)) (h:CW N P c Q ⟨σ.g,delB d ((l,.rows e s (us.set i u') (delE i ex)) :: delB l σ.h)⟩):CW N P c Q σ:=by
 intro hm hc W G0 A a w ⟨G,hs⟩
 obtain⟨G',hs'⟩:=hs.closeRow hl hd hex hb
 refine h hm hc W G0 A a w ⟨G',?_⟩
 rw[lkB_drop,lkB_put]
 exact hs'
end
end Go.Proofs.YtdjmklobfjigoaaGreatDoor.Sy
namespace Go.Proofs.YtdjmklobfjigoaaGreatDoor.Sy
attribute [go_sem] U.open
end Go.Proofs.YtdjmklobfjigoaaGreatDoor.Sy
