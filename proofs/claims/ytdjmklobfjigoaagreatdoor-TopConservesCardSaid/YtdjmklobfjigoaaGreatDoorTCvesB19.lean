import Derived.Test.YtdjmklobfjigoaaGreatDoorTCvesB18
import Derived.Test.YtdjmklobfjigoaaGreatDoorTCvesB14
import Derived.Test.YtdjmklobfjigoaaGreatDoorTCvesB15
import Derived.Test.YtdjmklobfjigoaaGreatDoorTCvesB13
import Derived.Test.YtdjmklobfjigoaaGreatDoorTCvesB10
set_option maxRecDepth 100000
set_option maxHeartbeats 16000000
set_option linter.unusedVariables false
set_option linter.unusedSimpArgs false
namespace Go.Proofs.YtdjmklobfjigoaaGreatDoor
open Go.RowKit Sy
open Go.IntWalk renaming iteOmega → iO, toNatUp → tN
@[go_sem] def encN (c:Nat):T:=.int (c:Int)
theorem addWs_take (S:List Sgm) (rate:Int):∀ (w:List Nat) (rs:List Int) (i:Nat) (c:Nat),w[i]? = some c→addWs S rate rs (w.take (i+1))=addW S rate (addWs S rate rs (w.take i)) c
 | [],rs,i,c,h=>by simp at h
 | a :: w,rs,0,c,h=>by simp at h;subst h;simp[addWs]
 | a :: w,rs,i+1,c,h=>by
  have:=addWs_take S rate w (addW S rate rs a) i c (by simpa using h)
  simp only[List.take_succ_cons,addWs]
  exact this
theorem at_rng {S:List Sgm} {rs:List Int} {rate s n:Int} (hn:∀ i,i < S.length→(0≤sFr S i∧sFr S i < n)∧0≤sTo S i∧sTo S i < n) (hs:0≤s∧s < n) {w:List Nat} {t:Int} (h:Way S rs rate s w t):0≤t∧t < n:=by
 cases h with
 | nil=>exact hs
 | snoc hw hc ho=>
  rename_i c
  have h1:=hn _ hc
  obtain⟨h2,_,_⟩:=of_decide_eq_true ho
  omega
theorem way_len {S:List Sgm} {rs:List Int} {rate s:Int} {w:List Nat} {t:Int} (h:Way S rs rate s w t):w.length≤S.length:=nodup_len (way_nodup h) fun c hc=>((way_lo h).2 c hc).1
theorem plan_fn (l:List Int) (k:Nat) (h:SrcOk l k) (d:NetD) (hd:GnOk d) (hnn:d.nn.length≤24) (hst:d.stns.length≤24) (PMf:Nat→List T) (hPM:∀ j,PMf j=(List.range j).map fun i=>T.bool (decide (nV l (nxK l k i) 2=0)))
  (tv sn:Int) (htv:nV l (nxK l k d.stns.length) 3=tv) (n:Nat) (hsn:nV l (nextK l (nxK l k d.stns.length)) 5=(n:Int)) (X:Nat→Nat×List Int×List Int) (hX:∀ j,strN l d.segs d.ports (nextK l (nextK l (nxK l k d.stns.length))) j=X j)
  (fr fp:List Int) (hres:(tv=0∧fr=(X n).2.1.map (fun x=>-x)∧fp=(X n).2.2.map (fun x=>-x))∨(tv≠0∧fr=(X n).2.1∧fp=(X n).2.2)) :
  FnOk Tryz.prog 22 [.pt 0 [] 0,.t (.agg d.l)] [(0,srcB l k)] (.t (.agg [.sl 1 (fr.map encI),.sl 1 (fp.map encI),.sl 1 (PMf d.stns.length)])) [(0,srcB l (X n).1)]:=by
 have hs1:=hd.s1
 have hp1:=hd.p1
 have hnum:=hd.num
 have PM0:PMf 0=[]:=by rw[hPM];rfl
 have PMs:∀ j,PMf (j+1)=PMf j++[.bool (decide (nV l (nxK l k j) 2=0))]:=fun j=>by rw[hPM,hPM,map_range_succ]
 have PMl:∀ j,(PMf j).length=j:=fun j=>by rw[hPM];simp
 have hks:=nxK_ok h
 have hn5:=nV_range (l:=l) (k:=nextK l (nxK l k d.stns.length)) (n:=5) (by omega)
 rw[hsn]at hn5
 have ct:=n_fn l (nxK l k d.stns.length) 3 (hks _) (by omega)
 have cn5:=n_fn l (nextK l (nxK l k d.stns.length)) 5 (hks _).next (by omega)
 rw[htv]at ct
 rw[hsn]at cn5
 have X0:X 0=(nextK l (nextK l (nxK l k d.stns.length)),List.replicate d.segs.length 0,List.replicate d.ports.length 0):=by rw[←hX];rfl
 have Xs:∀ j,X (j+1)=strV l d.segs d.ports (X j):=fun j=>by rw[←hX,←hX];rfl
 have hnode:∀ i,i < d.segs.length→(0≤sFr d.segs i∧sFr d.segs i < (d.nn.length:Int))∧0≤sTo d.segs i∧sTo d.segs i < (d.nn.length:Int):=fun i hi=>⟨(hd.nodes hi).1,(hd.nodes hi).2.1⟩
 have Xok:∀ j,SrcOk l (X j).1∧PlI d.segs d.ports (X j).2.1 (X j).2.2:=fun j=>by
  have:=strN_ok (l:=l) hp1 (fun i hi=>(hd.nodes hi).2.2) (hks d.stns.length).next.next j
  rw[hX]at this;exact this
 refine FnOk.intro fact_mixed Tryz.func22 rfl Tryz.ntmps22 (by rfl) (by simp) ?_
 repeat (first|(refine n1s rfl ?_;simp[go_sem,↓iO,iO,tN])|refine anI ?_|refine⟨dcK,?_⟩|refine iP ?_|refine iN ?_)
 refine nf1_sound' _ _ _ ?_;simp only[nf1]
 refine CW.loop (ι:=Nat) (fun j=>⟨[(0,.pt 0 [] 0),(3,.pt 503 [] 0),(4,.pt 504 [] 0),(5,.pt 505 [] 0),(6,.t (.int j))],[(0,srcB l (nxK l k j)),(503,.box 33 (.t (.agg d.l))),(504,.box 45 (.t (.agg [.lit (.slice none 0 0),.lit (.slice none 0 0),.lit (.slice none 0 0)]))),(505,.box 45 (.ag [.own 520,.own 521,.own 522])),(520,.list 3 1 ((List.replicate d.segs.length (0:Int)).map encI)),(521,.list 3 1 ((List.replicate d.ports.length (0:Int)).map encI)),(522,.list 4 1 (PMf j))]⟩) (fun j=>j≤d.stns.length) (fun j=>d.stns.length - j) 0 [(0,some 0),(503,some 103),(504,some 104),(505,some 105),(520,some 125),(521,some 129),(522,none)] (by omega) ?_ ?_
 ·simp[go_sem,↓iO,iO,tN,PM0,nxK]
 intro j hj
 have pml:=PMl j
 by_cases hb:j < d.stns.length
 ·have cp:=n_fn l (nxK l k j) 2 (hks j) (by omega)
  have pms:=PMs j
  obtain⟨v,hv⟩:∃ v,nV l (nxK l k j) 2=v:=⟨_,rfl⟩
  rw[hv]at cp pms
  obtain⟨P1,hP1⟩:∃ X,PMf j=X:=⟨_,rfl⟩
  rw[hP1]at pml pms ⊢
  repeat (first|(refine n1s rfl ?_;simp[go_sem,↓iO,iO,tN,hb,pml])|refine anI ?_|refine⟨dcK,?_⟩|refine iP ?_|refine iN ?_)
  refine cF (cp) [(0,0)] ?_ ?_ ?_ ?_<;>simp[go_sem,↓iO,iO,tN,hb,pml]
  repeat (first|(refine n1s rfl ?_;simp[go_sem,↓iO,iO,tN,hb,pml])|refine anI ?_|refine⟨dcK,?_⟩|refine iP ?_|refine iN ?_)
  rw[RqN];refine⟨j+1,[(0,some 0),(503,some 503),(504,some 504),(505,some 505),(520,some 520),(521,some 521),(522,some 144)],?_,?_,?_⟩
  ·omega
  ·omega
  simp[go_sem,↓iO,iO,tN,pms,nxK]
 ·obtain rfl:j=d.stns.length:=by omega
  obtain⟨PM,hPMM⟩:∃ X,PMf d.stns.length=X:=⟨_,rfl⟩
  rw[hPMM]at pml ⊢
  repeat (first|(refine n1s rfl ?_;simp[go_sem,↓iO,iO,tN])|refine anI ?_|refine⟨dcK,?_⟩|refine iP ?_|refine iN ?_)
  refine cF (ct) [(0,0)] ?_ ?_ ?_ ?_<;>simp[go_sem,↓iO,iO,tN]
  repeat (first|(refine n1s rfl ?_;simp[go_sem,↓iO,iO,tN])|refine anI ?_|refine⟨dcK,?_⟩|refine iP ?_|refine iN ?_)
  refine cF (cn5) [(0,0)] ?_ ?_ ?_ ?_<;>simp[go_sem,↓iO,iO,tN]
  repeat (first|(refine n1s rfl ?_;simp[go_sem,↓iO,iO,tN])|refine anI ?_|refine⟨dcK,?_⟩|refine iP ?_|refine iN ?_)
  refine nf1_sound' _ _ _ ?_;simp only[nf1]
  refine CW.loop (ι:=Nat) (fun j=>⟨[(0,.pt 0 [] 0),(3,.pt 503 [] 0),(4,.pt 504 [] 0),(5,.pt 505 [] 0),(7,.t (.bool (decide (tv=0)))),(8,.t (.int ((n:Int) - j)))],[(0,srcB l (X j).1),(503,.box 33 (.t (.agg d.l))),(504,.box 45 (.t (.agg [.lit (.slice none 0 0),.lit (.slice none 0 0),.lit (.slice none 0 0)]))),(505,.box 45 (.ag [.own 520,.own 521,.t (.sl 1 PM)])),(520,.list 3 1 ((X j).2.1.map encI)),(521,.list 3 1 ((X j).2.2.map encI))]⟩) (fun j=>j≤n) (fun j=>n - j) 0 [(0,some 0),(503,some 503),(504,some 504),(505,some 505),(520,some 520),(521,some 521)] (by omega) ?_ ?_
  ·simp[go_sem,↓iO,iO,tN,X0]
  intro j hj
  obtain⟨⟨kk,rs,pr⟩,hXj⟩:∃ x,X j=x:=⟨_,rfl⟩
  obtain⟨hkk,hI⟩:=Xok j
  rw[hXj]at hkk hI ⊢
  dsimp only at hkk hI ⊢
  by_cases hb2:j < n
  ·have hXs:=Xs j
   rw[hXj]at hXs
   have hav:=nV_range (l:=l) (k:=kk) (n:=d.ports.length) (by omega)
   have ca:=n_fn l kk d.ports.length hkk (by omega)
   obtain⟨a,ha⟩:∃ a:Nat,nV l kk d.ports.length=(a:Int):=⟨(nV l kk d.ports.length).toNat,by omega⟩
   rw[ha]at hav ca
   have cpk:=pick_fn (l:=l) hkk.next [1,5,30,300] (by simp) (by simp)
   have hpk:=pickV_mem (l:=l) (k:=nextK l kk) (xs:=[1,5,30,300]) (by simp)
   obtain⟨pk,hpp⟩:∃ a,pickV l (nextK l kk) [1,5,30,300]=a:=⟨_,rfl⟩
   rw[hpp]at hpk cpk
   simp at hpk
   have crg:=range_fn l (nextK l (nextK l kk)) 1 pk hkk.next.next (by omega) (by omega) (by omega)
   have hrg:=rangeV_range (l:=l) (k:=nextK l (nextK l kk)) (lo:=1) (hi:=pk) (by omega)
   obtain⟨rate,hrt⟩:∃ a,rangeV l (nextK l (nextK l kk)) 1 pk=a:=⟨_,rfl⟩
   rw[hrt]at crg hrg
   have hk3:=hkk.next.next.next
   obtain⟨k3,hk33⟩:∃ a,nextK l (nextK l (nextK l kk))=a:=⟨_,rfl⟩
   rw[hk33]at crg hk3
   obtain⟨⟨pn,nd,pp⟩,gp⟩:∃ p,d.ports[a]? = some p:=has_get (by omega)
   have hnd:pNd d.ports a=nd:=by simp[pNd,gp]
   have hndb:=hd.net.knP _ (List.mem_of_getElem? gp)
   dsimp only at hndb
   have hal:a < d.ports.length:=by omega
   obtain⟨z,hz⟩:∃ z,pr[a]? = some z:=has_get (by rw[hI.lp];exact hal)
   have hzd:pr.getD a 0=z:=by rw[List.getD_eq_getElem?_getD,hz];rfl
   have hprl:pr.length=d.ports.length:=hI.lp
   have hrsl:rs.length=d.segs.length:=hI.lr
   have hzb:=hI.bP a hal
   rw[hzd]at hzb
   obtain⟨WG,hWG⟩:∃ w,wayG l d.segs d.ports rs pr a rate 30 (k3,[],nd)=w:=⟨_,rfl⟩
   have e1:X (j+1)=if z < 0∨1000 < z+rate then (k3,rs,pr) else if WG.2.2 < 0 then (WG.1,rs,pr) else (WG.1,addWs d.segs rate rs WG.2.1,setP pr a WG.2.2.toNat rate):=by
    rw[hXs]
    unfold strV
    simp only[ha,hpp,hrt,hk33,Int.toNat_natCast,hzd,hnd,hWG]
   by_cases hc1:z < 0
   ·rw[if_pos (Or.inl hc1)]at e1
    repeat (first|(refine n1s rfl ?_;simp[go_sem,↓iO,iO,tN,hb2])|refine anI ?_|refine⟨dcK,?_⟩|refine iP ?_|refine iN ?_)
    refine cF (ca) [(0,0)] ?_ ?_ ?_ ?_<;>simp[go_sem,↓iO,iO,tN]
    repeat (first|(refine n1s rfl ?_;simp[go_sem,↓iO,iO,tN,gp])|refine anI ?_|refine⟨dcK,?_⟩|refine iP ?_|refine iN ?_)
    refine CallK.fn (cpk) [(0,0)] [] [168] (by kernel_rfl) ?_ ?_ ?_ (Or.inl rfl) ?_<;>simp[go_sem,↓iO,iO,tN,gp]
    repeat (refine anI ?_)
    try (refine⟨dcK,?_⟩)
    refine cF (crg) [(0,0)] ?_ ?_ ?_ ?_<;>simp[go_sem,↓iO,iO,tN,gp]
    repeat (first|(refine n1s rfl ?_;simp[go_sem,↓iO,iO,tN,gp,hz,hc1])|refine anI ?_|refine⟨dcK,?_⟩|refine iP ?_|refine iN ?_)
    rw[RqN];refine⟨j+1,[(0,some 0),(503,some 503),(504,some 504),(505,some 505),(520,some 520),(521,some 521)],?_,?_,?_⟩
    ·omega
    ·omega
    simp[go_sem,↓iO,iO,tN,e1]
    omega
   ·by_cases hc2:1000 < z+rate
    ·rw[if_pos (Or.inr hc2)]at e1
     repeat (first|(refine n1s rfl ?_;simp[go_sem,↓iO,iO,tN,hb2])|refine anI ?_|refine⟨dcK,?_⟩|refine iP ?_|refine iN ?_)
     refine cF (ca) [(0,0)] ?_ ?_ ?_ ?_<;>simp[go_sem,↓iO,iO,tN]
     repeat (first|(refine n1s rfl ?_;simp[go_sem,↓iO,iO,tN,gp])|refine anI ?_|refine⟨dcK,?_⟩|refine iP ?_|refine iN ?_)
     refine CallK.fn (cpk) [(0,0)] [] [168] (by kernel_rfl) ?_ ?_ ?_ (Or.inl rfl) ?_<;>simp[go_sem,↓iO,iO,tN,gp]
     repeat (refine anI ?_)
     try (refine⟨dcK,?_⟩)
     refine cF (crg) [(0,0)] ?_ ?_ ?_ ?_<;>simp[go_sem,↓iO,iO,tN,gp]
     repeat (first|(refine n1s rfl ?_;simp[go_sem,↓iO,iO,tN,gp,hz,hc1,hc2])|refine anI ?_|refine⟨dcK,?_⟩|refine iP ?_|refine iN ?_)
     rw[RqN];refine⟨j+1,[(0,some 0),(503,some 503),(504,some 504),(505,some 505),(520,some 520),(521,some 521)],?_,?_,?_⟩
     ·omega
     ·omega
     simp[go_sem,↓iO,iO,tN,e1]
     omega
    ·rw[if_neg (by omega)]at e1
     repeat (first|(refine n1s rfl ?_;simp[go_sem,↓iO,iO,tN,hb2])|refine anI ?_|refine⟨dcK,?_⟩|refine iP ?_|refine iN ?_)
     refine cF (ca) [(0,0)] ?_ ?_ ?_ ?_<;>simp[go_sem,↓iO,iO,tN]
     repeat (first|(refine n1s rfl ?_;simp[go_sem,↓iO,iO,tN,gp])|refine anI ?_|refine⟨dcK,?_⟩|refine iP ?_|refine iN ?_)
     refine CallK.fn (cpk) [(0,0)] [] [168] (by kernel_rfl) ?_ ?_ ?_ (Or.inl rfl) ?_<;>simp[go_sem,↓iO,iO,tN,gp]
     repeat (refine anI ?_)
     try (refine⟨dcK,?_⟩)
     refine cF (crg) [(0,0)] ?_ ?_ ?_ ?_<;>simp[go_sem,↓iO,iO,tN,gp]
     repeat (first|(refine n1s rfl ?_;simp[go_sem,↓iO,iO,tN,gp,hz,hc1,hc2])|refine anI ?_|refine⟨dcK,?_⟩|refine iP ?_|refine iN ?_)
     refine nf1_sound' _ _ _ ?_;simp only[nf1]
     refine CW.loop (ι:=Nat×Nat×List Nat×Int) (fun y=>⟨[(0,.pt 0 [] 0),(3,.pt 503 [] 0),(4,.pt 504 [] 0),(5,.pt 505 [] 0),(7,.t (.bool (decide (tv=0)))),(8,.t (.int ((n:Int) - j))),(9,.t (.int a)),(11,.t (.int rate)),(10,.t (.int y.2.2.2)),(12,.own 512),(13,.t (.int (-1)))],[(0,srcB l y.2.1),(503,.box 33 (.t (.agg d.l))),(504,.box 45 (.t (.agg [.lit (.slice none 0 0),.lit (.slice none 0 0),.lit (.slice none 0 0)]))),(505,.box 45 (.ag [.own 520,.own 521,.t (.sl 1 PM)])),(520,.list 3 1 (rs.map encI)),(521,.list 3 1 (pr.map encI)),(512,.list 3 1 ((y.2.2.1).map encN))]⟩)
      (fun y=>SrcOk l y.2.1∧Way d.segs rs rate nd y.2.2.1 y.2.2.2∧(d.nn.length:Int) - y.2.2.2 < y.1∧wayG l d.segs d.ports rs pr a rate y.1 y.2=WG) (fun y=>y.1) (30,k3,[],nd) [(0,some 0),(503,some 503),(504,some 504),(505,some 505),(520,some 520),(521,some 521),(512,none)] ⟨hk3,Way.nil,by dsimp only;omega,hWG⟩ ?_ ?_
     ·simp[go_sem,↓iO,iO,tN]
     rintro ⟨f,kq,ww,at'⟩ ⟨i1,i2,i3,i4⟩
     dsimp only at i1 i2 i3 i4 ⊢
     have hat:=at_rng hnode hndb i2
     have hwl:=way_len i2
     obtain⟨f',rfl⟩:∃ f',f=f'+1:=⟨f - 1,by omega⟩
     simp only[wayG]at i4
     have hscok:=fun i=>scS_ok (P:=d.ports) (pr:=pr) (a:=a) (at':=at') (rate:=rate) (w:=!ww.isEmpty) i1 i
     obtain⟨SC,hSC⟩:∃ SC:Nat→Nat×Int,∀ i,scS l d.ports pr a at' rate (!ww.isEmpty) kq i=SC i:=⟨_,fun _=>rfl⟩
     have SC0:SC 0=(kq,-1):=by rw[←hSC];rfl
     have SCs:∀ i,SC (i+1)=if scC d.ports pr a at' rate (!ww.isEmpty) i=true then (nextK l (SC i).1,if nV l (SC i).1 2=0 then (i:Int) else (SC i).2) else SC i:=fun i=>by rw[←hSC,←hSC];rfl
     simp only[hSC]at i4 hscok
     obtain⟨W,hW⟩:∃ W,ww.map encN=W:=⟨_,rfl⟩
     have hWl:W.length=ww.length:=by rw[←hW];simp
     rw[hW]
     repeat (first|(refine n1s rfl ?_;simp[go_sem,↓iO,iO,tN])|refine anI ?_|refine⟨dcK,?_⟩|refine iP ?_|refine iN ?_)
     refine nf1_sound' _ _ _ ?_;simp only[nf1]
     refine CW.loop (ι:=Nat) (fun i=>⟨[(0,.pt 0 [] 0),(3,.pt 503 [] 0),(4,.pt 504 [] 0),(5,.pt 505 [] 0),(7,.t (.bool (decide (tv=0)))),(8,.t (.int ((n:Int) - j))),(9,.t (.int a)),(11,.t (.int rate)),(10,.t (.int at')),(12,.own 512),(13,.t (.int (SC i).2)),(90,.t (.sl 3 (d.ports.map encPr))),(91,.t (.int d.ports.length)),(92,.t (.int i))],[(0,srcB l (SC i).1),(503,.box 33 (.t (.agg d.l))),(504,.box 45 (.t (.agg [.lit (.slice none 0 0),.lit (.slice none 0 0),.lit (.slice none 0 0)]))),(505,.box 45 (.ag [.own 520,.own 521,.t (.sl 1 PM)])),(520,.list 3 1 (rs.map encI)),(521,.list 3 1 (pr.map encI)),(512,.list 3 1 W)]⟩)
      (fun i=>i≤d.ports.length) (fun i=>d.ports.length - i) 0 [(0,some 0),(503,some 503),(504,some 504),(505,some 505),(520,some 520),(521,some 521),(512,some 512)] (by omega) ?_ ?_
     ·simp[go_sem,↓iO,iO,tN,SC0]
     intro i hi
     by_cases hb3:i < d.ports.length
     ·obtain⟨⟨qn,qd,qp⟩,gq⟩:∃ p,d.ports[i]? = some p:=has_get hb3
      obtain⟨z2,hz2⟩:∃ z,pr[i]? = some z:=has_get (by rw[hI.lp];exact hb3)
      have hz2d:pr.getD i 0=z2:=by rw[List.getD_eq_getElem?_getD,hz2];rfl
      have hz2b:=hI.bP i hb3
      rw[hz2d]at hz2b
      have hsc:=(hscok i).1
      have hscv:=(hscok i).2
      have scs:=SCs i
      have hcc:scC d.ports pr a at' rate (!ww.isEmpty) i=(decide (qd=at'∧i≠a∧z2≤0∧-1000≤z2 - rate) && !ww.isEmpty):=by
       unfold scC
       rw[hz2d,show pNd d.ports i=qd by simp[pNd,gq]]
      rw[hcc]at scs
      obtain⟨⟨kc,ec⟩,hki⟩:∃ x,SC i=x:=⟨_,rfl⟩
      rw[hki]at hsc hscv scs ⊢
      dsimp only at hsc hscv scs ⊢
      by_cases c1:qd=at'
      ·by_cases c2:i=a
       ·rw[if_neg (by simp[c2])]at scs
        subst c2
        repeat (first|(refine n1s rfl ?_;simp[go_sem,↓iO,iO,tN,gq,hz2,c1,hWl])|refine anI ?_|refine⟨dcK,?_⟩|refine iP ?_|refine iN ?_)
        rw[RqN];refine⟨i+1,[(0,some 0),(503,some 503),(504,some 504),(505,some 505),(520,some 520),(521,some 521),(512,some 512)],?_,?_,?_⟩
        ·omega
        ·omega
        simp[go_sem,↓iO,iO,tN,scs]
       ·by_cases c3:z2≤0
        ·by_cases c4:-1000≤z2 - rate
         ·by_cases c5:ww=[]
          ·rw[if_neg (by simp[c5])]at scs
           have hw0:ww.length=0:=by rw[c5];rfl
           repeat (first|(refine n1s rfl ?_;simp[go_sem,↓iO,iO,tN,gq,hz2,c1,c2,c3,c4,hw0,hWl])|refine anI ?_|refine⟨dcK,?_⟩|refine iP ?_|refine iN ?_)
           rw[RqN];refine⟨i+1,[(0,some 0),(503,some 503),(504,some 504),(505,some 505),(520,some 520),(521,some 521),(512,some 512)],?_,?_,?_⟩
           ·omega
           ·omega
           simp[go_sem,↓iO,iO,tN,scs]
          ·have hw0:0 < ww.length:=List.length_pos_iff.2 c5
           rw[if_pos (by simp[c1,c2,c3,c4,c5])]at scs
           have c2n:=n_fn l kc 2 hsc (by omega)
           obtain⟨zz,hzz⟩:∃ v,nV l kc 2=v:=⟨_,rfl⟩
           rw[hzz]at c2n scs
           by_cases hz0:zz=0
           ·rw[if_pos hz0]at scs
            repeat (first|(refine n1s rfl ?_;simp[go_sem,↓iO,iO,tN,gq,hz2,c1,c2,c3,c4,hw0,hWl])|refine anI ?_|refine⟨dcK,?_⟩|refine iP ?_|refine iN ?_)
            refine cF (c2n) [(0,0)] ?_ ?_ ?_ ?_<;>simp[go_sem,↓iO,iO,tN,gq,hz2,c1,c2,c3,c4,hw0,hWl]
            repeat (first|(refine n1s rfl ?_;simp[go_sem,↓iO,iO,tN,hz0,gq,hz2,c1,c2,c3,c4,hw0,hWl])|refine anI ?_|refine⟨dcK,?_⟩|refine iP ?_|refine iN ?_)
            rw[RqN];refine⟨i+1,[(0,some 0),(503,some 503),(504,some 504),(505,some 505),(520,some 520),(521,some 521),(512,some 512)],?_,?_,?_⟩
            ·omega
            ·omega
            simp[go_sem,↓iO,iO,tN,scs]
           ·rw[if_neg hz0]at scs
            repeat (first|(refine n1s rfl ?_;simp[go_sem,↓iO,iO,tN,gq,hz2,c1,c2,c3,c4,hw0,hWl])|refine anI ?_|refine⟨dcK,?_⟩|refine iP ?_|refine iN ?_)
            refine cF (c2n) [(0,0)] ?_ ?_ ?_ ?_<;>simp[go_sem,↓iO,iO,tN,gq,hz2,c1,c2,c3,c4,hw0,hWl]
            repeat (first|(refine n1s rfl ?_;simp[go_sem,↓iO,iO,tN,hz0,gq,hz2,c1,c2,c3,c4,hw0,hWl])|refine anI ?_|refine⟨dcK,?_⟩|refine iP ?_|refine iN ?_)
            rw[RqN];refine⟨i+1,[(0,some 0),(503,some 503),(504,some 504),(505,some 505),(520,some 520),(521,some 521),(512,some 512)],?_,?_,?_⟩
            ·omega
            ·omega
            simp[go_sem,↓iO,iO,tN,scs]
         ·rw[if_neg (by simp[c4])]at scs
          repeat (first|(refine n1s rfl ?_;simp[go_sem,↓iO,iO,tN,gq,hz2,c1,c2,c3,c4,hWl])|refine anI ?_|refine⟨dcK,?_⟩|refine iP ?_|refine iN ?_)
          rw[RqN];refine⟨i+1,[(0,some 0),(503,some 503),(504,some 504),(505,some 505),(520,some 520),(521,some 521),(512,some 512)],?_,?_,?_⟩
          ·omega
          ·omega
          simp[go_sem,↓iO,iO,tN,scs]
        ·rw[if_neg (by simp[c3])]at scs
         repeat (first|(refine n1s rfl ?_;simp[go_sem,↓iO,iO,tN,gq,hz2,c1,c2,c3,hWl])|refine anI ?_|refine⟨dcK,?_⟩|refine iP ?_|refine iN ?_)
         rw[RqN];refine⟨i+1,[(0,some 0),(503,some 503),(504,some 504),(505,some 505),(520,some 520),(521,some 521),(512,some 512)],?_,?_,?_⟩
         ·omega
         ·omega
         simp[go_sem,↓iO,iO,tN,scs]
      ·rw[if_neg (by simp[c1])]at scs
       repeat (first|(refine n1s rfl ?_;simp[go_sem,↓iO,iO,tN,gq,hz2,c1,hWl])|refine anI ?_|refine⟨dcK,?_⟩|refine iP ?_|refine iN ?_)
       rw[RqN];refine⟨i+1,[(0,some 0),(503,some 503),(504,some 504),(505,some 505),(520,some 520),(521,some 521),(512,some 512)],?_,?_,?_⟩
       ·omega
       ·omega
       simp[go_sem,↓iO,iO,tN,scs]
     ·obtain rfl:i=d.ports.length:=by omega
      obtain⟨hsc,hscv⟩:=hscok d.ports.length
      obtain⟨⟨kc,ec⟩,hki⟩:∃ x,SC d.ports.length=x:=⟨_,rfl⟩
      rw[hki]at hsc hscv i4 ⊢
      dsimp only at hsc hscv i4 ⊢
      by_cases he:0≤ec
      ·rw[if_pos he]at i4
       rcases hscv with hscv|⟨e,rfl,hel,hse⟩
       ·omega
       subst i4
       dsimp only at e1
       rw[if_neg (by omega),Int.toNat_natCast]at e1
       simp only[scC,Bool.and_eq_true]at hse
       obtain⟨s1,s2,s3,s4⟩:=of_decide_eq_true hse.1
       obtain⟨ze,hze⟩:∃ z,pr[e]? = some z:=has_get (by omega)
       have hzed:pr.getD e 0=ze:=by rw[List.getD_eq_getElem?_getD,hze];rfl
       rw[hzed]at s3 s4
       have hsp:setP pr a e rate=(pr.set a (z+rate)).set e (ze - rate):=by unfold setP;rw[hzd,hzed]
       have hsl:(pr.set a (z+rate)).length=pr.length:=by simp
       have hse2:((pr.map encI).set a (.lit (.int .i64 (z+rate))))[e]? = some (.int ze):=by
        rw[List.getElem?_set_ne (fun q=>s2 q.symm),List.getElem?_map,hze];rfl
       have hset:((pr.map encI).set a (.lit (.int .i64 (z+rate)))).set e (.lit (.int .i64 (ze - rate)))=(setP pr a e rate).map encI:=by rw[hsp,List.map_set,List.map_set];rfl
       have hwn:=way_nodup i2
       have hwb:∀ c∈ww,c < rs.length:=fun c hc=>by rw[hrsl];exact ((way_lo i2).2 c hc).1
       repeat (first|(refine n1s rfl ?_;simp[go_sem,↓iO,iO,tN,hze,hz,he,hse2,hset])|refine anI ?_|refine⟨dcK,?_⟩|refine iP ?_|refine iN ?_)
       refine nf1_sound' _ _ _ ?_;simp only[nf1]
       refine CW.loop (ι:=Nat) (fun i=>⟨[(0,.pt 0 [] 0),(3,.pt 503 [] 0),(4,.pt 504 [] 0),(5,.pt 505 [] 0),(7,.t (.bool (decide (tv=0)))),(8,.t (.int ((n:Int) - j))),(11,.t (.int rate)),(239,.t (.sl 1 W)),(240,.t (.int ww.length)),(241,.t (.int i))],[(0,srcB l kc),(503,.box 33 (.t (.agg d.l))),(504,.box 45 (.t (.agg [.lit (.slice none 0 0),.lit (.slice none 0 0),.lit (.slice none 0 0)]))),(505,.box 45 (.ag [.own 520,.own 521,.t (.sl 1 PM)])),(520,.list 3 1 ((addWs d.segs rate rs (ww.take i)).map encI)),(521,.list 3 1 ((setP pr a e rate).map encI))]⟩)
        (fun i=>i≤ww.length) (fun i=>ww.length - i) 0 [(0,some 0),(503,some 503),(504,some 504),(505,some 505),(520,some 520),(521,some 521)] (by omega) ?_ ?_
       ·simp[go_sem,↓iO,iO,tN,addWs,hWl,hset]
       intro i hi
       by_cases hb4:i < ww.length
       ·obtain⟨c,hc⟩:∃ c,ww[i]? = some c:=has_get hb4
        have hcw:W[i]? = some (.int (c:Int)):=by rw[←hW,List.getElem?_map,hc];rfl
        have hcm:=List.mem_of_getElem? hc
        have hcl:=((way_lo i2).2 c hcm).1
        obtain⟨⟨⟨nm,fr',to',cp,rs',wv⟩,pts⟩,gs⟩:∃ s,d.segs[c]? = some s:=has_get hcl
        obtain⟨q1,q2,q3⟩:=sx gs
        dsimp only at q1 q2 q3
        have htk:=addWs_take d.segs rate ww rs i c hc
        have hln:=addWs_len d.segs rate (ww.take i) rs
        have hgt:=addWs_get d.segs rate (ww.take i) rs (hwn.sublist (List.take_sublist _ _)) (fun c hc=>hwb c (List.mem_of_mem_take hc)) c
        have hnot:c∉ww.take i:=fun hm=>by
         obtain⟨i2,h1,h2⟩:=mem_take hm
         have:=nodup_at hwn h2 hc
         omega
        rw[if_neg hnot]at hgt
        obtain⟨R,hR⟩:∃ R,addWs d.segs rate rs (ww.take i)=R:=⟨_,rfl⟩
        rw[hR]at htk hln hgt ⊢
        obtain⟨rc,hrc⟩:∃ x,R[c]? = some x:=has_get (by omega)
        have hrd:R.getD c 0=rc:=by rw[List.getD_eq_getElem?_getD,hrc];rfl
        have hrb:=hI.bR c hcl
        rw[←hgt,hrd]at hrb
        unfold addW at htk
        rw[q1,q2,hrd]at htk
        by_cases hlt:fr' < to'
        ·rw[if_pos hlt]at htk
         repeat (first|(refine n1s rfl ?_;simp[go_sem,↓iO,iO,tN,hcw,gs,hlt,hrc])|refine anI ?_|refine⟨dcK,?_⟩|refine iP ?_|refine iN ?_)
         rw[RqN];refine⟨i+1,[(0,some 0),(503,some 503),(504,some 504),(505,some 505),(520,some 520),(521,some 521)],?_,?_,?_⟩
         ·omega
         ·omega
         simp[go_sem,↓iO,iO,tN,htk]
        ·rw[if_neg hlt]at htk
         repeat (first|(refine n1s rfl ?_;simp[go_sem,↓iO,iO,tN,hcw,gs,hlt,hrc])|refine anI ?_|refine⟨dcK,?_⟩|refine iP ?_|refine iN ?_)
         rw[RqN];refine⟨i+1,[(0,some 0),(503,some 503),(504,some 504),(505,some 505),(520,some 520),(521,some 521)],?_,?_,?_⟩
         ·omega
         ·omega
         simp[go_sem,↓iO,iO,tN,htk]
       ·obtain rfl:i=ww.length:=by omega
        rw[List.take_length]
        repeat (first|(refine n1s rfl ?_;simp[go_sem,↓iO,iO,tN])|refine anI ?_|refine⟨dcK,?_⟩|refine iP ?_|refine iN ?_)
        rw[RqN];refine⟨j+1,[(0,some 0),(503,some 503),(504,some 504),(505,some 505),(520,some 520),(521,some 521)],?_,?_,?_⟩
        ·omega
        ·omega
        simp[go_sem,↓iO,iO,tN,e1]
        omega
      ·rw[if_neg he]at i4
       have hem:ec=-1:=by
        rcases hscv with hscv|⟨e,h1,_⟩
        ·exact hscv
        ·omega
       subst hem
       obtain⟨OU,hOU⟩:∃ OU:Nat→List Nat,∀ i,ouL d.segs rs at' rate i=OU i:=⟨_,fun _=>rfl⟩
       have OU0:OU 0=[]:=by rw[←hOU];rfl
       have OUs:∀ i,OU (i+1)=if ouC d.segs rs at' rate i=true then OU i++[i] else OU i:=fun i=>by rw[←hOU,←hOU];rfl
       have OUl:∀ i,(OU i).length≤i:=fun i=>by rw[←hOU];exact ouL_len i
       have OUm:∀ i c,c∈OU i→c < i∧ouC d.segs rs at' rate c=true:=fun i c hc=>ouL_mem (by rw[hOU];exact hc)
       rw[hOU]at i4
       obtain⟨OT,hOT⟩:∃ OT:Nat→List T,∀ i,(OU i).map encN=OT i:=⟨_,fun _=>rfl⟩
       have OT0:OT 0=[]:=by rw[←hOT,OU0];rfl
       have OTl:∀ i,(OT i).length=(OU i).length:=fun i=>by rw[←hOT];simp
       repeat (first|(refine n1s rfl ?_;simp[go_sem,↓iO,iO,tN,he])|refine anI ?_|refine⟨dcK,?_⟩|refine iP ?_|refine iN ?_)
       refine nf1_sound' _ _ _ ?_;simp only[nf1]
       refine CW.loop (ι:=Nat) (fun i=>⟨[(0,.pt 0 [] 0),(3,.pt 503 [] 0),(4,.pt 504 [] 0),(5,.pt 505 [] 0),(7,.t (.bool (decide (tv=0)))),(8,.t (.int ((n:Int) - j))),(9,.t (.int a)),(11,.t (.int rate)),(10,.t (.int at')),(12,.own 512),(13,.t (.int (-1))),(16,.own 516),(139,.t (.sl 7 (d.segs.map encSg))),(140,.t (.int d.segs.length)),(141,.t (.int i))],[(0,srcB l kc),(503,.box 33 (.t (.agg d.l))),(504,.box 45 (.t (.agg [.lit (.slice none 0 0),.lit (.slice none 0 0),.lit (.slice none 0 0)]))),(505,.box 45 (.ag [.own 520,.own 521,.t (.sl 1 PM)])),(520,.list 3 1 (rs.map encI)),(521,.list 3 1 (pr.map encI)),(512,.list 3 1 W),(516,.list 3 1 (OT i))]⟩)
        (fun i=>i≤d.segs.length) (fun i=>d.segs.length - i) 0 [(0,some 0),(503,some 503),(504,some 504),(505,some 505),(520,some 520),(521,some 521),(512,some 512),(516,none)] (by omega) ?_ ?_
       ·simp[go_sem,↓iO,iO,tN,OT0]
       intro i hi
       have otl:=OTl i
       have oul:=OUl i
       by_cases hb4:i < d.segs.length
       ·obtain⟨⟨⟨nm,fr',to',cp,rs',wv⟩,pts⟩,gs⟩:∃ s,d.segs[i]? = some s:=has_get hb4
        obtain⟨q1,q2,q3⟩:=sx gs
        dsimp only at q1 q2 q3
        obtain⟨ri,hri⟩:∃ x,rs[i]? = some x:=has_get (by omega)
        have hrd:rs.getD i 0=ri:=by rw[List.getD_eq_getElem?_getD,hri];rfl
        have hrb:=hI.bR i hb4
        have hnb:=hnode i hb4
        rw[hrd]at hrb
        rw[q1,q2]at hnb
        rw[q3]at hrb
        have ous:=OUs i
        have hcc:ouC d.segs rs at' rate i=decide ((fr'=at'∨to'=at')∧at' < fr'+to' - at'∧max ri (-ri)+rate≤min 1000 cp):=by
         unfold ouC
         rw[q1,q2,q3,hrd]
        rw[hcc]at ous
        have cab:=kabs_fn ri (by omega)
        obtain⟨mx,hmx⟩:∃ m,max ri (-ri)=m:=⟨_,rfl⟩
        obtain⟨mn,hmn⟩:∃ m,min 1000 cp=m:=⟨_,rfl⟩
        rw[hmx]at ous cab
        rw[hmn]at ous
        have ots:OT (i+1)=(if decide ((fr'=at'∨to'=at')∧at' < fr'+to' - at'∧mx+rate≤mn)=true then OT i++[.int (i:Int)] else OT i):=by
         rw[←hOT,←hOT,ous]
         split
         ·rw[List.map_append];rfl
         ·rfl
        obtain⟨O1,hO1⟩:∃ X,OT i=X:=⟨_,rfl⟩
        rw[hO1]at otl ots ⊢
        by_cases o1:fr'=at'
        ·by_cases o2:at' < fr'+to' - at'
         ·by_cases o3:mx+rate≤mn
          ·rw[if_pos (decide_eq_true ⟨Or.inl o1,o2,o3⟩)]at ots
           repeat (first|(refine n1s rfl ?_;simp[go_sem,↓iO,iO,tN,gs,hri,hmx,hmn,otl,o1,o2])|refine anI ?_|refine⟨dcK,?_⟩|refine iP ?_|refine iN ?_)
           refine cF (cab) [] ?_ ?_ ?_ ?_<;>simp[go_sem,↓iO,iO,tN,gs,hri,hmx,hmn,otl,o1,o2]
           repeat (first|(refine n1s rfl ?_;simp[go_sem,↓iO,iO,tN,gs,hri,hmx,hmn,otl,o1,o2,o3])|refine anI ?_|refine⟨dcK,?_⟩|refine iP ?_|refine iN ?_)
           rw[RqN];refine⟨i+1,[(0,some 0),(503,some 503),(504,some 504),(505,some 505),(520,some 520),(521,some 521),(512,some 512),(516,some 284)],?_,?_,?_⟩
           ·omega
           ·omega
           simp[go_sem,↓iO,iO,tN,ots]
          ·rw[if_neg (by simp[o3])]at ots
           repeat (first|(refine n1s rfl ?_;simp[go_sem,↓iO,iO,tN,gs,hri,hmx,hmn,otl,o1,o2])|refine anI ?_|refine⟨dcK,?_⟩|refine iP ?_|refine iN ?_)
           refine cF (cab) [] ?_ ?_ ?_ ?_<;>simp[go_sem,↓iO,iO,tN,gs,hri,hmx,hmn,otl,o1,o2]
           repeat (first|(refine n1s rfl ?_;simp[go_sem,↓iO,iO,tN,gs,hri,hmx,hmn,otl,o1,o2,o3])|refine anI ?_|refine⟨dcK,?_⟩|refine iP ?_|refine iN ?_)
           rw[RqN];refine⟨i+1,[(0,some 0),(503,some 503),(504,some 504),(505,some 505),(520,some 520),(521,some 521),(512,some 512),(516,some 516)],?_,?_,?_⟩
           ·omega
           ·omega
           simp[go_sem,↓iO,iO,tN,ots]
         ·rw[if_neg (by simp[o2])]at ots
          repeat (first|(refine n1s rfl ?_;simp[go_sem,↓iO,iO,tN,gs,hri,hmx,hmn,otl,o1,o2])|refine anI ?_|refine⟨dcK,?_⟩|refine iP ?_|refine iN ?_)
          rw[RqN];refine⟨i+1,[(0,some 0),(503,some 503),(504,some 504),(505,some 505),(520,some 520),(521,some 521),(512,some 512),(516,some 516)],?_,?_,?_⟩
          ·omega
          ·omega
          simp[go_sem,↓iO,iO,tN,ots]
        ·by_cases o1':to'=at'
         ·by_cases o2:at' < fr'+to' - at'
          ·by_cases o3:mx+rate≤mn
           ·rw[if_pos (decide_eq_true ⟨Or.inr o1',o2,o3⟩)]at ots
            repeat (first|(refine n1s rfl ?_;simp[go_sem,↓iO,iO,tN,gs,hri,hmx,hmn,otl,o1,o1',o2])|refine anI ?_|refine⟨dcK,?_⟩|refine iP ?_|refine iN ?_)
            refine cF (cab) [] ?_ ?_ ?_ ?_<;>simp[go_sem,↓iO,iO,tN,gs,hri,hmx,hmn,otl,o1,o1',o2]
            repeat (first|(refine n1s rfl ?_;simp[go_sem,↓iO,iO,tN,gs,hri,hmx,hmn,otl,o1,o1',o2,o3])|refine anI ?_|refine⟨dcK,?_⟩|refine iP ?_|refine iN ?_)
            rw[RqN];refine⟨i+1,[(0,some 0),(503,some 503),(504,some 504),(505,some 505),(520,some 520),(521,some 521),(512,some 512),(516,some 284)],?_,?_,?_⟩
            ·omega
            ·omega
            simp[go_sem,↓iO,iO,tN,ots]
           ·rw[if_neg (by simp[o3])]at ots
            repeat (first|(refine n1s rfl ?_;simp[go_sem,↓iO,iO,tN,gs,hri,hmx,hmn,otl,o1,o1',o2])|refine anI ?_|refine⟨dcK,?_⟩|refine iP ?_|refine iN ?_)
            refine cF (cab) [] ?_ ?_ ?_ ?_<;>simp[go_sem,↓iO,iO,tN,gs,hri,hmx,hmn,otl,o1,o1',o2]
            repeat (first|(refine n1s rfl ?_;simp[go_sem,↓iO,iO,tN,gs,hri,hmx,hmn,otl,o1,o1',o2,o3])|refine anI ?_|refine⟨dcK,?_⟩|refine iP ?_|refine iN ?_)
            rw[RqN];refine⟨i+1,[(0,some 0),(503,some 503),(504,some 504),(505,some 505),(520,some 520),(521,some 521),(512,some 512),(516,some 516)],?_,?_,?_⟩
            ·omega
            ·omega
            simp[go_sem,↓iO,iO,tN,ots]
          ·rw[if_neg (by simp[o2])]at ots
           repeat (first|(refine n1s rfl ?_;simp[go_sem,↓iO,iO,tN,gs,hri,hmx,hmn,otl,o1,o1',o2])|refine anI ?_|refine⟨dcK,?_⟩|refine iP ?_|refine iN ?_)
           rw[RqN];refine⟨i+1,[(0,some 0),(503,some 503),(504,some 504),(505,some 505),(520,some 520),(521,some 521),(512,some 512),(516,some 516)],?_,?_,?_⟩
           ·omega
           ·omega
           simp[go_sem,↓iO,iO,tN,ots]
         ·rw[if_neg (by simp[o1,o1'])]at ots
          repeat (first|(refine n1s rfl ?_;simp[go_sem,↓iO,iO,tN,gs,hri,hmx,hmn,otl,o1,o1'])|refine anI ?_|refine⟨dcK,?_⟩|refine iP ?_|refine iN ?_)
          rw[RqN];refine⟨i+1,[(0,some 0),(503,some 503),(504,some 504),(505,some 505),(520,some 520),(521,some 521),(512,some 512),(516,some 516)],?_,?_,?_⟩
          ·omega
          ·omega
          simp[go_sem,↓iO,iO,tN,ots]
       ·obtain rfl:i=d.segs.length:=by omega
        obtain⟨OL,hOL⟩:∃ X,OU d.segs.length=X:=⟨_,rfl⟩
        obtain⟨OX,hOX⟩:∃ X,OT d.segs.length=X:=⟨_,rfl⟩
        have hox:=hOT d.segs.length
        have hom:=OUm d.segs.length
        rw[hOL]at i4 otl oul hox hom
        rw[hOX]at otl hox ⊢
        by_cases hOe:OL=[]
        ·rw[if_pos hOe]at i4
         subst i4
         dsimp only at e1
         rw[if_pos (by omega)]at e1
         have hz0:OX.length=0:=by rw[otl,hOe];rfl
         repeat (first|(refine n1s rfl ?_;simp[go_sem,↓iO,iO,tN,hz0])|refine anI ?_|refine⟨dcK,?_⟩|refine iP ?_|refine iN ?_)
         rw[RqN];refine⟨j+1,[(0,some 0),(503,some 503),(504,some 504),(505,some 505),(520,some 520),(521,some 521)],?_,?_,?_⟩
         ·omega
         ·omega
         simp[go_sem,↓iO,iO,tN,e1]
         omega
        ·rw[if_neg hOe]at i4
         have hop:0 < OL.length:=List.length_pos_iff.2 hOe
         have cix:=n_fn l kc OL.length hsc (by omega)
         have bix:=nV_range (l:=l) (k:=kc) (n:=OL.length) (by omega)
         obtain⟨ix,hix⟩:∃ x:Nat,nV l kc OL.length=(x:Int):=⟨(nV l kc OL.length).toNat,by omega⟩
         rw[hix]at i4 cix bix
         obtain⟨c,hc⟩:∃ c,OL[ix]? = some c:=has_get (by omega)
         have hcx:OX[ix]? = some (.int (c:Int)):=by rw[←hox,List.getElem?_map,hc];rfl
         have hcd:OL.getD ix 0=c:=by rw[List.getD_eq_getElem?_getD,hc];rfl
         obtain⟨hcl,hco⟩:=hom c (List.mem_of_getElem? hc)
         rw[Int.toNat_natCast,hcd]at i4
         obtain⟨⟨⟨nm,fr',to',cp,rs',wv⟩,pts⟩,gs⟩:∃ s,d.segs[c]? = some s:=has_get hcl
         obtain⟨q1,q2,q3⟩:=sx gs
         dsimp only at q1 q2 q3
         have hnb:=hnode c hcl
         have hway:=Way.snoc i2 hcl hco
         have hat2:=at_rng hnode hndb hway
         have hlt2:=(of_decide_eq_true hco).2.1
         rw[q1,q2]at hnb i4 hway hat2 hlt2
         have hWs:(ww++[c]).map encN=W++[.int (c:Int)]:=by rw[List.map_append,hW];rfl
         repeat (first|(refine n1s rfl ?_;simp[go_sem,↓iO,iO,tN,otl,hop])|refine anI ?_|refine⟨dcK,?_⟩|refine iP ?_|refine iN ?_)
         refine cF (cix) [(0,0)] ?_ ?_ ?_ ?_<;>simp[go_sem,↓iO,iO,tN,otl,hop,hcx,gs,hWl]
         repeat (first|(refine n1s rfl ?_;simp[go_sem,↓iO,iO,tN,hcx,gs,hWl,otl])|refine anI ?_|refine⟨dcK,?_⟩|refine iP ?_|refine iN ?_)
         rw[RqN];refine⟨(f',nextK l kc,ww++[c],fr'+to' - at'),[(0,some 0),(503,some 503),(504,some 504),(505,some 505),(520,some 520),(521,some 521),(512,some 299)],?_,?_,?_⟩
         ·exact⟨hsc.next,hway,by dsimp only;omega,i4⟩
         ·omega
         simp[go_sem,↓iO,iO,tN,hW]
  ·obtain rfl:j=n:=by omega
   rw[hXj]at hres
   dsimp only at hres
   have hsz:rs.length≤64:=by have:=hI.lr;omega
   have hpz:pr.length≤64:=by have:=hI.lp;omega
   rcases hres with ⟨h0,rfl,rfl⟩|⟨h0,rfl,rfl⟩
   ·have cng:=negated_fn rs pr PM (fun r hr=>by
     obtain⟨i,hi,rfl⟩:=getD_mem' hr
     have:=hI.bR i (by rw[←hI.lr];exact hi)
     omega) (fun r hr=>by
     obtain⟨i,hi,rfl⟩:=getD_mem' hr
     have:=hI.bP i (by rw[←hI.lp];exact hi)
     omega) (by omega) (by omega) (by omega)
    obtain⟨N1,hN1⟩:∃ X,(rs.map fun x=>-x).map encI=X:=⟨_,rfl⟩
    obtain⟨N2,hN2⟩:∃ X,(pr.map fun x=>-x).map encI=X:=⟨_,rfl⟩
    rw[hN1,hN2]at cng ⊢
    repeat (first|(refine n1s rfl ?_;simp[go_sem,↓iO,iO,tN,h0])|refine anI ?_|refine⟨dcK,?_⟩|refine iP ?_|refine iN ?_)
    refine CallK.fn (cng) [] [] [520,521] (by kernel_rfl) ?_ ?_ ?_ (Or.inl rfl) ?_<;>simp[go_sem,↓iO,iO,tN,h0]
    repeat (first|(refine n1s rfl ?_;simp[go_sem,↓iO,iO,tN,h0])|refine anI ?_|refine⟨dcK,?_⟩|refine iP ?_|refine iN ?_)
    first|rw[TqR]|rw[TqN]
    refine⟨[(0,some 0)],?_⟩
    simp[go_sem,↓iO,iO,tN]
    rw[hXj]
   ·repeat (first|(refine n1s rfl ?_;simp[go_sem,↓iO,iO,tN,h0])|refine anI ?_|refine⟨dcK,?_⟩|refine iP ?_|refine iN ?_)
    first|rw[TqR]|rw[TqN]
    refine⟨[(0,some 0)],?_⟩
    simp[go_sem,↓iO,iO,tN]
    rw[hXj]
end Go.Proofs.YtdjmklobfjigoaaGreatDoor
namespace Go.Proofs.YtdjmklobfjigoaaGreatDoor
open Go.RowKit Sy Dl
end Go.Proofs.YtdjmklobfjigoaaGreatDoor
namespace Go.Proofs.YtdjmklobfjigoaaGreatDoor
open Go.RowKit Sy Dl
open Go.IntWalk renaming iteOmega → iO, toNatUp → tN
def volV (b:Int):List (List (Int×Int))→Int
 | []=>0
 | l :: r=>Pc.of_ l b+volV b r
theorem volV_app (b:Int):∀ (x y:List (List (Int×Int))),volV b (x++y)=volV b x+volV b y
 | [],y=>by simp[volV]
 | l :: r,y=>by simp only[List.cons_append,volV,volV_app b r y];omega
theorem volV_snoc {ls:List (List (Int×Int))} {k:Nat} {l:List (Int×Int)} (b:Int) (h:ls[k]? = some l):volV b (ls.take (k+1))=volV b (ls.take k)+Pc.of_ l b:=by
 obtain⟨hk,rfl⟩:=List.getElem?_eq_some_iff.1 h
 rw[List.take_succ_eq_append_getElem hk,volV_app];simp[volV]
structure VlOk (l:List (Int×Int)):Prop where
 len:l.length≤10000
 each:∀ p∈l,0≤p.2∧p.2≤1000000
theorem volV_bd (b:Int):∀ (ls:List (List (Int×Int))),(∀ l∈ls,VlOk l)→0≤volV b ls∧volV b ls≤10000000000 * (ls.length:Int)
 | [],_=>by simp[volV]
 | l :: r,h=>by
  have h1:=h l (by simp)
  have h2:=volV_bd b r fun x hx=>h x (by simp[hx])
  have h3:=Pc.of_bound l b h1.each
  have h4:=h1.len
  simp only[volV,List.length_cons]
  omega
theorem tvolume_fn (ls:List (List (Int×Int))) (b:Int) (hl:ls.length≤1000) (h:∀ l∈ls,VlOk l):FnOk Tryz.prog 12 [.t (.sl 1 (ls.map encPs)),.t (.int b)] [] (.t (.int (volV b ls))) []:=by
 refine FnOk.intro fact_mixed Tryz.func12 rfl Tryz.ntmps12 (by rfl) (by simp) ?_
 repeat (first|(refine n1s rfl ?_;simp[go_sem,↓iO,iO,tN])|refine anI ?_|refine⟨dcK,?_⟩|refine iP ?_|refine iN ?_)
 refine nf1_sound' _ _ _ ?_;simp only[nf1]
 refine CW.loop (ι:=Nat) (fun k=>⟨[(0,.t (.sl 1 (ls.map encPs))),(1,.t (.int b)),(5,.t (.int (volV b (ls.take k)))),(10,.t (.int ls.length)),(11,.t (.int k))],[]⟩) (fun k=>k≤ls.length) (fun k=>ls.length - k) 0 [] (by omega) ?_ ?_
 ·simp[go_sem,↓iO,iO,tN,volV]
 intro k hk
 by_cases hb:k < ls.length
 ·obtain⟨l,hp⟩:=has_get hb
  have hv:=h l (mem_get hp)
  have hvl:=hv.len
  have hs:=volV_snoc b hp
  have hb1:=volV_bd b (ls.take k) fun x hx=>h x (List.mem_of_mem_take hx)
  rw[List.length_take]at hb1
  obtain⟨A,hA⟩:∃ A,volV b (ls.take k)=A:=⟨_,rfl⟩
  rw[hA]at hb1 hs ⊢
  repeat (first|(refine n1s rfl ?_;simp[go_sem,↓iO,iO,tN,hp])|refine anI ?_|refine⟨dcK,?_⟩|refine iP ?_|refine iN ?_)
  refine nf1_sound' _ _ _ ?_;simp only[nf1]
  refine CW.loop (ι:=Nat) (fun j=>⟨[(0,.t (.sl 1 (ls.map encPs))),(1,.t (.int b)),(5,.t (.int (A+Pc.of_ (l.take j) b))),(10,.t (.int ls.length)),(11,.t (.int k)),(17,.t (encPs l)),(18,.t (.int l.length)),(19,.t (.int j))],[]⟩) (fun j=>j≤l.length) (fun j=>l.length - j) 0 [] (by omega) ?_ ?_
  ·simp[go_sem,↓iO,iO,tN,Pc.of_]
  intro j hj
  by_cases hb2:j < l.length
  ·obtain⟨p,hp2⟩:=has_get hb2
   have hs2:=Pc.of_snoc b hp2
   have hb3:=Pc.of_bound (l.take j) b fun x hx=>hv.each x (List.mem_of_mem_take hx)
   rw[List.length_take]at hb3
   have hpv:=hv.each p (mem_get hp2)
   by_cases he:p.1=b
   ·rw[if_pos he]at hs2
    repeat (first|(refine n1s rfl ?_;simp[go_sem,↓iO,iO,tN,hp2,he])|refine anI ?_|refine⟨dcK,?_⟩|refine iP ?_|refine iN ?_)
    rw[RqN];refine⟨j+1,[],?_,?_,?_⟩
    ·omega
    ·omega
    simp[go_sem,↓iO,iO,tN,hs2]
    omega
   ·rw[if_neg he]at hs2
    repeat (first|(refine n1s rfl ?_;simp[go_sem,↓iO,iO,tN,hp2,he])|refine anI ?_|refine⟨dcK,?_⟩|refine iP ?_|refine iN ?_)
    rw[RqN];refine⟨j+1,[],?_,?_,?_⟩
    ·omega
    ·omega
    simp[go_sem,↓iO,iO,tN,hs2]
  ·obtain rfl:j=l.length:=by omega
   rw[List.take_length]
   repeat (first|(refine n1s rfl ?_;simp[go_sem,↓iO,iO,tN])|refine anI ?_|refine⟨dcK,?_⟩|refine iP ?_|refine iN ?_)
   rw[RqN];refine⟨k+1,[],?_,?_,?_⟩
   ·omega
   ·omega
   simp[go_sem,↓iO,iO,tN,hs]
 ·obtain rfl:k=ls.length:=by omega
  repeat (first|(refine n1s rfl ?_;simp[go_sem,↓iO,iO,tN])|refine anI ?_|refine⟨dcK,?_⟩|refine iP ?_|refine iN ?_)
  first|rw[TqR]|rw[TqN]
  refine⟨[],?_⟩
  simp[go_sem,↓iO,iO,tN,List.take_length]
end Go.Proofs.YtdjmklobfjigoaaGreatDoor
namespace Go.Proofs.YtdjmklobfjigoaaGreatDoor
open Go.RowKit Sy
theorem volV_sumN (b:Int):∀ fl:List (List (Int×Int)),volV b fl=sumN fl.length fun s=>Pc.of_ (fl.getD s []) b
 | []=>rfl
 | f :: r=>by
  rw[List.length_cons,sumN_head]
  have:=volV_sumN b r
  simp only[volV,this]
  simp
theorem Sw_fills (b:Int) (fl:List (List (Int×Int))):Sw fl.length wA (fl.map some) b=volV b fl:=by
 rw[volV_sumN]
 unfold Sw
 refine sumN_congr fun s hs=>?_
 have:gvO (fl.map some) s=fl.getD s []:=by
  unfold gvO
  rw[List.getD_eq_getElem?_getD,List.getElem?_map,List.getD_eq_getElem?_getD]
  cases fl[s]?<;>rfl
 rw[this]
 simp[wA]
theorem volV_range (b:Int) (f:Nat→List (Int×Int)) (n:Nat):volV b ((List.range n).map f)=sumN n fun i=>Pc.of_ (f i) b:=by
 rw[volV_sumN,List.length_map,List.length_range]
 exact sumN_congr fun i hi=>by
  have:((List.range n).map f).getD i []=f i:=by rw[List.getD_eq_getElem?_getD,List.getElem?_map,List.getElem?_range hi];rfl
  rw[this]
def unF (F:Fi):List (List (Int×Int)):=F.map fun x=>x.getD []
theorem unF_some {d:LineD} {F:Fi} (h:FillF d F):(unF F).map some=F:=by
 apply List.ext_getElem?
 intro s
 unfold unF
 rw[List.map_map,List.getElem?_map]
 by_cases hs:s < d.segs.length
 ·obtain⟨f,h1,_⟩:=h.2 s hs
  rw[h1];rfl
 ·rw[List.getElem?_eq_none (by rw[h.1];omega)];rfl
theorem unF_ok {d:LineD} {F:Fi} (h:FillF d F):FillsOk d (unF F):=by
 have hat:∀ s f,(unF F)[s]? = some f→s < d.segs.length∧F[s]? = some (some f)∧Pc.Vd f∧Pc.vol f=capN d s:=fun s f hf=>by
  unfold unF at hf
  rw[List.getElem?_map]at hf
  obtain⟨x,hx,e⟩:=Option.map_eq_some_iff.1 hf
  have hs:s < d.segs.length:=by rw[←h.1];exact (List.getElem?_eq_some_iff.1 hx).1
  obtain⟨g,h1,h2,h3⟩:=h.2 s hs
  rw[h1]at hx;cases hx
  simp only[Option.getD_some]at e
  subst e
  exact⟨hs,h1,h2,h3⟩
 refine⟨by unfold unF;rw[List.length_map];exact h.1,fun f hf=>?_,fun s f sg hf hsg=>?_⟩
 ·obtain⟨s,hs,e⟩:=List.getElem_of_mem hf
  exact (hat s f (by rw[←e];exact List.getElem?_eq_getElem hs)).2.2.1
 ·rw[(hat s f hf).2.2.2]
  simp[capN,hsg]
def inP (I:List Int) (fd pr:List Int) (t:Int):Nat→List Int
 | 0=>I
 | k+1=>(inP I fd pr t k).set (fd.getD k 0).toNat ((inP I fd pr t k).getD (fd.getD k 0).toNat 0+t * max 0 (pr.getD k 0))
theorem inP_len (I fd pr:List Int) (t:Int):∀ k,(inP I fd pr t k).length=I.length
 | 0=>rfl
 | k+1=>by simp only[inP,List.length_set,inP_len I fd pr t k]
theorem inP_get {I fd pr:List Int} {t:Int} (hI:I.length=6) (hf:∀ i,0≤fd.getD i 0∧fd.getD i 0 < 6) (b:Nat) (hb:b < 6):∀ k,(inP I fd pr t k).getD b 0=I.getD b 0+t * sumN k fun p=>if 0 < pr.getD p 0 then (if fd.getD p 0=(b:Int) then pr.getD p 0 else 0) else 0
 | 0=>by simp[inP,sumN]
 | k+1=>by
  have ih:=inP_get (pr:=pr) (t:=t) hI hf b hb k
  have h1:=hf k
  simp only[inP,sumN]
  rw[getD_set (by rw[inP_len,hI];omega)]
  by_cases e:b=(fd.getD k 0).toNat
  ·rw[if_pos e,←e,ih]
   have e2:fd.getD k 0=(b:Int):=by omega
   by_cases hr:0 < pr.getD k 0
   ·rw[if_pos hr,if_pos e2,Int.mul_add]
    have:max 0 (pr.getD k 0)=pr.getD k 0:=by omega
    rw[this];omega
   ·rw[if_neg hr]
    have:max 0 (pr.getD k 0)=0:=by omega
    rw[this];simp
  ·rw[if_neg e,ih]
   have e2:¬ fd.getD k 0=(b:Int):=fun q=>e (by omega)
   by_cases hr:0 < pr.getD k 0
   ·rw[if_pos hr,if_neg e2,Int.add_zero]
   ·rw[if_neg hr,Int.add_zero]
theorem sumN_bd {f:Nat→Int} {B:Int} (h:∀ i,0≤f i∧f i≤B):∀ n:Nat,0≤sumN n f∧sumN n f≤B * n
 | 0=>by simp[sumN]
 | n+1=>by
  have h1:=sumN_bd h n
  have h2:=h n
  simp only[sumN]
  rw[Int.natCast_succ,Int.mul_add,Int.mul_one]
  omega
def adP (O:List Int) (v:Nat→Int):Nat→List Int
 | 0=>O
 | b+1=>(adP O v b).set b ((adP O v b).getD b 0+v b)
theorem adP_len (O:List Int) (v:Nat→Int):∀ b,(adP O v b).length=O.length
 | 0=>rfl
 | b+1=>by simp only[adP,List.length_set,adP_len O v b]
theorem adP_get {O:List Int} {v:Nat→Int} (hO:O.length=6) (i:Nat):∀ b,b≤6→(adP O v b).getD i 0=if i < b then O.getD i 0+v i else O.getD i 0
 | 0,_=>by simp[adP]
 | b+1,hb=>by
  have ih:=adP_get (v:=v) hO i b (by omega)
  simp only[adP]
  rw[getD_set (by rw[adP_len,hO];omega)]
  by_cases e:i=b
  ·subst e
   rw[if_pos rfl,ih,if_neg (by omega),if_pos (by omega)]
  ·rw[if_neg e,ih]
   by_cases h:i < b
   ·rw[if_pos h,if_pos (by omega)]
   ·rw[if_neg h,if_neg (by omega)]
theorem plan_ex (l:List Int) (k:Nat) (h:SrcOk l k) (d:NetD) (hd:GnOk d) (hnn:d.nn.length≤24) (hst:d.stns.length≤24):∃ (k':Nat) (rs pr:List Int) (pm:List T) (ρ:Nat→Nat),SrcOk l k'∧PlR d.segs d.ports ρ rs pr∧pm.length=d.stns.length∧
  FnOk Tryz.prog 22 [.pt 0 [] 0,.t (.agg d.l)] [(0,srcB l k)] (.t (.agg [.sl 1 (rs.map encI),.sl 1 (pr.map encI),.sl 1 pm])) [(0,srcB l k')]:=by
 have hks:=nxK_ok h
 have hn5:=nV_range (l:=l) (k:=nextK l (nxK l k d.stns.length)) (n:=5) (by omega)
 obtain⟨n,hn⟩:∃ n:Nat,nV l (nextK l (nxK l k d.stns.length)) 5=(n:Int):=⟨(nV l (nextK l (nxK l k d.stns.length)) 5).toNat,by omega⟩
 obtain⟨PMf,hPM⟩:∃ PMf:Nat→List T,∀ j,PMf j=(List.range j).map fun i=>T.bool (decide (nV l (nxK l k i) 2=0)):=⟨_,fun _=>rfl⟩
 obtain⟨h1,h2⟩:=strN_ok (l:=l) hd.p1 (fun i hi=>(hd.nodes hi).2.2) (hks d.stns.length).next.next n
 obtain⟨X,hX⟩:∃ X:Nat→Nat×List Int×List Int,∀ j,strN l d.segs d.ports (nextK l (nextK l (nxK l k d.stns.length))) j=X j:=⟨_,fun _=>rfl⟩
 rw[hX]at h1 h2
 have hnode:∀ i,i < d.segs.length→(0≤sFr d.segs i∧sFr d.segs i < (d.nn.length:Int))∧0≤sTo d.segs i∧sTo d.segs i < (d.nn.length:Int):=fun i hi=>⟨(hd.nodes hi).1,(hd.nodes hi).2.1⟩
 by_cases ht:nV l (nxK l k d.stns.length) 3=0
 ·exact⟨_,_,_,_,_,h1,h2.down d.nn.length hnode,by rw[hPM];simp,plan_fn l k h d hd hnn hst PMf hPM _ 0 rfl n hn X hX _ _ (Or.inl ⟨ht,rfl,rfl⟩)⟩
 ·exact⟨_,_,_,_,_,h1,h2.up (fun i hi=>⟨(hnode i hi).1.1,(hnode i hi).2.1⟩),by rw[hPM];simp,plan_fn l k h d hd hnn hst PMf hPM _ 0 rfl n hn X hX _ _ (Or.inr ⟨ht,rfl,rfl⟩)⟩
end Go.Proofs.YtdjmklobfjigoaaGreatDoor
namespace Go.Proofs.YtdjmklobfjigoaaGreatDoor
open Go.RowKit Sy
open Go.IntWalk renaming iteOmega → iO, toNatUp → tN
structure FS where
 k:Nat
 v:Int
 out:List (Int×Int)
def fB (l:List Int) (b:Int) (s:FS):Int:=nV l s.k b
def fV (l:List Int) (s:FS):Int:=min (if s.out.length=11 then s.v else rangeV l (nextK l s.k) 1 (max 1 (s.v * 2 / 3))) s.v
def fStep (l:List Int) (b:Int) (s:FS):FS:=
 let k2:=nextK l (nextK l s.k)
 let x:=fB l b s
 let y:=fV l s
 match s.out.getLast? with
 | none=>⟨k2,s.v - y,s.out++[(x,y)]⟩
 | some q=>if q.1=x then (if q.1=(x+1) % b then ⟨k2,s.v - y,s.out.dropLast++[(q.1,q.2+y)]⟩ else ⟨k2,s.v - y,s.out++[((x+1) % b,y)]⟩)
  else ⟨k2,s.v - y,s.out++[(x,y)]⟩
def fGo (l:List Int) (b:Int):Nat→FS→FS
 | 0,s=>s
 | f+1,s=>if 0 < s.v∧s.out.length < 12 then fGo l b f (fStep l b s) else s
theorem fV_range {l:List Int} {s:FS} (h:0 < s.v):1≤fV l s∧fV l s≤s.v:=by
 unfold fV
 have:=rangeV_range (l:=l) (k:=nextK l s.k) (lo:=1) (hi:=max 1 (s.v * 2 / 3)) (by omega)
 split<;>omega
theorem fStep_v {l:List Int} {b:Int} {s:FS}:(fStep l b s).v=s.v - fV l s∧(fStep l b s).k=nextK l (nextK l s.k):=by
 unfold fStep;simp only
 split
 ·exact⟨rfl,rfl⟩
 ·split
  ·split<;>exact⟨rfl,rfl⟩
  ·exact⟨rfl,rfl⟩
theorem fGo_step {l:List Int} {b:Int} {f:Nat} {s:FS} (h:0 < s.v) (h2:s.out.length < 12) (hf:s.v.toNat≤f):∃ f',(fStep l b s).v.toNat≤f'∧fGo l b f s=fGo l b f' (fStep l b s):=by
 cases f with
 | zero=>omega
 | succ f=>
  refine⟨f,?_,by simp only[fGo];rw[if_pos ⟨h,h2⟩]⟩
  rw[fStep_v.1]
  have:=fV_range (l:=l) h
  omega
theorem fGo_end {l:List Int} {b:Int} {f:Nat} {s:FS} (h:¬ (0 < s.v∧s.out.length < 12)):fGo l b f s=s:=by
 cases f with
 | zero=>rfl
 | succ f=>simp only[fGo];rw[if_neg h]
def FI (l:List Int) (b:Int) (s:FS):Prop:=SrcOk l s.k∧0≤s.v∧s.v≤1000000∧s.out.length≤12∧∀ p∈s.out,0≤p.1∧p.1 < b∧0≤p.2∧p.2≤1000000 - s.v
theorem fStep_ok {l:List Int} {b:Int} {s:FS} (h:FI l b s) (hb:1≤b) (h1:0 < s.v) (h2:s.out.length < 12):FI l b (fStep l b s):=by
 obtain⟨hs,hv0,hv1,hlen,hall⟩:=h
 have hnb:=nV_range (l:=l) (k:=s.k) (n:=b) hb
 have hm1:=Int.emod_nonneg (nV l s.k b+1) (show b≠0 by omega)
 have hm2:=Int.emod_lt_of_pos (nV l s.k b+1) (show 0 < b by omega)
 have hfv:=fV_range (l:=l) h1
 refine⟨by rw[fStep_v.2];exact hs.next.next,by rw[fStep_v.1];omega,by rw[fStep_v.1];omega,?_,?_⟩
 ·unfold fStep fB;simp only
  split
  ·simp only[List.length_append,List.length_singleton];omega
  ·split
   ·split<;>simp<;>omega
   ·simp only[List.length_append,List.length_singleton];omega
 ·rw[fStep_v.1]
  unfold fStep fB;simp only
  split
  ·intro p hp
   simp only[List.mem_append,List.mem_singleton]at hp
   rcases hp with hp|rfl
   ·have:=hall p hp;omega
   ·simp only;omega
  ·rename_i q hq
   have hq':=hall q (List.mem_of_getLast? hq)
   split
   ·split<;>intro p hp<;>simp only[List.mem_append,List.mem_singleton]at hp<;>rcases hp with hp|rfl
    ·have:=hall p ((List.dropLast_sublist _).subset hp);omega
    ·simp only;omega
    ·have:=hall p hp;omega
    ·simp only;omega
   ·intro p hp
    simp only[List.mem_append,List.mem_singleton]at hp
    rcases hp with hp|rfl
    ·have:=hall p hp;omega
    ·simp only;omega
def fillS (l:List Int) (k:Nat) (v b:Int):FS:=fGo l b v.toNat ⟨k,v,[]⟩
theorem fill_fn (l:List Int) (k:Nat) (v b:Int) (h:SrcOk l k) (hb:1≤b) (hb2:b≤1000) (hv:0≤v) (hv2:v≤1000000) :
  FnOk Tryz.prog 35 [.pt 0 [] 0,.t (.int v),.t (.int b)] [(0,srcB l k)] (.own 1000) [(0,srcB l (fillS l k v b).k),(1000,blkP (fillS l k v b).out)]:=by
 refine FnOk.intro fact_mixed Tryz.func35 rfl Tryz.ntmps35 (by rfl) (by simp) ?_
 repeat (first|(refine n1s rfl ?_;simp[go_sem,↓iO,iO,tN])|refine anI ?_|refine⟨dcK,?_⟩|refine iP ?_|refine iN ?_)
 refine nf1_sound' _ _ _ ?_;simp only[nf1]
 refine CW.loop (ι:=FS) (fun s=>⟨[(0,.pt 0 [] 0),(1,.t (.int s.v)),(2,.t (.int b)),(7,.own 500)],[(0,srcB l s.k),(500,blkP s.out)]⟩)
  (fun s=>FI l b s∧∃ f,s.v.toNat≤f∧fGo l b f s=fillS l k v b) (fun s=>s.v.toNat) ⟨k,v,[]⟩ [(0,some 0),(500,none)] ⟨⟨h,hv,hv2,by simp,by simp⟩,_,Nat.le_refl _,rfl⟩ ?_ ?_
 ·simp[go_sem,↓iO,iO,tN]
 rintro s ⟨hFI,f,hf,hgo⟩
 obtain⟨hs,hv0,hv1,hlen,hall⟩:=id hFI
 by_cases h1:0 < s.v
 ·by_cases h2:s.out.length < 12
  ·obtain⟨f',hf',hgo'⟩:=fGo_step (l:=l) (b:=b) h1 h2 hf
   have hnb:=nV_range (l:=l) (k:=s.k) (n:=b) hb
   have hrg:=rangeV_range (l:=l) (k:=nextK l s.k) (lo:=1) (hi:=max 1 (s.v * 2 / 3)) (by omega)
   have hfv:=fV_range (l:=l) h1
   have hdec:(fStep l b s).v.toNat < s.v.toNat:=by rw[fStep_v.1];omega
   have hnx:=fStep_ok hFI hb h1 h2
   obtain⟨k',v',out⟩:=s
   simp only at *
   rcases List.eq_nil_or_concat out with rfl|⟨o,q,rfl⟩
   ·repeat (first|(refine n1s rfl ?_;simp[go_sem,↓iO,iO,tN])|refine anI ?_|refine⟨dcK,?_⟩|refine iP ?_|refine iN ?_)
    refine cF (n_fn l k' b hs (by omega)) [(0,0)] ?_ ?_ ?_ ?_<;>simp[go_sem,↓iO,iO,tN]
    repeat (refine anI ?_)
    try (refine⟨dcK,?_⟩)
    refine cF (range_fn l (nextK l k') 1 (max 1 (v' * 2 / 3)) hs.next (by omega) (by omega) (by omega)) [(0,0)] ?_ ?_ ?_ ?_<;>simp[go_sem,↓iO,iO,tN]
    repeat (first|(refine n1s rfl ?_;simp[go_sem,↓iO,iO,tN])|refine anI ?_|refine⟨dcK,?_⟩|refine iP ?_|refine iN ?_)
    rw[RqN];refine⟨fStep l b ⟨k',v',[]⟩,[(0,some 0),(500,some 190)],?_,?_,?_⟩
    ·exact⟨hnx,f',by omega,hgo' ▸ hgo⟩
    ·exact hdec
    simp[go_sem,↓iO,iO,tN,fStep,fB,fV]
   ·have hq:=hall q (by simp)
    simp only[List.concat_eq_append]at *
    simp only[List.length_append,List.length_singleton]at hlen h2
    have key:fStep l b ⟨k',v',o++[q]⟩=if q.1=nV l k' b then (if q.1=(nV l k' b+1) % b then ⟨nextK l (nextK l k'),v' - fV l ⟨k',v',o++[q]⟩,o++[(q.1,q.2+fV l ⟨k',v',o++[q]⟩)]⟩ else ⟨nextK l (nextK l k'),v' - fV l ⟨k',v',o++[q]⟩,o++[q]++[((nV l k' b+1) % b,fV l ⟨k',v',o++[q]⟩)]⟩)
      else ⟨nextK l (nextK l k'),v' - fV l ⟨k',v',o++[q]⟩,o++[q]++[(nV l k' b,fV l ⟨k',v',o++[q]⟩)]⟩:=by
     simp[fStep,fB]
    by_cases h11:o.length=10
    all_goals
     repeat (first|(refine n1s rfl ?_;simp[go_sem,↓iO,iO,tN,h11])|refine anI ?_|refine⟨dcK,?_⟩|refine iP ?_|refine iN ?_)
     refine cF (n_fn l k' b hs (by omega)) [(0,0)] ?_ ?_ ?_ ?_<;>simp[go_sem,↓iO,iO,tN,h11]
     repeat (refine anI ?_)
     try (refine⟨dcK,?_⟩)
     refine cF (range_fn l (nextK l k') 1 (max 1 (v' * 2 / 3)) hs.next (by omega) (by omega) (by omega)) [(0,0)] ?_ ?_ ?_ ?_<;>simp[go_sem,↓iO,iO,tN,h11]
     repeat (first|(refine n1s rfl ?_;simp[go_sem,↓iO,iO,tN,h11])|refine anI ?_|refine⟨dcK,?_⟩|refine iP ?_|refine iN ?_)
     by_cases he:q.1=nV l k' b
     ·rw[if_pos he]
      by_cases he2:q.1=(nV l k' b+1) % b
      ·repeat (first|(refine n1s rfl ?_;simp[go_sem,↓iO,iO,tN,h11,←he2])|refine anI ?_|refine⟨dcK,?_⟩|refine iP ?_|refine iN ?_)
       have k2:=key;rw[if_pos he,if_pos he2]at k2
       rw[RqN];refine⟨fStep l b ⟨k',v',o++[q]⟩,[(0,some 0),(500,some 500)],?_,?_,?_⟩
       ·exact⟨hnx,f',by omega,hgo' ▸ hgo⟩
       ·exact hdec
       simp[go_sem,↓iO,iO,tN,k2,fV,h11]
      ·repeat (first|(refine n1s rfl ?_;simp[go_sem,↓iO,iO,tN,h11,he2])|refine anI ?_|refine⟨dcK,?_⟩|refine iP ?_|refine iN ?_)
       have k2:=key;rw[if_pos he,if_neg he2]at k2
       rw[RqN];refine⟨fStep l b ⟨k',v',o++[q]⟩,[(0,some 0),(500,some 190)],?_,?_,?_⟩
       ·exact⟨hnx,f',by omega,hgo' ▸ hgo⟩
       ·exact hdec
       simp[go_sem,↓iO,iO,tN,k2,fV,h11]
     ·rw[if_neg he]
      repeat (first|(refine n1s rfl ?_;simp[go_sem,↓iO,iO,tN,h11])|refine anI ?_|refine⟨dcK,?_⟩|refine iP ?_|refine iN ?_)
      have k2:=key;rw[if_neg he]at k2
      rw[RqN];refine⟨fStep l b ⟨k',v',o++[q]⟩,[(0,some 0),(500,some 190)],?_,?_,?_⟩
      ·exact⟨hnx,f',by omega,hgo' ▸ hgo⟩
      ·exact hdec
      simp[go_sem,↓iO,iO,tN,k2,fV,h11]
  ·rw[fGo_end (by omega)]at hgo
   repeat (first|(refine n1s rfl ?_;simp[go_sem,↓iO,iO,tN])|refine anI ?_|refine⟨dcK,?_⟩|refine iP ?_|refine iN ?_)
   first|rw[TqR]|rw[TqN]
   refine⟨[(0,some 0),(1000,some 500)],?_⟩
   simp[go_sem,↓iO,iO,tN,←hgo]
 ·rw[fGo_end (by omega)]at hgo
  repeat (first|(refine n1s rfl ?_;simp[go_sem,↓iO,iO,tN])|refine anI ?_|refine⟨dcK,?_⟩|refine iP ?_|refine iN ?_)
  first|rw[TqR]|rw[TqN]
  refine⟨[(0,some 0),(1000,some 500)],?_⟩
  simp[go_sem,↓iO,iO,tN,←hgo]
end Go.Proofs.YtdjmklobfjigoaaGreatDoor
namespace Go.Proofs.YtdjmklobfjigoaaGreatDoor
open Go.RowKit
theorem fGo_ind {l:List Int} {b:Int} {C:FS→Prop} (hs:∀ s,C s→0 < s.v→s.out.length < 12→C (fStep l b s)):∀ (f:Nat) (s:FS),C s→C (fGo l b f s)
 | 0,s,h=>h
 | f+1,s,h=>by
  simp only[fGo]
  split
  ·rename_i hh
   exact fGo_ind hs f _ (hs s h hh.1 hh.2)
  ·exact h
def FC (v0:Int) (s:FS):Prop:=Pc.Canon s.out∧Pc.vol s.out=v0 - s.v
theorem vol_one (p:Int×Int):Pc.vol [p]=p.2:=by simp[Pc.vol]
theorem fStep_c {l:List Int} {b v0:Int} {s:FS} (h:FC v0 s) (h1:0 < s.v):FC v0 (fStep l b s):=by
 obtain⟨hc,hv⟩:=h
 have hfv:=fV_range (l:=l) h1
 refine⟨?_,?_⟩
 ·unfold fStep;simp only
  split
  ·rename_i hn
   exact (Pc.canon_snoc _ _).2 ⟨hc,by simp only;omega,fun q hq=>by rw[hn]at hq;cases hq⟩
  ·rename_i q hq
   split
   ·rename_i he
    split
    ·have hsp:=Pc.last_split hq
     rw[hsp]at hc
     have h2:=(Pc.canon_snoc _ _).1 hc
     exact (Pc.canon_snoc _ _).2 ⟨h2.1,by have:=h2.2.1;simp only;omega,h2.2.2⟩
    ·rename_i he2
     exact (Pc.canon_snoc _ _).2 ⟨hc,by simp only;omega,fun q' hq'=>by rw[hq]at hq';obtain rfl:=Option.some.inj hq';exact he2⟩
   ·rename_i he
    exact (Pc.canon_snoc _ _).2 ⟨hc,by simp only;omega,fun q' hq'=>by rw[hq]at hq';obtain rfl:=Option.some.inj hq';exact he⟩
 ·rw[fStep_v.1]
  unfold fStep;simp only
  split
  ·simp only[Pc.vol_append,vol_one];omega
  ·rename_i q hq
   split
   ·split
    ·have hsp:=Pc.last_split hq
     rw[hsp,Pc.vol_append,vol_one]at hv
     simp only[Pc.vol_append,vol_one];omega
    ·simp only[Pc.vol_append,vol_one];omega
   ·simp only[Pc.vol_append,vol_one];omega
structure FillOk (l:List Int) (k:Nat) (v b:Int):Prop where
 src:SrcOk l (fillS l k v b).k
 vd:Pc.Vd (fillS l k v b).out
 len:(fillS l k v b).out.length≤12
 vol:Pc.vol (fillS l k v b).out≤v
 batch:∀ p∈(fillS l k v b).out,0≤p.1∧p.1 < b
theorem fill_ok {l:List Int} {k:Nat} {v b:Int} (h:SrcOk l k) (hb:1≤b) (hb2:b≤1000) (hv:0≤v) (hv2:v≤1000000):FillOk l k v b:=by
 have h1:FI l b (fillS l k v b)∧FC v (fillS l k v b):=
  fGo_ind (C:=fun s=>FI l b s∧FC v s) (fun s hs h1 h2=>⟨fStep_ok hs.1 hb h1 h2,fStep_c hs.2 h1⟩) _ _ ⟨⟨h,hv,hv2,by simp,by simp⟩,by simp[Pc.Canon],by simp[Pc.vol]⟩
 obtain⟨⟨a1,a2,a3,a4,a5⟩,a6,a7⟩:=h1
 have hvol:Pc.vol (fillS l k v b).out≤v:=by omega
 exact⟨a1,Pc.vd_of_canon a6 (fun p hp=>by have:=a5 p hp;omega) (by omega) (by omega),a4,hvol,fun p hp=>by have:=a5 p hp;omega⟩
theorem fGo_stop {l:List Int} {b:Int}:∀ (f:Nat) (s:FS),s.v.toNat≤f→¬ (0 < (fGo l b f s).v∧(fGo l b f s).out.length < 12)
 | 0,s,h=>by simp only[fGo];omega
 | f+1,s,h=>by
  simp only[fGo]
  split
  ·rename_i hh
   refine fGo_stop f _ ?_
   rw[fStep_v.1]
   have:=fV_range (l:=l) hh.1
   omega
  ·assumption
theorem fStep_full {l:List Int} {b:Int} {s:FS} (h2:s.out.length < 12) (h1:0 < s.v):(fStep l b s).out.length=12→(fStep l b s).v=0:=by
 rw[fStep_v.1]
 intro h
 have h11:s.out.length=11:=by
  unfold fStep at h;simp only at h
  split at h
  ·simp at h;omega
  ·split at h
   ·split at h<;>simp at h<;>omega
   ·simp at h;omega
 unfold fV;rw[if_pos h11];omega
theorem fill_vol {l:List Int} {k:Nat} {v b:Int} (h:SrcOk l k) (hb:1≤b) (hv:0≤v) (hv2:v≤1000000):Pc.vol (fillS l k v b).out=v:=by
 have h1:FI l b (fillS l k v b)∧FC v (fillS l k v b)∧((fillS l k v b).out.length=12→(fillS l k v b).v=0):=
  fGo_ind (C:=fun s=>FI l b s∧FC v s∧(s.out.length=12→s.v=0)) (fun s hs h1 h2=>⟨fStep_ok hs.1 hb h1 h2,fStep_c hs.2.1 h1,fStep_full h2 h1⟩) _ _ ⟨⟨h,hv,hv2,by simp,by simp⟩,⟨by simp[Pc.Canon],by simp[Pc.vol]⟩,by simp⟩
 have h2:=fGo_stop (l:=l) (b:=b) v.toNat ⟨k,v,[]⟩ (Nat.le_refl _)
 obtain⟨⟨a1,a2,a3,a4,a5⟩,⟨a6,a7⟩,a8⟩:=h1
 change ¬ (0 < (fillS l k v b).v∧(fillS l k v b).out.length < 12) at h2
 omega
end Go.Proofs.YtdjmklobfjigoaaGreatDoor
namespace Go.Proofs.YtdjmklobfjigoaaGreatDoor
open Go.RowKit Sy
open Go.IntWalk renaming iteOmega → iO, toNatUp → tN
def FlC (l:List Int) (segs:List Sgm) (b:Int) (j k:Nat) (f:List (Int×Int)) (k':Nat):Prop:=∀ s,segs[j]? = some s→Pc.Vd f∧Pc.vol f=s.1.cp∧f.length≤12∧(∀ p∈f,0≤p.1∧p.1 < b)∧
 FnOk Tryz.prog 35 [.pt 0 [] 0,.t (.int s.1.cp),.t (.int b)] [(0,srcB l k)] (.own 1000) [(0,srcB l k'),(1000,blkP f)]
theorem fls_ex (l:List Int) (k0:Nat) (h:SrcOk l k0) (segs:List Sgm) (hs:∀ s∈segs,1≤s.1.cp∧s.1.cp≤1000000) (b:Int) (hb:1≤b) (hb2:b≤1000):∃ (K:Nat→Nat) (F:Nat→List (Int×Int)),K 0=k0∧∀ j,SrcOk l (K j)∧FlC l segs b j (K j) (F j) (K (j+1)):=
 choices (FlC l segs b) (SrcOk l) k0 h fun j a ha=>by
  cases hj:segs[j]? with
  | none=>exact⟨[],a,ha,fun s e=>by rw[hj]at e;cases e⟩
  | some s=>
   have hc:=hs s (mem_get hj)
   have h1:=fill_ok (l:=l) (k:=a) (v:=s.1.cp) (b:=b) ha hb hb2 (by omega) (by omega)
   have h2:=fill_vol (l:=l) (k:=a) (v:=s.1.cp) (b:=b) ha hb (by omega) (by omega)
   have h3:=fill_fn l a s.1.cp b ha hb hb2 (by omega) (by omega)
   exact⟨_,_,h1.src,fun s' e=>by
    rw[hj]at e;cases e
    exact⟨h1.vd,h2,h1.len,h1.batch,h3⟩⟩
theorem fills_ex (l:List Int) (k0:Nat) (h:SrcOk l k0) (d:NetD) (hd:NetOk d) (b:Int) (hb:1≤b) (hb2:b≤1000):∃ (k':Nat) (fl:List (List (Int×Int))),SrcOk l k'∧fl.length=d.segs.length∧
  (∀ (i:Nat) f s,fl[i]? = some f→d.segs[i]? = some s→Pc.Vd f∧Pc.vol f=s.1.cp∧f.length≤12∧∀ p∈f,0≤p.1∧p.1 < b)∧
  FnOk Tryz.prog 15 [.pt 0 [] 0,.t (.agg d.l),.t (.int b)] [(0,srcB l k0)] (.t (.sl 1 (fl.map encPs))) [(0,srcB l k')]:=by
 obtain⟨K,F,hK0,hKF⟩:=fls_ex l k0 h d.segs (fun s hs=>(hd.pipe s hs).cap) b hb hb2
 have h3:=hd.s1
 refine⟨K d.segs.length,(List.range d.segs.length).map F,(hKF _).1,by simp,fun i f s h1 h2=>?_,?_⟩
 ·obtain⟨hi,e⟩:=List.getElem?_eq_some_iff.1 h1
  simp at hi e
  subst e
  obtain⟨a1,a2,a3,a4,_⟩:=(hKF i).2 s h2
  exact⟨a1,a2,a3,a4⟩
 obtain⟨G,hG⟩:∃ G:Nat→List T,∀ j,((List.range j).map F).map encPs=G j:=⟨_,fun _=>rfl⟩
 have G0:G 0=[]:=by rw[←hG];rfl
 have Gs:∀ j,G (j+1)=G j++[encPs (F j)]:=fun j=>by rw[←hG,map_range_succ,List.map_append,hG];rfl
 have Gl:∀ j,(G j).length=j:=fun j=>by rw[←hG];simp
 rw[hG,←hK0]
 refine FnOk.intro fact_mixed Tryz.func15 rfl Tryz.ntmps15 (by rfl) (by simp) ?_
 repeat (first|(refine n1s rfl ?_;simp[go_sem,↓iO,iO,tN])|refine anI ?_|refine⟨dcK,?_⟩|refine iP ?_|refine iN ?_)
 refine nf1_sound' _ _ _ ?_;simp only[nf1]
 refine CW.loop (ι:=Nat) (fun j=>⟨[(0,.pt 0 [] 0),(2,.t (.int b)),(7,.own 507),(11,.t (.sl 7 (d.segs.map encSg))),(12,.t (.int d.segs.length)),(13,.t (.int j))],[(0,srcB l (K j)),(507,.list 41 1 (G j))]⟩)
  (fun j=>j≤d.segs.length) (fun j=>d.segs.length - j) 0 [(0,some 0),(507,none)] (by omega) ?_ ?_
 ·simp[go_sem,↓iO,iO,tN,G0]
 intro j hj
 have gl:=Gl j
 by_cases hb3:j < d.segs.length
 ·obtain⟨s,hs⟩:=has_get hb3
  obtain⟨_,_,_,_,c⟩:=(hKF j).2 s hs
  have gs:=Gs j
  obtain⟨G1,hG1⟩:∃ X,G j=X:=⟨_,rfl⟩
  rw[hG1]at gl gs ⊢
  obtain⟨⟨nm,fr,to,cp,rs',wv⟩,pts⟩:=s
  dsimp only at c
  repeat (first|(refine n1s rfl ?_;simp[go_sem,↓iO,iO,tN,hs,gl])|refine anI ?_|refine⟨dcK,?_⟩|refine iP ?_|refine iN ?_)
  refine cF (c) [(0,0),(1000,600)] ?_ ?_ ?_ ?_<;>simp[go_sem,↓iO,iO,tN,hs,gl]
  repeat (first|(refine n1s rfl ?_;simp[go_sem,↓iO,iO,tN,gl])|refine anI ?_|refine⟨dcK,?_⟩|refine iP ?_|refine iN ?_)
  rw[RqN];refine⟨j+1,[(0,some 0),(507,some 124)],?_,?_,?_⟩
  ·omega
  ·omega
  simp[go_sem,↓iO,iO,tN,gs]
 ·obtain rfl:j=d.segs.length:=by omega
  repeat (first|(refine n1s rfl ?_;simp[go_sem,↓iO,iO,tN])|refine anI ?_|refine⟨dcK,?_⟩|refine iP ?_|refine iN ?_)
  first|rw[TqR]|rw[TqN]
  refine⟨[(0,some 0)],?_⟩
  simp[go_sem,↓iO,iO,tN]
end Go.Proofs.YtdjmklobfjigoaaGreatDoor
