/- Several texts of this proof, one behind the other. No condition. -/
import Derived.Test.YtocndodilpimnaaGreatTThesB26
import Derived.Test.YtocndodilpimnaaGreatTThesB25
set_option maxRecDepth 100000
set_option maxHeartbeats 16000000
set_option linter.unusedVariables false
set_option linter.unusedSimpArgs false
namespace Go.Proofs.YtocndodilpimnaaGreat
open Go.RowKit Sy
open Go.IntWalk renaming iteOmega → iO, toNatUp → tN
theorem L8 (r:Int) (h:-1000000≤r∧r≤1000000):aj Tryz.prog 228 [.t (.int r)] [] (.t (.int (max r (-r)))) []:=by
 refine nI Tryz.func228 rfl Tryz.ntmps228 ?_
 refine ah ?_
 exact aF []
theorem CK (rs pr:List Int) (pm:List T) (hr:∀ r∈rs,-1000000≤r∧r≤1000000) (hp:∀ r∈pr,-1000000≤r∧r≤1000000) (lr:rs.length≤1000) (lp:pr.length≤1000) (lm:pm.length≤1000) :
  aj Tryz.prog 229 [.t (.agg [.sl 1 (rs.map aC),.sl 1 (pr.map aC),.sl 1 pm])] [] (.t (.agg [.sl 1 ((rs.map fun x=>-x).map aC),.sl 1 ((pr.map fun x=>-x).map aC),.sl 1 pm])) []:=by
 obtain⟨A,hA⟩:∃ A:Nat→List T,∀ j,((rs.take j).map fun x=>T.int (-x))=A j:=⟨_,fun _=>rfl⟩
 obtain⟨B,hB⟩:∃ A:Nat→List T,∀ j,((pr.take j).map fun x=>T.int (-x))=A j:=⟨_,fun _=>rfl⟩
 have A0:A 0=[]:=by rw[←hA];rfl
 have B0:B 0=[]:=by rw[←hB];rfl
 have As:∀ j r,rs[j]? = some r→A (j+1)=A j++[.int (-r)]:=fun j r h=>by
  obtain⟨hj,e⟩:=List.getElem?_eq_some_iff.1 h
  rw[←hA,←hA,List.take_succ_eq_append_getElem hj,e,List.map_append];rfl
 have Bs:∀ j r,pr[j]? = some r→B (j+1)=B j++[.int (-r)]:=fun j r h=>by
  obtain⟨hj,e⟩:=List.getElem?_eq_some_iff.1 h
  rw[←hB,←hB,List.take_succ_eq_append_getElem hj,e,List.map_append];rfl
 have Al:∀ j,(A j).length≤1000:=fun j=>by rw[←hA];simp;omega
 have Bl:∀ j,(B j).length≤1000:=fun j=>by rw[←hB];simp;omega
 have eA:(rs.map fun x=>-x).map aC=A rs.length:=by rw[←hA,List.take_length,List.map_map];rfl
 have eB:(pr.map fun x=>-x).map aC=B pr.length:=by rw[←hB,List.take_length,List.map_map];rfl
 rw[eA,eB]
 refine nI Tryz.func229 rfl Tryz.ntmps229 ?_
 refine ah ?_
 refine oP ?_
 refine CW.loop (ι:=Nat) (fun j=>⟨[(1,.pt 501 [] 0),(2,.pt 502 [] 0),(3,.pt 503 [] 0),(13,.t (.int rs.length)),(14,.t (.int j))],[(501,.box 37 (.t (.agg [.sl 1 (rs.map aC),.sl 1 (pr.map aC),.sl 1 pm]))),(502,.box 37 (.t (.agg [.lit (.slice none 0 0),.lit (.slice none 0 0),.lit (.slice none 0 0)]))),(503,.box 37 (.ag [.own 510,.t (.lit (.slice none 0 0)),.t (.sl 1 pm)])),(510,.list 3 1 (A j))]⟩)
  (fun j=>j≤rs.length) (fun j=>rs.length - j) 0 [(501,some 101),(502,some 102),(503,some 103),(510,none)] (by omega) ?_ ?_
 ·simp[go_sem,↓iO,iO,tN,A0]
  try simp only[bZ]
  try exact⟨rfl,rfl,bx _,rfl,bx _,rfl,trivial⟩
 intro j hj
 have al:=Al j
 by_cases hb:j < rs.length
 ·obtain⟨r,hrj⟩:=aa hb
  have hrb:=hr r (au hrj)
  have as1:=As j r hrj
  obtain⟨A1,hA1⟩:∃ X,A j=X:=⟨_,rfl⟩
  rw[hA1]at al as1 ⊢
  refine c9 hrj al ?_
  exact nX (j+1) [(501,some 501),(502,some 502),(503,some 503),(510,some 126)] (by omega) (by omega) (dJ as1)
 ·obtain rfl:j=rs.length:=by omega
  obtain⟨A1,hA1⟩:∃ X,A rs.length=X:=⟨_,rfl⟩
  rw[hA1]at al ⊢
  refine aJ al ?_
  refine oP ?_
  refine CW.loop (ι:=Nat) (fun j=>⟨[(1,.pt 501 [] 0),(2,.pt 502 [] 0),(3,.pt 503 [] 0),(31,.t (.int pr.length)),(32,.t (.int j))],[(501,.box 37 (.t (.agg [.sl 1 (rs.map aC),.sl 1 (pr.map aC),.sl 1 pm]))),(502,.box 37 (.t (.agg [.lit (.slice none 0 0),.lit (.slice none 0 0),.lit (.slice none 0 0)]))),(503,.box 37 (.ag [.t (.sl 1 A1),.own 511,.t (.sl 1 pm)])),(511,.list 3 1 (B j))]⟩)
   (fun j=>j≤pr.length) (fun j=>pr.length - j) 0 [(501,some 501),(502,some 502),(503,some 503),(511,none)] (by omega) ?_ ?_
  ·exact dJ B0
  intro j hj
  have bl:=Bl j
  by_cases hb:j < pr.length
  ·obtain⟨r,hrj⟩:=aa hb
   have hrb:=hp r (au hrj)
   have bs:=Bs j r hrj
   obtain⟨B1,hB1⟩:∃ X,B j=X:=⟨_,rfl⟩
   rw[hB1]at bl bs ⊢
   repeat (first|(refine af rfl ?_;simp[go_sem,↓iO,iO,tN,hrj,bl])|refine ba ?_|refine⟨aZ,?_⟩|refine iP ?_|refine iN ?_)
   exact nX (j+1) [(501,some 501),(502,some 502),(503,some 503),(511,some 144)] (by omega) (by omega) (dJ bs)
  ·obtain rfl:j=pr.length:=by omega
   refine ah ?_
   exact aF []
@[go_sem] def Mk (c:Nat):T:=.int (c:Int)
theorem sM (S:List eH) (rate:Int):∀ (w:List Nat) (rs:List Int) (i:Nat) (c:Nat),w[i]? = some c→ib S rate rs (w.take (i+1))=A3 S rate (ib S rate rs (w.take i)) c
 | [],rs,i,c,h=>by simp at h
 | a :: w,rs,0,c,h=>by simp at h;subst h;simp[ib]
 | a :: w,rs,i+1,c,h=>by
  have:=sM S rate w (A3 S rate rs a) i c (by simpa using h)
  simp only[List.take_succ_cons,ib]
  exact this
theorem Ll {S:List eH} {rs:List Int} {rate s n:Int} (hn:∀ i,i < S.length→(0≤gC S i∧gC S i < n)∧0≤gE S i∧gE S i < n) (hs:0≤s∧s < n) {w:List Nat} {t:Int} (h:Way S rs rate s w t):0≤t∧t < n:=by
 cases h with
 | nil=>exact hs
 | snoc hw hc ho=>
  rename_i c
  have h1:=hn _ hc
  obtain⟨h2,_,_⟩:=of_decide_eq_true ho
  omega
theorem Mr {S:List eH} {rs:List Int} {rate s:Int} {w:List Nat} {t:Int} (h:Way S rs rate s w t):w.length≤S.length:=qD (pL h) fun c hc=>((lK h).2 c hc).1
theorem EH (l:List Int) (k:Nat) (h:aV l k) (d:aB) (hd:Bv d) (hnn:d.nn.length≤24) (hst:d.stns.length≤24) (PMf:Nat→List T) (hPM:∀ j,PMf j=(List.range j).map fun i=>T.bool (decide (nV l (sD l k i) 2=0)))
  (tv sn:Int) (htv:nV l (sD l k d.stns.length) 3=tv) (n:Nat) (hsn:nV l (ai l (sD l k d.stns.length)) 5=(n:Int)) (X:Nat→Nat×List Int×List Int) (hX:∀ j,AE l d.segs d.ports (ai l (ai l (sD l k d.stns.length))) j=X j)
  (fr fp:List Int) (hres:(tv=0∧fr=(X n).2.1.map (fun x=>-x)∧fp=(X n).2.2.map (fun x=>-x))∨(tv≠0∧fr=(X n).2.1∧fp=(X n).2.2)) :
  aj Tryz.prog 150 [.pt 0 [] 0,.t (.agg d.l)] [(0,bu l k)] (.t (.agg [.sl 1 (fr.map aC),.sl 1 (fp.map aC),.sl 1 (PMf d.stns.length)])) [(0,bu l (X n).1)]:=by
 have hs1:=hd.s1
 have hp1:=hd.p1
 have hnum:=hd.num
 have PM0:PMf 0=[]:=by rw[hPM];rfl
 have PMs:∀ j,PMf (j+1)=PMf j++[.bool (decide (nV l (sD l k j) 2=0))]:=fun j=>by rw[hPM,hPM,eL]
 have PMl:∀ j,(PMf j).length=j:=fun j=>by rw[hPM];simp
 have hks:=DO h
 have hn5:=bD (l:=l) (k:=ai l (sD l k d.stns.length)) (n:=5) (by omega)
 rw[hsn]at hn5
 have ct:=kv l (sD l k d.stns.length) 3 (hks _) (by omega)
 have cn5:=kv l (ai l (sD l k d.stns.length)) 5 (hks _).next (by omega)
 rw[htv]at ct
 rw[hsn]at cn5
 have X0:X 0=(ai l (ai l (sD l k d.stns.length)),List.replicate d.segs.length 0,List.replicate d.ports.length 0):=by rw[←hX];rfl
 have Xs:∀ j,X (j+1)=DA l d.segs d.ports (X j):=fun j=>by rw[←hX,←hX];rfl
 have hnode:∀ i,i < d.segs.length→(0≤gC d.segs i∧gC d.segs i < (d.nn.length:Int))∧0≤gE d.segs i∧gE d.segs i < (d.nn.length:Int):=fun i hi=>⟨(hd.nodes hi).1,(hd.nodes hi).2.1⟩
 have Xok:∀ j,aV l (X j).1∧NX d.segs d.ports (X j).2.1 (X j).2.2:=fun j=>by
  have:=yC (l:=l) hp1 (fun i hi=>(hd.nodes hi).2.2) (hks d.stns.length).next.next j
  rw[hX]at this;exact this
 refine nI Tryz.func150 rfl Tryz.ntmps150 ?_
 refine ah ?_
 refine oP ?_
 refine CW.loop (ι:=Nat) (fun j=>⟨[(0,.pt 0 [] 0),(3,.pt 503 [] 0),(4,.pt 504 [] 0),(5,.pt 505 [] 0),(6,.t (.int j))],[(0,bu l (sD l k j)),(503,.box 32 (.t (.agg d.l))),(504,.box 37 (.t (.agg [.lit (.slice none 0 0),.lit (.slice none 0 0),.lit (.slice none 0 0)]))),(505,.box 37 (.ag [.own 520,.own 521,.own 522])),(520,.list 3 1 ((List.replicate d.segs.length (0:Int)).map aC)),(521,.list 3 1 ((List.replicate d.ports.length (0:Int)).map aC)),(522,.list 4 1 (PMf j))]⟩) (fun j=>j≤d.stns.length) (fun j=>d.stns.length - j) 0 [(0,some 0),(503,some 103),(504,some 104),(505,some 105),(520,some 125),(521,some 129),(522,none)] (by omega) ?_ ?_
 ·simp[go_sem,↓iO,iO,tN,PM0,sD]
 intro j hj
 have pml:=PMl j
 by_cases hb:j < d.stns.length
 ·have cp:=kv l (sD l k j) 2 (hks j) (by omega)
  have pms:=PMs j
  obtain⟨v,hv⟩:∃ v,nV l (sD l k j) 2=v:=⟨_,rfl⟩
  rw[hv]at cp pms
  obtain⟨P1,hP1⟩:∃ X,PMf j=X:=⟨_,rfl⟩
  rw[hP1]at pml pms ⊢
  refine c9 hb pml ?_
  refine lf hb pml cp [(0,0)] ?_
  refine c9 hb pml ?_
  refine nX (j+1) [(0,some 0),(503,some 503),(504,some 504),(505,some 505),(520,some 520),(521,some 521),(522,some 144)] ?_ ?_ ?_
  ·omega
  ·omega
  simp[go_sem,↓iO,iO,tN,pms,sD]
 ·obtain rfl:j=d.stns.length:=by omega
  obtain⟨PM,hPMM⟩:∃ X,PMf d.stns.length=X:=⟨_,rfl⟩
  rw[hPMM]at pml ⊢
  refine ah ?_
  refine ax ct [(0,0)] ?_
  refine ah ?_
  refine ax cn5 [(0,0)] ?_
  refine ah ?_
  refine oP ?_
  refine CW.loop (ι:=Nat) (fun j=>⟨[(0,.pt 0 [] 0),(3,.pt 503 [] 0),(4,.pt 504 [] 0),(5,.pt 505 [] 0),(7,.t (.bool (decide (tv=0)))),(8,.t (.int ((n:Int) - j)))],[(0,bu l (X j).1),(503,.box 32 (.t (.agg d.l))),(504,.box 37 (.t (.agg [.lit (.slice none 0 0),.lit (.slice none 0 0),.lit (.slice none 0 0)]))),(505,.box 37 (.ag [.own 520,.own 521,.t (.sl 1 PM)])),(520,.list 3 1 ((X j).2.1.map aC)),(521,.list 3 1 ((X j).2.2.map aC))]⟩) (fun j=>j≤n) (fun j=>n - j) 0 [(0,some 0),(503,some 503),(504,some 504),(505,some 505),(520,some 520),(521,some 521)] (by omega) ?_ ?_
  ·exact dJ X0
  intro j hj
  obtain⟨⟨kk,rs,pr⟩,hXj⟩:∃ x,X j=x:=⟨_,rfl⟩
  obtain⟨hkk,hI⟩:=Xok j
  rw[hXj]at hkk hI ⊢
  dsimp only at hkk hI ⊢
  by_cases hb2:j < n
  ·have hXs:=Xs j
   rw[hXj]at hXs
   have hav:=bD (l:=l) (k:=kk) (n:=d.ports.length) (by omega)
   have ca:=kv l kk d.ports.length hkk (by omega)
   obtain⟨a,ha⟩:∃ a:Nat,nV l kk d.ports.length=(a:Int):=⟨(nV l kk d.ports.length).toNat,by omega⟩
   rw[ha]at hav ca
   have cpk:=dC (l:=l) hkk.next [1,5,30,300] (by simp) (by simp)
   have hpk:=dV (l:=l) (k:=ai l kk) (xs:=[1,5,30,300]) (by simp)
   obtain⟨pk,hpp⟩:∃ a,cU l (ai l kk) [1,5,30,300]=a:=⟨_,rfl⟩
   rw[hpp]at hpk cpk
   simp at hpk
   have crg:=fT l (ai l (ai l kk)) 1 pk hkk.next.next (by omega) (by omega) (by omega)
   have hrg:=bG (l:=l) (k:=ai l (ai l kk)) (lo:=1) (hi:=pk) (by omega)
   obtain⟨rate,hrt⟩:∃ a,da l (ai l (ai l kk)) 1 pk=a:=⟨_,rfl⟩
   rw[hrt]at crg hrg
   have hk3:=hkk.next.next.next
   obtain⟨k3,hk33⟩:∃ a,ai l (ai l (ai l kk))=a:=⟨_,rfl⟩
   rw[hk33]at crg hk3
   obtain⟨⟨pn,nd,pp⟩,gp⟩:∃ p,d.ports[a]? = some p:=aa (by omega)
   have hnd:je d.ports a=nd:=by simp[je,gp]
   have hndb:=hd.net.knP _ (List.mem_of_getElem? gp)
   dsimp only at hndb
   have hal:a < d.ports.length:=by omega
   obtain⟨z,hz⟩:∃ z,pr[a]? = some z:=aa (by rw[hI.lp];exact hal)
   have hzd:pr.getD a 0=z:=by rw[List.getD_eq_getElem?_getD,hz];rfl
   have hprl:pr.length=d.ports.length:=hI.lp
   have hrsl:rs.length=d.segs.length:=hI.lr
   have hzb:=hI.bP a hal
   rw[hzd]at hzb
   obtain⟨WG,hWG⟩:∃ w,u0 l d.segs d.ports rs pr a rate 30 (k3,[],nd)=w:=⟨_,rfl⟩
   have e1:X (j+1)=if z < 0∨1000 < z+rate then (k3,rs,pr) else if WG.2.2 < 0 then (WG.1,rs,pr) else (WG.1,ib d.segs rate rs WG.2.1,vC pr a WG.2.2.toNat rate):=by
    rw[hXs]
    unfold DA
    simp only[ha,hpp,hrt,hk33,Int.toNat_natCast,hzd,hnd,hWG]
   by_cases hc1:z < 0
   ·rw[if_pos (Or.inl hc1)]at e1
    refine aJ hb2 ?_
    refine ax ca [(0,0)] ?_
    refine aJ gp ?_
    refine Lu gp cpk [(0,0)] [] [168] ?_
    refine dr gp crg [(0,0)] ?_
    refine fg gp hz hc1 ?_
    refine nX (j+1) [(0,some 0),(503,some 503),(504,some 504),(505,some 505),(520,some 520),(521,some 521)] ?_ ?_ ?_
    ·omega
    ·omega
    simp[go_sem,↓iO,iO,tN,e1]
    omega
   ·by_cases hc2:1000 < z+rate
    ·rw[if_pos (Or.inr hc2)]at e1
     refine aJ hb2 ?_
     refine ax ca [(0,0)] ?_
     refine aJ gp ?_
     refine Lu gp cpk [(0,0)] [] [168] ?_
     refine dr gp crg [(0,0)] ?_
     refine lO gp hz hc1 hc2 ?_
     refine nX (j+1) [(0,some 0),(503,some 503),(504,some 504),(505,some 505),(520,some 520),(521,some 521)] ?_ ?_ ?_
     ·omega
     ·omega
     simp[go_sem,↓iO,iO,tN,e1]
     omega
    ·rw[if_neg (by omega)]at e1
     refine aJ hb2 ?_
     refine ax ca [(0,0)] ?_
     refine aJ gp ?_
     refine Lu gp cpk [(0,0)] [] [168] ?_
     refine dr gp crg [(0,0)] ?_
     refine lO gp hz hc1 hc2 ?_
     refine oP ?_
     refine lP (ι:=Nat×Nat×List Nat×Int) (fun y=>⟨[(0,.pt 0 [] 0),(3,.pt 503 [] 0),(4,.pt 504 [] 0),(5,.pt 505 [] 0),(7,.t (.bool (decide (tv=0)))),(8,.t (.int ((n:Int) - j))),(9,.t (.int a)),(11,.t (.int rate)),(10,.t (.int y.2.2.2)),(12,.own 512),(13,.t (.int (-1)))],[(0,bu l y.2.1),(503,.box 32 (.t (.agg d.l))),(504,.box 37 (.t (.agg [.lit (.slice none 0 0),.lit (.slice none 0 0),.lit (.slice none 0 0)]))),(505,.box 37 (.ag [.own 520,.own 521,.t (.sl 1 PM)])),(520,.list 3 1 (rs.map aC)),(521,.list 3 1 (pr.map aC)),(512,.list 3 1 ((y.2.2.1).map Mk))]⟩)
      (fun y=>aV l y.2.1∧Way d.segs rs rate nd y.2.2.1 y.2.2.2∧(d.nn.length:Int) - y.2.2.2 < y.1∧u0 l d.segs d.ports rs pr a rate y.1 y.2=WG) (fun y=>y.1) (30,k3,[],nd) [(0,some 0),(503,some 503),(504,some 504),(505,some 505),(520,some 520),(521,some 521),(512,none)] ⟨hk3,Way.nil,by dsimp only;omega,hWG⟩ ?_
     rintro ⟨f,kq,ww,at'⟩ ⟨i1,i2,i3,i4⟩
     dsimp only at i1 i2 i3 i4 ⊢
     have hat:=Ll hnode hndb i2
     have hwl:=Mr i2
     obtain⟨f',rfl⟩:∃ f',f=f'+1:=⟨f - 1,by omega⟩
     simp only[u0]at i4
     have hscok:=fun i=>Ct (P:=d.ports) (pr:=pr) (a:=a) (at':=at') (rate:=rate) (w:=!ww.isEmpty) i1 i
     obtain⟨SC,hSC⟩:∃ SC:Nat→Nat×Int,∀ i,yd l d.ports pr a at' rate (!ww.isEmpty) kq i=SC i:=⟨_,fun _=>rfl⟩
     have SC0:SC 0=(kq,-1):=by rw[←hSC];rfl
     have SCs:∀ i,SC (i+1)=if LW d.ports pr a at' rate (!ww.isEmpty) i=true then (ai l (SC i).1,if nV l (SC i).1 2=0 then (i:Int) else (SC i).2) else SC i:=fun i=>by rw[←hSC,←hSC];rfl
     simp only[hSC]at i4 hscok
     obtain⟨W,hW⟩:∃ W,ww.map Mk=W:=⟨_,rfl⟩
     have hWl:W.length=ww.length:=by rw[←hW];simp
     rw[hW]
     refine ah ?_
     refine oP ?_
     refine CW.loop (ι:=Nat) (fun i=>⟨[(0,.pt 0 [] 0),(3,.pt 503 [] 0),(4,.pt 504 [] 0),(5,.pt 505 [] 0),(7,.t (.bool (decide (tv=0)))),(8,.t (.int ((n:Int) - j))),(9,.t (.int a)),(11,.t (.int rate)),(10,.t (.int at')),(12,.own 512),(13,.t (.int (SC i).2)),(90,.t (.sl 3 (d.ports.map dO))),(91,.t (.int d.ports.length)),(92,.t (.int i))],[(0,bu l (SC i).1),(503,.box 32 (.t (.agg d.l))),(504,.box 37 (.t (.agg [.lit (.slice none 0 0),.lit (.slice none 0 0),.lit (.slice none 0 0)]))),(505,.box 37 (.ag [.own 520,.own 521,.t (.sl 1 PM)])),(520,.list 3 1 (rs.map aC)),(521,.list 3 1 (pr.map aC)),(512,.list 3 1 W)]⟩)
      (fun i=>i≤d.ports.length) (fun i=>d.ports.length - i) 0 [(0,some 0),(503,some 503),(504,some 504),(505,some 505),(520,some 520),(521,some 521),(512,some 512)] (by omega) ?_ ?_
     ·exact dJ SC0
     intro i hi
     by_cases hb3:i < d.ports.length
     ·obtain⟨⟨qn,qd,qp⟩,gq⟩:∃ p,d.ports[i]? = some p:=aa hb3
      obtain⟨z2,hz2⟩:∃ z,pr[i]? = some z:=aa (by rw[hI.lp];exact hb3)
      have hz2d:pr.getD i 0=z2:=by rw[List.getD_eq_getElem?_getD,hz2];rfl
      have hz2b:=hI.bP i hb3
      rw[hz2d]at hz2b
      have hsc:=(hscok i).1
      have hscv:=(hscok i).2
      have scs:=SCs i
      have hcc:LW d.ports pr a at' rate (!ww.isEmpty) i=(decide (qd=at'∧i≠a∧z2≤0∧-1000≤z2 - rate) && !ww.isEmpty):=by
       unfold LW
       rw[hz2d,show je d.ports i=qd by simp[je,gq]]
      rw[hcc]at scs
      obtain⟨⟨kc,ec⟩,hki⟩:∃ x,SC i=x:=⟨_,rfl⟩
      rw[hki]at hsc hscv scs ⊢
      dsimp only at hsc hscv scs ⊢
      by_cases c1:qd=at'
      ·by_cases c2:i=a
       ·rw[if_neg (by simp[c2])]at scs
        subst c2
        repeat (first|(refine af rfl ?_;simp[go_sem,↓iO,iO,tN,gq,hz2,c1,hWl])|refine ba ?_|refine⟨aZ,?_⟩|refine iP ?_|refine iN ?_)
        exact nX (i+1) [(0,some 0),(503,some 503),(504,some 504),(505,some 505),(520,some 520),(521,some 521),(512,some 512)] (by omega) (by omega) (dJ scs)
       ·by_cases c3:z2≤0
        ·by_cases c4:-1000≤z2 - rate
         ·by_cases c5:ww=[]
          ·rw[if_neg (by simp[c5])]at scs
           have hw0:ww.length=0:=by rw[c5];rfl
           repeat (first|(refine af rfl ?_;simp[go_sem,↓iO,iO,tN,gq,hz2,c1,c2,c3,c4,hw0,hWl])|refine ba ?_|refine⟨aZ,?_⟩|refine iP ?_|refine iN ?_)
           exact nX (i+1) [(0,some 0),(503,some 503),(504,some 504),(505,some 505),(520,some 520),(521,some 521),(512,some 512)] (by omega) (by omega) (dJ scs)
          ·have hw0:0 < ww.length:=List.length_pos_iff.2 c5
           rw[if_pos (by simp[c1,c2,c3,c4,c5])]at scs
           have c2n:=kv l kc 2 hsc (by omega)
           obtain⟨zz,hzz⟩:∃ v,nV l kc 2=v:=⟨_,rfl⟩
           rw[hzz]at c2n scs
           by_cases hz0:zz=0
           ·rw[if_pos hz0]at scs
            repeat (first|(refine af rfl ?_;simp[go_sem,↓iO,iO,tN,gq,hz2,c1,c2,c3,c4,hw0,hWl])|refine ba ?_|refine⟨aZ,?_⟩|refine iP ?_|refine iN ?_)
            refine aY.fn (c2n) [(0,0)] [] [] (by kernel_rfl) ?_ ?_ ?_ (Or.inl rfl) ?_<;>simp[go_sem,↓iO,iO,tN,gq,hz2,c1,c2,c3,c4,hw0,hWl]
            repeat (first|(refine af rfl ?_;simp[go_sem,↓iO,iO,tN,hz0,gq,hz2,c1,c2,c3,c4,hw0,hWl])|refine ba ?_|refine⟨aZ,?_⟩|refine iP ?_|refine iN ?_)
            exact nX (i+1) [(0,some 0),(503,some 503),(504,some 504),(505,some 505),(520,some 520),(521,some 521),(512,some 512)] (by omega) (by omega) (dJ scs)
           ·rw[if_neg hz0]at scs
            repeat (first|(refine af rfl ?_;simp[go_sem,↓iO,iO,tN,gq,hz2,c1,c2,c3,c4,hw0,hWl])|refine ba ?_|refine⟨aZ,?_⟩|refine iP ?_|refine iN ?_)
            refine aY.fn (c2n) [(0,0)] [] [] (by kernel_rfl) ?_ ?_ ?_ (Or.inl rfl) ?_<;>simp[go_sem,↓iO,iO,tN,gq,hz2,c1,c2,c3,c4,hw0,hWl]
            repeat (first|(refine af rfl ?_;simp[go_sem,↓iO,iO,tN,hz0,gq,hz2,c1,c2,c3,c4,hw0,hWl])|refine ba ?_|refine⟨aZ,?_⟩|refine iP ?_|refine iN ?_)
            exact nX (i+1) [(0,some 0),(503,some 503),(504,some 504),(505,some 505),(520,some 520),(521,some 521),(512,some 512)] (by omega) (by omega) (dJ scs)
         ·rw[if_neg (by simp[c4])]at scs
          repeat (first|(refine af rfl ?_;simp[go_sem,↓iO,iO,tN,gq,hz2,c1,c2,c3,c4,hWl])|refine ba ?_|refine⟨aZ,?_⟩|refine iP ?_|refine iN ?_)
          exact nX (i+1) [(0,some 0),(503,some 503),(504,some 504),(505,some 505),(520,some 520),(521,some 521),(512,some 512)] (by omega) (by omega) (dJ scs)
        ·rw[if_neg (by simp[c3])]at scs
         repeat (first|(refine af rfl ?_;simp[go_sem,↓iO,iO,tN,gq,hz2,c1,c2,c3,hWl])|refine ba ?_|refine⟨aZ,?_⟩|refine iP ?_|refine iN ?_)
         exact nX (i+1) [(0,some 0),(503,some 503),(504,some 504),(505,some 505),(520,some 520),(521,some 521),(512,some 512)] (by omega) (by omega) (dJ scs)
      ·rw[if_neg (by simp[c1])]at scs
       repeat (first|(refine af rfl ?_;simp[go_sem,↓iO,iO,tN,gq,hz2,c1,hWl])|refine ba ?_|refine⟨aZ,?_⟩|refine iP ?_|refine iN ?_)
       exact nX (i+1) [(0,some 0),(503,some 503),(504,some 504),(505,some 505),(520,some 520),(521,some 521),(512,some 512)] (by omega) (by omega) (dJ scs)
     ·obtain rfl:i=d.ports.length:=by omega
      obtain⟨hsc,hscv⟩:=hscok d.ports.length
      obtain⟨⟨kc,ec⟩,hki⟩:∃ x,SC d.ports.length=x:=⟨_,rfl⟩
      rw[hki]at hsc hscv i4 ⊢
      dsimp only at hsc hscv i4 ⊢
      by_cases he:0≤ec
      ·rw[if_pos he]at i4
       rcases hscv with hscv|⟨e,rfl,hel,hse⟩
       ·omega
       subst i4
       dsimp only at e1
       rw[if_neg (by omega),Int.toNat_natCast]at e1
       simp only[LW,Bool.and_eq_true]at hse
       obtain⟨s1,s2,s3,s4⟩:=of_decide_eq_true hse.1
       obtain⟨ze,hze⟩:∃ z,pr[e]? = some z:=aa (by omega)
       have hzed:pr.getD e 0=ze:=by rw[List.getD_eq_getElem?_getD,hze];rfl
       rw[hzed]at s3 s4
       have hsp:vC pr a e rate=(pr.set a (z+rate)).set e (ze - rate):=by unfold vC;rw[hzd,hzed]
       have hsl:(pr.set a (z+rate)).length=pr.length:=by simp
       have hse2:((pr.map aC).set a (.lit (.int .i64 (z+rate))))[e]? = some (.int ze):=by
        rw[List.getElem?_set_ne (fun q=>s2 q.symm),List.getElem?_map,hze];rfl
       have hset:((pr.map aC).set a (.lit (.int .i64 (z+rate)))).set e (.lit (.int .i64 (ze - rate)))=(vC pr a e rate).map aC:=by rw[hsp,List.map_set,List.map_set];rfl
       have hwn:=pL i2
       have hwb:∀ c∈ww,c < rs.length:=fun c hc=>by rw[hrsl];exact ((lK i2).2 c hc).1
       refine yB hze hz he hse2 hset ?_
       refine oP ?_
       refine CW.loop (ι:=Nat) (fun i=>⟨[(0,.pt 0 [] 0),(3,.pt 503 [] 0),(4,.pt 504 [] 0),(5,.pt 505 [] 0),(7,.t (.bool (decide (tv=0)))),(8,.t (.int ((n:Int) - j))),(11,.t (.int rate)),(239,.t (.sl 1 W)),(240,.t (.int ww.length)),(241,.t (.int i))],[(0,bu l kc),(503,.box 32 (.t (.agg d.l))),(504,.box 37 (.t (.agg [.lit (.slice none 0 0),.lit (.slice none 0 0),.lit (.slice none 0 0)]))),(505,.box 37 (.ag [.own 520,.own 521,.t (.sl 1 PM)])),(520,.list 3 1 ((ib d.segs rate rs (ww.take i)).map aC)),(521,.list 3 1 ((vC pr a e rate).map aC))]⟩)
        (fun i=>i≤ww.length) (fun i=>ww.length - i) 0 [(0,some 0),(503,some 503),(504,some 504),(505,some 505),(520,some 520),(521,some 521)] (by omega) ?_ ?_
       ·simp[go_sem,↓iO,iO,tN,ib,hWl,hset]
       intro i hi
       by_cases hb4:i < ww.length
       ·obtain⟨c,hc⟩:∃ c,ww[i]? = some c:=aa hb4
        have hcw:W[i]? = some (.int (c:Int)):=by rw[←hW,List.getElem?_map,hc];rfl
        have hcm:=List.mem_of_getElem? hc
        have hcl:=((lK i2).2 c hcm).1
        obtain⟨⟨⟨nm,fr',to',cp,rs',wv⟩,pts⟩,gs⟩:∃ s,d.segs[c]? = some s:=aa hcl
        obtain⟨q1,q2,q3⟩:=sx gs
        dsimp only at q1 q2 q3
        have htk:=sM d.segs rate ww rs i c hc
        have hln:=qB d.segs rate (ww.take i) rs
        have hgt:=pW d.segs rate (ww.take i) rs (hwn.sublist (List.take_sublist _ _)) (fun c hc=>hwb c (List.mem_of_mem_take hc)) c
        have hnot:c∉ww.take i:=fun hm=>by
         obtain⟨i2,h1,h2⟩:=Kl hm
         have:=JD hwn h2 hc
         omega
        rw[if_neg hnot]at hgt
        obtain⟨R,hR⟩:∃ R,ib d.segs rate rs (ww.take i)=R:=⟨_,rfl⟩
        rw[hR]at htk hln hgt ⊢
        obtain⟨rc,hrc⟩:∃ x,R[c]? = some x:=aa (by omega)
        have hrd:R.getD c 0=rc:=by rw[List.getD_eq_getElem?_getD,hrc];rfl
        have hrb:=hI.bR c hcl
        rw[←hgt,hrd]at hrb
        unfold A3 at htk
        rw[q1,q2,hrd]at htk
        by_cases hlt:fr' < to'
        ·rw[if_pos hlt]at htk
         refine lO hcw gs hlt hrc ?_
         exact nX (i+1) [(0,some 0),(503,some 503),(504,some 504),(505,some 505),(520,some 520),(521,some 521)] (by omega) (by omega) (dJ htk)
        ·rw[if_neg hlt]at htk
         refine lO hcw gs hlt hrc ?_
         exact nX (i+1) [(0,some 0),(503,some 503),(504,some 504),(505,some 505),(520,some 520),(521,some 521)] (by omega) (by omega) (dJ htk)
       ·obtain rfl:i=ww.length:=by omega
        rw[List.take_length]
        refine ah ?_
        refine nX (j+1) [(0,some 0),(503,some 503),(504,some 504),(505,some 505),(520,some 520),(521,some 521)] ?_ ?_ ?_
        ·omega
        ·omega
        simp[go_sem,↓iO,iO,tN,e1]
        omega
      ·rw[if_neg he]at i4
       have hem:ec=-1:=by
        rcases hscv with hscv|⟨e,h1,_⟩
        ·exact hscv
        ·omega
       subst hem
       obtain⟨OU,hOU⟩:∃ OU:Nat→List Nat,∀ i,vK d.segs rs at' rate i=OU i:=⟨_,fun _=>rfl⟩
       have OU0:OU 0=[]:=by rw[←hOU];rfl
       have OUs:∀ i,OU (i+1)=if N9 d.segs rs at' rate i=true then OU i++[i] else OU i:=fun i=>by rw[←hOU,←hOU];rfl
       have OUl:∀ i,(OU i).length≤i:=fun i=>by rw[←hOU];exact EY i
       have OUm:∀ i c,c∈OU i→c < i∧N9 d.segs rs at' rate c=true:=fun i c hc=>sy (by rw[hOU];exact hc)
       rw[hOU]at i4
       obtain⟨OT,hOT⟩:∃ OT:Nat→List T,∀ i,(OU i).map Mk=OT i:=⟨_,fun _=>rfl⟩
       have OT0:OT 0=[]:=by rw[←hOT,OU0];rfl
       have OTl:∀ i,(OT i).length=(OU i).length:=fun i=>by rw[←hOT];simp
       refine aJ he ?_
       refine oP ?_
       refine CW.loop (ι:=Nat) (fun i=>⟨[(0,.pt 0 [] 0),(3,.pt 503 [] 0),(4,.pt 504 [] 0),(5,.pt 505 [] 0),(7,.t (.bool (decide (tv=0)))),(8,.t (.int ((n:Int) - j))),(9,.t (.int a)),(11,.t (.int rate)),(10,.t (.int at')),(12,.own 512),(13,.t (.int (-1))),(16,.own 516),(139,.t (.sl 7 (d.segs.map bA))),(140,.t (.int d.segs.length)),(141,.t (.int i))],[(0,bu l kc),(503,.box 32 (.t (.agg d.l))),(504,.box 37 (.t (.agg [.lit (.slice none 0 0),.lit (.slice none 0 0),.lit (.slice none 0 0)]))),(505,.box 37 (.ag [.own 520,.own 521,.t (.sl 1 PM)])),(520,.list 3 1 (rs.map aC)),(521,.list 3 1 (pr.map aC)),(512,.list 3 1 W),(516,.list 3 1 (OT i))]⟩)
        (fun i=>i≤d.segs.length) (fun i=>d.segs.length - i) 0 [(0,some 0),(503,some 503),(504,some 504),(505,some 505),(520,some 520),(521,some 521),(512,some 512),(516,none)] (by omega) ?_ ?_
       ·exact dJ OT0
       intro i hi
       have otl:=OTl i
       have oul:=OUl i
       by_cases hb4:i < d.segs.length
       ·obtain⟨⟨⟨nm,fr',to',cp,rs',wv⟩,pts⟩,gs⟩:∃ s,d.segs[i]? = some s:=aa hb4
        obtain⟨q1,q2,q3⟩:=sx gs
        dsimp only at q1 q2 q3
        obtain⟨ri,hri⟩:∃ x,rs[i]? = some x:=aa (by omega)
        have hrd:rs.getD i 0=ri:=by rw[List.getD_eq_getElem?_getD,hri];rfl
        have hrb:=hI.bR i hb4
        have hnb:=hnode i hb4
        rw[hrd]at hrb
        rw[q1,q2]at hnb
        rw[q3]at hrb
        have ous:=OUs i
        have hcc:N9 d.segs rs at' rate i=decide ((fr'=at'∨to'=at')∧at' < fr'+to' - at'∧max ri (-ri)+rate≤min 1000 cp):=by
         unfold N9
         rw[q1,q2,q3,hrd]
        rw[hcc]at ous
        have cab:=L8 ri (by omega)
        obtain⟨mx,hmx⟩:∃ m,max ri (-ri)=m:=⟨_,rfl⟩
        obtain⟨mn,hmn⟩:∃ m,min 1000 cp=m:=⟨_,rfl⟩
        rw[hmx]at ous cab
        rw[hmn]at ous
        have ots:OT (i+1)=(if decide ((fr'=at'∨to'=at')∧at' < fr'+to' - at'∧mx+rate≤mn)=true then OT i++[.int (i:Int)] else OT i):=by
         rw[←hOT,←hOT,ous]
         split
         ·rw[List.map_append];rfl
         ·rfl
        obtain⟨O1,hO1⟩:∃ X,OT i=X:=⟨_,rfl⟩
        rw[hO1]at otl ots ⊢
        by_cases o1:fr'=at'
        ·by_cases o2:at' < fr'+to' - at'
         ·by_cases o3:mx+rate≤mn
          ·rw[if_pos (decide_eq_true ⟨Or.inl o1,o2,o3⟩)]at ots
           repeat (first|(refine af rfl ?_;simp[go_sem,↓iO,iO,tN,gs,hri,hmx,hmn,otl,o1,o2])|refine ba ?_|refine⟨aZ,?_⟩|refine iP ?_|refine iN ?_)
           refine aY.fn (cab) [] [] [] (by kernel_rfl) ?_ ?_ ?_ (Or.inl rfl) ?_<;>simp[go_sem,↓iO,iO,tN,gs,hri,hmx,hmn,otl,o1,o2]
           repeat (first|(refine af rfl ?_;simp[go_sem,↓iO,iO,tN,gs,hri,hmx,hmn,otl,o1,o2,o3])|refine ba ?_|refine⟨aZ,?_⟩|refine iP ?_|refine iN ?_)
           exact nX (i+1) [(0,some 0),(503,some 503),(504,some 504),(505,some 505),(520,some 520),(521,some 521),(512,some 512),(516,some 284)] (by omega) (by omega) (dJ ots)
          ·rw[if_neg (by simp[o3])]at ots
           repeat (first|(refine af rfl ?_;simp[go_sem,↓iO,iO,tN,gs,hri,hmx,hmn,otl,o1,o2])|refine ba ?_|refine⟨aZ,?_⟩|refine iP ?_|refine iN ?_)
           refine aY.fn (cab) [] [] [] (by kernel_rfl) ?_ ?_ ?_ (Or.inl rfl) ?_<;>simp[go_sem,↓iO,iO,tN,gs,hri,hmx,hmn,otl,o1,o2]
           repeat (first|(refine af rfl ?_;simp[go_sem,↓iO,iO,tN,gs,hri,hmx,hmn,otl,o1,o2,o3])|refine ba ?_|refine⟨aZ,?_⟩|refine iP ?_|refine iN ?_)
           exact nX (i+1) [(0,some 0),(503,some 503),(504,some 504),(505,some 505),(520,some 520),(521,some 521),(512,some 512),(516,some 516)] (by omega) (by omega) (dJ ots)
         ·rw[if_neg (by simp[o2])]at ots
          repeat (first|(refine af rfl ?_;simp[go_sem,↓iO,iO,tN,gs,hri,hmx,hmn,otl,o1,o2])|refine ba ?_|refine⟨aZ,?_⟩|refine iP ?_|refine iN ?_)
          exact nX (i+1) [(0,some 0),(503,some 503),(504,some 504),(505,some 505),(520,some 520),(521,some 521),(512,some 512),(516,some 516)] (by omega) (by omega) (dJ ots)
        ·by_cases o1':to'=at'
         ·by_cases o2:at' < fr'+to' - at'
          ·by_cases o3:mx+rate≤mn
           ·rw[if_pos (decide_eq_true ⟨Or.inr o1',o2,o3⟩)]at ots
            repeat (first|(refine af rfl ?_;simp[go_sem,↓iO,iO,tN,gs,hri,hmx,hmn,otl,o1,o1',o2])|refine ba ?_|refine⟨aZ,?_⟩|refine iP ?_|refine iN ?_)
            refine aY.fn (cab) [] [] [] (by kernel_rfl) ?_ ?_ ?_ (Or.inl rfl) ?_<;>simp[go_sem,↓iO,iO,tN,gs,hri,hmx,hmn,otl,o1,o1',o2]
            repeat (first|(refine af rfl ?_;simp[go_sem,↓iO,iO,tN,gs,hri,hmx,hmn,otl,o1,o1',o2,o3])|refine ba ?_|refine⟨aZ,?_⟩|refine iP ?_|refine iN ?_)
            exact nX (i+1) [(0,some 0),(503,some 503),(504,some 504),(505,some 505),(520,some 520),(521,some 521),(512,some 512),(516,some 284)] (by omega) (by omega) (dJ ots)
           ·rw[if_neg (by simp[o3])]at ots
            repeat (first|(refine af rfl ?_;simp[go_sem,↓iO,iO,tN,gs,hri,hmx,hmn,otl,o1,o1',o2])|refine ba ?_|refine⟨aZ,?_⟩|refine iP ?_|refine iN ?_)
            refine aY.fn (cab) [] [] [] (by kernel_rfl) ?_ ?_ ?_ (Or.inl rfl) ?_<;>simp[go_sem,↓iO,iO,tN,gs,hri,hmx,hmn,otl,o1,o1',o2]
            repeat (first|(refine af rfl ?_;simp[go_sem,↓iO,iO,tN,gs,hri,hmx,hmn,otl,o1,o1',o2,o3])|refine ba ?_|refine⟨aZ,?_⟩|refine iP ?_|refine iN ?_)
            exact nX (i+1) [(0,some 0),(503,some 503),(504,some 504),(505,some 505),(520,some 520),(521,some 521),(512,some 512),(516,some 516)] (by omega) (by omega) (dJ ots)
          ·rw[if_neg (by simp[o2])]at ots
           repeat (first|(refine af rfl ?_;simp[go_sem,↓iO,iO,tN,gs,hri,hmx,hmn,otl,o1,o1',o2])|refine ba ?_|refine⟨aZ,?_⟩|refine iP ?_|refine iN ?_)
           exact nX (i+1) [(0,some 0),(503,some 503),(504,some 504),(505,some 505),(520,some 520),(521,some 521),(512,some 512),(516,some 516)] (by omega) (by omega) (dJ ots)
         ·rw[if_neg (by simp[o1,o1'])]at ots
          repeat (first|(refine af rfl ?_;simp[go_sem,↓iO,iO,tN,gs,hri,hmx,hmn,otl,o1,o1'])|refine ba ?_|refine⟨aZ,?_⟩|refine iP ?_|refine iN ?_)
          exact nX (i+1) [(0,some 0),(503,some 503),(504,some 504),(505,some 505),(520,some 520),(521,some 521),(512,some 512),(516,some 516)] (by omega) (by omega) (dJ ots)
       ·obtain rfl:i=d.segs.length:=by omega
        obtain⟨OL,hOL⟩:∃ X,OU d.segs.length=X:=⟨_,rfl⟩
        obtain⟨OX,hOX⟩:∃ X,OT d.segs.length=X:=⟨_,rfl⟩
        have hox:=hOT d.segs.length
        have hom:=OUm d.segs.length
        rw[hOL]at i4 otl oul hox hom
        rw[hOX]at otl hox ⊢
        by_cases hOe:OL=[]
        ·rw[if_pos hOe]at i4
         subst i4
         dsimp only at e1
         rw[if_pos (by omega)]at e1
         have hz0:OX.length=0:=by rw[otl,hOe];rfl
         refine aJ hz0 ?_
         refine nX (j+1) [(0,some 0),(503,some 503),(504,some 504),(505,some 505),(520,some 520),(521,some 521)] ?_ ?_ ?_
         ·omega
         ·omega
         simp[go_sem,↓iO,iO,tN,e1]
         omega
        ·rw[if_neg hOe]at i4
         have hop:0 < OL.length:=List.length_pos_iff.2 hOe
         have cix:=kv l kc OL.length hsc (by omega)
         have bix:=bD (l:=l) (k:=kc) (n:=OL.length) (by omega)
         obtain⟨ix,hix⟩:∃ x:Nat,nV l kc OL.length=(x:Int):=⟨(nV l kc OL.length).toNat,by omega⟩
         rw[hix]at i4 cix bix
         obtain⟨c,hc⟩:∃ c,OL[ix]? = some c:=aa (by omega)
         have hcx:OX[ix]? = some (.int (c:Int)):=by rw[←hox,List.getElem?_map,hc];rfl
         have hcd:OL.getD ix 0=c:=by rw[List.getD_eq_getElem?_getD,hc];rfl
         obtain⟨hcl,hco⟩:=hom c (List.mem_of_getElem? hc)
         rw[Int.toNat_natCast,hcd]at i4
         obtain⟨⟨⟨nm,fr',to',cp,rs',wv⟩,pts⟩,gs⟩:∃ s,d.segs[c]? = some s:=aa hcl
         obtain⟨q1,q2,q3⟩:=sx gs
         dsimp only at q1 q2 q3
         have hnb:=hnode c hcl
         have hway:=Way.snoc i2 hcl hco
         have hat2:=Ll hnode hndb hway
         have hlt2:=(of_decide_eq_true hco).2.1
         rw[q1,q2]at hnb i4 hway hat2 hlt2
         have hWs:(ww++[c]).map Mk=W++[.int (c:Int)]:=by rw[List.map_append,hW];rfl
         refine c9 otl hop ?_
         refine aY.fn (cix) [(0,0)] [] [] (by kernel_rfl) ?_ ?_ ?_ (Or.inl rfl) ?_<;>simp[go_sem,↓iO,iO,tN,otl,hop,hcx,gs,hWl]
         repeat (refine ba ?_)
         try (refine⟨aZ,?_⟩)
         refine lO hcx gs hWl otl ?_
         refine nX (f',ai l kc,ww++[c],fr'+to' - at') [(0,some 0),(503,some 503),(504,some 504),(505,some 505),(520,some 520),(521,some 521),(512,some 299)] ?_ ?_ ?_
         ·exact⟨hsc.next,hway,by dsimp only;omega,i4⟩
         ·omega
         exact dJ hW
  ·obtain rfl:j=n:=by omega
   rw[hXj]at hres
   dsimp only at hres
   have hsz:rs.length≤64:=by have:=hI.lr;omega
   have hpz:pr.length≤64:=by have:=hI.lp;omega
   rcases hres with ⟨h0,rfl,rfl⟩|⟨h0,rfl,rfl⟩
   ·have cng:=CK rs pr PM (fun r hr=>by
     obtain⟨i,hi,rfl⟩:=mv hr
     have:=hI.bR i (by rw[←hI.lr];exact hi)
     omega) (fun r hr=>by
     obtain⟨i,hi,rfl⟩:=mv hr
     have:=hI.bP i (by rw[←hI.lp];exact hi)
     omega) (by omega) (by omega) (by omega)
    obtain⟨N1,hN1⟩:∃ X,(rs.map fun x=>-x).map aC=X:=⟨_,rfl⟩
    obtain⟨N2,hN2⟩:∃ X,(pr.map fun x=>-x).map aC=X:=⟨_,rfl⟩
    rw[hN1,hN2]at cng ⊢
    refine aJ h0 ?_
    refine Lu h0 cng [] [] [520,521] ?_
    refine aJ h0 ?_
    first|rw[av]|rw[ae]
    refine⟨[(0,some 0)],?_⟩
    simp[go_sem,↓iO,iO,tN]
    rw[hXj]
   ·refine aJ h0 ?_
    first|rw[av]|rw[ae]
    refine⟨[(0,some 0)],?_⟩
    simp[go_sem,↓iO,iO,tN]
    rw[hXj]
theorem Mx (l:List Int) (k:Nat) (h:aV l k) (d:aB) (hd:Bv d) (hnn:d.nn.length≤24) (hst:d.stns.length≤24):∃ (k':Nat) (rs pr:List Int) (pm:List T) (ρ:Nat→Nat),aV l k'∧N8 d.segs d.ports ρ rs pr∧pm.length=d.stns.length∧(∃ b:List Bool,pm=b.map dj)∧
  aj Tryz.prog 150 [.pt 0 [] 0,.t (.agg d.l)] [(0,bu l k)] (.t (.agg [.sl 1 (rs.map aC),.sl 1 (pr.map aC),.sl 1 pm])) [(0,bu l k')]:=by
 have hks:=DO h
 have hn5:=bD (l:=l) (k:=ai l (sD l k d.stns.length)) (n:=5) (by omega)
 obtain⟨n,hn⟩:∃ n:Nat,nV l (ai l (sD l k d.stns.length)) 5=(n:Int):=⟨(nV l (ai l (sD l k d.stns.length)) 5).toNat,by omega⟩
 obtain⟨PMf,hPM⟩:∃ PMf:Nat→List T,∀ j,PMf j=(List.range j).map fun i=>T.bool (decide (nV l (sD l k i) 2=0)):=⟨_,fun _=>rfl⟩
 obtain⟨h1,h2⟩:=yC (l:=l) hd.p1 (fun i hi=>(hd.nodes hi).2.2) (hks d.stns.length).next.next n
 obtain⟨X,hX⟩:∃ X:Nat→Nat×List Int×List Int,∀ j,AE l d.segs d.ports (ai l (ai l (sD l k d.stns.length))) j=X j:=⟨_,fun _=>rfl⟩
 rw[hX]at h1 h2
 have hnode:∀ i,i < d.segs.length→(0≤gC d.segs i∧gC d.segs i < (d.nn.length:Int))∧0≤gE d.segs i∧gE d.segs i < (d.nn.length:Int):=fun i hi=>⟨(hd.nodes hi).1,(hd.nodes hi).2.1⟩
 by_cases ht:nV l (sD l k d.stns.length) 3=0
 ·exact⟨_,_,_,_,_,h1,h2.down d.nn.length hnode,by rw[hPM];simp,⟨(List.range _).map fun i=>decide (nV l (sD l k i) 2=0),by rw[hPM,List.map_map];rfl⟩,EH l k h d hd hnn hst PMf hPM _ 0 rfl n hn X hX _ _ (Or.inl ⟨ht,rfl,rfl⟩)⟩
 ·exact⟨_,_,_,_,_,h1,h2.up (fun i hi=>⟨(hnode i hi).1.1,(hnode i hi).2.1⟩),by rw[hPM];simp,⟨(List.range _).map fun i=>decide (nV l (sD l k i) 2=0),by rw[hPM,List.map_map];rfl⟩,EH l k h d hd hnn hst PMf hPM _ 0 rfl n hn X hX _ _ (Or.inr ⟨ht,rfl,rfl⟩)⟩
theorem Hy {l:List Int} {k:Nat} (h:aV l k) (d:aB) (hd:bq d) (h1:1≤d.segs.length) (dk:Dk) (hk:gT d dk):∃ (k':Nat) (s:Ev),aV l k'∧s.pa.hs.length≤64∧aj Tryz.prog 80 [.pt 0 [] 0,.t (.agg d.l),.t (db dk)] [(0,bu l k)] (.t (cG s)) [(0,bu l k')]:=by
 obtain⟨c,hc,c0⟩:=gB h 9 (by omega) (by omega)
 have sv:=(hk.sz hd).v
 have st:=hd.t
 have h:=h.next
 have hcc:c=0∨c=1∨(c=2∨c=3)∨(c=4∨c=5)∨c=6∨(c=7∨c=8):=by omega
 rcases hcc with rfl|rfl|h23|h45|rfl|h78
 ·obtain⟨n,hn,c1⟩:=gB h ((dk.vs.length:Int)+1) (by omega) (by omega)
  refine⟨_,⟨1,n,0,jN⟩,h.next,by simp,?_⟩
  obtain⟨vs,rs,ps,pm⟩:=dk
  dsimp only at sv
  refine nI Tryz.func80 rfl Tryz.ntmps80 ?_
  refine ah ?_
  refine ax c0 [(0,0)] ?_
  refine ah ?_
  refine ax c1 [(0,0)] ?_
  refine ah ?_
  exact aF [(0,some 0)]
 ·obtain⟨n,hn,c1⟩:=gB h ((dk.vs.length:Int)+2) (by omega) (by omega)
  have hnb:0≤n∧n≤1000:=by omega
  refine⟨_,⟨2,n - 1,0,jN⟩,h.next,by simp,?_⟩
  obtain⟨vs,rs,ps,pm⟩:=dk
  dsimp only at sv
  refine nI Tryz.func80 rfl Tryz.ntmps80 ?_
  refine ah ?_
  refine ax c0 [(0,0)] ?_
  refine ah ?_
  refine ax c1 [(0,0)] ?_
  refine ah ?_
  exact aF [(0,some 0)]
 ·obtain⟨n,hn,c1⟩:=gB h ((d.stns.length:Int)+1) (by omega) (by omega)
  refine⟨_,⟨c+1,n,0,jN⟩,h.next,by simp,?_⟩
  obtain⟨vs,rs,ps,pm⟩:=dk
  rcases h23 with rfl|rfl
  all_goals
   refine nI Tryz.func80 rfl Tryz.ntmps80 ?_
   refine ah ?_
   refine ax c0 [(0,0)] ?_
   refine ah ?_
   refine ax c1 [(0,0)] ?_
   refine ah ?_
   exact aF [(0,some 0)]
 ·obtain⟨n,hn,c1⟩:=gO h [1,2,7,60,100,0,101] (by simp) (by simp)
  refine⟨_,⟨6,0,n,jN⟩,h.next,by simp,?_⟩
  obtain⟨vs,rs,ps,pm⟩:=dk
  rcases h45 with rfl|rfl
  all_goals
   refine nI Tryz.func80 rfl Tryz.ntmps80 ?_
   refine ah ?_
   refine ax c0 [(0,0)] ?_
   refine ah ?_
   refine gj c1 [(0,0)] [] [155] ?_
   refine ah ?_
   exact aF [(0,some 0)]
 ·obtain⟨n1,hn1,c1⟩:=gB h 9 (by omega) (by omega)
  obtain⟨n2,hn2,c2⟩:=gB h.next 4 (by omega) (by omega)
  obtain⟨n3,hn3,c3⟩:=gB h.next.next 5 (by omega) (by omega)
  obtain⟨n4,hn4,c4⟩:=gB h.next.next.next 2 (by omega) (by omega)
  obtain⟨n5,hn5,c5⟩:=gB h.next.next.next.next 2 (by omega) (by omega)
  refine⟨_,⟨n1,n2,n3,n4,0,[],n5⟩,h.next.next.next.next.next,by simp,?_⟩
  obtain⟨vs,rs,ps,pm⟩:=dk
  dsimp only at sv
  refine nI Tryz.func80 rfl Tryz.ntmps80 ?_
  refine ah ?_
  refine ax c0 [(0,0)] ?_
  refine ah ?_
  refine ax c1 [(0,0)] ?_
  refine ax c2 [(0,0)] ?_
  refine ax c3 [(0,0)] ?_
  refine ax c4 [(0,0)] ?_
  refine ax c5 [(0,0)] ?_
  refine ah ?_
  exact aF [(0,some 0)]
 ·obtain⟨q,hq,cq⟩:=gB h 2 (by omega) (by omega)
  obtain⟨k2,p,hk2,hp,hcase⟩:∃ (k2:Nat) (p:Pn),aV l k2∧jE d p∧((q≠0∧p=dk.pl∧k2=ai l (ai l k))∨(q=0∧aj Tryz.prog 150 [.pt 0 [] 0,.t (.agg d.l)] [(0,bu l (ai l (ai l k)))] (.t (bW p)) [(0,bu l k2)])):=by
   by_cases q0:q=0
   ·have hg:Bv d:=⟨hd.ok,h1,hd.p1,by have:=hd.s;have:=hd.p;omega⟩
    obtain⟨k2,rs,pr,pm,ρ,hk2,hR,hl,⟨b,rfl⟩,cP⟩:=Mx l _ h.next d hg (by have:=hd.n;omega) (by omega)
    exact⟨k2,⟨rs,pr,b⟩,hk2,FR hg _ hl hR,.inr ⟨q0,cP⟩⟩
   ·exact⟨_,dk.pl,h.next,hk.fl,.inl ⟨q0,rfl,rfl⟩⟩
  obtain⟨L,e,hL,cD⟩:=Ht d hd p hp
  by_cases hl0:L=[]
  ·subst hl0
   refine⟨k2,⟨5,0,1,0,1,[],0⟩,hk2,by simp,?_⟩
   obtain⟨vs,rs,ps,pm⟩:=dk
   obtain⟨rs',ps',pm'⟩:=p
   rcases hcase with ⟨q0,hpe,rfl⟩|⟨rfl,cP⟩
   ·dsimp only at hpe
    cases hpe
    rcases h78 with rfl|rfl
    all_goals
     refine nI Tryz.func80 rfl Tryz.ntmps80 ?_
     refine ah ?_
     refine ax c0 [(0,0)] ?_
     refine ah ?_
     refine ax cq [(0,0)] ?_
     refine aJ q0 ?_
     refine ax cD [] ?_
     refine ah ?_
     exact aF [(0,some 0)]
   ·rcases h78 with rfl|rfl
    all_goals
     refine nI Tryz.func80 rfl Tryz.ntmps80 ?_
     refine ah ?_
     refine ax c0 [(0,0)] ?_
     refine ah ?_
     refine ax cq [(0,0)] ?_
     refine ah ?_
     refine ax cP [(0,0)] ?_
     refine ah ?_
     refine ax cD [] ?_
     refine ah ?_
     exact aF [(0,some 0)]
  have hlp:1≤L.length:=by cases L with|nil=>exact absurd rfl hl0|cons a b=>simp
  have hlz:¬ (L.length:Int)=0:=by omega
  obtain⟨n,hn,cn⟩:=gB hk2 (L.length:Int) (by omega) (by have:=hL.2;omega)
  obtain⟨j,rfl⟩:∃ j:Nat,n=(j:Int):=⟨n.toNat,by omega⟩
  obtain⟨x,hx⟩:∃ x,L[j]? = some x:=aa (by omega)
  obtain⟨g1,g2⟩:=hL.1 x (au hx)
  have cC:=zI x (by omega)
  obtain⟨v,hv,cv⟩:=gO hk2.next [x.r,-x.r,1,-1,x.r+1,-x.r - 1,0] (by simp) (by simp)
  refine⟨_,⟨5,0,v,x.i,x.o,x.hs,0⟩,hk2.next.next,by dsimp only;omega,?_⟩
  obtain⟨vs,rs,ps,pm⟩:=dk
  obtain⟨rs',ps',pm'⟩:=p
  obtain⟨xi,xo,xh,xr⟩:=x
  dsimp only at g1 g2 cC cv
  rcases hcase with ⟨q0,hpe,rfl⟩|⟨rfl,cP⟩
  ·dsimp only at hpe
   cases hpe
   rcases h78 with rfl|rfl
   all_goals
    refine nI Tryz.func80 rfl Tryz.ntmps80 ?_
    refine ah ?_
    refine ax c0 [(0,0)] ?_
    refine ah ?_
    refine ax cq [(0,0)] ?_
    refine aJ q0 ?_
    refine ax cD [] ?_
    refine aJ hlz ?_
    refine dr hx cn [(0,0)] ?_
    refine aJ hx ?_
    refine dr hx cC [] ?_
    refine ah ?_
    refine gj cv [(0,0)] [] [212] ?_
    refine ah ?_
    exact aF [(0,some 0)]
  ·rcases h78 with rfl|rfl
   all_goals
    refine nI Tryz.func80 rfl Tryz.ntmps80 ?_
    refine ah ?_
    refine ax c0 [(0,0)] ?_
    refine ah ?_
    refine ax cq [(0,0)] ?_
    refine ah ?_
    refine ax cP [(0,0)] ?_
    refine ah ?_
    refine ax cD [] ?_
    refine aJ hlz ?_
    refine dr hx cn [(0,0)] ?_
    refine aJ hx ?_
    refine dr hx cC [] ?_
    refine ah ?_
    refine gj cv [(0,0)] [] [212] ?_
    refine ah ?_
    exact aF [(0,some 0)]
theorem AX {l:List Int} {k:Nat} (h:aV l k) (d:aB) (hd:bq d) (h1:1≤d.segs.length) (c:Ce) (hc:nS d c):∃ (k':Nat) (r:Rc),aV l k'∧HH r∧aj Tryz.prog 31 [.pt 0 [] 0,.t (.agg d.l),.t (bw c)] [(0,bu l k)] (.t (dH r)) [(0,bu l k')]:=by
 obtain⟨z,hz,c0⟩:=gB h 4 (by omega) (by omega)
 have h:=h.next
 have hzz:z=0∨z=1∨(z=2∨z=3):=by omega
 rcases hzz with rfl|rfl|h23
 ·obtain⟨st,hst,c1⟩:=gB h 4 (by omega) (by omega)
  obtain⟨k2,t,hk2,ht,_,hv,c2⟩:=Bh h.next st (by omega)
  refine⟨k2,_,hk2,.tele t ht hv,?_⟩
  obtain⟨⟨vs,rs,ps,pm⟩,ts,ac,n⟩:=c
  obtain⟨t1,t2,t3,t4,t5,t6⟩:=t
  dsimp only at hv
  refine nI Tryz.func31 rfl Tryz.ntmps31 ?_
  refine ah ?_
  refine ax c0 [(0,0)] ?_
  refine ah ?_
  refine ax c1 [(0,0)] ?_
  refine ax c2 [(0,0),(1000,150)] ?_
  refine ah ?_
  first|rw[av]|rw[ae]
  refine⟨[(0,some 0)],?_⟩
  simp[go_sem,↓iO,iO,tN,jK]
  rfl
 ·obtain⟨k2,es,hk2,he,hl,c1⟩:=Ed h
  cases es with
  | nil=>
   obtain⟨m,hm,c2⟩:=gB hk2 5 (by omega) (by omega)
   refine⟨_,_,hk2.next,.blank m,?_⟩
   obtain⟨⟨vs,rs,ps,pm⟩,ts,ac,n⟩:=c
   refine nI Tryz.func31 rfl Tryz.ntmps31 ?_
   refine ah ?_
   refine ax c0 [(0,0)] ?_
   refine ah ?_
   refine ax c1 [(0,0)] ?_
   refine ah ?_
   refine ax c2 [(0,0)] ?_
   refine ah ?_
   first|rw[av]|rw[ae]
   refine⟨[(0,some 0)],?_⟩
   simp[go_sem,↓iO,iO,tN]
   rfl
  | cons e es=>
   refine⟨_,_,hk2,.entry e (he e (by simp)),?_⟩
   obtain⟨⟨vs,rs,ps,pm⟩,ts,ac,n⟩:=c
   obtain⟨e1,e2,e3⟩:=e
   have hz:¬ (es.length:Int)+1=0:=by omega
   refine nI Tryz.func31 rfl Tryz.ntmps31 ?_
   refine ah ?_
   refine ax c0 [(0,0)] ?_
   refine ah ?_
   refine ax c1 [(0,0)] ?_
   refine aJ hz ?_
   exact aF [(0,some 0)]
 ·obtain⟨k2,s,hk2,hs,c1⟩:=Hy h d hd h1 c.dk hc.dk
  refine⟨k2,_,hk2,.step s hs,?_⟩
  obtain⟨⟨vs,rs,ps,pm⟩,ts,ac,n⟩:=c
  obtain⟨kd,ix,vl,i,o,hs',r'⟩:=s
  rcases h23 with rfl|rfl
  all_goals
   refine nI Tryz.func31 rfl Tryz.ntmps31 ?_
   refine ah ?_
   refine ax c0 [(0,0)] ?_
   refine ah ?_
   refine ax c1 [(0,0)] ?_
   refine ah ?_
   first|rw[av]|rw[ae]
   refine⟨[(0,some 0)],?_⟩
   simp[go_sem,↓iO,iO,tN]
   rfl
def vw (d:aB) (rs:List Rc) (C:Nat→Ce):Prop:=C 0=Na d∧∀ i r,rs[i]? = some r→AR d (C i) r (C (i+1))
theorem vw.ok {d:aB} (hd:bq d) (h1:1≤d.segs.length) {rs:List Rc} {C:Nat→Ce} (h:vw d rs C) (hl:rs.length≤10):∀ i:Nat,i≤rs.length→nS d (C i)∧(C i).n=i
 | 0,_=>by rw[h.1];exact⟨Ph d hd h1,rfl⟩
 | i+1,hi=>by
  obtain⟨a,b⟩:=vw.ok hd h1 h hl i (by omega)
  obtain⟨r,hr⟩:=(show ∃ r,rs[i]? = some r from aa (by omega))
  have hc:=h.2 i r hr
  exact⟨hc.ok hd a (by omega),by rw[hc.n,b];omega⟩
theorem vw.snoc {d:aB} {rs:List Rc} {C:Nat→Ce} (h:vw d rs C) {r:Rc} {c:Ce} (hr:AR d (C rs.length) r c):∃ C',C' (rs++[r]).length=c∧vw d (rs++[r]) C':=by
 refine⟨fun i=>if i≤rs.length then C i else c,?_,?_,?_⟩
 ·dsimp only
  rw[if_neg (by simp)]
 ·simpa using h.1
 ·intro i q hq
  by_cases hi:i < rs.length
  ·rw[List.getElem?_append_left hi]at hq
   have:=h.2 i q hq
   dsimp only
   rw[if_pos (by omega),if_pos (by omega)];exact this
  ·have:=(List.getElem?_eq_some_iff.1 hq).1
   simp at this
   have hi':i=rs.length:=by omega
   subst hi'
   rw[List.getElem?_append_right (Nat.le_refl _)]at hq
   simp at hq
   subst hq
   dsimp only
   rw[if_pos (Nat.le_refl _),if_neg (by omega)];exact hr
structure MC where
 j:Nat
 k:Nat
 c:Ce
 rs:List Rc
structure PL (d:aB) (l:List Int) (x:MC):Prop where
 s:aV l x.k
 n:x.rs.length≤x.j
 c:∃ C,C x.rs.length=x.c∧vw d x.rs C
def Rp (d:aB) (l:List Int) (x y:MC) (r:Rc):Prop:=y.j=x.j+1∧(x.j < 10→∃ c' e,aj Tryz.prog 31 [.pt 0 [] 0,.t (.agg d.l),.t (bw x.c)] [(0,bu l x.k)] (.t (dH r)) [(0,bu l y.k)]∧
 aj Tryz.prog 32 [.t (.agg d.l),.t (bw x.c),.t (dH r)] [] (.tup [.t (bw c'),.t (.int e)]) []∧((e=0∧y.c=c'∧y.rs=x.rs++[r])∨(e≠0∧y.c=x.c∧y.rs=x.rs)))
theorem OQ {l:List Int} (d:aB) (hd:bq d) (h1:1≤d.segs.length) (x:MC) (hx:PL d l x):∃ y r,PL d l y∧Rp d l x y r:=by
 obtain⟨j,k,c,rs⟩:=x
 obtain⟨hs,hn,C,hcC,hC⟩:=hx
 dsimp only at hs hn hC hcC
 subst hcC
 by_cases hj:j < 10
 ·obtain⟨hc,hcn⟩:=hC.ok hd h1 (by omega) rs.length (Nat.le_refl _)
  obtain⟨k',r,hs',hr,c1⟩:=AX hs d hd h1 _ hc
  obtain⟨c',e,he,c2⟩:=Gj d hd _ hc (by omega) r hr
  by_cases e0:e=0
  ·exact⟨⟨j+1,k',c',rs++[r]⟩,r,⟨hs',by simp;omega,hC.snoc (he e0)⟩,rfl,fun _=>⟨c',e,c1,c2,.inl ⟨e0,rfl,rfl⟩⟩⟩
  ·exact⟨⟨j+1,k',C rs.length,rs⟩,r,⟨hs',by dsimp only;omega,C,rfl,hC⟩,rfl,fun _=>⟨c',e,c1,c2,.inr ⟨e0,rfl,rfl⟩⟩⟩
 ·exact⟨⟨j+1,k,C rs.length,rs⟩,⟨0,[],gX,oG⟩,⟨hs,by dsimp only;omega,C,rfl,hC⟩,rfl,fun h=>absurd h hj⟩
theorem AM {l:List Int} {k:Nat} (h:aV l k) (d:aB) (hd:bq d) (h1:1≤d.segs.length):∃ (k':Nat) (c:Ce) (rs:List Rc) (C:Nat→Ce),aV l k'∧rs.length≤10∧vw d rs C∧
  aj Tryz.prog 8 [.pt 0 [] 0,.t (.agg d.l),.t (.int 2),.t (.int 10)] [(0,bu l k)] (.tup [.t (bw c),.t (.sl 12 (rs.map dH))]) [(0,bu l k')]:=by
 obtain⟨n,hn,c0⟩:=gB h 11 (by omega) (by omega)
 obtain⟨m,rfl⟩:∃ m:Nat,n=(m:Int):=⟨n.toNat,by omega⟩
 obtain⟨A,B,A0,AB⟩:=BF (P:=PL d l) (R:=Rp d l) (a:=⟨0,ai l k,Na d,[]⟩) ⟨h.next,by simp,fun _=>Na d,rfl,rfl,by simp⟩ (OQ d hd h1)
 have Aj:∀ j,(A j).j=j:=fun j=>by
  induction j with
  | zero=>rw[A0]
  | succ j ih=>rw[(AB j).2.1,ih]
 have cN:=LR d hd
 obtain⟨hs,hl,C,_,hC⟩:=(AB m).1
 rw[Aj]at hl
 refine⟨(A m).k,(A m).c,(A m).rs,C,hs,by omega,hC,?_⟩
 clear hC hs
 refine nI Tryz.func8 rfl Tryz.ntmps8 ?_
 refine ah ?_
 refine ax cN [] ?_
 refine ah ?_
 refine ax c0 [(0,0)] ?_
 refine ah ?_
 refine oP ?_
 refine CW.loop (ι:=Nat) (fun j=>⟨[(0,.pt 0 [] 0),(5,.pt 105 [] 0),(8,.pt 108 [] 0),(10,.pt 110 [] 0),(12,.own 512),(13,.t (.int ((m:Int) - j)))],[(0,bu l (A j).k),(105,.box 32 (.t (.agg d.l))),(110,.box 43 (.t (bw (A j).c))),(108,.box 43 (.t (.agg [.agg [.nil,.agg [.nil,.nil,.nil]],.nil,.nil,.int 0]))),(512,.list 63 12 ((A j).rs.map dH))]⟩) (fun j=>j≤m) (fun j=>m - j) 0 [(0,some 0),(105,some 105),(108,some 108),(110,some 110),(512,none)] (by omega) ?_ ?_
 ·exact dJ A0
 intro j hj
 by_cases hb:j < m
 ·obtain⟨_,e1,h2⟩:=AB j
  have hl:=(AB j).1.n
  rw[Aj]at hl h2
  obtain⟨c',e,c1,c2,h3⟩:=h2 (by omega)
  have hpos:0 < (m:Int) - j:=by omega
  obtain⟨x,hx⟩:∃ x,A j=x:=⟨_,rfl⟩
  obtain⟨y,hy⟩:∃ y,A (j+1)=y:=⟨_,rfl⟩
  obtain⟨r,hr⟩:∃ r,B j=r:=⟨_,rfl⟩
  rw[hx]at c1 c2 h3 hl
  rw[hy]at c1 h3
  rw[hr]at c1 c2 h3
  simp only[hx]
  obtain⟨_,kx,⟨⟨vs,ra,ps,pm⟩,ts,ac,cn⟩,rs⟩:=x
  obtain⟨_,ky,cy,ry⟩:=y
  obtain⟨⟨vs',rs',ps',pm'⟩,ts',ac',cn'⟩:=c'
  obtain⟨kd,rv,⟨sk,si,sv,i,o,hs,pr⟩,sh,ek,ev⟩:=r
  dsimp only at c1 c2 h3 hl
  clear e1
  rcases h3 with ⟨rfl,rfl,rfl⟩|⟨e0,rfl,rfl⟩
  ·refine aJ hpos ?_
   refine ax c1 [(0,0)] ?_
   refine ah ?_
   refine ax c2 [] ?_
   refine ah ?_
   refine nX (j+1) [(0,some 0),(105,some 105),(108,some 108),(110,some 110),(512,some 148)] ?_ ?_ ?_
   ·omega
   ·omega
   simp[go_sem,↓iO,iO,tN,hy]
   omega
  ·refine aJ hpos ?_
   refine ax c1 [(0,0)] ?_
   refine ah ?_
   refine ax c2 [] ?_
   refine aJ e0 ?_
   refine nX (j+1) [(0,some 0),(105,some 105),(108,some 108),(110,some 110),(512,some 512)] ?_ ?_ ?_
   ·omega
   ·omega
   simp[go_sem,↓iO,iO,tN,hy]
   omega
 ·obtain rfl:j=m:=by omega
  have hpos:¬ 0 < (j:Int) - j:=by omega
  obtain⟨x,hx⟩:∃ x,A j=x:=⟨_,rfl⟩
  simp only[hx]
  obtain⟨_,kx,⟨⟨vs,ra,ps,pm⟩,ts,ac,cn⟩,rs⟩:=x
  refine aJ hpos ?_
  exact aF [(0,some 0)]
@[go_sem] def tA (l:List (List Nat)):T:=.sl 1 (l.map dI)
@[go_sem] def xN (l:List (List Nat)):aA:=.list 50 1 (l.map dI)
abbrev Bytes (l:List Nat):Prop:=∀ c∈l,c < 256
theorem Hm {parts:List (List Nat)} {k:Nat} {p:List Nat} (h:parts[k]? = some p):(parts.take (k+1)).flatten=(parts.take k).flatten++p:=by
 rw[bC h];simp
theorem JC (parts:List (List Nat)) (k:Nat):(parts.take k).flatten.length≤parts.flatten.length:=by
 conv=>rhs;rw[←List.take_append_drop k parts,List.flatten_append]
 simp
theorem pJ (parts:List (List Nat)) (hl:parts.length≤1000000) (hs:parts.flatten.length≤1000000000) :
  aj Tryz.prog 96 [.t (tA parts)] [] (.own 1000) [(1000,iD parts.flatten)]:=by
 obtain⟨Y,y0,ys,ye,yl⟩:∃ Y:Nat→List Nat,Y 0=[]∧(∀ k p,parts[k]? = some p→Y (k+1)=Y k++p)∧Y parts.length=parts.flatten∧(∀ k,(Y k).length≤1000000000):=
  ⟨fun k=>(parts.take k).flatten,by simp,fun k p h=>Hm h,by simp,fun k=>Nat.le_trans (JC parts k) hs⟩
 rw[←ye]
 refine nI Tryz.func96 rfl Tryz.ntmps96 ?_
 refine ah ?_
 refine oP ?_
 refine CW.loop (ι:=Nat) (fun k=>⟨[(6,.t (tA parts)),(7,.t (.int parts.length)),(8,.t (.int k)),(3,.own 500)],[(500,iD (Y k))]⟩) (fun k=>k≤parts.length) (fun k=>parts.length - k) 0 [(500,none)] (by omega) ?_ ?_
 ·exact dJ y0
 intro k hk
 have hyk:=yl k
 by_cases hb:k < parts.length
 ·obtain⟨p,hp⟩:=aa hb
  have hsn:=ys k p hp
  have hyk2:=yl (k+1)
  have hpl:(Y (k+1)).length=(Y k).length+p.length:=by rw[hsn,List.length_append]
  obtain⟨V,hV⟩:∃ V,Y k=V:=⟨_,rfl⟩
  rw[hV]at hsn hyk hpl ⊢
  refine aJ hp ?_
  exact nX (k+1) [(500,some 114)] (by omega) (by omega) (dJ hsn)
 ·obtain rfl:k=parts.length:=by omega
  refine ah ?_
  exact aF [(1000,some 500)]
theorem gI (l:List Nat) (hl:l.length≤1000000000):aj Tryz.prog 33 [.t (dI l)] [] (.own 1000) [(1000,iD l)]:=by
 refine nI Tryz.func33 rfl Tryz.ntmps33 ?_
 iterate 1 (refine af rfl ?_;simp[go_sem,↓iO,iO,tN];(repeat (refine ba ?_));try (refine⟨aZ,?_⟩))
 refine CW.seq (CW.seq (CW.nilTest (k:=1) (xs:=l.map jh) (e:=5) (by simp[go_sem]) (by simp[go_sem]) ?_ ?_))
 ·intro hx
  have hx:l=[]:=by simpa using hx
  simp[go_sem,↓iO,iO,tN]
  refine ah ?_
  exact l9 hx [(1000,none)]
 ·simp[go_sem,↓iO,iO,tN]
  refine ah ?_
  exact aF [(1000,some 107)]
def l8 (b:List Nat):List Nat×Int:=if b.length≤4000 then (cX b.length++b,0) else ([],4)
theorem I3 (b:List Nat) (hb:b.length≤1000000) (x:List Nat) (e:Int) (hr:l8 b=(x,e)):aj Tryz.prog 93 [.t (dI b)] [] (.tup [.own 1000,.t (.int e)]) [(1000,iD x)]:=by
 unfold l8 at hr
 by_cases h:b.length≤4000
 ·rw[if_pos h]at hr
  obtain⟨rfl,rfl⟩:cX b.length++b=x∧0=e:=by simpa using hr
  have c1:=J5 [] b.length (by simp) (by omega) (by omega)
  have hp10:=Wire.eU (Wire.ij (z:=(b.length:Int)) (by omega) (by omega))
  unfold cX at c1 ⊢
  obtain⟨p,hp⟩:∃ p,Wire.put (Wire.fold b.length)=p:=⟨_,rfl⟩
  rw[hp]at c1 hp10 ⊢
  rw[List.nil_append]at c1
  have c2:=pJ [p,b] (by simp) (by simp;omega)
  rw[show [p,b].flatten=p++b by simp]at c2
  obtain⟨q,hq⟩:∃ q,p++b=q:=⟨_,rfl⟩
  rw[hq]at c2 ⊢
  refine nI Tryz.func93 rfl Tryz.ntmps93 ?_
  refine ah ?_
  refine ax c1 [(1000,109)] ?_
  refine ah ?_
  refine gj c2 [(1000,112)] [111] [] ?_
  refine ah ?_
  exact aF [(1000,some 112)]
 ·rw[if_neg h]at hr
  obtain⟨rfl,rfl⟩:[]=x∧4=e:=by simpa using hr
  refine nI Tryz.func93 rfl Tryz.ntmps93 ?_
  refine ah ?_
  exact aF [(1000,none)]
def rd (
    bs:List Nat):Nat→Nat→List (List Nat)×Nat
 | 0,a=>([],a)
 | f+1,a=>if a < bs.length then
   (if (Wire.eX bs a).2.2=0∧0≤(Wire.eX bs a).1∧(Wire.eX bs a).1≤4000∧(Wire.eX bs a).1≤bs.length - (Wire.eX bs a).2.1 then
    ((bs.take ((Wire.eX bs a).2.1.toNat+(Wire.eX bs a).1.toNat)).drop (Wire.eX bs a).2.1.toNat :: (rd bs f ((Wire.eX bs a).2.1.toNat+(Wire.eX bs a).1.toNat)).1,(rd bs f ((Wire.eX bs a).2.1.toNat+(Wire.eX bs a).1.toNat)).2)
   else ([],a)) else ([],a)
def ic (bs:List Nat):List (List Nat)×Nat:=rd bs (bs.length+1) 0
theorem sL:∀ {l:List Nat} {k u n:Nat} {x e:Int},Wire.scan l k u=(x,n,e)→e=0→k < n∧n≤k+l.length
 | [],k,u,n,x,e,h,he=>by
  unfold Wire.scan at h
  subst he
  split at h<;>simp at h
 | c :: r,k,u,n,x,e,h,he=>by
  subst he
  unfold Wire.scan at h
  split at h
  ·split at h
   ·have:=sL h rfl
    simp only[List.length_cons]
    omega
   ·split at h
    ·simp at h
    ·have h2:k+1=n:=by simp at h;exact h.2
     simp only[List.length_cons]
     omega
  ·simp at h
theorem kK {bs:List Nat} {a:Nat} {x y:Int} (ha:a≤bs.length) (h:Wire.eX bs a=(x,y,0)):(a:Int) < y∧y≤bs.length:=by
 rw[yi ha]at h
 obtain⟨⟨s1,s2,s3⟩,hs⟩:∃ s,Wire.scan (bs.drop a) 0 0=s:=⟨_,rfl⟩
 rw[hs]at h
 dsimp only at h
 by_cases h3:s3=0
 ·rw[if_pos h3]at h
  have hr:=sL hs h3
  rw[List.length_drop]at hr
  obtain⟨_,rfl⟩:s1=x∧(a:Int)+s2=y:=by simpa using h
  omega
 ·rw[if_neg h3]at h
  simp at h
  exact absurd h.2.2 h3
theorem m9 {bs:List Nat} {f a:Nat} (h:¬ a < bs.length):rd bs f a=([],a):=by
 cases f with
 | zero=>rfl
 | succ f=>simp only[rd];rw[if_neg h]
theorem fU {bs:List Nat} {f a:Nat} {x y e:Int} (h1:a < bs.length) (hg:Wire.eX bs a=(x,y,e)) (h:¬ (e=0∧0≤x∧x≤4000∧x≤bs.length - y)):rd bs (f+1) a=([],a):=by
 simp only[rd]
 rw[if_pos h1,hg]
 dsimp only
 rw[if_neg h]
theorem AY {bs:List Nat} {f a m n:Nat} {e:Int} (h1:a < bs.length) (hg:Wire.eX bs a=((n:Int),(m:Int),e)) (he:e=0) (h2:n≤4000) (h3:m+n≤bs.length) :
  rd bs (f+1) a=((bs.take (m+n)).drop m :: (rd bs f (m+n)).1,(rd bs f (m+n)).2):=by
 simp only[rd]
 rw[if_pos h1,hg]
 dsimp only
 rw[if_pos ⟨he,by omega,by omega,by omega⟩]
 simp
theorem FP (bs:List Nat) (hb:bs.length≤1000000) (h8:Bytes bs) (l:List (List Nat)) (n:Nat) (hr:ic bs=(l,n)):aj Tryz.prog 95 [.t (dI bs)] [] (.tup [.own 1000,.t (.int n)]) [(1000,xN l)]:=by
 unfold ic at hr
 refine nI Tryz.func95 rfl Tryz.ntmps95 ?_
 refine ah ?_
 refine oP ?_
 refine lP (ι:=Nat×Nat×List (List Nat)) (fun p=>⟨[(0,.t (dI bs)),(4,.own 500),(5,.t (.int p.2.1))],[(500,xN p.2.2)]⟩) (fun p=>p.2.1≤bs.length∧bs.length < p.2.1+p.1∧p.2.2.length≤p.2.1∧p.2.2++(rd bs p.1 p.2.1).1=l∧(rd bs p.1 p.2.1).2=n) (fun p=>bs.length - p.2.1) (bs.length+1,0,[]) [(500,none)] ⟨by simp,by simp,by simp,by simp[hr],by simp[hr]⟩ ?_
 rintro ⟨f,a,out⟩ ⟨ha,hf,hol,h1,h2⟩
 dsimp only at ha hf hol h1 h2 ⊢
 by_cases hlt:a < bs.length
 ·obtain⟨f,rfl⟩:∃ g,f=g+1:=⟨f - 1,by omega⟩
  obtain⟨x,y,e,hg⟩:∃ x y e,Wire.eX bs a=(x,y,e):=⟨_,_,_,rfl⟩
  have c1:=Kn bs a (by omega) h8 x y e hg
  by_cases he:e=0
  ·subst he
   have hrg:=kK ha hg
   obtain⟨m,rfl⟩:∃ m:Nat,y=(m:Int):=⟨y.toNat,by omega⟩
   by_cases hx0:0≤x
   ·obtain⟨k,rfl⟩:∃ m:Nat,x=(m:Int):=⟨x.toNat,by omega⟩
    by_cases hx1:k≤4000
    ·by_cases hx2:m+k≤bs.length
     ·rw[AY hlt hg rfl hx1 hx2]at h1 h2
      dsimp only at h1 h2
      have c2:=gI ((bs.take (m+k)).drop m) (by rw[List.length_drop,List.length_take];omega)
      refine ah ?_
      refine ax c1 [] ?_
      refine ah ?_
      refine ax c2 [(1000,145)] ?_
      refine ah ?_
      refine nX (f,m+k,out++[(bs.take (m+k)).drop m]) [(500,some 147)] ?_ ?_ ?_
      ·exact⟨by dsimp only;omega,by dsimp only;omega,by simp;omega,by simpa using h1,h2⟩
      ·dsimp only
       omega
      exact dY
     ·rw[fU hlt hg (by omega)]at h1 h2
      obtain rfl:out=l:=by simpa using h1
      obtain rfl:a=n:=h2
      refine ah ?_
      refine ax c1 [] ?_
      refine ah ?_
      exact aF [(1000,some 500)]
    ·rw[fU hlt hg (by omega)]at h1 h2
     obtain rfl:out=l:=by simpa using h1
     obtain rfl:a=n:=h2
     refine ah ?_
     refine ax c1 [] ?_
     refine ah ?_
     exact aF [(1000,some 500)]
   ·rw[fU hlt hg (by omega)]at h1 h2
    obtain rfl:out=l:=by simpa using h1
    obtain rfl:a=n:=h2
    refine ah ?_
    refine ax c1 [] ?_
    refine ah ?_
    exact aF [(1000,some 500)]
  ·rw[fU hlt hg (by omega)]at h1 h2
   obtain rfl:out=l:=by simpa using h1
   obtain rfl:a=n:=h2
   refine ah ?_
   refine ax c1 [] ?_
   refine ah ?_
   exact aF [(1000,some 500)]
 ·rw[m9 hlt]at h1 h2
  obtain rfl:out=l:=by simpa using h1
  obtain rfl:a=n:=h2
  refine ah ?_
  exact aF [(1000,some 500)]
end Go.Proofs.YtocndodilpimnaaGreat
