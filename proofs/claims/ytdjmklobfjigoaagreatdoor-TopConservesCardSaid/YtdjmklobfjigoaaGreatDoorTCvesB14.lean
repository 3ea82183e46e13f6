import Derived.Test.YtdjmklobfjigoaaGreatDoorTCvesB13
import Derived.Test.YtdjmklobfjigoaaGreatDoorTCvesB11
import Derived.Test.YtdjmklobfjigoaaGreatDoorTCvesB10
import Derived.Test.YtdjmklobfjigoaaGreatDoorTCvesB12
set_option maxRecDepth 100000
set_option maxHeartbeats 16000000
set_option linter.unusedVariables false
set_option linter.unusedSimpArgs false
namespace Go.Proofs.YtdjmklobfjigoaaGreatDoor
open Go.RowKit Sy
open Go.IntWalk renaming iteOmega → iO, toNatUp → tN
theorem str_cat (a b:List Nat):str a++str b=str (a++b):=by
 apply ByteArray.ext
 simp[str]
theorem kname_fn (c:Nat) (fst:ByteArray) (hf:fst=str [c]) (k:Nat) (hk:k < 26):FnOk Tryz.prog 40 [.t (.lit (.string fst)),.t (.int (k:Int))] [] (.t (.lit (.string (str [c,97+k])))) []:=by
 subst hf
 have e:k % 26=k:=Nat.mod_eq_of_lt hk
 refine FnOk.intro fact_mixed Tryz.func40 rfl Tryz.ntmps40 (by rfl) (by simp) ?_
 repeat (first|(refine n1s rfl ?_;simp[go_sem,↓iO,iO,tN])|refine anI ?_|refine⟨dcK,?_⟩|refine iP ?_|refine iN ?_)
 first|rw[TqR]|rw[TqN]
 refine⟨[],?_⟩
 simp[go_sem,↓iO,iO,tN,str_cat,e]
def sgGo (l:List Int) (cp lim:Int):Nat→Nat×Int×List (Int×Int×Int)→Nat×List (Int×Int×Int)
 | 0,s=>(s.1,s.2.2)
 | f+1,s=>if 0 < nV l s.1 3 then
   (
    if cp≤s.2.1+rangeV l (nextK l s.1) 1 40 then (nextK l (nextK l s.1),s.2.2)
    else sgGo l cp lim f (nextK l (nextK l (nextK l (nextK l (nextK l s.1)))),s.2.1+rangeV l (nextK l s.1) 1 40,
     s.2.2++[(s.2.1+rangeV l (nextK l s.1) 1 40,rangeV l (nextK l (nextK l s.1)) (-5) 60 * pickV l (nextK l (nextK l (nextK l s.1))) [1,1,10],lim - nV l (nextK l (nextK l (nextK l (nextK l s.1)))) 3 * 1000)]))
  else (nextK l s.1,s.2.2)
structure PtI (P:List (Int×Int×Int)) (at':Int):Prop where
 l0:1≤P.length
 l1:P.length≤7
 pts:∀ (k:Nat) (p:Int×Int×Int),P[k]? = some p→((-500:Int)≤p.2.1∧p.2.1≤5000)∧(0≤p.2.2∧p.2.2≤100000000)∧∀ q,0 < k→P[k - 1]? = some q→q.1 < p.1
 fst:∀ (p:Int×Int×Int),P[0]? = some p→p.1=0
 lst:∀ (p:Int×Int×Int),P[P.length - 1]? = some p→p.1=at'
theorem pt_snoc {P:List (Int×Int×Int)} {a:Int} (h:PtI P a) (x:Int×Int×Int) (h1:(-500:Int)≤x.2.1∧x.2.1≤5000) (h2:0≤x.2.2∧x.2.2≤100000000) (h3:a < x.1) :
  (∀ (k:Nat) (p:Int×Int×Int),(P++[x])[k]? = some p→((-500:Int)≤p.2.1∧p.2.1≤5000)∧(0≤p.2.2∧p.2.2≤100000000)∧∀ q,0 < k→(P++[x])[k - 1]? = some q→q.1 < p.1)∧
  (∀ (p:Int×Int×Int),(P++[x])[0]? = some p→p.1=0)∧(∀ (p:Int×Int×Int),(P++[x])[(P++[x]).length - 1]? = some p→p.1=x.1):=by
 have hl:=h.l0
 refine⟨fun k p hp=>?_,fun p hp=>?_,fun p hp=>?_⟩
 ·by_cases hk:k < P.length
  ·rw[List.getElem?_append_left hk]at hp
   obtain⟨a1,a2,a3⟩:=h.pts k p hp
   refine⟨a1,a2,fun q hq hq2=>a3 q hq ?_⟩
   rw[List.getElem?_append_left (by omega)]at hq2
   exact hq2
  ·have:k=P.length:=by
    have:=(List.getElem?_eq_some_iff.1 hp).1
    simp at this;omega
   subst this
   simp at hp
   subst hp
   refine⟨h1,h2,fun q hq hq2=>?_⟩
   rw[List.getElem?_append_left (by omega)]at hq2
   rw[h.lst q hq2];exact h3
 ·rw[List.getElem?_append_left (by omega)]at hp
  exact h.fst p hp
 ·simp at hp
  subst hp;rfl
theorem pick_bd {h m:Int} (h1:-5≤h∧h≤60) (h2:m∈[1,1,10]):-50≤h * m∧h * m≤600:=by
 have:m=1∨m=10:=by simp at h2;omega
 rcases this with rfl|rfl<;>omega
theorem sgGo_ok {l:List Int} {cp lim:Int} (hcp:1≤cp) (hlim:1000000≤lim∧lim≤100000000):∀ (f:Nat) (s:Nat×Int×List (Int×Int×Int)),SrcOk l s.1→PtI s.2.2 s.2.1→s.2.1 < cp→s.2.2.length+f≤7→
  SrcOk l (sgGo l cp lim f s).1∧∃ a,PtI (sgGo l cp lim f s).2 a∧a < cp
 | 0,s,h,hp,ha,_=>⟨h,_,hp,ha⟩
 | f+1,s,h,hp,ha,hf=>by
  unfold sgGo
  split
  ·split
   ·exact⟨h.next.next,_,hp,ha⟩
   ·rename_i hc
    have h1:=rangeV_range (l:=l) (k:=nextK l s.1) (lo:=1) (hi:=40) (by omega)
    have h2:=rangeV_range (l:=l) (k:=nextK l (nextK l s.1)) (lo:=-5) (hi:=60) (by omega)
    have h3:=pickV_mem (l:=l) (k:=nextK l (nextK l (nextK l s.1))) (xs:=[1,1,10]) (by simp)
    have h4:=nV_range (l:=l) (k:=nextK l (nextK l (nextK l (nextK l s.1)))) (n:=3) (by omega)
    have hm:=pick_bd h2 h3
    obtain⟨q1,q2,q3⟩:=pt_snoc hp (s.2.1+rangeV l (nextK l s.1) 1 40,rangeV l (nextK l (nextK l s.1)) (-5) 60 * pickV l (nextK l (nextK l (nextK l s.1))) [1,1,10],lim - nV l (nextK l (nextK l (nextK l (nextK l s.1)))) 3 * 1000) (by dsimp only;omega) (by dsimp only;omega) (by dsimp only;omega)
    refine sgGo_ok hcp hlim f _ h.next.next.next.next.next ⟨?_,?_,q1,q2,q3⟩ ?_ ?_
    ·show 1≤(_++[_]).length
     simp
    ·have:=hp.l1
     show (_++[_]).length≤7
     simp only[List.length_append,List.length_cons,List.length_nil]
     omega
    ·show s.2.1+rangeV l (nextK l s.1) 1 40 < cp
     omega
    ·show (_++[_]).length+f≤7
     simp only[List.length_append,List.length_cons,List.length_nil]
     omega
  ·exact⟨h.next,_,hp,ha⟩
theorem seg_ex (l:List Int) (j:Nat) (h:SrcOk l j) (k:Nat) (hk:k < 26) (a b:Nat) (ha:a≤1000) (hb:b≤1000) (hab:a≠b):∃ s k',SrcOk l k'∧s.1.nm=[103,97+k]∧((s.1.fr=(a:Int)∧s.1.to=(b:Int))∨(s.1.fr=(b:Int)∧s.1.to=(a:Int)))∧PipeOk s∧s.1.cp≤1000∧
  FnOk Tryz.prog 34 [.pt 0 [] 0,.t (.int (k:Int)),.t (.int (a:Int)),.t (.int (b:Int))] [(0,srcB l j)] (.t (encSg s)) [(0,srcB l k')]:=by
 obtain⟨z,⟨z1,z2⟩,cz⟩:=n_ex h 4 (by omega) (by omega)
 obtain⟨cp,cp1,ccp⟩:=pick_ex h.next [1,2,7,20,60,200,1000] (by simp) (by simp)
 obtain⟨rs,rs1,crs⟩:=pick_ex h.next.next [0,1,5,1000] (by simp) (by simp)
 obtain⟨wv,wv1,cwv⟩:=pick_ex h.next.next.next [0,50,1000,100000] (by simp) (by simp)
 obtain⟨lim,lim1,clim⟩:=pick_ex h.next.next.next.next [1000000,6000000,100000000] (by simp) (by simp)
 have chh:=range_fn l _ (-5) 30 h.next.next.next.next.next (by omega) (by omega) (by omega)
 have hh1:=rangeV_range (l:=l) (k:=nextK l (nextK l (nextK l (nextK l (nextK l j))))) (lo:=-5) (hi:=30) (by omega)
 obtain⟨hh,hhe⟩:∃ x,rangeV l (nextK l (nextK l (nextK l (nextK l (nextK l j))))) (-5) 30=x:=⟨_,rfl⟩
 rw[hhe]at chh hh1
 have hok:=h.next.next.next.next.next.next
 obtain⟨k0,hk0⟩:∃ x,nextK l (nextK l (nextK l (nextK l (nextK l (nextK l j)))))=x:=⟨_,rfl⟩
 rw[hk0]at chh hok
 have cn:=kname_fn 103 ⟨#[103]⟩ rfl k hk
 obtain⟨fin,hfin⟩:∃ fin,sgGo l cp lim 6 (k0,0,[(0,hh,lim)])=fin:=⟨_,rfl⟩
 have hcp:1≤cp∧cp≤1000:=by simp at cp1;omega
 have hlim:1000000≤lim∧lim≤100000000:=by simp at lim1;omega
 obtain⟨fK,fP⟩:=fin
 have hlast:=rangeV_range (l:=l) (k:=fK) (lo:=-5) (hi:=30) (by omega)
 obtain⟨la,hla⟩:∃ x,rangeV l fK (-5) 30=x:=⟨_,rfl⟩
 rw[hla]at hlast
 have hp0:PtI [((0:Int),hh,lim)] 0:=by
  refine⟨by simp,by simp,fun k p hp=>?_,fun p hp=>?_,fun p hp=>?_⟩
  ·have:k=0:=by
    have:=(List.getElem?_eq_some_iff.1 hp).1
    simp at this;omega
   subst this
   simp at hp;subst hp
   refine⟨?_,?_,fun q hq=>absurd hq (Nat.lt_irrefl 0)⟩<;>dsimp only<;>omega
  ·simp at hp;subst hp;rfl
  ·simp at hp;subst hp;rfl
 obtain⟨g1,ga,g2,g3⟩:=sgGo_ok hcp.1 hlim 6 (k0,0,[(0,hh,lim)]) hok hp0 (by dsimp only;omega) (by simp)
 rw[hfin]at g1 g2
 dsimp only at g1 g2
 obtain⟨fr,to,hft⟩:∃ fr to:Int,(z=0∧fr=b∧to=a)∨(z≠0∧fr=a∧to=b):=by
  by_cases hz:z=0
  ·exact⟨_,_,Or.inl ⟨hz,rfl,rfl⟩⟩
  ·exact⟨_,_,Or.inr ⟨hz,rfl,rfl⟩⟩
 obtain⟨q1,q2,q3⟩:=pt_snoc g2 (cp,la,lim) (by dsimp only;omega) (by dsimp only;omega) g3
 refine⟨(⟨[103,97+k],fr,to,cp,rs,wv⟩,fP++[(cp,la,lim)]),nextK l fK,g1.next,rfl,?_,⟨?_,?_,?_,?_,?_,q1,q2,q3⟩,hcp.2,?_⟩
 ·rcases hft with ⟨_,h1,h2⟩|⟨_,h1,h2⟩
  ·exact Or.inr ⟨h1,h2⟩
  ·exact Or.inl ⟨h1,h2⟩
 ·show fr≠to
  rcases hft with ⟨_,h1,h2⟩|⟨_,h1,h2⟩<;>omega
 ·show 1≤cp∧cp≤1000000
  omega
 ·show 0≤rs∧rs≤1000
  simp at rs1;omega
 ·show 0≤wv∧wv≤100000
  simp at wv1;omega
 ·have h0:=g2.l0
  have h1:=g2.l1
  show 2≤(fP++[(cp,la,lim)]).length∧(fP++[(cp,la,lim)]).length≤8
  simp only[List.length_append,List.length_cons,List.length_nil]
  omega
 have cl:=range_fn l fK (-5) 30 g1 (by omega) (by omega) (by omega)
 rw[hla]at cl
 have hnb:((b:Int)≤1000)∧((a:Int)≤1000):=by omega
 clear g2 g3 q1 q2 q3 hp0
 rcases hft with ⟨hz,rfl,rfl⟩|⟨hz,rfl,rfl⟩
 ·refine FnOk.intro fact_mixed Tryz.func34 rfl Tryz.ntmps34 (by rfl) (by simp) ?_
  repeat (first|(refine n1s rfl ?_;simp[go_sem,↓iO,iO,tN])|refine anI ?_|refine⟨dcK,?_⟩|refine iP ?_|refine iN ?_)
  refine cF (cz) [(0,0)] ?_ ?_ ?_ ?_<;>simp[go_sem,↓iO,iO,tN]
  repeat (first|(refine n1s rfl ?_;simp[go_sem,↓iO,iO,tN,hz])|refine anI ?_|refine⟨dcK,?_⟩|refine iP ?_|refine iN ?_)
  refine cF (cn) [] ?_ ?_ ?_ ?_<;>simp[go_sem,↓iO,iO,tN]
  repeat (first|(refine n1s rfl ?_;simp[go_sem,↓iO,iO,tN])|refine anI ?_|refine⟨dcK,?_⟩|refine iP ?_|refine iN ?_)
  refine CallK.fn (ccp) [(0,0)] [] [122] (by kernel_rfl) ?_ ?_ ?_ (Or.inl rfl) ?_<;>simp[go_sem,↓iO,iO,tN]
  repeat (first|(refine n1s rfl ?_;simp[go_sem,↓iO,iO,tN])|refine anI ?_|refine⟨dcK,?_⟩|refine iP ?_|refine iN ?_)
  refine CallK.fn (crs) [(0,0)] [] [125] (by kernel_rfl) ?_ ?_ ?_ (Or.inl rfl) ?_<;>simp[go_sem,↓iO,iO,tN]
  repeat (first|(refine n1s rfl ?_;simp[go_sem,↓iO,iO,tN])|refine anI ?_|refine⟨dcK,?_⟩|refine iP ?_|refine iN ?_)
  refine CallK.fn (cwv) [(0,0)] [] [128] (by kernel_rfl) ?_ ?_ ?_ (Or.inl rfl) ?_<;>simp[go_sem,↓iO,iO,tN]
  repeat (first|(refine n1s rfl ?_;simp[go_sem,↓iO,iO,tN])|refine anI ?_|refine⟨dcK,?_⟩|refine iP ?_|refine iN ?_)
  refine CallK.fn (clim) [(0,0)] [] [132] (by kernel_rfl) ?_ ?_ ?_ (Or.inl rfl) ?_<;>simp[go_sem,↓iO,iO,tN]
  repeat (first|(refine n1s rfl ?_;simp[go_sem,↓iO,iO,tN])|refine anI ?_|refine⟨dcK,?_⟩|refine iP ?_|refine iN ?_)
  refine cF (chh) [(0,0)] ?_ ?_ ?_ ?_<;>simp[go_sem,↓iO,iO,tN]
  repeat (first|(refine n1s rfl ?_;simp[go_sem,↓iO,iO,tN])|refine anI ?_|refine⟨dcK,?_⟩|refine iP ?_|refine iN ?_)
  refine nf1_sound' _ _ _ ?_;simp only[nf1]
  refine CW.loop (ι:=Nat×Int×List (Int×Int×Int)) (fun st=>⟨[(0,.pt 0 [] 0),(8,.pt 508 [] 0),(9,.pt 509 [] 0),(10,.t (.int lim)),(11,.t (.int st.2.1))],[(0,srcB l st.1),(508,.box 38 (.t (.agg [.lit (.string ByteArray.empty),.int 0,.int 0,.int 0,.int 0,.int 0,.lit (.slice none 0 0)]))),(509,.box 38 (.ag [.t (.lit (.string (str [103,97+k]))),.t (.int (b:Int)),.t (.int (a:Int)),.t (.int cp),.t (.int rs),.t (.int wv),.own 541])),(541,.list 35 3 (st.2.2.map encPt))]⟩)
   (fun st=>SrcOk l st.1∧(1≤st.2.2.length∧st.2.2.length≤7)∧(0≤st.2.1∧st.2.1 < cp)∧sgGo l cp lim (7 - st.2.2.length) st=(fK,fP)) (fun st=>7 - st.2.2.length) (k0,0,[(0,hh,lim)]) [(0,some 0),(508,some 108),(509,some 109),(541,some 141)] ⟨hok,by simp,by dsimp only;omega,by simpa using hfin⟩ ?_ ?_
  ·simp[go_sem,↓iO,iO,tN]
  rintro ⟨kk,at',P⟩ ⟨i1,⟨i2,i3⟩,⟨i4,i5⟩,i6⟩
  dsimp only at i1 i2 i3 i4 i5 i6 ⊢
  by_cases hP:P.length < 7
  ·obtain⟨f,hf⟩:∃ f,7 - P.length=f+1:=⟨6 - P.length,by omega⟩
   rw[hf]at i6
   have d1:=n_fn l kk 3 i1 (by omega)
   have e1:=nV_range (l:=l) (k:=kk) (n:=3) (by omega)
   unfold sgGo at i6
   dsimp only at i6
   obtain⟨v,hv⟩:∃ v,nV l kk 3=v:=⟨_,rfl⟩
   rw[hv]at i6 d1 e1
   repeat (first|(refine n1s rfl ?_;simp[go_sem,↓iO,iO,tN,hP])|refine anI ?_|refine⟨dcK,?_⟩|refine iP ?_|refine iN ?_)
   refine cF (d1) [(0,0)] ?_ ?_ ?_ ?_<;>simp[go_sem,↓iO,iO,tN,hP]
   repeat (refine anI ?_)
   try (refine⟨dcK,?_⟩)
   by_cases hv0:0 < v
   ·rw[if_pos hv0]at i6
    have d2:=range_fn l (nextK l kk) 1 40 i1.next (by omega) (by omega) (by omega)
    have e2:=rangeV_range (l:=l) (k:=nextK l kk) (lo:=1) (hi:=40) (by omega)
    obtain⟨ra,hra⟩:∃ x,rangeV l (nextK l kk) 1 40=x:=⟨_,rfl⟩
    rw[hra]at i6 d2 e2
    repeat (first|(refine n1s rfl ?_;simp[go_sem,↓iO,iO,tN,hv0])|refine anI ?_|refine⟨dcK,?_⟩|refine iP ?_|refine iN ?_)
    refine cF (d2) [(0,0)] ?_ ?_ ?_ ?_<;>simp[go_sem,↓iO,iO,tN,hv0]
    repeat (refine anI ?_)
    try (refine⟨dcK,?_⟩)
    by_cases hc:cp≤at'+ra
    ·rw[if_pos hc]at i6
     simp only[Prod.mk.injEq]at i6
     obtain⟨rfl,rfl⟩:=i6
     repeat (first|(refine n1s rfl ?_;simp[go_sem,↓iO,iO,tN,hc])|refine anI ?_|refine⟨dcK,?_⟩|refine iP ?_|refine iN ?_)
     refine cF (cl) [(0,0)] ?_ ?_ ?_ ?_<;>simp[go_sem,↓iO,iO,tN]
     repeat (first|(refine n1s rfl ?_;simp[go_sem,↓iO,iO,tN])|refine anI ?_|refine⟨dcK,?_⟩|refine iP ?_|refine iN ?_)
     first|rw[TqR]|rw[TqN]
     refine⟨[(0,some 0)],?_⟩
     simp[go_sem,↓iO,iO,tN]
    ·rw[if_neg hc]at i6
     have d3:=range_fn l (nextK l (nextK l kk)) (-5) 60 i1.next.next (by omega) (by omega) (by omega)
     have e3:=rangeV_range (l:=l) (k:=nextK l (nextK l kk)) (lo:=-5) (hi:=60) (by omega)
     have d4:=pick_fn (l:=l) i1.next.next.next [1,1,10] (by simp) (by simp)
     have e4:=pickV_mem (l:=l) (k:=nextK l (nextK l (nextK l kk))) (xs:=[1,1,10]) (by simp)
     have d5:=n_fn l (nextK l (nextK l (nextK l (nextK l kk)))) 3 i1.next.next.next.next (by omega)
     have e5:=nV_range (l:=l) (k:=nextK l (nextK l (nextK l (nextK l kk)))) (n:=3) (by omega)
     obtain⟨rb,hrb⟩:∃ x,rangeV l (nextK l (nextK l kk)) (-5) 60=x:=⟨_,rfl⟩
     obtain⟨pm,hpm⟩:∃ x,pickV l (nextK l (nextK l (nextK l kk))) [1,1,10]=x:=⟨_,rfl⟩
     obtain⟨nn,hnn⟩:∃ x,nV l (nextK l (nextK l (nextK l (nextK l kk)))) 3=x:=⟨_,rfl⟩
     rw[hrb]at i6 d3 e3
     rw[hpm]at i6 d4 e4
     rw[hnn]at i6 d5 e5
     have e6:=pick_bd e3 e4
     have i1':=i1.next.next.next.next.next
     obtain⟨w,hw⟩:∃ w,rb * pm=w:=⟨_,rfl⟩
     rw[hw]at e6 i6
     obtain⟨k5,hk5⟩:∃ x,nextK l (nextK l (nextK l (nextK l (nextK l kk))))=x:=⟨_,rfl⟩
     rw[hk5]at i6 d5 i1'
     repeat (first|(refine n1s rfl ?_;simp[go_sem,↓iO,iO,tN,hc])|refine anI ?_|refine⟨dcK,?_⟩|refine iP ?_|refine iN ?_)
     refine cF (d3) [(0,0)] ?_ ?_ ?_ ?_<;>simp[go_sem,↓iO,iO,tN]
     repeat (first|(refine n1s rfl ?_;simp[go_sem,↓iO,iO,tN])|refine anI ?_|refine⟨dcK,?_⟩|refine iP ?_|refine iN ?_)
     refine CallK.fn (d4) [(0,0)] [] [166] (by kernel_rfl) ?_ ?_ ?_ (Or.inl rfl) ?_<;>simp[go_sem,↓iO,iO,tN]
     repeat (first|(refine n1s rfl ?_;simp[go_sem,↓iO,iO,tN,hw])|refine anI ?_|refine⟨dcK,?_⟩|refine iP ?_|refine iN ?_)
     refine cF (d5) [(0,0)] ?_ ?_ ?_ ?_<;>simp[go_sem,↓iO,iO,tN,hw]
     repeat (first|(refine n1s rfl ?_;simp[go_sem,↓iO,iO,tN,hw])|refine anI ?_|refine⟨dcK,?_⟩|refine iP ?_|refine iN ?_)
     rw[RqN];refine⟨(k5,at'+ra,P++[(at'+ra,w,lim - nn * 1000)]),[(0,some 0),(508,some 508),(509,some 509),(541,some 176)],?_,?_,?_⟩
     ·refine⟨i1',?_,?_,?_⟩
      ·simp only[List.length_append,List.length_cons,List.length_nil];omega
      ·dsimp only;omega
      ·have:7 - (P++[(at'+ra,w,lim - nn * 1000)]).length=f:=by simp only[List.length_append,List.length_cons,List.length_nil];omega
       rw[this];exact i6
     ·simp only[List.length_append,List.length_cons,List.length_nil];omega
     simp[go_sem,↓iO,iO,tN]
   ·rw[if_neg hv0]at i6
    simp only[Prod.mk.injEq]at i6
    obtain⟨rfl,rfl⟩:=i6
    repeat (first|(refine n1s rfl ?_;simp[go_sem,↓iO,iO,tN,hv0])|refine anI ?_|refine⟨dcK,?_⟩|refine iP ?_|refine iN ?_)
    refine cF (cl) [(0,0)] ?_ ?_ ?_ ?_<;>simp[go_sem,↓iO,iO,tN]
    repeat (first|(refine n1s rfl ?_;simp[go_sem,↓iO,iO,tN])|refine anI ?_|refine⟨dcK,?_⟩|refine iP ?_|refine iN ?_)
    first|rw[TqR]|rw[TqN]
    refine⟨[(0,some 0)],?_⟩
    simp[go_sem,↓iO,iO,tN]
  ·have h7:7 - P.length=0:=by omega
   rw[h7]at i6
   unfold sgGo at i6
   simp only[Prod.mk.injEq]at i6
   obtain⟨rfl,rfl⟩:=i6
   repeat (first|(refine n1s rfl ?_;simp[go_sem,↓iO,iO,tN,hP])|refine anI ?_|refine⟨dcK,?_⟩|refine iP ?_|refine iN ?_)
   refine cF (cl) [(0,0)] ?_ ?_ ?_ ?_<;>simp[go_sem,↓iO,iO,tN]
   repeat (first|(refine n1s rfl ?_;simp[go_sem,↓iO,iO,tN])|refine anI ?_|refine⟨dcK,?_⟩|refine iP ?_|refine iN ?_)
   first|rw[TqR]|rw[TqN]
   refine⟨[(0,some 0)],?_⟩
   simp[go_sem,↓iO,iO,tN]
 ·refine FnOk.intro fact_mixed Tryz.func34 rfl Tryz.ntmps34 (by rfl) (by simp) ?_
  repeat (first|(refine n1s rfl ?_;simp[go_sem,↓iO,iO,tN])|refine anI ?_|refine⟨dcK,?_⟩|refine iP ?_|refine iN ?_)
  refine cF (cz) [(0,0)] ?_ ?_ ?_ ?_<;>simp[go_sem,↓iO,iO,tN]
  repeat (first|(refine n1s rfl ?_;simp[go_sem,↓iO,iO,tN,hz])|refine anI ?_|refine⟨dcK,?_⟩|refine iP ?_|refine iN ?_)
  refine cF (cn) [] ?_ ?_ ?_ ?_<;>simp[go_sem,↓iO,iO,tN]
  repeat (first|(refine n1s rfl ?_;simp[go_sem,↓iO,iO,tN])|refine anI ?_|refine⟨dcK,?_⟩|refine iP ?_|refine iN ?_)
  refine CallK.fn (ccp) [(0,0)] [] [122] (by kernel_rfl) ?_ ?_ ?_ (Or.inl rfl) ?_<;>simp[go_sem,↓iO,iO,tN]
  repeat (first|(refine n1s rfl ?_;simp[go_sem,↓iO,iO,tN])|refine anI ?_|refine⟨dcK,?_⟩|refine iP ?_|refine iN ?_)
  refine CallK.fn (crs) [(0,0)] [] [125] (by kernel_rfl) ?_ ?_ ?_ (Or.inl rfl) ?_<;>simp[go_sem,↓iO,iO,tN]
  repeat (first|(refine n1s rfl ?_;simp[go_sem,↓iO,iO,tN])|refine anI ?_|refine⟨dcK,?_⟩|refine iP ?_|refine iN ?_)
  refine CallK.fn (cwv) [(0,0)] [] [128] (by kernel_rfl) ?_ ?_ ?_ (Or.inl rfl) ?_<;>simp[go_sem,↓iO,iO,tN]
  repeat (first|(refine n1s rfl ?_;simp[go_sem,↓iO,iO,tN])|refine anI ?_|refine⟨dcK,?_⟩|refine iP ?_|refine iN ?_)
  refine CallK.fn (clim) [(0,0)] [] [132] (by kernel_rfl) ?_ ?_ ?_ (Or.inl rfl) ?_<;>simp[go_sem,↓iO,iO,tN]
  repeat (first|(refine n1s rfl ?_;simp[go_sem,↓iO,iO,tN])|refine anI ?_|refine⟨dcK,?_⟩|refine iP ?_|refine iN ?_)
  refine cF (chh) [(0,0)] ?_ ?_ ?_ ?_<;>simp[go_sem,↓iO,iO,tN]
  repeat (first|(refine n1s rfl ?_;simp[go_sem,↓iO,iO,tN])|refine anI ?_|refine⟨dcK,?_⟩|refine iP ?_|refine iN ?_)
  refine nf1_sound' _ _ _ ?_;simp only[nf1]
  refine CW.loop (ι:=Nat×Int×List (Int×Int×Int)) (fun st=>⟨[(0,.pt 0 [] 0),(8,.pt 508 [] 0),(9,.pt 509 [] 0),(10,.t (.int lim)),(11,.t (.int st.2.1))],[(0,srcB l st.1),(508,.box 38 (.t (.agg [.lit (.string ByteArray.empty),.int 0,.int 0,.int 0,.int 0,.int 0,.lit (.slice none 0 0)]))),(509,.box 38 (.ag [.t (.lit (.string (str [103,97+k]))),.t (.int (a:Int)),.t (.int (b:Int)),.t (.int cp),.t (.int rs),.t (.int wv),.own 541])),(541,.list 35 3 (st.2.2.map encPt))]⟩)
   (fun st=>SrcOk l st.1∧(1≤st.2.2.length∧st.2.2.length≤7)∧(0≤st.2.1∧st.2.1 < cp)∧sgGo l cp lim (7 - st.2.2.length) st=(fK,fP)) (fun st=>7 - st.2.2.length) (k0,0,[(0,hh,lim)]) [(0,some 0),(508,some 108),(509,some 109),(541,some 141)] ⟨hok,by simp,by dsimp only;omega,by simpa using hfin⟩ ?_ ?_
  ·simp[go_sem,↓iO,iO,tN]
  rintro ⟨kk,at',P⟩ ⟨i1,⟨i2,i3⟩,⟨i4,i5⟩,i6⟩
  dsimp only at i1 i2 i3 i4 i5 i6 ⊢
  by_cases hP:P.length < 7
  ·obtain⟨f,hf⟩:∃ f,7 - P.length=f+1:=⟨6 - P.length,by omega⟩
   rw[hf]at i6
   have d1:=n_fn l kk 3 i1 (by omega)
   have e1:=nV_range (l:=l) (k:=kk) (n:=3) (by omega)
   unfold sgGo at i6
   dsimp only at i6
   obtain⟨v,hv⟩:∃ v,nV l kk 3=v:=⟨_,rfl⟩
   rw[hv]at i6 d1 e1
   repeat (first|(refine n1s rfl ?_;simp[go_sem,↓iO,iO,tN,hP])|refine anI ?_|refine⟨dcK,?_⟩|refine iP ?_|refine iN ?_)
   refine cF (d1) [(0,0)] ?_ ?_ ?_ ?_<;>simp[go_sem,↓iO,iO,tN,hP]
   repeat (refine anI ?_)
   try (refine⟨dcK,?_⟩)
   by_cases hv0:0 < v
   ·rw[if_pos hv0]at i6
    have d2:=range_fn l (nextK l kk) 1 40 i1.next (by omega) (by omega) (by omega)
    have e2:=rangeV_range (l:=l) (k:=nextK l kk) (lo:=1) (hi:=40) (by omega)
    obtain⟨ra,hra⟩:∃ x,rangeV l (nextK l kk) 1 40=x:=⟨_,rfl⟩
    rw[hra]at i6 d2 e2
    repeat (first|(refine n1s rfl ?_;simp[go_sem,↓iO,iO,tN,hv0])|refine anI ?_|refine⟨dcK,?_⟩|refine iP ?_|refine iN ?_)
    refine cF (d2) [(0,0)] ?_ ?_ ?_ ?_<;>simp[go_sem,↓iO,iO,tN,hv0]
    repeat (refine anI ?_)
    try (refine⟨dcK,?_⟩)
    by_cases hc:cp≤at'+ra
    ·rw[if_pos hc]at i6
     simp only[Prod.mk.injEq]at i6
     obtain⟨rfl,rfl⟩:=i6
     repeat (first|(refine n1s rfl ?_;simp[go_sem,↓iO,iO,tN,hc])|refine anI ?_|refine⟨dcK,?_⟩|refine iP ?_|refine iN ?_)
     refine cF (cl) [(0,0)] ?_ ?_ ?_ ?_<;>simp[go_sem,↓iO,iO,tN]
     repeat (first|(refine n1s rfl ?_;simp[go_sem,↓iO,iO,tN])|refine anI ?_|refine⟨dcK,?_⟩|refine iP ?_|refine iN ?_)
     first|rw[TqR]|rw[TqN]
     refine⟨[(0,some 0)],?_⟩
     simp[go_sem,↓iO,iO,tN]
    ·rw[if_neg hc]at i6
     have d3:=range_fn l (nextK l (nextK l kk)) (-5) 60 i1.next.next (by omega) (by omega) (by omega)
     have e3:=rangeV_range (l:=l) (k:=nextK l (nextK l kk)) (lo:=-5) (hi:=60) (by omega)
     have d4:=pick_fn (l:=l) i1.next.next.next [1,1,10] (by simp) (by simp)
     have e4:=pickV_mem (l:=l) (k:=nextK l (nextK l (nextK l kk))) (xs:=[1,1,10]) (by simp)
     have d5:=n_fn l (nextK l (nextK l (nextK l (nextK l kk)))) 3 i1.next.next.next.next (by omega)
     have e5:=nV_range (l:=l) (k:=nextK l (nextK l (nextK l (nextK l kk)))) (n:=3) (by omega)
     obtain⟨rb,hrb⟩:∃ x,rangeV l (nextK l (nextK l kk)) (-5) 60=x:=⟨_,rfl⟩
     obtain⟨pm,hpm⟩:∃ x,pickV l (nextK l (nextK l (nextK l kk))) [1,1,10]=x:=⟨_,rfl⟩
     obtain⟨nn,hnn⟩:∃ x,nV l (nextK l (nextK l (nextK l (nextK l kk)))) 3=x:=⟨_,rfl⟩
     rw[hrb]at i6 d3 e3
     rw[hpm]at i6 d4 e4
     rw[hnn]at i6 d5 e5
     have e6:=pick_bd e3 e4
     have i1':=i1.next.next.next.next.next
     obtain⟨w,hw⟩:∃ w,rb * pm=w:=⟨_,rfl⟩
     rw[hw]at e6 i6
     obtain⟨k5,hk5⟩:∃ x,nextK l (nextK l (nextK l (nextK l (nextK l kk))))=x:=⟨_,rfl⟩
     rw[hk5]at i6 d5 i1'
     repeat (first|(refine n1s rfl ?_;simp[go_sem,↓iO,iO,tN,hc])|refine anI ?_|refine⟨dcK,?_⟩|refine iP ?_|refine iN ?_)
     refine cF (d3) [(0,0)] ?_ ?_ ?_ ?_<;>simp[go_sem,↓iO,iO,tN]
     repeat (first|(refine n1s rfl ?_;simp[go_sem,↓iO,iO,tN])|refine anI ?_|refine⟨dcK,?_⟩|refine iP ?_|refine iN ?_)
     refine CallK.fn (d4) [(0,0)] [] [166] (by kernel_rfl) ?_ ?_ ?_ (Or.inl rfl) ?_<;>simp[go_sem,↓iO,iO,tN]
     repeat (first|(refine n1s rfl ?_;simp[go_sem,↓iO,iO,tN,hw])|refine anI ?_|refine⟨dcK,?_⟩|refine iP ?_|refine iN ?_)
     refine cF (d5) [(0,0)] ?_ ?_ ?_ ?_<;>simp[go_sem,↓iO,iO,tN,hw]
     repeat (first|(refine n1s rfl ?_;simp[go_sem,↓iO,iO,tN,hw])|refine anI ?_|refine⟨dcK,?_⟩|refine iP ?_|refine iN ?_)
     rw[RqN];refine⟨(k5,at'+ra,P++[(at'+ra,w,lim - nn * 1000)]),[(0,some 0),(508,some 508),(509,some 509),(541,some 176)],?_,?_,?_⟩
     ·refine⟨i1',?_,?_,?_⟩
      ·simp only[List.length_append,List.length_cons,List.length_nil];omega
      ·dsimp only;omega
      ·have:7 - (P++[(at'+ra,w,lim - nn * 1000)]).length=f:=by simp only[List.length_append,List.length_cons,List.length_nil];omega
       rw[this];exact i6
     ·simp only[List.length_append,List.length_cons,List.length_nil];omega
     simp[go_sem,↓iO,iO,tN]
   ·rw[if_neg hv0]at i6
    simp only[Prod.mk.injEq]at i6
    obtain⟨rfl,rfl⟩:=i6
    repeat (first|(refine n1s rfl ?_;simp[go_sem,↓iO,iO,tN,hv0])|refine anI ?_|refine⟨dcK,?_⟩|refine iP ?_|refine iN ?_)
    refine cF (cl) [(0,0)] ?_ ?_ ?_ ?_<;>simp[go_sem,↓iO,iO,tN]
    repeat (first|(refine n1s rfl ?_;simp[go_sem,↓iO,iO,tN])|refine anI ?_|refine⟨dcK,?_⟩|refine iP ?_|refine iN ?_)
    first|rw[TqR]|rw[TqN]
    refine⟨[(0,some 0)],?_⟩
    simp[go_sem,↓iO,iO,tN]
  ·have h7:7 - P.length=0:=by omega
   rw[h7]at i6
   unfold sgGo at i6
   simp only[Prod.mk.injEq]at i6
   obtain⟨rfl,rfl⟩:=i6
   repeat (first|(refine n1s rfl ?_;simp[go_sem,↓iO,iO,tN,hP])|refine anI ?_|refine⟨dcK,?_⟩|refine iP ?_|refine iN ?_)
   refine cF (cl) [(0,0)] ?_ ?_ ?_ ?_<;>simp[go_sem,↓iO,iO,tN]
   repeat (first|(refine n1s rfl ?_;simp[go_sem,↓iO,iO,tN])|refine anI ?_|refine⟨dcK,?_⟩|refine iP ?_|refine iN ?_)
   first|rw[TqR]|rw[TqN]
   refine⟨[(0,some 0)],?_⟩
   simp[go_sem,↓iO,iO,tN]
theorem choices {α β:Type} (P:Nat→α→β→α→Prop) (I:α→Prop) (a0:α) (h0:I a0) (h:∀ j a,I a→∃ b a',I a'∧P j a b a'):∃ (A:Nat→α) (B:Nat→β),A 0=a0∧∀ j,I (A j)∧P j (A j) (B j) (A (j+1)):=by
 have h2:∀ j (a:{a // I a}),∃ x:β×{a // I a},P j a.1 x.1 x.2.1:=fun j a=>by
  obtain⟨b,a',i,p⟩:=h j a.1 a.2
  exact⟨(b,⟨a',i⟩),p⟩
 let C:Nat→{a // I a}:=fun j=>Nat.rec ⟨a0,h0⟩ (fun j a=>(Classical.choose (h2 j a)).2) j
 exact⟨fun j=>(C j).1,fun j=>(Classical.choose (h2 j (C j))).1,rfl,fun j=>⟨(C j).2,Classical.choose_spec (h2 j (C j))⟩⟩
def SgC (l:List Int) (j k:Nat) (s:Sgm) (k':Nat):Prop:=j < 20→s.1.nm=[103,97+j]∧((s.1.fr=(j:Int)∧s.1.to=((j+1:Nat):Int))∨(s.1.fr=((j+1:Nat):Int)∧s.1.to=(j:Int)))∧PipeOk s∧s.1.cp≤1000∧
  FnOk Tryz.prog 34 [.pt 0 [] 0,.t (.int (j:Int)),.t (.int (j:Int)),.t (.int ((j+1:Nat):Int))] [(0,srcB l k)] (.t (encSg s)) [(0,srcB l k')]
theorem segs_ex (l:List Int) (k0:Nat) (h:SrcOk l k0):∃ (K:Nat→Nat) (S:Nat→Sgm),K 0=k0∧∀ j,SrcOk l (K j)∧SgC l j (K j) (S j) (K (j+1)):=
 choices (SgC l) (SrcOk l) k0 h fun j a ha=>by
  by_cases hj:j < 20
  ·obtain⟨s,k',h1,h2,h3,h4,h5,h6⟩:=seg_ex l a ha j (by omega) j (j+1) (by omega) (by omega) (by omega)
   exact⟨s,k',h1,fun _=>⟨h2,h3,h4,h5,h6⟩⟩
  ·exact⟨(⟨[],0,0,0,0,0⟩,[]),a,ha,fun h=>absurd h hj⟩
def ndT (i:Nat):T:=.lit (.string (str [110,97+i]))
theorem map_range_succ {α:Type} (f:Nat→α) (j:Nat):(List.range (j+1)).map f=(List.range j).map f++[f j]:=by rw[List.range_succ,List.map_append];rfl
end Go.Proofs.YtdjmklobfjigoaaGreatDoor
namespace Go.Proofs.YtdjmklobfjigoaaGreatDoor
theorem mem_litres {l:List (Int×Int)} {p:Int×Int} (h:p∈l) (hp:0 < p.2):p.1∈Pc.litres l:=by
 unfold Pc.litres
 refine List.mem_flatMap.2 ⟨p,h,List.mem_replicate.2 ⟨by omega,rfl⟩⟩
theorem litres_mem {l:List (Int×Int)} {x:Int} (h:x∈Pc.litres l):∃ q∈l,q.1=x:=by
 unfold Pc.litres at h
 obtain⟨q,hq,hx⟩:=List.mem_flatMap.1 h
 exact⟨q,hq,(List.mem_replicate.1 hx).2.symm⟩
structure CutOk (ps:List (Int×Int)) (k:Nat) (a b:List (Int×Int)):Prop where
 ca:Pc.Canon a
 cb:Pc.Canon b
 la:Pc.litres a=(Pc.litres ps).take k
 lb:Pc.litres b=(Pc.litres ps).drop k
 na:a.length≤ps.length
 nb:b.length≤ps.length
theorem cut_ok {ps:List (Int×Int)} (h:Pc.Sane ps) (k:Nat):CutOk ps k (Pc.join (Pc.heads ps k)) (Pc.join (Pc.tails ps k)):=by
 have h1:=(heads_sane h (Int.natCast_nonneg k)).each
 have h2:=(tails_sane h (Int.natCast_nonneg k)).each
 have h3:=fun p hp=>(h.each p hp).1
 refine⟨Pc.join_canon fun p hp=>(h1 p hp).1,Pc.join_canon fun p hp=>(h2 p hp).1,?_,?_,?_,?_⟩
 ·rw[Pc.join_litres fun p hp=>(h1 p hp).1,Pc.heads_litres ps h3]
 ·rw[Pc.join_litres fun p hp=>(h2 p hp).1,Pc.tails_litres ps h3]
 ·have:=Pc.join_length (Pc.heads ps k);rw[Pc.heads_length]at this;exact this
 ·have:=Pc.join_length (Pc.tails ps k);rw[Pc.tails_length]at this;exact this
theorem vol_litres {a:List (Int×Int)} (h:Pc.Canon a):Pc.vol a=((Pc.litres a).length:Int):=(Pc.litres_length a fun p hp=>Int.le_of_lt (h.pos p hp)).symm
theorem vd_part {a f g:List (Int×Int)} (hf:Pc.Vd f) (hg:Pc.Vd g) (hc:Pc.Canon a) (hl:∀ x∈Pc.litres a,x∈Pc.litres f∨x∈Pc.litres g) (hn:a.length≤200) (hv:(Pc.litres a).length≤1000000):Pc.Vd a:=by
 refine Pc.vd_of_canon hc (fun p hp=>?_) hn (by rw[vol_litres hc];omega)
 rcases hl p.1 (mem_litres hp (hc.pos p hp)) with h|h
 ·obtain⟨q,hq,he⟩:=litres_mem h;rw[←he];exact (hf.each q hq).1
 ·obtain⟨q,hq,he⟩:=litres_mem h;rw[←he];exact (hg.each q hq).1
structure PushOk (f g:List (Int×Int)) (back:Bool) (n o:List (Int×Int)):Prop where
 eq:Pc.push f g back=(n,o,0)
 vn:Pc.Vd n
 vo:Pc.Vd o
 ln:Pc.litres n=if back then (Pc.litres f++Pc.litres g).drop (Pc.litres g).length else (Pc.litres g++Pc.litres f).take (Pc.litres f).length
 lo:Pc.litres o=if back then (Pc.litres f++Pc.litres g).take (Pc.litres g).length else (Pc.litres g++Pc.litres f).drop (Pc.litres f).length
 nn:n.length≤f.length+g.length
 no:o.length≤f.length+g.length
theorem push_small {f g:List (Int×Int)} (hf:Pc.Vd f) (hg:Pc.Vd g) (hs:f.length+g.length≤200) (back:Bool):∃ n o,PushOk f g back n o:=by
 have vf:=vol_litres hf.canon
 have vg:=vol_litres hg.canon
 have bf:=hf.vol
 have bg:=hg.vol
 cases back with
 | true=>
  have hc:=cut_ok (sane_app hf hg) (Pc.litres g).length
  rw[←vg]at hc
  have la:=hc.la
  have lb:=hc.lb
  rw[Pc.litres_append]at la lb
  have na:=hc.na
  have nb:=hc.nb
  rw[List.length_append]at na nb
  have hsh:Pc.shift f g true=(Pc.join (Pc.tails (f++g) (Pc.vol g)),Pc.join (Pc.heads (f++g) (Pc.vol g))):=rfl
  refine⟨_,_,?_,?_,?_,lb,la,nb,na⟩
  ·rw[push_ok (Pc.valid_t hf) (Pc.valid_t hg) (by rw[hsh];dsimp only;exact⟨by omega,by omega⟩),hsh]
  ·refine vd_part hf hg hc.cb (fun x hx=>?_) (by omega) (by rw[lb,List.length_drop,List.length_append];omega)
   rw[lb]at hx;exact List.mem_append.1 (List.mem_of_mem_drop hx)
  ·refine vd_part hf hg hc.ca (fun x hx=>?_) (by omega) (by rw[la,List.length_take,List.length_append];omega)
   rw[la]at hx;exact List.mem_append.1 (List.mem_of_mem_take hx)
 | false=>
  have hc:=cut_ok (sane_app hg hf) (Pc.litres f).length
  rw[←vf]at hc
  have la:=hc.la
  have lb:=hc.lb
  rw[Pc.litres_append]at la lb
  have na:=hc.na
  have nb:=hc.nb
  rw[List.length_append]at na nb
  have hsh:Pc.shift f g false=(Pc.join (Pc.heads (g++f) (Pc.vol f)),Pc.join (Pc.tails (g++f) (Pc.vol f))):=rfl
  refine⟨_,_,?_,?_,?_,la,lb,by omega,by omega⟩
  ·rw[push_ok (Pc.valid_t hf) (Pc.valid_t hg) (by rw[hsh];dsimp only;exact⟨by omega,by omega⟩),hsh]
  ·refine vd_part hg hf hc.ca (fun x hx=>?_) (by omega) (by rw[la,List.length_take,List.length_append];omega)
   rw[la]at hx;exact List.mem_append.1 (List.mem_of_mem_take hx)
  ·refine vd_part hg hf hc.cb (fun x hx=>?_) (by omega) (by rw[lb,List.length_drop,List.length_append];omega)
   rw[lb]at hx;exact List.mem_append.1 (List.mem_of_mem_drop hx)
theorem of_count (b:Int):∀ {l:List (Int×Int)},(∀ p∈l,0≤p.2)→Pc.of_ l b=((Pc.litres l).count b:Int)
 | [],_=>by simp[Pc.of_,Pc.litres]
 | p :: r,h=>by
  have ih:=of_count b (l:=r) fun q hq=>h q (List.mem_cons_of_mem _ hq)
  have hp:=h p (List.mem_cons_self)
  rw[Pc.litres_cons,List.count_append,Pc.of_,ih]
  by_cases he:p.1=b
  ·rw[if_pos he,he,List.count_replicate_self];omega
  ·have h0:(List.replicate p.2.toNat p.1).count b=0:=List.count_eq_zero.2 (by intro hm;exact he (List.mem_replicate.1 hm).2.symm)
   rw[if_neg he,h0];omega
theorem push_of {f g n o:List (Int×Int)} {back:Bool} (hf:Pc.Vd f) (hg:Pc.Vd g) (h:PushOk f g back n o) (b:Int):Pc.of_ f b+Pc.of_ g b=Pc.of_ n b+Pc.of_ o b:=by
 rw[of_count b hf.nonneg,of_count b hg.nonneg,of_count b h.vn.nonneg,of_count b h.vo.nonneg,h.ln,h.lo]
 have key:∀ (L:List Int) (k:Nat),((L.take k).count b:Int)+((L.drop k).count b:Int)=(L.count b:Int):=fun L k=>by
  have:=List.count_append (a:=b) (l₁:=L.take k) (l₂:=L.drop k)
  rw[List.take_append_drop]at this
  omega
 cases back with
 | true=>
  simp only[if_true]
  have:=key (Pc.litres f++Pc.litres g) (Pc.litres g).length
  rw[List.count_append]at this;omega
 | false=>
  simp only[Bool.false_eq_true,if_false]
  have:=key (Pc.litres g++Pc.litres f) (Pc.litres f).length
  rw[List.count_append]at this;omega
theorem push_vol {f g n o:List (Int×Int)} {back:Bool} (hf:Pc.Vd f) (hg:Pc.Vd g) (h:PushOk f g back n o):Pc.vol n=Pc.vol f∧Pc.vol o=Pc.vol g:=by
 rw[vol_litres h.vn.canon,vol_litres h.vo.canon,vol_litres hf.canon,vol_litres hg.canon,h.ln,h.lo]
 cases back<;>simp<;>omega
end Go.Proofs.YtdjmklobfjigoaaGreatDoor
namespace Go.Proofs.YtdjmklobfjigoaaGreatDoor
open Go.RowKit Sy Dl
theorem vol_rev:∀ f:List (Int×Int),Pc.vol f.reverse=Pc.vol f
 | []=>rfl
 | p :: r=>by rw[List.reverse_cons,Pc.vol_append,vol_rev r];simp only[Pc.vol];omega
theorem rev_get {α:Type} {l:List α} {i:Nat} (h:i < l.length):l.reverse[i]? = l[l.length - 1 - i]?:=List.getElem?_reverse h
theorem vd_rev {f:List (Int×Int)} (h:Pc.Vd f):Pc.Vd f.reverse:=by
 refine⟨by rw[List.length_reverse];exact h.len,?_,by rw[vol_rev];exact h.vol⟩
 intro i hi p hp
 rw[List.length_reverse]at hi
 rw[rev_get hi]at hp
 have h1:=h.each p (mem_get hp)
 refine⟨by omega,fun q h0 hq=>?_⟩
 rw[rev_get (by omega)]at hq
 have e:f.length - 1 - (i - 1)=f.length - 1 - i+1:=by omega
 rw[e]at hq
 have h2:=(h.ok (f.length - 1 - i+1) (by omega) q hq).2 p (by omega) (by simpa using hp)
 exact fun hh=>h2 hh.symm
theorem litres_rev:∀ f:List (Int×Int),Pc.litres f.reverse=(Pc.litres f).reverse
 | []=>rfl
 | p :: r=>by rw[List.reverse_cons,Pc.litres_append,litres_rev r];simp[Pc.litres]
theorem cs_one (r:Int) (hr:0 < r):∀ k:Nat,cs [r] k=[(k:Int)]
 | 0=>rfl
 | k+1=>by
  simp only[cs,cs_one r hr k]
  simp[bump,nx,rt,hr]
theorem strm_one (r:Int) (hr:0 < r):∀ (l:List (Int×Int)) (a:Nat),(∀ p∈l,0≤p.2)→strm [r] 0 l a=l
 | [],_,_=>rfl
 | p :: t,a,h=>by
  have hp:=h p (by simp)
  simp only[strm,cs_one r hr,rt]
  rw[strm_one r hr t _ (fun q hq=>h q (by simp[hq]))]
  have:((a+p.2.toNat:Nat):Int) - (a:Int)=p.2:=by omega
  simp
  rw[Int.max_eq_left hp]
  ext<;>simp
  omega
theorem merge_vd {l:List (Int×Int)} (h:Pc.Vd l):Pc.merge l=l:=by
 rw[merge_good ⟨by have:=h.len;omega,fun p hp=>by have:=h.each p hp;omega⟩,Pc.join_self h.canon]
theorem deal_one (r:Int) (hr:0 < r) (h1:r≤1000) (l:List (Int×Int)) (hl:Pc.Vd l) (hv:Pc.vol l≤r) (hne:l≠[]):dealV l [r]=([l],0):=by
 have hR:Rates [r]:=⟨by simp,by simp;omega,by simp[tot];omega⟩
 have hc:=chk_of hR (hl.sane.vol).1 (by simp[tot];omega)
 unfold dealV
 rw[merge_vd hl]
 have hlen:=hl.len
 simp only[hc]
 rw[if_neg (by simp[hne];omega),if_neg (by simp)]
 simp[dealt,List.range_succ,strm_one r hr l 0 hl.nonneg,Pc.join_self hl.canon]
theorem vd_one {b r:Int} (hb:0≤b∧b < 1000) (hr:0 < r) (h1:r≤1000):Pc.Vd [(b,r)]:=by
 refine Pc.vd_of_canon ⟨hr,by simp,trivial⟩ (fun p hp=>?_) (by simp) (by simp[Pc.vol];omega)
 simp at hp;subst hp;exact hb
end Go.Proofs.YtdjmklobfjigoaaGreatDoor
namespace Go.Proofs.YtdjmklobfjigoaaGreatDoor
open Go.RowKit Sy
open Go.IntWalk renaming iteOmega → iO, toNatUp → tN
theorem volume_fn (l:List (Int×Int)) (h:Pc.Vd l):FnOk Tryz.prog 10 [.t (encPs l)] [] (.t (.int (Pc.vol l))) []:=by
 have hlen:=h.len
 refine FnOk.intro fact_mixed Tryz.func10 rfl Tryz.ntmps10 (by rfl) (by simp) ?_
 repeat (first|(refine n1s rfl ?_;simp[go_sem,↓iO,iO,tN])|refine anI ?_|refine⟨dcK,?_⟩|refine iP ?_|refine iN ?_)
 refine cF (valid_fn' l (by omega) true (Pc.valid_t h)) [] ?_ ?_ ?_ ?_<;>simp[go_sem,↓iO,iO,tN]
 repeat (first|(refine n1s rfl ?_;simp[go_sem,↓iO,iO,tN])|refine anI ?_|refine⟨dcK,?_⟩|refine iP ?_|refine iN ?_)
 refine cF (total_fn l h.sane) [] ?_ ?_ ?_ ?_<;>simp[go_sem,↓iO,iO,tN]
 repeat (first|(refine n1s rfl ?_;simp[go_sem,↓iO,iO,tN])|refine anI ?_|refine⟨dcK,?_⟩|refine iP ?_|refine iN ?_)
 first|rw[TqR]|rw[TqN]
 refine⟨[],?_⟩
 simp[go_sem,↓iO,iO,tN]
theorem acheck1_fn (f:List (Int×Int)) (h:Pc.Vd f):FnOk Tryz.prog 47 [.t (encPs f)] [] (.t (.bool false)) []:=by
 have hlen:=h.len
 have c:=valid_fn' f (by omega) true (Pc.valid_t h)
 refine FnOk.intro fact_mixed Tryz.func47 rfl Tryz.ntmps47 (by rfl) (by simp) ?_
 repeat (first|(refine n1s rfl ?_;simp[go_sem,↓iO,iO,tN])|refine anI ?_|refine⟨dcK,?_⟩|refine iP ?_|refine iN ?_)
 refine cF (c) [] ?_ ?_ ?_ ?_<;>simp[go_sem,↓iO,iO,tN]
 repeat (first|(refine n1s rfl ?_;simp[go_sem,↓iO,iO,tN])|refine anI ?_|refine⟨dcK,?_⟩|refine iP ?_|refine iN ?_)
 first|rw[TqR]|rw[TqN]
 refine⟨[],?_⟩
 simp[go_sem,↓iO,iO,tN]
theorem start1_fn (b:Int) (h:0≤b∧b < 1000):FnOk Tryz.prog 50 [.t (.int b)] [] (.t (.bool false)) []:=by
 obtain⟨h1,h2⟩:=h
 refine FnOk.intro fact_mixed Tryz.func50 rfl Tryz.ntmps50 (by rfl) (by simp) ?_
 repeat (first|(refine n1s rfl ?_;simp[go_sem,↓iO,iO,tN,h1,h2])|refine anI ?_|refine⟨dcK,?_⟩|refine iP ?_|refine iN ?_)
 first|rw[TqR]|rw[TqN]
 refine⟨[],?_⟩
 simp[go_sem,↓iO,iO,tN,h1,h2]
def NetC (d:LineD):Prop:=FnOk Tryz.prog 45 [.t (.agg d.net)] [] (.t (.int 0)) []
structure FillsOk (d:LineD) (fills:List (List (Int×Int))):Prop where
 len:fills.length=d.segs.length
 vd:∀ f∈fills,Pc.Vd f
 cap:∀ (i:Nat) f s,fills[i]? = some f→d.segs[i]? = some s→Pc.vol f=s.1.cp
theorem acheck_fn (d:LineD) (hd:LineOk d) (hn:NetC d) (fills:List (List (Int×Int))) (hf:FillsOk d fills):FnOk Tryz.prog 24 [.t (.agg d.net),.t (.sl 1 (fills.map encPs))] [] (.t (.int 0)) []:=by
 have w1:=hd.w1
 have w2:=hd.w2
 have w3:=hd.w3
 have w4:=hd.w4
 have hmS:=hd.maxS
 obtain⟨f1,f2,f3⟩:=hf
 have c2:=acr_cont fills (by omega) (fun p hp=>acheck1_fn p (f2 p hp))
 unfold NetC at hn
 refine FnOk.intro fact_mixed Tryz.func24 rfl Tryz.ntmps24 (by rfl) (by simp) ?_
 repeat (first|(refine n1s rfl ?_;simp[go_sem,↓iO,iO,tN,w1,w2,w3,w4])|refine anI ?_|refine⟨dcK,?_⟩|refine iP ?_|refine iN ?_)
 refine cF (hn) [] ?_ ?_ ?_ ?_<;>simp[go_sem,↓iO,iO,tN,w1,w2,w3,w4]
 repeat (first|(refine n1s rfl ?_;simp[go_sem,↓iO,iO,tN,w1,w2,w3,w4,f1])|refine anI ?_|refine⟨dcK,?_⟩|refine iP ?_|refine iN ?_)
 refine cF (c2) [] ?_ ?_ ?_ ?_<;>simp[go_sem,↓iO,iO,tN,w1,w2,w3,w4,f1]
 repeat (first|(refine n1s rfl ?_;simp[go_sem,↓iO,iO,tN,w1,w2,w3,w4,f1])|refine anI ?_|refine⟨dcK,?_⟩|refine iP ?_|refine iN ?_)
 refine nf1_sound' _ _ _ ?_;simp only[nf1]
 refine CW.loop (ι:=Nat) (fun k=>⟨[(2,.pt 102 [] 0),(23,.t (.sl 1 (fills.map encPs))),(24,.t (.int fills.length)),(25,.t (.int k))],[(102,.box 33 (.t (.agg d.net)))]⟩) (fun k=>k≤fills.length) (fun k=>fills.length - k) 0 [(102,some 102)] (by omega) ?_ ?_
 ·simp[go_sem,↓iO,iO,tN,f1]
 intro k hk
 by_cases hb:k < fills.length
 ·obtain⟨f,hp⟩:=has_get hb
  obtain⟨s,hs⟩:∃ s,d.segs[k]? = some s:=has_get (by omega)
  have hv:=f3 k f s hp hs
  have cv:=volume_fn f (f2 f (mem_get hp))
  rw[hv]at cv
  obtain⟨⟨nm,fr,to,cp,rs,wv⟩,pts⟩:=s
  dsimp only at cv
  have hp2:fills[k]=f:=(List.getElem?_eq_some_iff.1 hp).2
  have hs2:d.segs[k]=(⟨nm,fr,to,cp,rs,wv⟩,pts):=(List.getElem?_eq_some_iff.1 hs).2
  have hb2:k < d.segs.length:=by omega
  repeat (first|(refine n1s rfl ?_;simp[go_sem,↓iO,iO,tN,hp,hp2,hs,hs2,hb,hb2,w1,w2,w3,w4])|refine anI ?_|refine⟨dcK,?_⟩|refine iP ?_|refine iN ?_)
  refine cF (cv) [] ?_ ?_ ?_ ?_<;>simp[go_sem,↓iO,iO,tN,hp,hp2,hs,hs2,hb,hb2,w1,w2,w3,w4]
  repeat (first|(refine n1s rfl ?_;simp[go_sem,↓iO,iO,tN,hp,hp2,hs,hs2,hb,hb2,w1,w2,w3,w4])|refine anI ?_|refine⟨dcK,?_⟩|refine iP ?_|refine iN ?_)
  rw[RqN];refine⟨k+1,[(102,some 102)],?_,?_,?_⟩
  ·omega
  ·omega
  simp[go_sem,↓iO,iO,tN]
 ·obtain rfl:k=fills.length:=by omega
  repeat (first|(refine n1s rfl ?_;simp[go_sem,↓iO,iO,tN])|refine anI ?_|refine⟨dcK,?_⟩|refine iP ?_|refine iN ?_)
  first|rw[TqR]|rw[TqN]
  refine⟨[],?_⟩
  simp[go_sem,↓iO,iO,tN]
theorem map_some (l:List (List (Int×Int))):(l.map some).map encGv=l.map encPs:=by rw[List.map_map];rfl
theorem astart_fn (d:LineD) (hd:LineOk d) (hn:NetC d) (fills:List (List (Int×Int))) (hf:FillsOk d fills) (ord:List Int) (ho:FnOk Tryz.prog 48 [.t (.agg d.net),.t (.agg d.plan)] [] (.tup [.t (.sl 1 (ord.map encI)),.t (.int 0)]) [])
  (hfd:∀ b∈d.feeds,0≤b∧b < 1000) :
  FnOk Tryz.prog 25 [.t (.agg d.net),.t (.sl 1 (fills.map encPs)),.t (.agg d.plan),.t (.sl 1 (d.feeds.map encI))] []
   (.tup [.pt 1000 [] 0,.t (.int 0)]) [(1000,.box 76 (.ag [.t (.agg d.net),.t (.agg d.plan),.t (.sl 1 (d.feeds.map encI)),.t (.sl 1 (ord.map encI)),.own 1001,.t (.lit (.slice none 0 0)),.t (.lit (.slice none 0 0))])),(1001,blkG (fills.map some))]:=by
 have w1:=hd.w1
 have w2:=hd.w2
 have w3:=hd.w3
 have w4:=hd.w4
 have w5:=hd.w5
 have hmS:=hd.maxS
 have hmP:=hd.maxP
 have hlF:=hd.lenF
 have f1:=hf.len
 have c1:=acheck_fn d hd hn fills hf
 have c2:=sti_cont d.feeds (by omega) (fun p hp=>start1_fn p (hfd p hp))
 refine FnOk.intro fact_mixed Tryz.func25 rfl Tryz.ntmps25 (by rfl) (by simp) ?_
 repeat (first|(refine n1s rfl ?_;simp[go_sem,↓iO,iO,tN,w1,w2,w3,w4,w5])|refine anI ?_|refine⟨dcK,?_⟩|refine iP ?_|refine iN ?_)
 refine cF (c1) [] ?_ ?_ ?_ ?_<;>simp[go_sem,↓iO,iO,tN,w1,w2,w3,w4,w5]
 repeat (first|(refine n1s rfl ?_;simp[go_sem,↓iO,iO,tN,w1,w2,w3,w4,w5])|refine anI ?_|refine⟨dcK,?_⟩|refine iP ?_|refine iN ?_)
 refine cF (ho) [] ?_ ?_ ?_ ?_<;>simp[go_sem,↓iO,iO,tN,w1,w2,w3,w4,w5]
 repeat (first|(refine n1s rfl ?_;simp[go_sem,↓iO,iO,tN,w1,w2,w3,w4,w5,hlF])|refine anI ?_|refine⟨dcK,?_⟩|refine iP ?_|refine iN ?_)
 refine cF (c2) [] ?_ ?_ ?_ ?_<;>simp[go_sem,↓iO,iO,tN,w1,w2,w3,w4,w5,hlF]
 repeat (first|(refine n1s rfl ?_;simp[go_sem,↓iO,iO,tN,w1,w2,w3,w4,w5,hlF])|refine anI ?_|refine⟨dcK,?_⟩|refine iP ?_|refine iN ?_)
 refine nf1_sound' _ _ _ ?_;simp only[nf1]
 refine CW.loop (ι:=Nat) (fun k=>⟨[(13,.pt 146 [] 0),(47,.t (.sl 1 (fills.map encPs))),(48,.t (.int fills.length)),(49,.t (.int k))],[(146,.box 76 (.ag [.t (.agg d.net),.t (.agg d.plan),.t (.sl 1 (d.feeds.map encI)),.t (.sl 1 (ord.map encI)),.own 500,.t (.lit (.slice none 0 0)),.t (.lit (.slice none 0 0))])),(500,.list 41 1 ((fills.take k).map encPs))]⟩) (fun k=>k≤fills.length) (fun k=>fills.length - k) 0 [(146,some 146),(500,none)] (by omega) ?_ ?_
 ·simp[go_sem,↓iO,iO,tN]
  simp only[wkXs]
  exact⟨wkT_refl _,rfl,wkT_refl _,rfl,wkT_refl _,rfl,wkT_refl _,rfl,rfl,rfl,wkT_refl _,rfl,wkT_refl _,rfl,trivial⟩
 intro k hk
 by_cases hb:k < fills.length
 ·obtain⟨f,hp⟩:=has_get hb
  have hfl:=(hf.vd f (mem_get hp)).len
  have hp2:fills[k]=f:=(List.getElem?_eq_some_iff.1 hp).2
  have cc:=clone_fn f (by omega)
  have e1:(fills.take k).map encPs++[encPs f]=(fills.take (k+1)).map encPs:=by
   rw[List.take_succ_eq_append_getElem hb,hp2];simp
  simp only[encPs]at e1
  repeat (first|(refine n1s rfl ?_;simp[go_sem,↓iO,iO,tN,hp,hp2,hb,w1,w2,w3,w4,w5])|refine anI ?_|refine⟨dcK,?_⟩|refine iP ?_|refine iN ?_)
  refine cF (cc) [(1000,600)] ?_ ?_ ?_ ?_<;>simp[go_sem,↓iO,iO,tN,hp,hp2,hb,w1,w2,w3,w4,w5]
  repeat (first|(refine n1s rfl ?_;simp[go_sem,↓iO,iO,tN,hp,hp2,hb,w1,w2,w3,w4,w5])|refine anI ?_|refine⟨dcK,?_⟩|refine iP ?_|refine iN ?_)
  rw[RqN];refine⟨k+1,[(146,some 146),(500,some 161)],?_,?_,?_⟩
  ·omega
  ·omega
  have e2:=e1
  simp only[List.map_take]at e2
  simp[go_sem,↓iO,iO,tN,e2.symm]
 ·obtain rfl:k=fills.length:=by omega
  rw[List.take_length]
  repeat (first|(refine n1s rfl ?_;simp[go_sem,↓iO,iO,tN])|refine anI ?_|refine⟨dcK,?_⟩|refine iP ?_|refine iN ?_)
  first|rw[TqR]|rw[TqN]
  refine⟨[(1000,some 146),(1001,some 500)],?_⟩
  simp[go_sem,↓iO,iO,tN,map_some]
end Go.Proofs.YtdjmklobfjigoaaGreatDoor
namespace Go.Proofs.YtdjmklobfjigoaaGreatDoor
open Go.RowKit Sy Dl
open Go.IntWalk renaming iteOmega → iO, toNatUp → tN
def TickC (d:LineD) (ord:List Int) (f0 f1 g1 o1:List (Option (List (Int×Int)))):Prop:=∀ gi oo:List (Option (List (Int×Int))),
 FnOk Tryz.prog 26 [.pt 0 [] 0] [(0,lineX d.net d.plan (.sl 1 (d.feeds.map encI)) (.sl 1 (ord.map encI)) (.own 2) (.own 3)),(1,blkG f0),(2,blkG gi),(3,blkG oo)]
   (.t (.int 0)) [(0,lineX d.net d.plan (.sl 1 (d.feeds.map encI)) (.sl 1 (ord.map encI)) (.own 1000) (.own 1001)),(1,blkG f1),(1000,blkG g1),(1001,blkG o1)]
def allV (O:Nat→List (Option (List (Int×Int)))):Nat→Nat→List (Int×Int)
 | 0,i=>[]
 | k+1,i=>allV O k i++((O (k+1)).getD i none).getD []
@[go_sem] def lineY (net plan:List T) (feeds order:T) (f a b:S):Blk:=.box 76 (.ag [.t (.agg net),.t (.agg plan),.t feeds,.t order,f,a,b])
theorem arun_fn (d:LineD) (hd:LineOk d) (hn:NetC d) (fills:List (List (Int×Int))) (hf:FillsOk d fills) (ord:List Int) (ho:FnOk Tryz.prog 48 [.t (.agg d.net),.t (.agg d.plan)] [] (.tup [.t (.sl 1 (ord.map encI)),.t (.int 0)]) [])
  (hfd:∀ b∈d.feeds,0≤b∧b < 1000) (ticks:Nat) (ht:ticks≤400) (F G O:Nat→List (Option (List (Int×Int)))) (hF0:F 0=fills.map some) (hG0:G 0=[]) (hO0:O 0=[]) (hOl:∀ k,(O (k+1)).length=d.ports.length)
  (hT:∀ k,k < ticks→TickC d ord (F k) (F (k+1)) (G (k+1)) (O (k+1))) (hS:∀ k i,k < ticks→Pc.Sane (allV O (k+1) i)) (hz:∀ k i p,k < ticks→p∈((O (k+1)).getD i none).getD []→p.2≠0) (hL:∀ k i,k < ticks→(Pc.join (allV O (k+1) i)).length≤200) :
  FnOk Tryz.prog 16 [.t (.agg d.net),.t (.sl 1 (fills.map encPs)),.t (.agg d.plan),.t (.sl 1 (d.feeds.map encI)),.t (.int ticks)] []
   (.tup [.own 1000,.t (.sl 1 ((List.range d.ports.length).map fun i=>encPs (Pc.join (allV O ticks i)))),.t (.int 0)]) [(1000,blkG (F ticks))]:=by
 have w1:=hd.w1
 have w2:=hd.w2
 have w3:=hd.w3
 have w4:=hd.w4
 have w5:=hd.w5
 have hmP:=hd.maxP
 have c1:=astart_fn d hd hn fills hf ord ho hfd
 rw[←hF0]at c1
 obtain⟨W,wl,wg,ws,wn,w0,wt,wf⟩:=rows_ex 40 d.ports.length (fun k i=>Pc.join (allV O k i))
 have hW0:=w0 (fun q=>rfl)
 have hwt:=wt ticks
 refine FnOk.intro fact_mixed Tryz.func16 rfl Tryz.ntmps16 (by rfl) (by simp) ?_
 repeat (first|(refine n1s rfl ?_;simp[go_sem,↓iO,iO,tN,w1,w2,w3,w4,w5])|refine anI ?_|refine⟨dcK,?_⟩|refine iP ?_|refine iN ?_)
 refine cF (c1) [(1000,600),(1001,601)] ?_ ?_ ?_ ?_<;>simp[go_sem,↓iO,iO,tN,w1,w2,w3,w4,w5]
 repeat (first|(refine n1s rfl ?_;simp[go_sem,↓iO,iO,tN,w1,w2,w3,w4,w5])|refine anI ?_|refine⟨dcK,?_⟩|refine iP ?_|refine iN ?_)
 refine nf1_sound' _ _ _ ?_;simp only[nf1]
 refine CW.toRows 139 (W 0 0) (e:=41) (s:=1) (xs:=List.replicate d.ports.length (.lit (.slice none 0 0))) (by rfl) (by rw[wl];simp) (fun i x u h1 h2=>?_) ?_
 ·rw[hW0,List.getElem?_replicate]at h2
  rw[List.getElem?_replicate]at h1
  split at h1
  ·rename_i hi
   rw[if_pos hi]at h2
   cases h1;cases h2
   unfold relTU;trivial
  ·cases h1
 simp[go_sem,↓iO,iO,tN]
 refine CW.loop (ι:=Nat) (fun k=>⟨[(13,.pt 600 [] 0),(15,.own 511),(40,.t (.int ticks)),(41,.t (.int k))],[(600,lineY d.net d.plan (.sl 1 (d.feeds.map encI)) (.sl 1 (ord.map encI)) (.own 601) (.own 602) (.own 603)),(601,blkG (F k)),(602,blkG (G k)),(603,blkG (O k)),(511,.rows 41 1 (W k 0) [])]⟩) (fun k=>k≤ticks) (fun k=>ticks - k) 0
  [(600,some 600),(601,some 601),(602,none),(603,none),(511,some 139)] (by omega) ?_ ?_
 ·simp[go_sem,↓iO,iO,tN,hG0,hO0]
 intro k hk
 by_cases hb:k < ticks
 ·have ct:=hT k hb (G k) (O k)
  have hol:=hOl k
  obtain⟨F0,hF0⟩:∃ X,F k=X:=⟨_,rfl⟩
  obtain⟨G0,hG0⟩:∃ X,G k=X:=⟨_,rfl⟩
  obtain⟨O0,hO0⟩:∃ X,O k=X:=⟨_,rfl⟩
  obtain⟨F1,hF1⟩:∃ X,F (k+1)=X:=⟨_,rfl⟩
  obtain⟨G1,hG1⟩:∃ X,G (k+1)=X:=⟨_,rfl⟩
  obtain⟨O1,hO1⟩:∃ X,O (k+1)=X:=⟨_,rfl⟩
  rw[hF0,hG0,hO0,hF1,hG1,hO1]at ct
  rw[hF0,hG0,hO0]
  rw[hO1]at hol
  repeat (first|(refine n1s rfl ?_;simp[go_sem,↓iO,iO,tN,hb])|refine anI ?_|refine⟨dcK,?_⟩|refine iP ?_|refine iN ?_)
  refine cF (ct) [(0,600),(1,601),(2,602),(3,603),(1000,612),(1001,613)] ?_ ?_ ?_ ?_<;>simp[go_sem,↓iO,iO,tN]
  repeat (first|(refine n1s rfl ?_;simp[go_sem,↓iO,iO,tN])|refine anI ?_|refine⟨dcK,?_⟩|refine iP ?_|refine iN ?_)
  refine nf1_sound' _ _ _ ?_;simp only[nf1]
  refine CW.loop (ι:=Nat) (fun i=>⟨[(13,.pt 600 [] 0),(15,.own 511),(40,.t (.int ticks)),(41,.t (.int k)),(51,.own 613),(52,.t (.int d.ports.length)),(53,.t (.int i))],[(600,lineY d.net d.plan (.sl 1 (d.feeds.map encI)) (.sl 1 (ord.map encI)) (.own 601) (.own 612) (.own 613)),(601,blkG F1),(612,blkG G1),(613,blkG O1),(511,.rows 41 1 (W k i) [])]⟩) (fun i=>i≤d.ports.length) (fun i=>d.ports.length - i) 0
   [(600,some 600),(601,some 601),(612,some 612),(613,some 613),(511,some 511)] (by omega) ?_ ?_
  ·simp[go_sem,↓iO,iO,tN,hol]
  intro i hi
  by_cases hb2:i < d.ports.length
  ·have hwl:=wl k i
   have hwg:=wg k i hb2
   have hws:=ws k i hb2
   obtain⟨o,hoi⟩:∃ o,O1[i]? = some o:=has_get (by omega)
   have hoi2:O1[i]'(by omega)=o:=(List.getElem?_eq_some_iff.1 hoi).2
   have hod:(O1.getD i none).getD []=o.getD []:=by rw[List.getD_eq_getElem?_getD,hoi];rfl
   have ha:allV O (k+1) i=allV O k i++o.getD []:=by simp only[allV,hO1,hod]
   have hs:=hS k i hb
   have hzz:=fun p=>hz k i p hb
   rw[hO1,hod]at hzz
   have hll:=hL k i hb
   rw[ha]at hs hws hll
   have j1:=join_fn (allV O k i) (o.getD []) hs hzz
   obtain⟨J,hJ⟩:∃ J,Pc.join (allV O k i)=J:=⟨_,rfl⟩
   obtain⟨J2,hJ2⟩:∃ J2,Pc.join (allV O k i++o.getD [])=J2:=⟨_,rfl⟩
   rw[hJ,hJ2]at j1
   rw[hJ]at hwg
   rw[hJ2]at hws hll
   obtain⟨X1,hX1⟩:∃ X,W k i=X:=⟨_,rfl⟩
   rw[hX1]at hwl hwg hws ⊢
   have hol2:i < O1.length:=by omega
   cases o with
   | none=>
    iterate 4 (refine n1s rfl ?_;simp[go_sem,↓iO,iO,tN,hoi,hoi2,hol2,hb2,hol,widths_gv,width_gv];(repeat (refine anI ?_));try (refine⟨dcK,?_⟩))
    refine CW.openRow 511 i 555 (us:=X1) (ex:=[]) (u:=.ow 40 2 (J.map encP)) (b:=.list 40 2 (J.map encP)) (by rfl) hwg (by rfl) (by rfl) (by kernel_rfl) (by omega) ?_
    simp[go_sem,↓iO,iO,tN]
    iterate 1 (refine n1s rfl ?_;simp[go_sem,↓iO,iO,tN,hwl,hwg,hb2];(repeat (refine anI ?_));try (refine⟨dcK,?_⟩))
    refine cF (j1) [(0,555),(1000,660)] ?_ ?_ ?_ ?_<;>simp[go_sem,↓iO,iO,tN,hwl,hwg,hb2]
    repeat (refine anI ?_)
    try (refine⟨dcK,?_⟩)
    iterate 1 (refine n1s rfl ?_;simp[go_sem,↓iO,iO,tN,hwl,hwg,hb2,hll];(repeat (refine anI ?_));try (refine⟨dcK,?_⟩))
    refine CW.closeRow 511 i 660 (.ow 40 2 (J2.map encP)) (us:=X1) (ex:=[(i,.own 660)]) (by rfl) (by rfl) (by simp[go_sem]) (by rfl) ?_
    simp[go_sem,↓iO,iO,tN,hws]
    repeat (first|(refine n1s rfl ?_;simp[go_sem,↓iO,iO,tN,hll])|refine anI ?_|refine⟨dcK,?_⟩|refine iP ?_|refine iN ?_)
    rw[RqN];refine⟨i+1,[(600,some 600),(601,some 601),(612,some 612),(613,some 613),(511,some 511)],?_,?_,?_⟩
    ·omega
    ·omega
    simp[go_sem,↓iO,iO,tN]
   | some o=>
    iterate 4 (refine n1s rfl ?_;simp[go_sem,↓iO,iO,tN,hoi,hoi2,hol2,hb2,hol,widths_gv,width_gv];(repeat (refine anI ?_));try (refine⟨dcK,?_⟩))
    refine CW.openRow 511 i 555 (us:=X1) (ex:=[]) (u:=.ow 40 2 (J.map encP)) (b:=.list 40 2 (J.map encP)) (by rfl) hwg (by rfl) (by rfl) (by kernel_rfl) (by omega) ?_
    simp[go_sem,↓iO,iO,tN]
    iterate 1 (refine n1s rfl ?_;simp[go_sem,↓iO,iO,tN,hwl,hwg,hb2];(repeat (refine anI ?_));try (refine⟨dcK,?_⟩))
    refine cF (j1) [(0,555),(1000,660)] ?_ ?_ ?_ ?_<;>simp[go_sem,↓iO,iO,tN,hwl,hwg,hb2]
    repeat (refine anI ?_)
    try (refine⟨dcK,?_⟩)
    iterate 1 (refine n1s rfl ?_;simp[go_sem,↓iO,iO,tN,hwl,hwg,hb2,hll];(repeat (refine anI ?_));try (refine⟨dcK,?_⟩))
    refine CW.closeRow 511 i 660 (.ow 40 2 (J2.map encP)) (us:=X1) (ex:=[(i,.own 660)]) (by rfl) (by rfl) (by simp[go_sem]) (by rfl) ?_
    simp[go_sem,↓iO,iO,tN,hws]
    repeat (first|(refine n1s rfl ?_;simp[go_sem,↓iO,iO,tN,hll])|refine anI ?_|refine⟨dcK,?_⟩|refine iP ?_|refine iN ?_)
    rw[RqN];refine⟨i+1,[(600,some 600),(601,some 601),(612,some 612),(613,some 613),(511,some 511)],?_,?_,?_⟩
    ·omega
    ·omega
    simp[go_sem,↓iO,iO,tN]
  ·obtain rfl:i=d.ports.length:=by omega
   rw[wn]
   repeat (first|(refine n1s rfl ?_;simp[go_sem,↓iO,iO,tN])|refine anI ?_|refine⟨dcK,?_⟩|refine iP ?_|refine iN ?_)
   rw[RqN];refine⟨k+1,[(600,some 600),(601,some 601),(602,some 612),(603,some 613),(511,some 511)],?_,?_,?_⟩
   ·omega
   ·omega
   simp[go_sem,↓iO,iO,tN,hF1,hG1,hO1]
 ·obtain rfl:k=ticks:=by omega
  repeat (first|(refine n1s rfl ?_;simp[go_sem,↓iO,iO,tN])|refine anI ?_|refine⟨dcK,?_⟩|refine iP ?_|refine iN ?_)
  first|rw[TqR]|rw[TqN]
  refine⟨[(1000,some 601)],?_⟩
  simp[go_sem,↓iO,iO,tN,hwt]
end Go.Proofs.YtdjmklobfjigoaaGreatDoor
namespace Go.Proofs.YtdjmklobfjigoaaGreatDoor
open Go.RowKit Sy Dl
abbrev Fi:=List (Option (List (Int×Int)))
theorem node_seg (d:LineD) (hd:LineOk d) (order:T) (w6:order.width=1) (fi gi oo:Fi) (node:Int) (hg:gi.length=d.segs.length) (hfl:fi.length=d.segs.length) (hol:oo.length=d.ports.length)
  (l:List (Int×Int)) (hc:comesV d gi node=l) (hnz:∀ z∈segYs node true 0 (d.segs.map (·.1)) d.rates,∀ p∈gvAt gi z,p.2≠0) (hl:Pc.Vd l) (hne:l≠[]) (k:Nat) (r:Int) (hP:prtYs node false 0 d.ports d.prates=[]) (hS:segYs node false 0 (d.segs.map (·.1)) d.rates=[(k,r)])
  (hr:0 < r) (h1:r≤1000) (hv:Pc.vol l=r) (f n o:List (Int×Int)) (hf:fi[k]? = some (some f)) (hfv:Pc.Vd f) (hp:PushOk f (if backAt d.rates (k,r) then l else l.reverse) (backAt d.rates (k,r)) n o) :
  NodeC d order node fi gi oo (fi.set k (some n)) (gi.set k (some (if backAt d.rates (k,r) then o else o.reverse))) oo:=by
 have hg0:gvAt fi (k,r)=f:=by unfold gvAt;rw[List.getD_eq_getElem?_getD,hf];rfl
 have hfl2:=hfv.len
 have hll:=hl.len
 have hol2:=hp.vo.len
 obtain⟨b,hb⟩:∃ b,backAt d.rates (k,r)=b:=⟨_,rfl⟩
 rw[hb]at hp ⊢
 have hfill:fillV f l b=n:=by
  cases b<;>simp[fillV]<;>simp only[Bool.false_eq_true,if_false,if_true]at hp<;>simp[hp.eq]
 have hout:outV f l b=if b then o else o.reverse:=by
  cases b<;>simp[outV]<;>simp only[Bool.false_eq_true,if_false,if_true]at hp<;>simp[hp.eq]
 have hpe:pushE f l b=0:=by
  cases b<;>simp[pushE]<;>simp only[Bool.false_eq_true,if_false,if_true]at hp<;>simp[hp.eq]
 have:=node_fn d hd order w6 fi gi oo node hg hfl hol (by rw[hc];exact hl.sane) hnz l (by rw[hc];exact Pc.join_self hl.canon) hne hll [] [(k,r)] hP hS [l] (deal_one r hr h1 l hl (by omega) hne) rfl
  (fun j y hy=>by
   match j,hy with
   | 0,hy=>
    simp at hy;subst hy
    rw[hb,hg0]
    refine⟨⟨f,hf,by omega⟩,by simp;omega,?_,by simpa using hpe⟩
    simp only[List.length_nil,Nat.zero_add,List.getD_cons_zero]
    rw[hout]
    cases b<;>simp<;>omega
   | j+1,hy=>simp at hy)
 unfold NodeC
 simp only[List.length_singleton,List.length_nil,setK,nodeF,nodeG,outO,List.getD_cons_zero,hb,hg0,Nat.zero_add,hfill,hout]at this
 exact this
theorem node_prt (d:LineD) (hd:LineOk d) (order:T) (w6:order.width=1) (fi gi oo:Fi) (node:Int) (hg:gi.length=d.segs.length) (hfl:fi.length=d.segs.length) (hol:oo.length=d.ports.length)
  (l:List (Int×Int)) (hc:comesV d gi node=l) (hnz:∀ z∈segYs node true 0 (d.segs.map (·.1)) d.rates,∀ p∈gvAt gi z,p.2≠0) (hl:Pc.Vd l) (hne:l≠[]) (k:Nat) (r:Int) (hP:prtYs node false 0 d.ports d.prates=[(k,r)]) (hS:segYs node false 0 (d.segs.map (·.1)) d.rates=[])
  (hr:0 < r) (h1:r≤1000) (hv:Pc.vol l=r) :
  NodeC d order node fi gi oo fi gi (oo.set k (some l)):=by
 have hll:=hl.len
 have:=node_fn d hd order w6 fi gi oo node hg hfl hol (by rw[hc];exact hl.sane) hnz l (by rw[hc];exact Pc.join_self hl.canon) hne hll [(k,r)] [] hP hS [l] (deal_one r hr h1 l hl (by omega) hne) rfl (fun j y hy=>by simp at hy)
 unfold NodeC
 simp only[List.length_singleton,List.length_nil,setK,nodeF,nodeG,outO,List.getD_cons_zero]at this
 exact this
theorem push_eq {f g n o:List (Int×Int)} {back:Bool} (hf:Pc.Vd f) (hg:Pc.Vd g) (h:Pc.shift f g back=(n,o)) (hn:n.length≤200) (ho:o.length≤200):Pc.push f g back=(n,o,0):=by
 unfold Pc.push
 rw[if_pos ⟨Pc.valid_t hf,Pc.valid_t hg⟩,h,if_pos ⟨hn,ho⟩]
theorem push_at {f g n o:List (Int×Int)} {back:Bool} (hf:Pc.Vd f) (hg:Pc.Vd g) (hl:f.length+g.length≤200) (h:Pc.shift f g back=(n,o)):PushOk f g back n o:=by
 obtain⟨n',o',hp⟩:=push_small hf hg hl back
 have:=hp.eq
 rw[push_eq hf hg h ?_ ?_]at this
 ·cases this;exact hp
 all_goals
  have h2:=hp.eq
  unfold Pc.push at h2
  rw[if_pos ⟨Pc.valid_t hf,Pc.valid_t hg⟩,h]at h2
  split at h2
  ·rename_i h3;first|exact h3.1|exact h3.2
  ·cases h2
end Go.Proofs.YtdjmklobfjigoaaGreatDoor
namespace Go.Proofs.YtdjmklobfjigoaaGreatDoor
open Go.RowKit Sy
open Go.IntWalk renaming iteOmega → iO, toNatUp → tN
def addC (c:List Int) (k r:Int):List Int:=if 0≤k then c.set k.toNat (c.getD k.toNat 0+r) else c
def fFr (a b r:Int):Int:=if r < 0 then b else a
def fTo (a b r:Int):Int:=if r < 0 then a else b
def fAb (r:Int):Int:=if r < 0 then -r else r
theorem addC_len (c:List Int) (k r:Int):(addC c k r).length=c.length:=by unfold addC;split<;>simp
theorem add_fn (c l:List Int) (a b r:Int) (hc:c.length=24) (hl:l.length=24) (ha:-1≤a∧a < 24) (hb:-1≤b∧b < 24) (hr:-1000≤r∧r≤1000) (hcb:∀ x∈c,0≤x∧x≤1000000) (hlb:∀ x∈l,0≤x∧x≤1000000) :
  FnOk Tryz.prog 122 [.pt 0 [] 0,.t (.int a),.t (.int b),.t (.int r)] [(0,.box 151 (.t (.agg [.agg (c.map encI),.agg (l.map encI)])))] (.tup []) [(0,.box 151 (.t (.agg [.agg ((addC c (fTo a b r) (fAb r)).map encI),.agg ((addC l (fFr a b r) (fAb r)).map encI)])))]:=by
 have gc:∀ k:Int,0≤k→k < 24→∃ x,c[k.toNat]? = some x∧0≤x∧x≤1000000∧∀ v,addC c k v=c.set k.toNat (x+v):=fun k h0 h1=>by
  obtain⟨x,hx⟩:∃ x,c[k.toNat]? = some x:=has_get (by omega)
  have:=hcb x (mem_get hx)
  exact⟨x,hx,this.1,this.2,fun v=>by simp[addC,h0,List.getD,hx]⟩
 have gl:∀ k:Int,0≤k→k < 24→∃ x,l[k.toNat]? = some x∧0≤x∧x≤1000000∧∀ v,addC l k v=l.set k.toNat (x+v):=fun k h0 h1=>by
  obtain⟨x,hx⟩:∃ x,l[k.toNat]? = some x:=has_get (by omega)
  have:=hlb x (mem_get hx)
  exact⟨x,hx,this.1,this.2,fun v=>by simp[addC,h0,List.getD,hx]⟩
 have nc:∀ k v:Int,¬ 0≤k→addC c k v=c:=fun k v h=>by simp only[addC,if_neg h]
 have nl:∀ k v:Int,¬ 0≤k→addC l k v=l:=fun k v h=>by simp only[addC,if_neg h]
 refine FnOk.intro fact_mixed Tryz.func122 rfl Tryz.ntmps122 (by rfl) (by simp) ?_
 by_cases hneg:r < 0
 ·have g1:fTo a b r=a:=by simp[fTo,hneg]
  have g2:fFr a b r=b:=by simp[fFr,hneg]
  have g3:fAb r=-r:=by simp[fAb,hneg]
  rw[g1,g2,g3]
  by_cases hf:0≤b
  ·obtain⟨y,y1,y2,y3,y4⟩:=gl b hf (by omega)
   by_cases ht:0≤a
   ·obtain⟨x,x1,x2,x3,x4⟩:=gc a ht (by omega)
    rw[x4,y4]
    repeat (first|(refine n1s rfl ?_;simp[go_sem,↓iO,iO,tN,hneg,hf,ht,x1,y1,hc,hl])|refine anI ?_|refine⟨dcK,?_⟩|refine iP ?_|refine iN ?_)
    first|rw[TqR]|rw[TqN]
    refine⟨[(0,some 0)],?_⟩
    simp[go_sem,↓iO,iO,tN,List.map_set]
   ·rw[nc _ _ ht,y4]
    repeat (first|(refine n1s rfl ?_;simp[go_sem,↓iO,iO,tN,hneg,hf,ht,y1,hc,hl])|refine anI ?_|refine⟨dcK,?_⟩|refine iP ?_|refine iN ?_)
    first|rw[TqR]|rw[TqN]
    refine⟨[(0,some 0)],?_⟩
    simp[go_sem,↓iO,iO,tN,List.map_set]
  ·rw[nl _ _ hf]
   by_cases ht:0≤a
   ·obtain⟨x,x1,x2,x3,x4⟩:=gc a ht (by omega)
    rw[x4]
    repeat (first|(refine n1s rfl ?_;simp[go_sem,↓iO,iO,tN,hneg,hf,ht,x1,hc,hl])|refine anI ?_|refine⟨dcK,?_⟩|refine iP ?_|refine iN ?_)
    first|rw[TqR]|rw[TqN]
    refine⟨[(0,some 0)],?_⟩
    simp[go_sem,↓iO,iO,tN,List.map_set]
   ·rw[nc _ _ ht]
    repeat (first|(refine n1s rfl ?_;simp[go_sem,↓iO,iO,tN,hneg,hf,ht,hc,hl])|refine anI ?_|refine⟨dcK,?_⟩|refine iP ?_|refine iN ?_)
    first|rw[TqR]|rw[TqN]
    refine⟨[(0,some 0)],?_⟩
    simp[go_sem,↓iO,iO,tN]
 ·have g1:fTo a b r=b:=by simp[fTo,hneg]
  have g2:fFr a b r=a:=by simp[fFr,hneg]
  have g3:fAb r=r:=by simp[fAb,hneg]
  rw[g1,g2,g3]
  by_cases hf:0≤a
  ·obtain⟨y,y1,y2,y3,y4⟩:=gl a hf (by omega)
   by_cases ht:0≤b
   ·obtain⟨x,x1,x2,x3,x4⟩:=gc b ht (by omega)
    rw[x4,y4]
    repeat (first|(refine n1s rfl ?_;simp[go_sem,↓iO,iO,tN,hneg,hf,ht,x1,y1,hc,hl])|refine anI ?_|refine⟨dcK,?_⟩|refine iP ?_|refine iN ?_)
    first|rw[TqR]|rw[TqN]
    refine⟨[(0,some 0)],?_⟩
    simp[go_sem,↓iO,iO,tN,List.map_set]
   ·rw[nc _ _ ht,y4]
    repeat (first|(refine n1s rfl ?_;simp[go_sem,↓iO,iO,tN,hneg,hf,ht,y1,hc,hl])|refine anI ?_|refine⟨dcK,?_⟩|refine iP ?_|refine iN ?_)
    first|rw[TqR]|rw[TqN]
    refine⟨[(0,some 0)],?_⟩
    simp[go_sem,↓iO,iO,tN,List.map_set]
  ·rw[nl _ _ hf]
   by_cases ht:0≤b
   ·obtain⟨x,x1,x2,x3,x4⟩:=gc b ht (by omega)
    rw[x4]
    repeat (first|(refine n1s rfl ?_;simp[go_sem,↓iO,iO,tN,hneg,hf,ht,x1,hc,hl])|refine anI ?_|refine⟨dcK,?_⟩|refine iP ?_|refine iN ?_)
    first|rw[TqR]|rw[TqN]
    refine⟨[(0,some 0)],?_⟩
    simp[go_sem,↓iO,iO,tN,List.map_set]
   ·rw[nc _ _ ht]
    repeat (first|(refine n1s rfl ?_;simp[go_sem,↓iO,iO,tN,hneg,hf,ht,hc,hl])|refine anI ?_|refine⟨dcK,?_⟩|refine iP ?_|refine iN ?_)
    first|rw[TqR]|rw[TqN]
    refine⟨[(0,some 0)],?_⟩
    simp[go_sem,↓iO,iO,tN]
def addP (s:List Int×List Int) (x:Int×Int×Int):List Int×List Int:=(addC s.1 (fTo x.1 x.2.1 x.2.2) (fAb x.2.2),addC s.2 (fFr x.1 x.2.1 x.2.2) (fAb x.2.2))
abbrev flows:=List (Int×Int×Int)
def sgFl (segs:List Sgm) (rates:List Int):flows:=(segs.zip rates).map fun x=>(x.1.1.fr,x.1.1.to,x.2)
def ptFl (ports:List Prt) (rates:List Int):flows:=(ports.zip rates).map fun x=>(-1,x.1.2.1,x.2)
def zero24:List Int×List Int:=(List.replicate 24 0,List.replicate 24 0)
def sumP (l:flows):List Int×List Int:=l.foldl addP zero24
theorem addC_bd {c:List Int} {k r B:Int} (hr:0≤r∧r≤1000) (h:∀ x∈c,0≤x∧x≤B):∀ x∈addC c k r,0≤x∧x≤B+1000:=by
 intro x hx
 unfold addC at hx
 split at hx
 ·rcases List.mem_or_eq_of_mem_set hx with hx|rfl
  ·have:=h x hx;omega
  ·by_cases hk:k.toNat < c.length
   ·have h1:c.getD k.toNat 0=c[k.toNat]:=by simp[List.getD,hk]
    have:=h _ (List.getElem_mem hk)
    rw[h1];omega
   ·rw[List.set_eq_of_length_le (by omega)]at hx
    have:=h _ hx;omega
 ·have:=h x hx;omega
theorem fAb_bd {r:Int} (h:-1000≤r∧r≤1000):0≤fAb r∧fAb r≤1000:=by unfold fAb;split<;>omega
structure SumOk (s:List Int×List Int) (B:Int):Prop where
 l1:s.1.length=24
 l2:s.2.length=24
 b1:∀ x∈s.1,0≤x∧x≤B
 b2:∀ x∈s.2,0≤x∧x≤B
theorem addP_ok {s:List Int×List Int} {B:Int} (h:SumOk s B) (x:Int×Int×Int) (hx:-1000≤x.2.2∧x.2.2≤1000):SumOk (addP s x) (B+1000):=
 ⟨by simp only[addP,addC_len,h.l1],by simp only[addP,addC_len,h.l2],addC_bd (fAb_bd hx) h.b1,addC_bd (fAb_bd hx) h.b2⟩
theorem zero24_ok:SumOk zero24 0:=⟨rfl,rfl,fun x hx=>by simp[zero24]at hx;omega,fun x hx=>by simp[zero24]at hx;omega⟩
theorem sumP_ok:∀ (l:flows) (s:List Int×List Int) (B:Int),SumOk s B→(∀ x∈l,-1000≤x.2.2∧x.2.2≤1000)→SumOk (l.foldl addP s) (B+1000 * l.length)
 | [],s,B,h,_=>by simpa using h
 | x :: r,s,B,h,hl=>by
  have:=sumP_ok r (addP s x) (B+1000) (addP_ok h x (hl x (by simp))) (fun y hy=>hl y (by simp[hy]))
  rw[List.foldl_cons]
  have e:B+1000+1000 * (r.length:Int)=B+1000 * ((x :: r).length:Int):=by simp only[List.length_cons];omega
  rw[←e];exact this
theorem sums_ex (segs:List Sgm) (ports:List Prt) (rates prates:List Int) (h1:rates.length=segs.length) (h2:prates.length=ports.length) (hs:segs.length≤32) (hp:ports.length≤24)
  (hr:∀ r∈rates,-1000≤r∧r≤1000) (hq:∀ r∈prates,-1000≤r∧r≤1000):∃ A P:Nat→List Int×List Int,
  A 0=zero24∧(∀ (k:Nat) s r,segs[k]? = some s→rates[k]? = some r→A (k+1)=addP (A k) (s.1.fr,s.1.to,r))∧(∀ k,SumOk (A k) 100000)∧
  P 0=A segs.length∧(∀ (k:Nat) s r,ports[k]? = some s→prates[k]? = some r→P (k+1)=addP (P k) (-1,s.2.1,r))∧(∀ k,SumOk (P k) 100000)∧P ports.length=sumP (sgFl segs rates++ptFl ports prates):=by
 have l1:(sgFl segs rates).length=segs.length:=by simp[sgFl,h1]
 have l2:(ptFl ports prates).length=ports.length:=by simp[ptFl,h2]
 have b1:∀ x∈sgFl segs rates,-1000≤x.2.2∧x.2.2≤1000:=by
  intro x hx
  obtain⟨y,hy,rfl⟩:=List.mem_map.1 hx
  exact hr _ (List.of_mem_zip hy).2
 have b2:∀ x∈ptFl ports prates,-1000≤x.2.2∧x.2.2≤1000:=by
  intro x hx
  obtain⟨y,hy,rfl⟩:=List.mem_map.1 hx
  exact hq _ (List.of_mem_zip hy).2
 have up:∀ {s:List Int×List Int} {B:Int},SumOk s B→B≤100000→SumOk s 100000:=fun h hB=>⟨h.l1,h.l2,fun x hx=>by have:=h.b1 x hx;omega,fun x hx=>by have:=h.b2 x hx;omega⟩
 refine⟨fun k=>((sgFl segs rates).take k).foldl addP zero24,fun k=>((ptFl ports prates).take k).foldl addP (sumP (sgFl segs rates)),rfl,fun k s r hk hk2=>?_,fun k=>?_,?_,fun k s r hk hk2=>?_,fun k=>?_,?_⟩
 ·have e:(sgFl segs rates)[k]? = some (s.1.fr,s.1.to,r):=by
   simp only[sgFl,List.getElem?_map,(List.getElem?_zip_eq_some (z:=(s,r))).2 ⟨hk,hk2⟩,Option.map_some]
  obtain⟨hk3,e2⟩:=List.getElem?_eq_some_iff.1 e
  simp only[List.take_succ_eq_append_getElem hk3,e2,List.foldl_append,List.foldl_cons,List.foldl_nil]
 ·have:=sumP_ok ((sgFl segs rates).take k) _ _ zero24_ok (fun x hx=>b1 x (List.mem_of_mem_take hx))
  exact up this (by rw[List.length_take];omega)
 ·simp only[List.take_zero,List.foldl_nil,sumP]
  rw[List.take_of_length_le (by omega)]
 ·have e:(ptFl ports prates)[k]? = some (-1,s.2.1,r):=by
   simp only[ptFl,List.getElem?_map,(List.getElem?_zip_eq_some (z:=(s,r))).2 ⟨hk,hk2⟩,Option.map_some]
  obtain⟨hk3,e2⟩:=List.getElem?_eq_some_iff.1 e
  simp only[List.take_succ_eq_append_getElem hk3,e2,List.foldl_append,List.foldl_cons,List.foldl_nil]
 ·have h0:=sumP_ok (sgFl segs rates) _ _ zero24_ok b1
  have:=sumP_ok ((ptFl ports prates).take k) _ _ h0 (fun x hx=>b2 x (List.mem_of_mem_take hx))
  exact up this (by rw[List.length_take];omega)
 ·simp only[sumP,List.foldl_append]
  rw[List.take_of_length_le (by omega)]
@[go_sem] def plnL (rates prates:List Int) (pumps:T):List T:=[.sl 1 (rates.map encI),.sl 1 (prates.map encI),pumps]
structure PlnOk (d:NetD) (rates prates:List Int):Prop where
 l1:rates.length=d.segs.length
 l2:prates.length=d.ports.length
 b1:∀ r∈rates,-1000≤r∧r≤1000
 b2:∀ r∈prates,-1000≤r∧r≤1000
@[go_sem] def strT (s:List Int×List Int):T:=.agg [.agg (s.1.map encI),.agg (s.2.map encI)]
@[go_sem] def zeroT:T:=.agg [.agg [.int 0,.int 0,.int 0,.int 0,.int 0,.int 0,.int 0,.int 0,.int 0,.int 0,.int 0,.int 0,.int 0,.int 0,.int 0,.int 0,.int 0,.int 0,.int 0,.int 0,.int 0,.int 0,.int 0,.int 0],.agg [.int 0,.int 0,.int 0,.int 0,.int 0,.int 0,.int 0,.int 0,.int 0,.int 0,.int 0,.int 0,.int 0,.int 0,.int 0,.int 0,.int 0,.int 0,.int 0,.int 0,.int 0,.int 0,.int 0,.int 0]]
theorem sums_fn (d:NetD) (h:NetOk d) (rates prates:List Int) (pumps:T) (hw:pumps.width=1) (hp:PlnOk d rates prates) :
  FnOk Tryz.prog 96 [.t (.agg d.l),.t (.agg (plnL rates prates pumps))] [] (.t (strT (sumP (sgFl d.segs rates++ptFl d.ports prates)))) []:=by
 have h1:=h.n1
 have h3:=h.s1
 have h4:=h.p1
 have q1:=hp.l1
 have q2:=hp.l2
 obtain⟨A,P,a0,aS,ao,p0,pS,po,pe⟩:=sums_ex d.segs d.ports rates prates q1 q2 h3 h4 hp.b1 hp.b2
 rw[←pe]
 have a0':A 0=([0,0,0,0,0,0,0,0,0,0,0,0,0,0,0,0,0,0,0,0,0,0,0,0],[0,0,0,0,0,0,0,0,0,0,0,0,0,0,0,0,0,0,0,0,0,0,0,0]):=a0
 refine FnOk.intro fact_mixed Tryz.func96 rfl Tryz.ntmps96 (by rfl) (by simp) ?_
 repeat (first|(refine n1s rfl ?_;simp[go_sem,↓iO,iO,tN])|refine anI ?_|refine⟨dcK,?_⟩|refine iP ?_|refine iN ?_)
 refine nf1_sound' _ _ _ ?_;simp only[nf1]
 refine CW.loop (ι:=Nat) (fun k=>⟨[(2,.pt 502 [] 0),(3,.pt 503 [] 0),(4,.pt 504 [] 0),(5,.pt 505 [] 0),(11,.t (.sl 7 (d.segs.map encSg))),(12,.t (.int d.segs.length)),(13,.t (.int k))],[(502,.box 33 (.t (.agg d.l))),(503,.box 45 (.t (.agg (plnL rates prates pumps)))),(504,.box 151 (.t zeroT)),(505,.box 151 (.t (strT (A k))))]⟩)
  (fun k=>k≤d.segs.length) (fun k=>d.segs.length - k) 0 [(502,some 102),(503,some 103),(504,some 104),(505,some 105)] (by omega) ?_ ?_
 ·simp[go_sem,↓iO,iO,tN,a0']
 intro k hk
 by_cases hb:k < d.segs.length
 ·obtain⟨s,hs⟩:=has_get hb
  obtain⟨r,hr⟩:∃ r,rates[k]? = some r:=has_get (by omega)
  have e1:=aS k s r hs hr
  have e2:=ao k
  have e3:=h.knS s (mem_get hs)
  have e4:=hp.b1 r (mem_get hr)
  obtain⟨⟨nm,fr,to,cp,rs,wv⟩,pts⟩:=s
  dsimp only at e1 e3
  have c:=add_fn (A k).1 (A k).2 fr to r e2.l1 e2.l2 (by omega) (by omega) e4 (fun x hx=>by have:=e2.b1 x hx;omega) (fun x hx=>by have:=e2.b2 x hx;omega)
  repeat (first|(refine n1s rfl ?_;simp[go_sem,↓iO,iO,tN,hs,hr])|refine anI ?_|refine⟨dcK,?_⟩|refine iP ?_|refine iN ?_)
  refine cF (c) [(0,505)] ?_ ?_ ?_ ?_<;>simp[go_sem,↓iO,iO,tN,hs,hr]
  repeat (first|(refine n1s rfl ?_;simp[go_sem,↓iO,iO,tN,hs,hr])|refine anI ?_|refine⟨dcK,?_⟩|refine iP ?_|refine iN ?_)
  rw[RqN];refine⟨k+1,[(502,some 502),(503,some 503),(504,some 504),(505,some 505)],?_,?_,?_⟩
  ·omega
  ·omega
  simp[go_sem,↓iO,iO,tN,e1,addP]
 ·obtain rfl:k=d.segs.length:=by omega
  repeat (first|(refine n1s rfl ?_;simp[go_sem,↓iO,iO,tN])|refine anI ?_|refine⟨dcK,?_⟩|refine iP ?_|refine iN ?_)
  refine nf1_sound' _ _ _ ?_;simp only[nf1]
  refine CW.loop (ι:=Nat) (fun k=>⟨[(2,.pt 502 [] 0),(3,.pt 503 [] 0),(4,.pt 504 [] 0),(5,.pt 505 [] 0),(30,.t (.sl 3 (d.ports.map encPr))),(31,.t (.int d.ports.length)),(32,.t (.int k))],[(502,.box 33 (.t (.agg d.l))),(503,.box 45 (.t (.agg (plnL rates prates pumps)))),(504,.box 151 (.t zeroT)),(505,.box 151 (.t (strT (P k))))]⟩)
   (fun k=>k≤d.ports.length) (fun k=>d.ports.length - k) 0 [(502,some 502),(503,some 503),(504,some 504),(505,some 505)] (by omega) ?_ ?_
  ·simp[go_sem,↓iO,iO,tN,p0]
  intro k hk
  by_cases hb:k < d.ports.length
  ·obtain⟨s,hs⟩:=has_get hb
   obtain⟨r,hr⟩:∃ r,prates[k]? = some r:=has_get (by omega)
   have e1:=pS k s r hs hr
   have e2:=po k
   have e3:=h.knP s (mem_get hs)
   have e4:=hp.b2 r (mem_get hr)
   obtain⟨nm,nd,pr⟩:=s
   dsimp only at e1 e3
   have c:=add_fn (P k).1 (P k).2 (-1) nd r e2.l1 e2.l2 (by omega) (by omega) e4 (fun x hx=>by have:=e2.b1 x hx;omega) (fun x hx=>by have:=e2.b2 x hx;omega)
   repeat (first|(refine n1s rfl ?_;simp[go_sem,↓iO,iO,tN,hs,hr])|refine anI ?_|refine⟨dcK,?_⟩|refine iP ?_|refine iN ?_)
   refine cF (c) [(0,505)] ?_ ?_ ?_ ?_<;>simp[go_sem,↓iO,iO,tN,hs,hr]
   repeat (first|(refine n1s rfl ?_;simp[go_sem,↓iO,iO,tN,hs,hr])|refine anI ?_|refine⟨dcK,?_⟩|refine iP ?_|refine iN ?_)
   rw[RqN];refine⟨k+1,[(502,some 502),(503,some 503),(504,some 504),(505,some 505)],?_,?_,?_⟩
   ·omega
   ·omega
   simp[go_sem,↓iO,iO,tN,e1,addP]
  ·obtain rfl:k=d.ports.length:=by omega
   have o1:=(po d.ports.length).l1
   have o2:=(po d.ports.length).l2
   repeat (first|(refine n1s rfl ?_;simp[go_sem,↓iO,iO,tN,o1,o2])|refine anI ?_|refine⟨dcK,?_⟩|refine iP ?_|refine iN ?_)
   first|rw[TqR]|rw[TqN]
   refine⟨[],?_⟩
   simp[go_sem,↓iO,iO,tN,o1,o2]
end Go.Proofs.YtdjmklobfjigoaaGreatDoor
