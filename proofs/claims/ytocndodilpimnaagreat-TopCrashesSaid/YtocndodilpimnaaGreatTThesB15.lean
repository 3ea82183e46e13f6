/- Several texts of this proof, one behind the other. No condition. -/
import Derived.Test.YtocndodilpimnaaGreatTThesB13
import Derived.Test.YtocndodilpimnaaGreatTThesB14
import Derived.Test.YtocndodilpimnaaGreatTThesB12
set_option maxRecDepth 100000
set_option maxHeartbeats 16000000
set_option linter.unusedVariables false
set_option linter.unusedSimpArgs false
namespace Go.Proofs.YtocndodilpimnaaGreat
open Go.RowKit Sy Dl
open Go.IntWalk renaming iteOmega → iO, toNatUp → tN
theorem nF (node:Int) (inn:Bool):∀ (k:Nat) (ps:List vO) (rs:List Int),(bz node inn k ps rs).length≤ps.length
 | k,[],rs=>by simp[bz]
 | k,p :: ps,[]=>by simp[bz]
 | k,p :: ps,r :: rs=>by
  have:=nF node inn (k+1) ps rs
  simp only[bz]
  split<;>simp<;>omega
theorem wW (node:Int) (inn:Bool):∀ (k:Nat) (ps:List vO) (rs:List Int),(bz node inn k ps rs).Pairwise (fun a b=>a.1 < b.1)
 | k,[],rs=>by simp[bz]
 | k,p :: ps,[]=>by simp[bz]
 | k,p :: ps,r :: rs=>by
  have:=wW node inn (k+1) ps rs
  simp only[bz]
  split
  ·refine List.Pairwise.cons (fun b hb=>?_) this
   have:=(mQ hb).1
   dsimp only;omega
  ·exact this
def nD (oo:List (Option (List (Int×Int)))) (P:List (Nat×Int)) (x:List (List (Int×Int))):Nat→List (Option (List (Int×Int)))
 | 0=>oo
 | k+1=>(nD oo P x k).set (P.getD k (0,0)).1 (some (x.getD k []))
theorem Au (oo P x):∀ k,(nD oo P x k).length=oo.length
 | 0=>rfl
 | k+1=>by unfold nD;rw[List.length_set];exact Au oo P x k
def mg (rates:List Int) (y:Nat×Int):Bool:=decide (rates.getD y.1 0 < 0)
def fQ {α:Type} (fi:List α) (Sg:List (Nat×Int)) (v:Nat→Nat×Int→α):Nat→List α
 | 0=>fi
 | k+1=>(fQ fi Sg v k).set (Sg.getD k (0,0)).1 (v k (Sg.getD k (0,0)))
theorem sN {α:Type} (fi:List α) (Sg:List (Nat×Int)) (v:Nat→Nat×Int→α):∀ k,(fQ fi Sg v k).length=fi.length
 | 0=>rfl
 | k+1=>by unfold fQ;rw[List.length_set];exact sN fi Sg v k
theorem EK {α:Type} (fi:List α) (Sg:List (Nat×Int)) (v:Nat→Nat×Int→α) (hS:Sg.Pairwise (fun a b=>a.1 < b.1)) (j:Nat) (y:Nat×Int) (hy:Sg[j]? = some y):∀ k,k≤j→(fQ fi Sg v k)[y.1]? = fi[y.1]?
 | 0,_=>rfl
 | k+1,hk=>by
  unfold fQ
  have h1:=EK fi Sg v hS j y hy k (by omega)
  obtain⟨hj,rfl⟩:=List.getElem?_eq_some_iff.1 hy
  have h2:=List.pairwise_iff_getElem.1 hS k j (by omega) hj (by omega)
  rw[List.getElem?_set_ne (by rw[List.getD_eq_getElem?_getD,List.getElem?_eq_getElem (by omega)];simp;omega),h1]
noncomputable def ju (rates:List Int) (fi:List (Option (List (Int×Int)))) (x:List (List (Int×Int))) (m:Nat) (k:Nat) (y:Nat×Int):Option (List (Int×Int)):=some (tW (gJ fi y) (x.getD (m+k) []) (mg rates y))
noncomputable def jY (rates:List Int) (fi:List (Option (List (Int×Int)))) (x:List (List (Int×Int))) (m:Nat) (k:Nat) (y:Nat×Int):Option (List (Int×Int)):=some (y9 (gJ fi y) (x.getD (m+k) []) (mg rates y))
theorem E9 (d:fk) (hd:ml d) (order:T) (w6:order.width=1) (fi gi oo:List (Option (List (Int×Int)))) (node:Int) (hg:gi.length=d.segs.length) (hfl:fi.length=d.segs.length) (hol:oo.length=d.ports.length) (hS:Pc.jd (kH d gi node)) (hnz:∀ z∈bz node true 0 (d.segs.map (·.1)) d.rates,∀ p∈gJ gi z,p.2≠0)
  (l:List (Int×Int)) (hl:Pc.join (kH d gi node)=l) (hne:l≠[]) (hl2:l.length≤200) (P Sg:List (Nat×Int)) (hP:cd node false 0 d.ports d.prates=P) (hSg:bz node false 0 (d.segs.map (·.1)) d.rates=Sg) (x:List (List (Int×Int))) (hx:zE l (P.map (·.2)++Sg.map (·.2))=(x,0)) (hxl:x.length=P.length+Sg.length)
  (hpush:∀ (k:Nat) (y:Nat×Int),Sg[k]? = some y→(∃ f,fi[y.1]? = some (some f)∧f.length≤1000000)∧(x.getD (P.length+k) []).length≤1000000∧(y9 (gJ fi y) (x.getD (P.length+k) []) (mg d.rates y)).length≤1000000∧wo (gJ fi y) (x.getD (P.length+k) []) (mg d.rates y)=0) :
  aj Tryz.prog 145 [.pt 0 [] 0,.t (.int node)] [(0,dB d.net d.plan (.sl 1 (d.feeds.map aC)) order),(1,aT fi),(2,aT gi),(3,aT oo)]
   (.t (.int 0)) [(0,dB d.net d.plan (.sl 1 (d.feeds.map aC)) order),(1,aT (fQ fi Sg (ju d.rates fi x P.length) Sg.length)),(2,aT (fQ gi Sg (jY d.rates fi x P.length) Sg.length)),(3,aT (nD oo P x P.length))]:=by
 have s1:=Hj d hd order w6 fi gi oo node hg hS hnz
 rw[hl]at s1
 have P_len:∀ k,((P.take k).map (·.2)).length≤1000:=fun k=>by
  have:=jc node false 0 d.ports d.prates
  have:=hd.maxP
  rw[hP]at *
  simp;omega
 have S_len:∀ k,(P.map (·.2)++(Sg.take k).map (·.2)).length≤2000:=fun k=>by
  have:=jc node false 0 d.ports d.prates
  have:=nF node false 0 (d.segs.map (·.1)) d.rates
  have:=hd.maxP
  have:=hd.maxS
  rw[hP]at *
  rw[hSg]at *
  simp at *;omega
 have hPl:P.length≤1000:=by
  have:=jc node false 0 d.ports d.prates
  have:=hd.maxP
  rw[hP]at *
  omega
 have hSl:Sg.length≤1000:=by
  have:=nF node false 0 (d.segs.map (·.1)) d.rates
  have:=hd.maxS
  rw[hSg]at *
  simp at *;omega
 have hPg:∀ y∈P,y.1 < d.ports.length:=fun y hy=>by
  rw[←hP]at hy
  have:=(pQ hy).2.1
  omega
 have hSGg:∀ y∈Sg,y.1 < d.segs.length:=fun y hy=>by
  rw[←hSg]at hy
  have:=(mQ hy).2.1
  simpa using this
 have hinc:Sg.Pairwise (fun a b=>a.1 < b.1):=by rw[←hSg];exact wW _ _ _ _ _
 have w1:=hd.w1
 have w2:=hd.w2
 have w3:=hd.w3
 have w4:=hd.w4
 have w5:=hd.w5
 have dl:=MZ l (P.map (·.2)++Sg.map (·.2)) (by omega) (by simp;omega) x 0 hx
 have hlp:0 < l.length:=List.length_pos_iff.2 hne
 refine nI Tryz.func145 rfl Tryz.ntmps145 ?_
 refine ah ?_
 refine ax s1 [(0,0),(1,1),(2,2),(3,3),(1000,510)] ?_
 refine ah ?_
 refine ax (ta d.net d.plan (.sl 1 (d.feeds.map aC)) order fi gi oo node false) [(0,0),(1,1),(2,2),(3,3),(1000,500),(1001,501),(1002,502)] ?_
 refine oP ?_
 refine CW.rangeF (N:=87) [(0,.pt 0 [] 0),(1,.t (.int node)),(2,.pt 102 [] 0),(4,.pt 104 [] 0),(5,.own 510),(6,.pt 106 [] 0),(28,.fn 264 [.pt 500 [] 0,.pt 501 [] 0,.pt 502 [] 0])]
  (fun k=>[(0,dB d.net d.plan (.sl 1 (d.feeds.map aC)) order),(1,aT fi),(2,aT gi),(3,aT oo),(102,.box 159 (.pt 0 [] 0)),(104,.box 47 (.t (.int 0))),(510,gP l),(106,.box 22 (.own 520)),(520,.list 3 1 (((P.take k).map (·.2)).map aC)),(500,.box 159 (.pt 0 [] 0)),(501,.box 3 (.t (.int node))),(502,.box 4 (.t (.bool false)))])
  [(0,some 0),(1,some 1),(2,some 2),(3,some 3),(102,some 102),(104,some 104),(510,some 510),(106,some 106),(520,none),(500,some 500),(501,some 501),(502,some 502)]
  (eJ 500 501 502 0 (.t (.int node)) (.t (.bool false)) 3 4 d.net d.plan [.t (.sl 1 (d.feeds.map aC)),.t order,.own 1,.own 2,.own 3]) (P.map dF)
  [(0,some 0),(1,some 1),(2,some 2),(3,some 3),(102,some 102),(104,some 104),(510,some 510),(106,some 106),(520,some 520),(500,some 500),(501,some 501),(502,some 502)]
  ?_ rfl (by kernel_rfl) (by kernel_rfl) (by kernel_rfl) (by kernel_rfl) (by kernel_rfl) (by kernel_rfl) (by kernel_rfl) ?_ ?_ ?_ rfl ?_ ?_ ?_
 ·exact dY
 ·intro y hy
  obtain⟨z,_,rfl⟩:=List.mem_map.1 hy
  rfl
 ·intro y hy v hv
  obtain⟨z,_,rfl⟩:=List.mem_map.1 hy
  simp[dF]at hv
  rcases hv with rfl|rfl<;>rfl
 ·rw[←hP]
  exact nM 500 501 502 0 rfl node false d.nodes (.sl 7 (d.segs.map bA)) d.stat d.ports d.vap d.stl (.sl 1 (d.rates.map aC)) d.pumps d.prates _ hd.w1 rfl rfl hd.w2 hd.w3 hd.w4 hd.lenP hd.neP hd.maxP (fun r hr=>by have:=hd.bP r hr;omega)
 ·intro k hk
  simp[go_sem,↓iO,iO,tN,eJ]
  rfl
 ·intro k y hy
  obtain⟨z,hz,rfl⟩:∃ z,P[k]? = some z∧y=dF z:=by
   rw[List.getElem?_map]at hy
   obtain⟨z,h1,h2⟩:=Option.map_eq_some_iff.1 hy
   exact⟨z,h1,h2.symm⟩
  have hkl:k < P.length:=(List.getElem?_eq_some_iff.1 hz).1
  obtain⟨z1,z2⟩:=z
  have e1:((P.take k).map (·.2)).map aC++[.int z2]=((P.take (k+1)).map (·.2)).map aC:=by
   obtain⟨hk,e⟩:=List.getElem?_eq_some_iff.1 hz
   rw[List.take_succ_eq_append_getElem hk,e];simp[aC]
  have hlen:=P_len k
  refine⟨[(0,106),(1,520),(1000,521)],[(6,.pt 0 [] 0)],[(0,.box 22 (.own 1)),(1,.list 3 1 (((P.take k).map (·.2)).map aC))],[(0,.box 22 (.own 1000)),(1000,.list 3 1 (((P.take (k+1)).map (·.2)).map aC))],[(0,some 0),(1,some 1),(2,some 2),(3,some 3),(102,some 102),(104,some 104),(510,some 510),(106,some 106),(520,some 521),(500,some 500),(501,some 501),(502,some 502)],?_⟩
  refine⟨by kernel_rfl,?_,?_,rfl,by kernel_rfl,?_,?_⟩
  ·exact dY
  ·simp[go_sem,↓iO,iO,tN,ku,S.ren]
  ·rw[←e1]
   obtain⟨V,hV⟩:∃ V,(P.take k).map (·.2)=V:=⟨_,rfl⟩
   rw[hV]at hlen ⊢
   simp[go_sem,↓iO,iO,tN,Cd,dF]
   repeat (refine ba ?_)
   refine⟨[(0,some 0),(1000,some 134)],?_⟩
   exact dY
  ·exact dY
 ·have hpl:(P.map dF).length=P.length:=by simp
  rw[hpl]
  simp[go_sem,↓iO,iO,tN,List.take_length]
  refine ah ?_
  refine ax (lZ d.net d.plan (.sl 1 (d.feeds.map aC)) order fi gi oo node false) [(0,0),(1,1),(2,2),(3,3),(1000,530),(1001,531),(1002,532)] ?_
  refine oP ?_
  refine CW.rangeF (N:=87) [(0,.pt 0 [] 0),(1,.t (.int node)),(2,.pt 102 [] 0),(4,.pt 104 [] 0),(5,.own 510),(6,.pt 106 [] 0),(37,.fn 265 [.pt 530 [] 0,.pt 531 [] 0,.pt 532 [] 0])]
   (fun k=>[(0,dB d.net d.plan (.sl 1 (d.feeds.map aC)) order),(1,aT fi),(2,aT gi),(3,aT oo),(102,.box 159 (.pt 0 [] 0)),(104,.box 47 (.t (.int 0))),(510,gP l),(106,.box 22 (.own 520)),(520,.list 3 1 ((P.map (·.2)++(Sg.take k).map (·.2)).map aC)),(530,.box 159 (.pt 0 [] 0)),(531,.box 4 (.t (.bool false))),(532,.box 3 (.t (.int node)))])
   [(0,some 0),(1,some 1),(2,some 2),(3,some 3),(102,some 102),(104,some 104),(510,some 510),(106,some 106),(520,some 520),(530,some 530),(531,some 531),(532,some 532)]
   (eJ 530 531 532 0 (.t (.bool false)) (.t (.int node)) 4 3 d.net d.plan [.t (.sl 1 (d.feeds.map aC)),.t order,.own 1,.own 2,.own 3]) (Sg.map dF)
   [(0,some 0),(1,some 1),(2,some 2),(3,some 3),(102,some 102),(104,some 104),(510,some 510),(106,some 106),(520,some 520),(530,some 530),(531,some 531),(532,some 532)]
   ?_ rfl (by kernel_rfl) (by kernel_rfl) (by kernel_rfl) (by kernel_rfl) (by kernel_rfl) (by kernel_rfl) (by kernel_rfl) ?_ ?_ ?_ rfl ?_ ?_ ?_
  ·exact dY
  ·intro y hy
   obtain⟨z,_,rfl⟩:=List.mem_map.1 hy
   rfl
  ·intro y hy v hv
   obtain⟨z,_,rfl⟩:=List.mem_map.1 hy
   simp[dF]at hv
   rcases hv with rfl|rfl<;>rfl
  ·rw[←hSg]
   exact qx 530 531 532 0 rfl node false d.nodes (.sl 3 (d.ports.map dO)) d.stat d.segs d.vap d.stl (.sl 1 (d.prates.map aC)) d.pumps d.rates _ hd.w1 rfl hd.w2 hd.w3 hd.w4 hd.lenR hd.neS hd.maxS (fun r hr=>by have:=hd.bR r hr;omega)
  ·intro k hk
   simp[go_sem,↓iO,iO,tN,eJ]
   rfl
  ·intro k y hy
   obtain⟨z,hz,rfl⟩:∃ z,Sg[k]? = some z∧y=dF z:=by
    rw[List.getElem?_map]at hy
    obtain⟨z,h1,h2⟩:=Option.map_eq_some_iff.1 hy
    exact⟨z,h1,h2.symm⟩
   have hkl:k < Sg.length:=(List.getElem?_eq_some_iff.1 hz).1
   obtain⟨z1,z2⟩:=z
   have e1:(P.map (·.2)++(Sg.take k).map (·.2)).map aC++[.int z2]=(P.map (·.2)++(Sg.take (k+1)).map (·.2)).map aC:=by
    obtain⟨hk,e⟩:=List.getElem?_eq_some_iff.1 hz
    rw[List.take_succ_eq_append_getElem hk,e];simp[aC]
   have hlen:=S_len k
   refine⟨[(0,106),(1,520),(1000,521)],[(6,.pt 0 [] 0)],[(0,.box 22 (.own 1)),(1,.list 3 1 ((P.map (·.2)++(Sg.take k).map (·.2)).map aC))],[(0,.box 22 (.own 1000)),(1000,.list 3 1 ((P.map (·.2)++(Sg.take (k+1)).map (·.2)).map aC))],[(0,some 0),(1,some 1),(2,some 2),(3,some 3),(102,some 102),(104,some 104),(510,some 510),(106,some 106),(520,some 521),(530,some 530),(531,some 531),(532,some 532)],?_⟩
   refine⟨by kernel_rfl,?_,?_,rfl,by kernel_rfl,?_,?_⟩
   ·exact dY
   ·simp[go_sem,↓iO,iO,tN,ku,S.ren]
   ·rw[←e1]
    obtain⟨V,hV⟩:∃ V,P.map (·.2)++(Sg.take k).map (·.2)=V:=⟨_,rfl⟩
    rw[hV]at hlen ⊢
    simp[go_sem,↓iO,iO,tN,Cd,dF]
    repeat (refine ba ?_)
    refine⟨[(0,some 0),(1000,some 143)],?_⟩
    exact dY
   ·exact dY
  ·have hsl:(Sg.map dF).length=Sg.length:=by simp
   rw[hsl]
   obtain⟨R,hR⟩:∃ R,P.map (·.2)++Sg.map (·.2)=R:=⟨_,rfl⟩
   rw[hR]at dl
   simp only[List.take_length,hR]
   refine CW.weak (ρ:=[(0,some 0),(1,some 1),(2,some 2),(3,some 3),(102,some 102),(104,some 104),(106,some 106)]) (σ':=⟨[(0,.pt 0 [] 0),(1,.t (.int node)),(2,.pt 102 [] 0),(4,.pt 104 [] 0),(5,.t (aU l)),(6,.pt 106 [] 0)],[(0,dB d.net d.plan (.sl 1 (d.feeds.map aC)) order),(1,aT fi),(2,aT gi),(3,aT oo),(102,.box 159 (.pt 0 [] 0)),(104,.box 47 (.t (.int 0))),(106,.box 22 (.t (bB R)))]⟩) ?_ ?_
   ·exact dY
   refine ah ?_
   refine ax dl [] ?_
   refine ah ?_
   refine ax (ta d.net d.plan (.sl 1 (d.feeds.map aC)) order fi gi oo node false) [(0,0),(1,1),(2,2),(3,3),(1000,540),(1001,541),(1002,542)] ?_
   refine oP ?_
   refine CW.rangeF (N:=87) [(0,.pt 0 [] 0),(1,.t (.int node)),(2,.pt 102 [] 0),(4,.pt 104 [] 0),(11,.pt 111 [] 0),(13,.pt 113 [] 0),(55,.fn 264 [.pt 540 [] 0,.pt 541 [] 0,.pt 542 [] 0])]
    (fun k=>[(0,dB d.net d.plan (.sl 1 (d.feeds.map aC)) order),(1,aT fi),(2,aT gi),(3,aT (nD oo P x k)),(102,.box 159 (.pt 0 [] 0)),(104,.box 47 (.t (.int 0))),(111,.box 84 (.t (.sl 1 (x.map aU)))),(113,.box 3 (.t (.int k))),(540,.box 159 (.pt 0 [] 0)),(541,.box 3 (.t (.int node))),(542,.box 4 (.t (.bool false)))])
    [(0,some 0),(1,some 1),(2,some 2),(3,some 3),(102,some 102),(104,some 104),(111,some 111),(113,some 113),(540,some 540),(541,some 541),(542,some 542)]
    (eJ 540 541 542 0 (.t (.int node)) (.t (.bool false)) 3 4 d.net d.plan [.t (.sl 1 (d.feeds.map aC)),.t order,.own 1,.own 2,.own 3]) (P.map dF)
    [(0,some 0),(1,some 1),(2,some 2),(3,some 3),(102,some 102),(104,some 104),(111,some 111),(113,some 113),(540,some 540),(541,some 541),(542,some 542)]
    ?_ rfl (by kernel_rfl) (by kernel_rfl) (by kernel_rfl) (by kernel_rfl) (by kernel_rfl) (by kernel_rfl) (by kernel_rfl) ?_ ?_ ?_ rfl ?_ ?_ ?_
   ·simp[go_sem,↓iO,iO,tN,nD]
   ·intro y hy
    obtain⟨z,_,rfl⟩:=List.mem_map.1 hy
    rfl
   ·intro y hy v hv
    obtain⟨z,_,rfl⟩:=List.mem_map.1 hy
    simp[dF]at hv
    rcases hv with rfl|rfl<;>rfl
   ·rw[←hP]
    exact nM 540 541 542 0 rfl node false d.nodes (.sl 7 (d.segs.map bA)) d.stat d.ports d.vap d.stl (.sl 1 (d.rates.map aC)) d.pumps d.prates _ hd.w1 rfl rfl hd.w2 hd.w3 hd.w4 hd.lenP hd.neP hd.maxP (fun r hr=>by have:=hd.bP r hr;omega)
   ·intro k hk
    simp[go_sem,↓iO,iO,tN,eJ]
    rfl
   ·intro k y hy
    obtain⟨z,hz,rfl⟩:∃ z,P[k]? = some z∧y=dF z:=by
     rw[List.getElem?_map]at hy
     obtain⟨z,h1,h2⟩:=Option.map_eq_some_iff.1 hy
     exact⟨z,h1,h2.symm⟩
    have hkl:k < P.length:=(List.getElem?_eq_some_iff.1 hz).1
    obtain⟨z1,z2⟩:=z
    have hzl:=hPg _ (List.mem_of_getElem? hz)
    dsimp only at hzl
    have hol2:=Au oo P x k
    obtain⟨s,hs⟩:∃ s,x[k]? = some s:=aa (by omega)
    have hos:nD oo P x (k+1)=(nD oo P x k).set z1 (some s):=by
     simp only[nD,List.getD_eq_getElem?_getD,hz,hs,Option.getD_some]
    refine⟨[(0,0),(1,1),(2,2),(3,3),(4,102),(5,111),(6,113)],[(2,.pt 4 [] 0),(11,.pt 5 [] 0),(13,.pt 6 [] 0)],
     [(0,dB d.net d.plan (.sl 1 (d.feeds.map aC)) order),(1,aT fi),(2,aT gi),(3,aT (nD oo P x k)),(4,.box 159 (.pt 0 [] 0)),(5,.box 84 (.t (.sl 1 (x.map aU)))),(6,.box 3 (.t (.int k)))],
     [(0,dB d.net d.plan (.sl 1 (d.feeds.map aC)) order),(1,aT fi),(2,aT gi),(3,aT (nD oo P x (k+1))),(4,.box 159 (.pt 0 [] 0)),(5,.box 84 (.t (.sl 1 (x.map aU)))),(6,.box 3 (.t (.int (k+1))))],
     [(0,some 0),(1,some 1),(2,some 2),(3,some 3),(102,some 102),(104,some 104),(111,some 111),(113,some 113),(540,some 540),(541,some 541),(542,some 542)],?_⟩
    refine⟨by kernel_rfl,?_,?_,rfl,by kernel_rfl,?_,?_⟩
    ·exact dY
    ·simp[go_sem,↓iO,iO,tN,ku,S.ren]
    ·rw[hos]
     obtain⟨V,hV⟩:∃ V,nD oo P x k=V:=⟨_,rfl⟩
     rw[hV]at hol2 ⊢
     obtain⟨og,hgo⟩:∃ og,V[z1]? = some og:=aa (by omega)
     have hvz:z1 < V.length:=by omega
     have hsx:k < x.length:=by omega
     have hs2:x[k]=s:=(List.getElem?_eq_some_iff.1 hs).2
     have hv2:V[z1]=og:=(List.getElem?_eq_some_iff.1 hgo).2
     refine Qv ?_;simp[go_sem,↓iO,iO,tN,Cd,dF];(repeat (refine ba ?_));try (refine⟨aZ,?_⟩)
     repeat (first|(refine MN ?_;simp (maxSteps:=1000000) [go_sem,↓iO,iO,tN,hs,hgo,hvz,hv2,hsx,hs2,w1,w2,w3,w4,w5,w6,bK,cH];(repeat (refine ba ?_));try (refine⟨aZ,?_⟩))|((first|refine vu (by omega) ?_|refine ue (by omega) ?_);try simp[go_sem,↓iO,iO,tN,hs,hgo,hvz,hv2,hsx,hs2,w1,w2,w3,w4,w5,w6,bK,cH])|(refine⟨aZ,?_⟩))
     refine⟨by cases og<;>rfl,?_⟩
     repeat (refine ba ?_)
     refine⟨aZ,?_⟩
     repeat (first|(refine MN ?_;simp (maxSteps:=1000000) [go_sem,↓iO,iO,tN];(repeat (refine ba ?_));try (refine⟨aZ,?_⟩))|((first|refine vu (by omega) ?_|refine ue (by omega) ?_);try simp[go_sem,↓iO,iO,tN])|(refine⟨aZ,?_⟩))
     refine⟨[(0,some 0),(1,some 1),(2,some 2),(3,some 3),(4,some 4),(5,some 5),(6,some 6)],?_⟩
     simp[go_sem,↓iO,iO,tN,List.map_set]
    ·exact dY
   ·have hpl:(P.map dF).length=P.length:=by simp
    rw[hpl]
    obtain⟨O,hO⟩:∃ O,nD oo P x P.length=O:=⟨_,rfl⟩
    rw[hO]
    refine ah ?_
    refine ax (lZ d.net d.plan (.sl 1 (d.feeds.map aC)) order fi gi O node false) [(0,0),(1,1),(2,2),(3,3),(1000,550),(1001,551),(1002,552)] ?_
    refine oP ?_
    refine CW.rangeF (N:=87) [(0,.pt 0 [] 0),(1,.t (.int node)),(2,.pt 102 [] 0),(4,.pt 104 [] 0),(11,.pt 111 [] 0),(13,.pt 113 [] 0),(72,.fn 265 [.pt 550 [] 0,.pt 551 [] 0,.pt 552 [] 0])]
     (fun k=>[(0,dB d.net d.plan (.sl 1 (d.feeds.map aC)) order),(1,aT (fQ fi Sg (ju d.rates fi x P.length) k)),(2,aT (fQ gi Sg (jY d.rates fi x P.length) k)),(3,aT O),(102,.box 159 (.pt 0 [] 0)),(104,.box 47 (.t (.int 0))),(111,.box 84 (.t (.sl 1 (x.map aU)))),(113,.box 3 (.t (.int ((P.length+k:Nat):Int)))),(550,.box 159 (.pt 0 [] 0)),(551,.box 4 (.t (.bool false))),(552,.box 3 (.t (.int node)))])
     [(0,some 0),(1,some 1),(2,some 2),(3,some 3),(102,some 102),(104,some 104),(111,some 111),(113,some 113),(550,some 550),(551,some 551),(552,some 552)]
     (eJ 550 551 552 0 (.t (.bool false)) (.t (.int node)) 4 3 d.net d.plan [.t (.sl 1 (d.feeds.map aC)),.t order,.own 1,.own 2,.own 3]) (Sg.map dF)
     [(0,some 0),(1,some 1),(2,some 2),(3,some 3),(102,some 102),(104,some 104),(111,some 111),(113,some 113),(550,some 550),(551,some 551),(552,some 552)]
     ?_ rfl (by kernel_rfl) (by kernel_rfl) (by kernel_rfl) (by kernel_rfl) (by kernel_rfl) (by kernel_rfl) (by kernel_rfl) ?_ ?_ ?_ rfl ?_ ?_ ?_
    ·simp[go_sem,↓iO,iO,tN,fQ]
    ·intro y hy
     obtain⟨z,_,rfl⟩:=List.mem_map.1 hy
     rfl
    ·intro y hy v hv
     obtain⟨z,_,rfl⟩:=List.mem_map.1 hy
     simp[dF]at hv
     rcases hv with rfl|rfl<;>rfl
    ·rw[←hSg]
     exact qx 550 551 552 0 rfl node false d.nodes (.sl 3 (d.ports.map dO)) d.stat d.segs d.vap d.stl (.sl 1 (d.prates.map aC)) d.pumps d.rates _ hd.w1 rfl hd.w2 hd.w3 hd.w4 hd.lenR hd.neS hd.maxS (fun r hr=>by have:=hd.bR r hr;omega)
    ·intro k hk
     simp[go_sem,↓iO,iO,tN,eJ]
     rfl
    ·intro k y hy
     obtain⟨z,hz,rfl⟩:∃ z,Sg[k]? = some z∧y=dF z:=by
      rw[List.getElem?_map]at hy
      obtain⟨z,h1,h2⟩:=Option.map_eq_some_iff.1 hy
      exact⟨z,h1,h2.symm⟩
     have hkl:k < Sg.length:=(List.getElem?_eq_some_iff.1 hz).1
     obtain⟨z1,z2⟩:=z
     have hzl:=hSGg _ (List.mem_of_getElem? hz)
     dsimp only at hzl
     obtain⟨⟨f,hf,hf6⟩,hl6,ho6,he⟩:=hpush k _ hz
     have hf0:gJ fi (z1,z2)=f:=by unfold gJ;rw[List.getD_eq_getElem?_getD,hf];rfl
     obtain⟨r,hr⟩:∃ r,d.rates[z1]? = some r:=aa (by rw[hd.lenR];exact hzl)
     have hb0:mg d.rates (z1,z2)=decide (r < 0):=by unfold mg;rw[List.getD_eq_getElem?_getD,hr];rfl
     obtain⟨s,hs⟩:∃ s,x[P.length+k]? = some s:=aa (by omega)
     have hs0:x.getD (P.length+k) []=s:=by rw[List.getD_eq_getElem?_getD,hs];rfl
     rw[hs0]at hl6
     rw[hf0,hs0,hb0]at ho6 he
     have hgd:Sg.getD k (0,0)=(z1,z2):=by rw[List.getD_eq_getElem?_getD,hz];rfl
     have hF1:fQ fi Sg (ju d.rates fi x P.length) (k+1)=(fQ fi Sg (ju d.rates fi x P.length) k).set z1 (some (tW f s (decide (r < 0)))):=by
      rw[←hf0,←hs0,←hb0,fQ,hgd];rfl
     have hG1:fQ gi Sg (jY d.rates fi x P.length) (k+1)=(fQ gi Sg (jY d.rates fi x P.length) k).set z1 (some (y9 f s (decide (r < 0)))):=by
      rw[←hf0,←hs0,←hb0,fQ,hgd];rfl
     have hfk:=EK fi Sg (ju d.rates fi x P.length) hinc k (z1,z2) hz k (Nat.le_refl _)
     dsimp only at hfk
     rw[hf]at hfk
     have hfl2:=sN fi Sg (ju d.rates fi x P.length) k
     have hgl2:=sN gi Sg (jY d.rates fi x P.length) k
     have j1:=K9 d hd order w6 (fQ fi Sg (ju d.rates fi x P.length) k) (fQ gi Sg (jY d.rates fi x P.length) k) O (by omega) (by omega) z1 r f s hr hfk hf6 hl6 ho6 he
     rw[←hF1,←hG1]at j1
     refine⟨[(0,0),(1,1),(2,2),(3,3),(4,102),(5,111),(6,113)],[(2,.pt 4 [] 0),(11,.pt 5 [] 0),(13,.pt 6 [] 0)],
      [(0,dB d.net d.plan (.sl 1 (d.feeds.map aC)) order),(1,aT (fQ fi Sg (ju d.rates fi x P.length) k)),(2,aT (fQ gi Sg (jY d.rates fi x P.length) k)),(3,aT O),(4,.box 159 (.pt 0 [] 0)),(5,.box 84 (.t (.sl 1 (x.map aU)))),(6,.box 3 (.t (.int ((P.length+k:Nat):Int))))],
      [(0,dB d.net d.plan (.sl 1 (d.feeds.map aC)) order),(1,aT (fQ fi Sg (ju d.rates fi x P.length) (k+1))),(2,aT (fQ gi Sg (jY d.rates fi x P.length) (k+1))),(3,aT O),(4,.box 159 (.pt 0 [] 0)),(5,.box 84 (.t (.sl 1 (x.map aU)))),(6,.box 3 (.t (.int ((P.length+(k+1):Nat):Int))))],
      [(0,some 0),(1,some 1),(2,some 2),(3,some 3),(102,some 102),(104,some 104),(111,some 111),(113,some 113),(550,some 550),(551,some 551),(552,some 552)],?_⟩
     refine⟨by kernel_rfl,?_,?_,rfl,by kernel_rfl,?_,?_⟩
     ·exact dY
     ·simp[go_sem,↓iO,iO,tN,ku,S.ren]
     ·obtain⟨F1,hF1'⟩:∃ F1,fQ fi Sg (ju d.rates fi x P.length) k=F1:=⟨_,rfl⟩
      obtain⟨F2,hF2'⟩:∃ F2,fQ fi Sg (ju d.rates fi x P.length) (k+1)=F2:=⟨_,rfl⟩
      obtain⟨G1,hG1'⟩:∃ G1,fQ gi Sg (jY d.rates fi x P.length) k=G1:=⟨_,rfl⟩
      obtain⟨G2,hG2'⟩:∃ G2,fQ gi Sg (jY d.rates fi x P.length) (k+1)=G2:=⟨_,rfl⟩
      rw[hF1',hF2',hG1',hG2']at j1
      rw[hF1',hF2',hG1',hG2']
      have hsx:P.length+k < x.length:=by omega
      have hs2:x[P.length+k]=s:=(List.getElem?_eq_some_iff.1 hs).2
      have e3:((P.length:Int)+(k:Int)).toNat=P.length+k:=by omega
      refine Qv ?_;simp[go_sem,↓iO,iO,tN,Cd,dF];(repeat (refine ba ?_));try (refine⟨aZ,?_⟩)
      repeat (first|(refine MN ?_;simp (maxSteps:=1000000) [go_sem,↓iO,iO,tN,hs,e3,hsx,hs2,w1,w2,w3,w4,w5,w6,bK,cH];(repeat (refine ba ?_));try (refine⟨aZ,?_⟩))|((first|refine vu (by omega) ?_|refine ue (by omega) ?_);try simp[go_sem,↓iO,iO,tN,hs,e3,hsx,hs2,w1,w2,w3,w4,w5,w6,bK,cH])|(refine⟨aZ,?_⟩))
      refine aY.fn (j1) [(0,0),(1,1),(2,2),(3,3)] [] [] (by kernel_rfl) ?_ ?_ ?_ (Or.inl rfl) ?_<;>simp[go_sem,↓iO,iO,tN,hs,e3,hsx,hs2,w1,w2,w3,w4,w5,w6,bK,cH]
      repeat (first|(refine MN ?_;simp (maxSteps:=1000000) [go_sem,↓iO,iO,tN,e3];(repeat (refine ba ?_));try (refine⟨aZ,?_⟩))|((first|refine vu (by omega) ?_|refine ue (by omega) ?_);try simp[go_sem,↓iO,iO,tN,e3])|(refine⟨aZ,?_⟩))
      refine⟨[(0,some 0),(1,some 1),(2,some 2),(3,some 3),(4,some 4),(5,some 5),(6,some 6)],?_⟩
      simp[go_sem,↓iO,iO,tN]
      omega
     ·exact dY
    ·have hsl:(Sg.map dF).length=Sg.length:=by simp
     rw[hsl]
     obtain⟨F1,hF1'⟩:∃ F1,fQ fi Sg (ju d.rates fi x P.length) Sg.length=F1:=⟨_,rfl⟩
     obtain⟨G1,hG1'⟩:∃ G1,fQ gi Sg (jY d.rates fi x P.length) Sg.length=G1:=⟨_,rfl⟩
     rw[hF1',hG1']
     refine ah ?_
     exact aF [(0,some 0),(1,some 1),(2,some 2),(3,some 3)]
def wq (d:fk) (order:T) (node:Int) (f0 g0 o0 f1 g1 o1:List (Option (List (Int×Int)))):Prop:=
 aj Tryz.prog 145 [.pt 0 [] 0,.t (.int node)] [(0,dB d.net d.plan (.sl 1 (d.feeds.map aC)) order),(1,aT f0),(2,aT g0),(3,aT o0)]
   (.t (.int 0)) [(0,dB d.net d.plan (.sl 1 (d.feeds.map aC)) order),(1,aT f1),(2,aT g1),(3,aT o1)]
@[go_sem] def zw (net plan:List T) (feeds order:T) (a b:S):aA:=.box 164 (.ag [.t (.agg net),.t (.agg plan),.t feeds,.t order,.own 1,a,b])
theorem LU (n:Nat):(List.replicate n (none:Option (List (Int×Int)))).map xt=List.replicate n (.lit (.slice none 0 0)):=by simp[xt]
theorem LI (d:fk) (hd:ml d) (ord:List Int) (hol:ord.length≤1000) (gi oo:List (Option (List (Int×Int)))) (F G O:Nat→List (Option (List (Int×Int)))) (hG0:G 0=List.replicate d.segs.length none) (hO0:O 0=List.replicate d.ports.length none)
  (hN:∀ k node,ord[k]? = some node→wq d (.sl 1 (ord.map aC)) node (F k) (G k) (O k) (F (k+1)) (G (k+1)) (O (k+1))) :
  aj Tryz.prog 73 [.pt 0 [] 0] [(0,zw d.net d.plan (.sl 1 (d.feeds.map aC)) (.sl 1 (ord.map aC)) (.own 2) (.own 3)),(1,aT (F 0)),(2,aT gi),(3,aT oo)]
   (.t (.int 0)) [(0,zw d.net d.plan (.sl 1 (d.feeds.map aC)) (.sl 1 (ord.map aC)) (.own 1000) (.own 1001)),(1,aT (F ord.length)),(1000,aT (G ord.length)),(1001,aT (O ord.length))]:=by
 have w1:=hd.w1
 have w2:=hd.w2
 have w3:=hd.w3
 have w4:=hd.w4
 have w5:=hd.w5
 have hmS:=hd.maxS
 have hmP:=hd.maxP
 refine nI Tryz.func73 rfl Tryz.ntmps73 ?_
 refine yB w1 w2 w3 w4 w5 ?_
 refine oP ?_
 refine CW.loop (ι:=Nat) (fun k=>⟨[(0,.pt 0 [] 0),(29,.t (.sl 1 (ord.map aC))),(30,.t (.int ord.length)),(31,.t (.int k))],[(0,zw d.net d.plan (.sl 1 (d.feeds.map aC)) (.sl 1 (ord.map aC)) (.own 500) (.own 501)),(1,aT (F k)),(500,aT (G k)),(501,aT (O k))]⟩) (fun k=>k≤ord.length) (fun k=>ord.length - k) 0 [(0,some 0),(1,some 1),(500,some 114),(501,some 121)] (by omega) ?_ ?_
 ·simp[go_sem,↓iO,iO,tN,hG0,hO0,LU]
 intro k hk
 by_cases hb:k < ord.length
 ·obtain⟨node,hn⟩:=aa hb
  have c1:=hN k node hn
  have hn2:ord[k]=node:=(List.getElem?_eq_some_iff.1 hn).2
  unfold wq at c1
  obtain⟨F0,hF0⟩:∃ F0,F k=F0:=⟨_,rfl⟩
  obtain⟨G0,hG0⟩:∃ G0,G k=G0:=⟨_,rfl⟩
  obtain⟨O0,hO0⟩:∃ O0,O k=O0:=⟨_,rfl⟩
  obtain⟨F1,hF1⟩:∃ F1,F (k+1)=F1:=⟨_,rfl⟩
  obtain⟨G1,hG1⟩:∃ G1,G (k+1)=G1:=⟨_,rfl⟩
  obtain⟨O1,hO1⟩:∃ O1,O (k+1)=O1:=⟨_,rfl⟩
  rw[hF0,hG0,hO0,hF1,hG1,hO1]at c1
  rw[hF0,hG0,hO0]
  refine fg hn hn2 hb ?_
  refine ax c1 [(0,0),(1,1),(2,500),(3,501)] ?_
  refine ah ?_
  exact nX (k+1) [(0,some 0),(1,some 1),(500,some 500),(501,some 501)] (by omega) (by omega) (Qd hF1 hG1 hO1)
 ·obtain rfl:k=ord.length:=by omega
  obtain⟨F0,hF0⟩:∃ F0,F ord.length=F0:=⟨_,rfl⟩
  obtain⟨G0,hG0⟩:∃ G0,G ord.length=G0:=⟨_,rfl⟩
  obtain⟨O0,hO0⟩:∃ O0,O ord.length=O0:=⟨_,rfl⟩
  rw[hF0,hG0,hO0]
  refine ah ?_
  exact aF [(0,some 0),(1,some 1),(1000,some 500),(1001,some 501)]
theorem gu (n a b:Int) (r:Bool) (h:decide (a≤n∧n≤b)=r):aj Tryz.prog 196 [.t (.int n),.t (.int a),.t (.int b)] [] (.t (.bool r)) []:=by
 subst h
 refine nI Tryz.func196 rfl Tryz.ntmps196 ?_
 by_cases h1:a≤n
 ·by_cases h2:n≤b
  ·refine c9 h1 h2 ?_
   exact BJ h1 h2 []
  ·refine c9 h1 h2 ?_
   exact BJ h1 h2 []
 ·refine aJ h1 ?_
  exact l9 h1 []
structure jB (s:eH):Prop where
 ends:s.1.fr≠s.1.to
 cap:1≤s.1.cp∧s.1.cp≤1000000
 res:0≤s.1.rs∧s.1.rs≤1000
 wav:0≤s.1.wv∧s.1.wv≤100000
 len:2≤s.2.length∧s.2.length≤8
 pts:∀ (k:Nat) (p:Int×Int×Int),s.2[k]? = some p→((-500:Int)≤p.2.1∧p.2.1≤5000)∧(0≤p.2.2∧p.2.2≤100000000)∧∀ q,0 < k→s.2[k - 1]? = some q→q.1 < p.1
 fst:∀ (p:Int×Int×Int),s.2[0]? = some p→p.1=0
 lst:∀ (p:Int×Int×Int),s.2[s.2.length - 1]? = some p→p.1=s.1.cp
theorem LS (s:eH) (h:jB s):aj Tryz.prog 193 [.t (bA s)] [] (.t (.bool true)) []:=by
 obtain⟨⟨nm,fr,to,cp,rs,wv⟩,pts⟩:=s
 obtain⟨h1,h2,h3,h4,h5,h6,h7,h8⟩:=h
 dsimp only at h1 h2 h3 h4 h5 h6 h7 h8
 have c1:=gu cp 1 1000000 true (by simpa using h2)
 have c2:=gu rs 0 1000 true (by simpa using h3)
 have c3:=gu wv 0 100000 true (by simpa using h4)
 refine nI Tryz.func193 rfl Tryz.ntmps193 ?_
 refine aJ h1 ?_
 refine dr h1 c1 [] ?_
 refine aJ h1 ?_
 refine dr h1 c2 [] ?_
 refine aJ h1 ?_
 refine dr h1 c3 [] ?_
 refine aJ h1 ?_
 refine oP ?_
 refine lP (ι:=Nat) (fun k=>⟨[(1,.pt 101 [] 0),(29,.t (.sl 3 (pts.map xf))),(30,.t (.int pts.length)),(31,.t (.int k))],[(101,.box 98 (.t (bA (⟨nm,fr,to,cp,rs,wv⟩,pts))))]⟩) (fun k=>k≤pts.length) (fun k=>pts.length - k) 0 [(101,some 101)] (by omega) ?_
 intro k hk
 by_cases hb:k < pts.length
 ·obtain⟨p,hp⟩:=aa hb
  obtain⟨q1,q2,q3⟩:=h6 k p hp
  obtain⟨at',he,li⟩:=p
  dsimp only at q1 q2 q3
  have d1:=gu he (-500) 5000 true (by simpa using q1)
  have d2:=gu li 0 100000000 true (by simpa using q2)
  have hp2:pts[k]=(at',he,li):=(List.getElem?_eq_some_iff.1 hp).2
  rcases Nat.eq_zero_or_pos k with rfl|h0
  ·refine fg hp hp2 hb ?_
   refine Fu hp hp2 hb d1 [] ?_
   refine fg hp hp2 hb ?_
   refine Fu hp hp2 hb d2 [] ?_
   refine fg hp hp2 hb ?_
   exact nY 1 [(101,some 101)]
  ·obtain⟨q,hq⟩:∃ q,pts[k - 1]? = some q:=aa (by omega)
   have q4:=q3 q h0 hq
   obtain⟨qa,qh,ql⟩:=q
   dsimp only at q4
   have hk1:k - 1 < pts.length:=by omega
   have hq2:pts[k - 1]=(qa,qh,ql):=(List.getElem?_eq_some_iff.1 hq).2
   have e1:((k:Int) - 1).toNat=k - 1:=by omega
   refine fg hp hp2 hb ?_
   refine aY.fn (d1) [] [] [] (by kernel_rfl) ?_ ?_ ?_ (Or.inl rfl) ?_<;>simp[go_sem,↓iO,iO,tN,hp,hp2,hb,h0]
   repeat (refine ba ?_)
   try (refine⟨aZ,?_⟩)
   refine lO hp hp2 hb h0 ?_
   refine aY.fn (d2) [] [] [] (by kernel_rfl) ?_ ?_ ?_ (Or.inl rfl) ?_<;>simp[go_sem,↓iO,iO,tN,hp,hp2,hb,h0,hq,hq2,e1,hk1,q4]
   repeat (first|(refine af rfl ?_;simp[go_sem,↓iO,iO,tN,hp,hp2,hb,h0,hq,hq2,e1,hk1,q4])|refine ba ?_|refine⟨aZ,?_⟩|refine iP ?_|refine iN ?_)
   exact nY (k+1) [(101,some 101)]
 ·obtain rfl:k=pts.length:=by omega
  obtain⟨p,hp⟩:∃ p,pts[0]? = some p:=aa (by omega)
  obtain⟨q,hq⟩:∃ q,pts[pts.length - 1]? = some q:=aa (by omega)
  have g1:=h7 p hp
  have g2:=h8 q hq
  obtain⟨pa,ph,pl⟩:=p
  obtain⟨qa,qh,ql⟩:=q
  dsimp only at g1 g2
  have hp2:pts[0]'(by omega)=(pa,ph,pl):=(List.getElem?_eq_some_iff.1 hp).2
  have hq2:pts[pts.length - 1]'(by omega)=(qa,qh,ql):=(List.getElem?_eq_some_iff.1 hq).2
  have e1:((pts.length:Int) - 1).toNat=pts.length - 1:=by omega
  have e2:0 < pts.length:=by omega
  have e3:pts.length - 1 < pts.length:=by omega
  repeat (first|(refine af rfl ?_;simp[go_sem,↓iO,iO,tN,hp,hp2,hq,hq2,g1,g2,e1,e2,e3])|refine ba ?_|refine⟨aZ,?_⟩|refine iP ?_|refine iN ?_)
  exact aF []
theorem Mn (l:List (eH)) (hlen:l.length≤1000000) (hall:∀ p∈l,aj Tryz.prog 192 [.t (bA p)] [] (.t (.bool false)) []):aj Tryz.prog 255 [.t (.sl 7 (l.map bA)),.fn 192 []] [] (.t (.int (-1))) []:=by
 refine nI Tryz.func255 rfl Tryz.ntmps255 ?_
 refine ah ?_
 refine oP ?_
 refine lP (ι:=Nat) (fun k=>⟨[(0,.t (.sl 7 (l.map bA))),(1,.fn 192 []),(7,.t (.int l.length)),(8,.t (.int k))],[]⟩) (fun k=>k≤l.length) (fun k=>l.length - k) 0 [] (by omega) ?_
 intro k hk
 by_cases hb:k < l.length
 ·obtain⟨p,hp⟩:=aa hb
  have hu:=hall p (au hp)
  refine aJ hp ?_
  refine ax hu [] ?_
  refine ah ?_
  exact nY (k+1) []
 ·obtain rfl:k=l.length:=by omega
  refine ah ?_
  exact aF []
theorem Ah (l:List (eH)) (hlen:l.length≤1000000) (hall:∀ p∈l,aj Tryz.prog 192 [.t (bA p)] [] (.t (.bool false)) []):aj Tryz.prog 185 [.t (.sl 7 (l.map bA)),.fn 192 []] [] (.t (.bool false)) []:=by
 refine nI Tryz.func185 rfl Tryz.ntmps185 ?_
 refine ah ?_
 refine ax (Mn l hlen hall) [] ?_
 refine ah ?_
 exact aF []
theorem MT (l:List (Int)) (hlen:l.length≤1000000) (hall:∀ p∈l,aj Tryz.prog 178 [.t (aC p)] [] (.t (.bool false)) []):aj Tryz.prog 184 [.t (.sl 1 (l.map aC)),.fn 178 []] [] (.t (.int (-1))) []:=by
 refine nI Tryz.func184 rfl Tryz.ntmps184 ?_
 refine ah ?_
 refine oP ?_
 refine lP (ι:=Nat) (fun k=>⟨[(0,.t (.sl 1 (l.map aC))),(1,.fn 178 []),(7,.t (.int l.length)),(8,.t (.int k))],[]⟩) (fun k=>k≤l.length) (fun k=>l.length - k) 0 [] (by omega) ?_
 intro k hk
 by_cases hb:k < l.length
 ·obtain⟨p,hp⟩:=aa hb
  have hu:=hall p (au hp)
  refine aJ hp ?_
  refine ax hu [] ?_
  refine ah ?_
  exact nY (k+1) []
 ·obtain rfl:k=l.length:=by omega
  refine ah ?_
  exact aF []
theorem La (l:List (Int)) (hlen:l.length≤1000000) (hall:∀ p∈l,aj Tryz.prog 178 [.t (aC p)] [] (.t (.bool false)) []):aj Tryz.prog 119 [.t (.sl 1 (l.map aC)),.fn 178 []] [] (.t (.bool false)) []:=by
 refine nI Tryz.func119 rfl Tryz.ntmps119 ?_
 refine ah ?_
 refine ax (MT l hlen hall) [] ?_
 refine ah ?_
 exact aF []
theorem Md (l:List (Int)) (hlen:l.length≤1000000) (hall:∀ p∈l,aj Tryz.prog 143 [.t (aC p)] [] (.t (.bool false)) []):aj Tryz.prog 184 [.t (.sl 1 (l.map aC)),.fn 143 []] [] (.t (.int (-1))) []:=by
 refine nI Tryz.func184 rfl Tryz.ntmps184 ?_
 refine ah ?_
 refine oP ?_
 refine lP (ι:=Nat) (fun k=>⟨[(0,.t (.sl 1 (l.map aC))),(1,.fn 143 []),(7,.t (.int l.length)),(8,.t (.int k))],[]⟩) (fun k=>k≤l.length) (fun k=>l.length - k) 0 [] (by omega) ?_
 intro k hk
 by_cases hb:k < l.length
 ·obtain⟨p,hp⟩:=aa hb
  have hu:=hall p (au hp)
  refine aJ hp ?_
  refine ax hu [] ?_
  refine ah ?_
  exact nY (k+1) []
 ·obtain rfl:k=l.length:=by omega
  refine ah ?_
  exact aF []
theorem Kc (l:List (Int)) (hlen:l.length≤1000000) (hall:∀ p∈l,aj Tryz.prog 143 [.t (aC p)] [] (.t (.bool false)) []):aj Tryz.prog 119 [.t (.sl 1 (l.map aC)),.fn 143 []] [] (.t (.bool false)) []:=by
 refine nI Tryz.func119 rfl Tryz.ntmps119 ?_
 refine ah ?_
 refine ax (Md l hlen hall) [] ?_
 refine ah ?_
 exact aF []
theorem Mg (l:List (List (Int×Int))) (hlen:l.length≤1000000) (hall:∀ p∈l,aj Tryz.prog 215 [.t (aU p)] [] (.t (.bool false)) []):aj Tryz.prog 261 [.t (.sl 1 (l.map aU)),.fn 215 []] [] (.t (.int (-1))) []:=by
 refine nI Tryz.func261 rfl Tryz.ntmps261 ?_
 refine ah ?_
 refine oP ?_
 refine lP (ι:=Nat) (fun k=>⟨[(0,.t (.sl 1 (l.map aU))),(1,.fn 215 []),(7,.t (.int l.length)),(8,.t (.int k))],[]⟩) (fun k=>k≤l.length) (fun k=>l.length - k) 0 [] (by omega) ?_
 intro k hk
 by_cases hb:k < l.length
 ·obtain⟨p,hp⟩:=aa hb
  have hu:=hall p (au hp)
  refine aJ hp ?_
  refine ax hu [] ?_
  refine ah ?_
  exact nY (k+1) []
 ·obtain rfl:k=l.length:=by omega
  refine ah ?_
  exact aF []
theorem IA (l:List (List (Int×Int))) (hlen:l.length≤1000000) (hall:∀ p∈l,aj Tryz.prog 215 [.t (aU p)] [] (.t (.bool false)) []):aj Tryz.prog 214 [.t (.sl 1 (l.map aU)),.fn 215 []] [] (.t (.bool false)) []:=by
 refine nI Tryz.func214 rfl Tryz.ntmps214 ?_
 refine ah ?_
 refine ax (Mg l hlen hall) [] ?_
 refine ah ?_
 exact aF []
theorem xJ (s:eH) (h:jB s):aj Tryz.prog 192 [.t (bA s)] [] (.t (.bool false)) []:=by
 have c:=LS s h
 refine nI Tryz.func192 rfl Tryz.ntmps192 ?_
 refine ah ?_
 refine ax c [] ?_
 refine ah ?_
 exact aF []
theorem wA (n m:Int) (hm:-1000000≤m∧m≤1000000) (h:-m≤n∧n≤m):aj Tryz.prog 177 [.t (.int n),.t (.int m)] [] (.t (.bool true)) []:=by
 obtain⟨h1,h2⟩:=h
 refine nI Tryz.func177 rfl Tryz.ntmps177 ?_
 refine c9 h1 h2 ?_
 exact BJ h1 h2 []
theorem CS (n:Int) (h:-1000≤n∧n≤1000):aj Tryz.prog 178 [.t (.int n)] [] (.t (.bool false)) []:=by
 have c:=wA n 1000 (by omega) h
 refine nI Tryz.func178 rfl Tryz.ntmps178 ?_
 refine ah ?_
 refine ax c [] ?_
 refine ah ?_
 exact aF []
theorem Q5:oH Tryz.prog 247=none:=by kernel_rfl
theorem Rl:dn Tryz.prog 247=some (24,3):=by kernel_rfl
theorem Rm:Tryz.prog.eqGuardType Tryz.prog.depth 247=false:=by kernel_rfl
theorem Rk:zT Tryz.prog 3=true:=by kernel_rfl
theorem Q6:(mV Tryz.prog 3).isSome=true:=by kernel_rfl
theorem Fy:∀ l:List Int,vr Tryz.prog 3 (l.map T.int) (l.map T.int)=some true
 | []=>rfl
 | x :: r=>by simp[vr,PU,Fy r,Q6]
@[go_sem] def aI (k:List Nat):T:=.lit (.string (str k))
abbrev vx:=List Nat×Int×Int×Int×Int
@[go_sem] def eF (s:vx):T:=.agg [.lit (.string (str s.1)),.int s.2.1,.int s.2.2.1,.int s.2.2.2.1,.int s.2.2.2.2]
structure aB where
 nn:List (List Nat)
 segs:List eH
 ports:List jz
 stns:List vx
 vap:Int
 stl:Int
@[go_sem] def aB.l (d:aB):List T:=[.sl 1 (d.nn.map aI),.sl 7 (d.segs.map bA),.sl 3 (d.ports.map dO),.sl 5 (d.stns.map eF),.int d.vap,.int d.stl]
structure iC (k:List Nat):Prop where
 by_:∀ x∈k,x < 256
 fn:aj Tryz.prog 117 [.t (aI k)] [] (.t (.bool true)) []
 az:∀ x∈k,97≤x∧x≤122
 ln:1≤k.length∧k.length≤12
structure eE (d:aB):Prop where
 n0:1≤d.nn.length
 n1:d.nn.length≤24
 s1:d.segs.length≤32
 p1:d.ports.length≤24
 t1:d.stns.length≤12
 nmN:∀ k∈d.nn,iC k
 nmS:∀ s∈d.segs,iC s.1.nm
 nmP:∀ p∈d.ports,iC p.1
 nmT:∀ s∈d.stns,iC s.1
 ndN:d.nn.Nodup
 ndS:(d.segs.map fun s=>s.1.nm).Nodup
 ndP:(d.ports.map fun p=>p.1).Nodup
 QV:(d.stns.map fun s=>s.1).Nodup
 ndU:(d.stns.map fun s=>s.2.1).Nodup
 knS:∀ s∈d.segs,(0≤s.1.fr∧s.1.fr < d.nn.length)∧0≤s.1.to∧s.1.to < d.nn.length
 knP:∀ p∈d.ports,0≤p.2.1∧p.2.1 < d.nn.length
 knT:∀ s∈d.stns,0≤s.2.1∧s.2.1 < d.nn.length
 pipe:∀ s∈d.segs,jB s
 prs:∀ p∈d.ports,0≤p.2.2∧p.2.2≤100000000
 stn:∀ s∈d.stns,(0≤s.2.2.1∧s.2.2.1≤100000000)∧(0≤s.2.2.2.1∧s.2.2.2.1≤100000)∧0≤s.2.2.2.2∧s.2.2.2.2≤100000000
 vap:-100000≤d.vap∧d.vap≤100000000
 stl:0≤d.stl∧d.stl≤100
theorem Av {a b:List Nat} (ha:∀ x∈a,x < 256) (hb:∀ x∈b,x < 256) (h:(str a).toList=(str b).toList):a=b:=by
 rw[kS,kS]at h
 have gen:∀ a b:List Nat,(∀ x∈a,x < 256)→(∀ x∈b,x < 256)→(a.map fun c=>UInt8.ofNat c)=(b.map fun c=>UInt8.ofNat c)→a=b:=by
  intro a
  induction a with
  | nil=>intro b _ _ h;cases b<;>simp_all
  | cons x r ih=>
   intro b ha hb h
   cases b with
   | nil=>simp at h
   | cons y s=>
    simp only[List.map_cons,List.cons.injEq]at h
    have h1:=congrArg UInt8.toNat h.1
    simp at h1
    have hx:=ha x (by simp)
    have hy:=hb y (by simp)
    rw[ih s (fun z hz=>ha z (by simp[hz])) (fun z hz=>hb z (by simp[hz])) h.2]
    congr 1
    omega
 exact gen a b ha hb h
theorem LQ (l:List (eH)) (hlen:l.length≤1000000) (hall:∀ p∈l,aj Tryz.prog 186 [.t (bA p)] [] (.t (.bool false)) []):aj Tryz.prog 255 [.t (.sl 7 (l.map bA)),.fn 186 []] [] (.t (.int (-1))) []:=by
 refine nI Tryz.func255 rfl Tryz.ntmps255 ?_
 refine ah ?_
 refine oP ?_
 refine lP (ι:=Nat) (fun k=>⟨[(0,.t (.sl 7 (l.map bA))),(1,.fn 186 []),(7,.t (.int l.length)),(8,.t (.int k))],[]⟩) (fun k=>k≤l.length) (fun k=>l.length - k) 0 [] (by omega) ?_
 intro k hk
 by_cases hb:k < l.length
 ·obtain⟨p,hp⟩:=aa hb
  have hu:=hall p (au hp)
  refine aJ hp ?_
  refine ax hu [] ?_
  refine ah ?_
  exact nY (k+1) []
 ·obtain rfl:k=l.length:=by omega
  refine ah ?_
  exact aF []
theorem KW (l:List (eH)) (hlen:l.length≤1000000) (hall:∀ p∈l,aj Tryz.prog 186 [.t (bA p)] [] (.t (.bool false)) []):aj Tryz.prog 185 [.t (.sl 7 (l.map bA)),.fn 186 []] [] (.t (.bool false)) []:=by
 refine nI Tryz.func185 rfl Tryz.ntmps185 ?_
 refine ah ?_
 refine ax (LQ l hlen hall) [] ?_
 refine ah ?_
 exact aF []
theorem M1 (l:List (List Nat)) (hlen:l.length≤1000000) (hall:∀ p∈l,aj Tryz.prog 124 [.t (aI p)] [] (.t (.bool false)) []):aj Tryz.prog 187 [.t (.sl 1 (l.map aI)),.fn 124 []] [] (.t (.int (-1))) []:=by
 refine nI Tryz.func187 rfl Tryz.ntmps187 ?_
 refine ah ?_
 refine oP ?_
 refine lP (ι:=Nat) (fun k=>⟨[(0,.t (.sl 1 (l.map aI))),(1,.fn 124 []),(7,.t (.int l.length)),(8,.t (.int k))],[]⟩) (fun k=>k≤l.length) (fun k=>l.length - k) 0 [] (by omega) ?_
 intro k hk
 by_cases hb:k < l.length
 ·obtain⟨p,hp⟩:=aa hb
  have hu:=hall p (au hp)
  refine aJ hp ?_
  refine ax hu [] ?_
  refine ah ?_
  exact nY (k+1) []
 ·obtain rfl:k=l.length:=by omega
  refine ah ?_
  exact aF []
theorem JZ (l:List (List Nat)) (hlen:l.length≤1000000) (hall:∀ p∈l,aj Tryz.prog 124 [.t (aI p)] [] (.t (.bool false)) []):aj Tryz.prog 123 [.t (.sl 1 (l.map aI)),.fn 124 []] [] (.t (.bool false)) []:=by
 refine nI Tryz.func123 rfl Tryz.ntmps123 ?_
 refine ah ?_
 refine ax (M1 l hlen hall) [] ?_
 refine ah ?_
 exact aF []
theorem MK (l:List (jz)) (hlen:l.length≤1000000) (hall:∀ p∈l,aj Tryz.prog 195 [.t (dO p)] [] (.t (.bool false)) []):aj Tryz.prog 256 [.t (.sl 3 (l.map dO)),.fn 195 []] [] (.t (.int (-1))) []:=by
 refine nI Tryz.func256 rfl Tryz.ntmps256 ?_
 refine ah ?_
 refine oP ?_
 refine lP (ι:=Nat) (fun k=>⟨[(0,.t (.sl 3 (l.map dO))),(1,.fn 195 []),(7,.t (.int l.length)),(8,.t (.int k))],[]⟩) (fun k=>k≤l.length) (fun k=>l.length - k) 0 [] (by omega) ?_
 intro k hk
 by_cases hb:k < l.length
 ·obtain⟨p,hp⟩:=aa hb
  have hu:=hall p (au hp)
  refine aJ hp ?_
  refine ax hu [] ?_
  refine ah ?_
  exact nY (k+1) []
 ·obtain rfl:k=l.length:=by omega
  refine ah ?_
  exact aF []
theorem IC (l:List (jz)) (hlen:l.length≤1000000) (hall:∀ p∈l,aj Tryz.prog 195 [.t (dO p)] [] (.t (.bool false)) []):aj Tryz.prog 194 [.t (.sl 3 (l.map dO)),.fn 195 []] [] (.t (.bool false)) []:=by
 refine nI Tryz.func194 rfl Tryz.ntmps194 ?_
 refine ah ?_
 refine ax (MK l hlen hall) [] ?_
 refine ah ?_
 exact aF []
theorem MP (l:List (vx)) (hlen:l.length≤1000000) (hall:∀ p∈l,aj Tryz.prog 198 [.t (eF p)] [] (.t (.bool false)) []):aj Tryz.prog 189 [.t (.sl 5 (l.map eF)),.fn 198 []] [] (.t (.int (-1))) []:=by
 refine nI Tryz.func189 rfl Tryz.ntmps189 ?_
 refine ah ?_
 refine oP ?_
 refine lP (ι:=Nat) (fun k=>⟨[(0,.t (.sl 5 (l.map eF))),(1,.fn 198 []),(7,.t (.int l.length)),(8,.t (.int k))],[]⟩) (fun k=>k≤l.length) (fun k=>l.length - k) 0 [] (by omega) ?_
 intro k hk
 by_cases hb:k < l.length
 ·obtain⟨p,hp⟩:=aa hb
  have hu:=hall p (au hp)
  refine aJ hp ?_
  refine ax hu [] ?_
  refine ah ?_
  exact nY (k+1) []
 ·obtain rfl:k=l.length:=by omega
  refine ah ?_
  exact aF []
theorem K8 (l:List (vx)) (hlen:l.length≤1000000) (hall:∀ p∈l,aj Tryz.prog 198 [.t (eF p)] [] (.t (.bool false)) []):aj Tryz.prog 197 [.t (.sl 5 (l.map eF)),.fn 198 []] [] (.t (.bool false)) []:=by
 refine nI Tryz.func197 rfl Tryz.ntmps197 ?_
 refine ah ?_
 refine ax (MP l hlen hall) [] ?_
 refine ah ?_
 exact aF []
theorem LZ (s:eH) (h:2≤s.2.length∧s.2.length≤8):aj Tryz.prog 186 [.t (bA s)] [] (.t (.bool false)) []:=by
 obtain⟨h1,h2⟩:=h
 obtain⟨⟨nm,fr,to,cp,rs,wv⟩,pts⟩:=s
 dsimp only at h1 h2
 refine nI Tryz.func186 rfl Tryz.ntmps186 ?_
 refine c9 h1 h2 ?_
 first|rw[av]|rw[ae]
 refine⟨[],?_⟩
 simp[go_sem,↓iO,iO,tN,h1,h2]
 omega
theorem Cq {α:Type} (l:List α) (f:α→T):∃ A:Nat→List T,A 0=[]∧(∀ (k:Nat) x,l[k]? = some x→A (k+1)=A k++[f x])∧(∀ k,k≤l.length→(A k).length=k)∧A l.length=l.map f:=by
 refine⟨fun k=>(l.take k).map f,rfl,fun k x hx=>?_,fun k hk=>by simp;omega,by simp⟩
 obtain⟨hk,e⟩:=List.getElem?_eq_some_iff.1 hx
 show (l.take (k+1)).map f=(l.take k).map f++[f x]
 rw[List.take_succ_eq_append_getElem hk,e];simp
theorem G5 (d:aB) (h:eE d):aj Tryz.prog 121 [.t (.agg d.l)] [] (.t (.bool true)) []:=by
 have h1:=h.n0
 have h2:=h.n1
 have h3:=h.s1
 have h4:=h.p1
 have h5:=h.t1
 have c:=KW d.segs (by omega) (fun s hs=>LZ s (h.pipe s hs).len)
 refine nI Tryz.func121 rfl Tryz.ntmps121 ?_
 refine yB h1 h2 h3 h4 h5 ?_
 refine ax c [] ?_
 refine ah ?_
 exact aF []
theorem xw (d:aB) (h:eE d) (f:Nat) (hf:f=122∨f=224):aj Tryz.prog f [.t (.agg d.l)] [] (.t (.agg [.sl 1 (d.nn.map aI),.sl 1 (d.segs.map fun s=>aI s.1.nm),.sl 1 (d.ports.map fun p=>aI p.1),.sl 1 (d.stns.map fun s=>aI s.1)])) []:=by
 have h3:=h.s1
 have h4:=h.p1
 have h5:=h.t1
 obtain⟨NS,s0,ss,sl,se⟩:=Cq d.segs (fun s=>aI s.1.nm)
 obtain⟨NP,p0,ps,pl,pe⟩:=Cq d.ports (fun s=>aI s.1)
 obtain⟨NT,t0,ts,tl,te⟩:=Cq d.stns (fun s=>aI s.1)
 rcases hf with rfl|rfl
 refine nI Tryz.func122 rfl Tryz.ntmps122 ?_
 rotate_left;refine nI Tryz.func224 rfl Tryz.ntmps224 ?_
 all_goals
  refine ah ?_
  refine oP ?_
  refine CW.loop (ι:=Nat) (fun k=>⟨[(1,.pt 501 [] 0),(2,.pt 502 [] 0),(3,.pt 503 [] 0),(14,.t (.sl 7 (d.segs.map bA))),(15,.t (.int d.segs.length)),(16,.t (.int k))],[(501,.box 32 (.t (.agg d.l))),(502,.box 208 (.t (.agg [.lit (.slice none 0 0),.lit (.slice none 0 0),.lit (.slice none 0 0),.lit (.slice none 0 0)]))),(503,.box 208 (.ag [.t (.sl 1 (d.nn.map aI)),.own 510,.t (.lit (.slice none 0 0)),.t (.lit (.slice none 0 0))])),(510,.list 9 1 (NS k))]⟩)
   (fun k=>k≤d.segs.length) (fun k=>d.segs.length - k) 0 [(501,some 101),(502,some 102),(503,some 103),(510,none)] (by omega) ?_ ?_
  ·simp[go_sem,↓iO,iO,tN,s0]
   simp only[bZ]
   exact⟨bx _,rfl,rfl,rfl,bx _,rfl,bx _,rfl,trivial⟩
  intro k hk
  by_cases hb:k < d.segs.length
  ·obtain⟨s,hs⟩:=aa hb
   have e1:=ss k _ hs
   have e2:=sl k (by omega)
   obtain⟨⟨nm,fr,to,cp,rs,wv⟩,pts⟩:=s
   dsimp only at e1
   simp only[aI]at e1
   obtain⟨A,hA⟩:∃ A,NS k=A:=⟨_,rfl⟩
   rw[hA]at e1 e2 ⊢
   refine c9 hs e2 ?_
   exact nX (k+1) [(501,some 501),(502,some 502),(503,some 503),(510,some 125)] (by omega) (by omega) (dJ e1)
  ·obtain rfl:k=d.segs.length:=by omega
   rw[se]
   obtain⟨AS,hAS⟩:∃ A,d.segs.map (fun s=>aI s.1.nm)=A:=⟨_,rfl⟩
   rw[hAS]
   refine ah ?_
   refine oP ?_
   refine CW.loop (ι:=Nat) (fun k=>⟨[(1,.pt 501 [] 0),(2,.pt 502 [] 0),(3,.pt 503 [] 0),(29,.t (.sl 3 (d.ports.map dO))),(30,.t (.int d.ports.length)),(31,.t (.int k))],[(501,.box 32 (.t (.agg d.l))),(502,.box 208 (.t (.agg [.lit (.slice none 0 0),.lit (.slice none 0 0),.lit (.slice none 0 0),.lit (.slice none 0 0)]))),(503,.box 208 (.ag [.t (.sl 1 (d.nn.map aI)),.t (.sl 1 AS),.own 511,.t (.lit (.slice none 0 0))])),(511,.list 9 1 (NP k))]⟩)
    (fun k=>k≤d.ports.length) (fun k=>d.ports.length - k) 0 [(501,some 501),(502,some 502),(503,some 503),(511,none)] (by omega) ?_ ?_
   ·exact dJ p0
   intro k hk
   by_cases hb:k < d.ports.length
   ·obtain⟨s,hs⟩:=aa hb
    have e1:=ps k _ hs
    have e2:=pl k (by omega)
    obtain⟨nm,nd,pr⟩:=s
    dsimp only at e1
    simp only[aI]at e1
    obtain⟨A,hA⟩:∃ A,NP k=A:=⟨_,rfl⟩
    rw[hA]at e1 e2 ⊢
    refine c9 hs e2 ?_
    exact nX (k+1) [(501,some 501),(502,some 502),(503,some 503),(511,some 140)] (by omega) (by omega) (dJ e1)
   ·obtain rfl:k=d.ports.length:=by omega
    rw[pe]
    obtain⟨AP,hAP⟩:∃ A,d.ports.map (fun s=>aI s.1)=A:=⟨_,rfl⟩
    rw[hAP]
    refine ah ?_
    refine oP ?_
    refine CW.loop (ι:=Nat) (fun k=>⟨[(1,.pt 501 [] 0),(2,.pt 502 [] 0),(3,.pt 503 [] 0),(44,.t (.sl 5 (d.stns.map eF))),(45,.t (.int d.stns.length)),(46,.t (.int k))],[(501,.box 32 (.t (.agg d.l))),(502,.box 208 (.t (.agg [.lit (.slice none 0 0),.lit (.slice none 0 0),.lit (.slice none 0 0),.lit (.slice none 0 0)]))),(503,.box 208 (.ag [.t (.sl 1 (d.nn.map aI)),.t (.sl 1 AS),.t (.sl 1 AP),.own 512])),(512,.list 9 1 (NT k))]⟩)
     (fun k=>k≤d.stns.length) (fun k=>d.stns.length - k) 0 [(501,some 501),(502,some 502),(503,some 503),(512,none)] (by omega) ?_ ?_
    ·exact dJ t0
    intro k hk
    by_cases hb:k < d.stns.length
    ·obtain⟨s,hs⟩:=aa hb
     have e1:=ts k _ hs
     have e2:=tl k (by omega)
     obtain⟨nm,nd,hd1,fl,su⟩:=s
     dsimp only at e1
     simp only[aI]at e1
     obtain⟨A,hA⟩:∃ A,NT k=A:=⟨_,rfl⟩
     rw[hA]at e1 e2 ⊢
     refine c9 hs e2 ?_
     exact nX (k+1) [(501,some 501),(502,some 502),(503,some 503),(512,some 155)] (by omega) (by omega) (dJ e1)
    ·obtain rfl:k=d.stns.length:=by omega
     rw[te]
     obtain⟨AT,hAT⟩:∃ A,d.stns.map (fun s=>aI s.1)=A:=⟨_,rfl⟩
     rw[hAT]
     refine ah ?_
     first|rw[av]|rw[ae]
     refine⟨[],?_⟩
     simp[go_sem,↓iO,iO,tN,hAS,hAP,hAT]
     exact⟨hAS.symm,hAP.symm,hAT.symm⟩
theorem KZ (d:aB) (h:eE d):aj Tryz.prog 122 [.t (.agg d.l)] [] (.t (.agg [.sl 1 (d.nn.map aI),.sl 1 (d.segs.map fun s=>aI s.1.nm),.sl 1 (d.ports.map fun p=>aI p.1),.sl 1 (d.stns.map fun s=>aI s.1)])) []:=xw d h _ (.inl rfl)
theorem lz {α:Type}:∀ {l:List α},l.Nodup→∀ {i j:Nat} {a b:α},i < j→l[i]? = some a→l[j]? = some b→a≠b
 | [],_,i,j,a,b,_,h,_=>by simp at h
 | x :: r,hn,0,j+1,a,b,_,h,g=>by
  simp only[List.getElem?_cons_zero,Option.some.injEq,List.getElem?_cons_succ]at h g
  subst h
  exact fun e=>(List.nodup_cons.1 hn).1 (e ▸ au g)
 | x :: r,hn,i+1,j+1,a,b,hij,h,g=>by
  simp only[List.getElem?_cons_succ]at h g
  exact lz (List.nodup_cons.1 hn).2 (by omega) h g
theorem sI (l:List (List Nat)) (hlen:l.length≤1000000) (hb:∀ k∈l,∀ x∈k,x < 256) (hnd:l.Nodup) (i:Nat) (k:List Nat) (hi:l[i]? = some k):aj Tryz.prog 188 [.t (.sl 1 (l.map aI)),.t (aI k)] [] (.t (.int i)) []:=by
 have hil:=(List.getElem?_eq_some_iff.1 hi).1
 refine nI Tryz.func188 rfl Tryz.ntmps188 ?_
 refine ah ?_
 refine oP ?_
 refine lP (ι:=Nat) (fun j=>⟨[(0,.t (.sl 1 (l.map aI))),(1,.t (aI k)),(7,.t (.int l.length)),(8,.t (.int j))],[]⟩) (fun j=>j≤i) (fun j=>i - j) 0 [] (by omega) ?_
 intro j hj
 by_cases he:j < i
 ·obtain⟨m,hm⟩:∃ m,l[j]? = some m:=aa (by omega)
  have hjl:j < l.length:=by omega
  have hne:¬ (str k).toList=(str m).toList:=fun e=>by
   have:=Av (hb k (au hi)) (hb m (au hm)) e
   subst this
   exact lz hnd he hm hi rfl
  refine c9 hm hne ?_
  exact nY (j+1) []
 ·obtain rfl:j=i:=by omega
  refine aJ hi ?_
  exact aF []
theorem It (x s:vx) (b:Bool) (hb:decide (x.2.1=s.2.1)=b):aj Tryz.prog 190 [.t (eF x),.pt 0 [] 0] [(0,.box 103 (.t (eF s)))] (.t (.bool b)) [(0,.box 103 (.t (eF s)))]:=by
 subst hb
 obtain⟨x1,x2,x3,x4,x5⟩:=x
 obtain⟨s1,s2,s3,s4,s5⟩:=s
 refine nI Tryz.func190 rfl Tryz.ntmps190 ?_
 refine ah ?_
 exact aF [(0,some 0)]
theorem Mz (l:List vx) (hlen:l.length≤1000000) (hnd:(l.map fun s=>s.2.1).Nodup) (i:Nat) (s:vx) (hi:l[i]? = some s) :
  aj Tryz.prog 189 [.t (.sl 5 (l.map eF)),.fn 190 [.pt 0 [] 0]] [(0,.box 103 (.t (eF s)))] (.t (.int i)) [(0,.box 103 (.t (eF s)))]:=by
 have hil:=(List.getElem?_eq_some_iff.1 hi).1
 refine nI Tryz.func189 rfl Tryz.ntmps189 ?_
 refine ah ?_
 refine oP ?_
 refine lP (ι:=Nat) (fun j=>⟨[(0,.t (.sl 5 (l.map eF))),(1,.fn 190 [.pt 0 [] 0]),(7,.t (.int l.length)),(8,.t (.int j))],[(0,.box 103 (.t (eF s)))]⟩) (fun j=>j≤i) (fun j=>i - j) 0 [(0,some 0)] (by omega) ?_
 intro j hj
 by_cases he:j < i
 ·obtain⟨m,hm⟩:∃ m,l[j]? = some m:=aa (by omega)
  have hjl:j < l.length:=by omega
  have hne:¬ m.2.1=s.2.1:=fun e=>by
   have h1:(l.map fun s=>s.2.1)[j]? = some m.2.1:=by rw[List.getElem?_map,hm];rfl
   have h2:(l.map fun s=>s.2.1)[i]? = some s.2.1:=by rw[List.getElem?_map,hi];rfl
   exact lz hnd he h1 h2 e
  have c:=It m s false (by simpa using hne)
  refine aJ hm ?_
  refine dr hm c [(0,0)] ?_
  refine aJ hm ?_
  exact nY (j+1) [(0,some 0)]
 ·obtain rfl:j=i:=by omega
  have c:=It s s true (by simp)
  refine aJ hi ?_
  refine dr hi c [(0,0)] ?_
  refine aJ hi ?_
  exact aF [(0,some 0)]
def aB.ns (d:aB):Nat→List (List Nat)
 | 0=>d.nn
 | 1=>d.segs.map fun s=>s.1.nm
 | 2=>d.ports.map fun p=>p.1
 | _=>d.stns.map fun s=>s.1
theorem qX (d:aB) (h:eE d) (i:Nat):(d.ns i).length≤32∧(∀ k∈d.ns i,iC k)∧(d.ns i).Nodup:=by
 match i with
 | 0=>exact⟨by have:=h.n1;simp only[aB.ns];omega,h.nmN,h.ndN⟩
 | 1=>exact⟨by have:=h.s1;simp[aB.ns];omega,fun k hk=>by simp only[aB.ns]at hk;obtain⟨s,hs,rfl⟩:=List.mem_map.1 hk;exact h.nmS s hs,h.ndS⟩
 | 2=>exact⟨by have:=h.p1;simp[aB.ns];omega,fun k hk=>by simp only[aB.ns]at hk;obtain⟨s,hs,rfl⟩:=List.mem_map.1 hk;exact h.nmP s hs,h.ndP⟩
 | i+3=>exact⟨by have:=h.t1;simp[aB.ns];omega,fun k hk=>by simp only[aB.ns]at hk;obtain⟨s,hs,rfl⟩:=List.mem_map.1 hk;exact h.nmT s hs,h.QV⟩
abbrev aB.nt (d:aB):T:=.agg [.sl 1 ((d.ns 0).map aI),.sl 1 ((d.ns 1).map aI),.sl 1 ((d.ns 2).map aI),.sl 1 ((d.ns 3).map aI)]
theorem wX (d:aB) (h:eE d):aj Tryz.prog 122 [.t (.agg d.l)] [] (.t d.nt) []:=by
 have:=KZ d h
 simp only[aB.nt,aB.ns,List.map_map,Function.comp_def]
 exact this
theorem Lk (d:aB) (h:eE d):aj Tryz.prog 125 [.t (.agg d.l)] [] (.t (.bool false)) []:=by
 have c1:=wX d h
 have h5:=h.t1
 obtain⟨N0,hN0⟩:∃ N,d.nt=N:=⟨_,rfl⟩
 have hgt:∀ i:Nat,i < 4→∃ l:List (List Nat),d.ns i=l∧l.length≤32∧(∀ k∈l,iC k)∧l.Nodup:=fun i _=>⟨_,rfl,(qX d h i).1,(qX d h i).2.1,(qX d h i).2.2⟩
 obtain⟨l0,e0,a0,b0,n0⟩:=hgt 0 (by omega)
 obtain⟨l1,e1,a1,b1,n1⟩:=hgt 1 (by omega)
 obtain⟨l2,e2,a2,b2,n2⟩:=hgt 2 (by omega)
 obtain⟨l3,e3,a3,b3,n3⟩:=hgt 3 (by omega)
 have hN:d.nt = .agg [.sl 1 (l0.map aI),.sl 1 (l1.map aI),.sl 1 (l2.map aI),.sl 1 (l3.map aI)]:=by simp only[aB.nt,e0,e1,e2,e3]
 rw[hN]at c1
 clear hN hN0 e0 e1 e2 e3 hgt
 refine nI Tryz.func125 rfl Tryz.ntmps125 ?_
 refine ah ?_
 refine ax c1 [] ?_
 refine ah ?_
 refine oP ?_
 refine lP (ι:=Nat) (fun q=>⟨[(1,.pt 501 [] 0),(10,.t (.agg [.sl 1 (l0.map aI),.sl 1 (l1.map aI),.sl 1 (l2.map aI),.sl 1 (l3.map aI)])),(11,.t (.int q))],[(501,.box 32 (.t (.agg d.l)))]⟩) (fun q=>q≤4) (fun q=>4 - q) 0 [(501,some 101)] (by omega) ?_
 intro q hq
 have h4:q=0∨q=1∨q=2∨q=3∨q=4:=by omega
 rcases h4 with rfl|rfl|rfl|rfl|rfl
 ·refine ah ?_
  refine oP ?_
  refine lP (ι:=Nat) (fun i=>⟨[(1,.pt 501 [] 0),(4,.t (.sl 1 (l0.map aI))),(10,.t (.agg [.sl 1 (l0.map aI),.sl 1 (l1.map aI),.sl 1 (l2.map aI),.sl 1 (l3.map aI)])),(11,.t (.int (0:Nat))),(14,.t (.sl 1 (l0.map aI))),(15,.t (.int l0.length)),(16,.t (.int i))],[(501,.box 32 (.t (.agg d.l)))]⟩) (fun i=>i≤l0.length) (fun i=>l0.length - i) 0 [(501,some 501)] (by omega) ?_
  intro i hi
  by_cases hb:i < l0.length
  ·obtain⟨k,hk⟩:=aa hb
   have c:=sI l0 (by omega) (fun m hm=>(b0 m hm).by_) n0 i k hk
   refine aJ hk ?_
   refine dr hk c [] ?_
   refine aJ hk ?_
   exact nY (i+1) [(501,some 501)]
  ·obtain rfl:i=l0.length:=by omega
   refine ah ?_
   exact nY 1 [(501,some 501)]
 ·refine ah ?_
  refine oP ?_
  refine lP (ι:=Nat) (fun i=>⟨[(1,.pt 501 [] 0),(4,.t (.sl 1 (l1.map aI))),(10,.t (.agg [.sl 1 (l0.map aI),.sl 1 (l1.map aI),.sl 1 (l2.map aI),.sl 1 (l3.map aI)])),(11,.t (.int (1:Nat))),(14,.t (.sl 1 (l1.map aI))),(15,.t (.int l1.length)),(16,.t (.int i))],[(501,.box 32 (.t (.agg d.l)))]⟩) (fun i=>i≤l1.length) (fun i=>l1.length - i) 0 [(501,some 501)] (by omega) ?_
  intro i hi
  by_cases hb:i < l1.length
  ·obtain⟨k,hk⟩:=aa hb
   have c:=sI l1 (by omega) (fun m hm=>(b1 m hm).by_) n1 i k hk
   refine aJ hk ?_
   refine dr hk c [] ?_
   refine aJ hk ?_
   exact nY (i+1) [(501,some 501)]
  ·obtain rfl:i=l1.length:=by omega
   refine ah ?_
   exact nY 2 [(501,some 501)]
 ·refine ah ?_
  refine oP ?_
  refine lP (ι:=Nat) (fun i=>⟨[(1,.pt 501 [] 0),(4,.t (.sl 1 (l2.map aI))),(10,.t (.agg [.sl 1 (l0.map aI),.sl 1 (l1.map aI),.sl 1 (l2.map aI),.sl 1 (l3.map aI)])),(11,.t (.int (2:Nat))),(14,.t (.sl 1 (l2.map aI))),(15,.t (.int l2.length)),(16,.t (.int i))],[(501,.box 32 (.t (.agg d.l)))]⟩) (fun i=>i≤l2.length) (fun i=>l2.length - i) 0 [(501,some 501)] (by omega) ?_
  intro i hi
  by_cases hb:i < l2.length
  ·obtain⟨k,hk⟩:=aa hb
   have c:=sI l2 (by omega) (fun m hm=>(b2 m hm).by_) n2 i k hk
   refine aJ hk ?_
   refine dr hk c [] ?_
   refine aJ hk ?_
   exact nY (i+1) [(501,some 501)]
  ·obtain rfl:i=l2.length:=by omega
   refine ah ?_
   exact nY 3 [(501,some 501)]
 ·refine ah ?_
  refine oP ?_
  refine lP (ι:=Nat) (fun i=>⟨[(1,.pt 501 [] 0),(4,.t (.sl 1 (l3.map aI))),(10,.t (.agg [.sl 1 (l0.map aI),.sl 1 (l1.map aI),.sl 1 (l2.map aI),.sl 1 (l3.map aI)])),(11,.t (.int (3:Nat))),(14,.t (.sl 1 (l3.map aI))),(15,.t (.int l3.length)),(16,.t (.int i))],[(501,.box 32 (.t (.agg d.l)))]⟩) (fun i=>i≤l3.length) (fun i=>l3.length - i) 0 [(501,some 501)] (by omega) ?_
  intro i hi
  by_cases hb:i < l3.length
  ·obtain⟨k,hk⟩:=aa hb
   have c:=sI l3 (by omega) (fun m hm=>(b3 m hm).by_) n3 i k hk
   refine aJ hk ?_
   refine dr hk c [] ?_
   refine aJ hk ?_
   exact nY (i+1) [(501,some 501)]
  ·obtain rfl:i=l3.length:=by omega
   refine ah ?_
   exact nY 4 [(501,some 501)]
 ·refine ah ?_
  refine oP ?_
  refine lP (ι:=Nat) (fun i=>⟨[(1,.pt 501 [] 0),(29,.t (.sl 5 (d.stns.map eF))),(30,.t (.int d.stns.length)),(31,.t (.int i))],[(501,.box 32 (.t (.agg d.l)))]⟩) (fun i=>i≤d.stns.length) (fun i=>d.stns.length - i) 0 [(501,some 501)] (by omega) ?_
  intro i hi
  by_cases hb:i < d.stns.length
  ·obtain⟨s,hs⟩:=aa hb
   have c:=Mz d.stns (by omega) h.ndU i s hs
   obtain⟨s1,s2,s3,s4,s5⟩:=s
   refine aJ hs ?_
   refine dr hs c [(0,108)] ?_
   refine aJ hs ?_
   exact nY (i+1) [(501,some 501)]
  ·obtain rfl:i=d.stns.length:=by omega
   refine ah ?_
   exact aF []
end Go.Proofs.YtocndodilpimnaaGreat
