/- Several texts of this proof, one behind the other. No condition. -/
import Derived.Test.YtocndodilpimnaaGreatTThesB28
import Derived.Test.YtocndodilpimnaaGreatTThesB29
import Derived.Test.YtocndodilpimnaaGreatTThesB18
set_option maxRecDepth 100000
set_option maxHeartbeats 16000000
set_option linter.unusedVariables false
set_option linter.unusedSimpArgs false
namespace Go.Proofs.YtocndodilpimnaaGreat
open Go.RowKit Sy
open Go.IntWalk renaming iteOmega → iO, toNatUp → tN
theorem PH (l:List Int) (hl:l.length≤9223372036854775807):aj Tryz.prog 4 [.t (bB l)] [] (.t (.bool (decide (l.length≤400)))) []:=by
 by_cases h:l.length≤400
 ·refine nI Tryz.func4 rfl Tryz.ntmps4 ?_
  refine aJ h ?_
  first|rw[av]|rw[ae]
  refine⟨[],?_⟩
  simp[go_sem,↓iO,iO,tN,h]
  omega
 ·refine nI Tryz.func4 rfl Tryz.ntmps4 ?_
  refine aJ h ?_
  first|rw[av]|rw[ae]
  refine⟨[],?_⟩
  simp[go_sem,↓iO,iO,tN,h]
  omega
def AH (l:List Int):List Int:=l.take 2000
theorem OV (l:List Int) (hl:l.length≤9223372036854775807):aj Tryz.prog 6 [.t (bB l)] [] (.pt 1000 [] 0) [(1000,bu (AH l) 0)]:=by
 have hmin:(min (l.length:Int) 2000).toNat=min l.length 2000:=by omega
 have h0:0≤min (l.length:Int) 2000∧min (l.length:Int) 2000≤l.length:=by omega
 refine nI Tryz.func6 rfl Tryz.ntmps6 ?_
 repeat (first|(refine af rfl ?_;simp[go_sem,↓iO,iO,tN,hmin,h0.1,h0.2])|refine ba ?_|refine⟨aZ,?_⟩|refine iP ?_|refine iN ?_)
 first|rw[av]|rw[ae]
 refine⟨[(1000,some 109)],?_⟩
 simp[go_sem,↓iO,iO,tN,AH]
 omega
theorem Oh {l:List Int} (wf:∀ z∈l,-9223372036854775808≤z∧z≤9223372036854775807):aV (AH l) 0:=
 ⟨by unfold AH;simp;omega,Nat.zero_le _,fun z hz=>wf z (List.mem_of_mem_take hz)⟩
theorem Nj (d:aB) (hd:bq d) (h1:1≤d.segs.length) (rs:List Rc) (C:Nat→Ce) (hC:vw d rs C) (hl:rs.length≤10) (i:Nat) (r:Rc) (hr:rs[i]? = some r) (v:Nat) (hv:v≤(fr (dg r)).length) :
  ∃ (b:Bool) (g:Fl),(v=(fr (dg r)).length→b=true)∧
   aj Tryz.prog 15 [.t (dX ⟨ee (fE rs i),fr (dg r)⟩),.t (.int v)] [] (.t (dX g)) []∧
   aj Tryz.prog 14 [.t (.agg d.l),.t (.int 2),.t (dX g)] [] (.tup [.t (dX ⟨bif b then ee (fE rs (i+1)) else ee (fE rs i),[]⟩),.t (bw (bif b then C (i+1) else C i)),.t (.int 0)]) []:=by
 obtain⟨x,g,hx,hv2,c1,c2⟩:=KM d hd h1 rs C hC hl i r hr v hv
 rcases hx with rfl|rfl
 ·exact⟨false,g,fun h=>by have:=hv2 h;omega,c1,c2⟩
 ·exact⟨true,g,fun _=>rfl,c1,c2⟩
theorem Cy (l:List Int) (hl:l.length≤9223372036854775807) (wf:∀ z∈l,-9223372036854775808≤z∧z≤9223372036854775807):aj Tryz.prog 3 [.t (bB l)] [] (.t (.bool true)) []:=by
 have cfew:=PH l hl
 have cA:aj Tryz.prog 5 [] [] (.t (.bool true)) []:=Hr
 by_cases h4:l.length≤400
 ·rw[show decide (l.length≤400)=true by simpa using h4]at cfew
  have cnew:=OV l hl
  have h0:=Oh wf
  obtain⟨s,hs⟩:∃ s,AH l=s:=⟨_,rfl⟩
  rw[hs]at cnew h0
  obtain⟨k1,d,hk1,hnet,hds,hdp,hdn,hdt,_,c2⟩:=C5 s 0 h0
  have hd:bq d:=⟨hnet,hds.2,hdp.1,hdp.2,hdn,hdt⟩
  have h1:=hds.1
  obtain⟨k2,cz,rs,C,hk2,hrl,hC,c3⟩:=AM hk1 d hd h1
  have cN:=Fw d hd
  have C0:C 0=Na d:=hC.1
  have X0:ee (fE rs 0)=[]:=by simp[fE,ee]
  refine nI Tryz.func3 rfl Tryz.ntmps3 ?_
  refine ah ?_
  refine ax cfew [] ?_
  refine ah ?_
  refine ax cnew [(1000,120)] ?_
  refine ah ?_
  refine ax c2 [(0,120)] ?_
  refine ah ?_
  refine ax c3 [(0,120)] ?_
  refine ah ?_
  refine ax cN [] ?_
  refine ah ?_
  refine ax cN [] ?_
  refine ah ?_
  refine oP ?_
  refine CW.loop (ι:=Nat×Nat) (fun p=>⟨[(3,.pt 503 [] 0),(4,.pt 504 [] 0),(6,.t (.sl 12 (rs.map dH))),(7,.pt 507 [] 0),(9,.pt 509 [] 0),(11,.pt 511 [] 0),(12,.pt 512 [] 0),(13,.t (.int p.1))],[(503,bu s p.2),(504,.box 32 (.t (.agg d.l))),(507,.box 43 (.t (bw (C p.1)))),(509,.box 43 (.t (bw (C p.1)))),(511,.box 52 (.t (dX ⟨ee (fE rs p.1),[]⟩))),(512,.box 52 (.t (dX ⟨ee (fE rs p.1),[]⟩)))]⟩)
   (fun p=>p.1≤rs.length∧aV s p.2) (fun p=>rs.length - p.1) (0,k2) [(503,some 120),(504,some 104),(507,some 107),(509,some 109),(511,some 111),(512,some 112)] ⟨by dsimp only;omega,hk2⟩ ?_ ?_
  ·exact sw C0 X0
  rintro ⟨i,k⟩ ⟨hi,hk⟩
  dsimp only at hi hk ⊢
  obtain⟨ok,okn⟩:=hC.ok hd h1 hrl i hi
  by_cases hb:i < rs.length
  ·obtain⟨r,hr⟩:∃ r,rs[i]? = some r:=aa hb
   obtain⟨ok1,okn1⟩:=hC.ok hd h1 hrl (i+1) (by omega)
   have hR:=hC.2 i r hr
   have hE:=hC.ft hd h1 hrl i
   have hE1:=hC.ft hd h1 hrl (i+1)
   have es:=B7 hr
   have hbr:=hE1.b (dg r) (by rw[es];simp)
   have cw:=Jf d hd (C i) ok (by omega) r (C (i+1)) hR (fE rs i) (by rw[←es];exact hE1)
   rw[←es]at cw
   have cen:=xm r (hR.wr hd ok)
   have ca:=CT (q8 (fE rs i)) (dg r) (DX hE _ (by omega)) (by omega) _ _ (Fe hE hbr.1)
   have ck:=Nj d hd h1 rs C hC hrl i r hr
   have cag:=JJ d hd (C i) (C (i+1)) r hR ok1 (fE rs (i+1)) hE1
   have csm:=hC.sce hd h1 hrl (i+1) (by omega)
   have lfr:=(uy hbr).1
   clear ok ok1 hR hE hE1 es hbr hC C0 X0 hnet hd
   unfold q8 at cw ca cag
   generalize fr (dg r)=Z at ca ck lfr
   generalize dg r=Y at cen ca
   generalize hF1:ee (fE rs (i+1))=F1 at cw ck cag
   generalize hF0:ee (fE rs i)=F0 at cw ca ck
   generalize hc1:C (i+1)=c1 at cw ck cag csm okn1
   generalize hc0:C i=c0 at cw ck okn
   obtain⟨dk1,ts1,ac1,n1⟩:=c1
   obtain⟨dk0,ts0,ac0,n0⟩:=c0
   obtain⟨kd,rv,st,en⟩:=r
   dsimp only at okn1 okn cag
   subst okn1
   subst okn
   refine aJ hr ?_
   refine dr hr cw [] ?_
   refine aJ hr ?_
   refine oP ?_
   refine lP (ι:=Nat×Nat×Bool) (fun p=>⟨[(3,.pt 503 [] 0),(4,.pt 504 [] 0),(6,.t (.sl 12 (rs.map dH))),(7,.pt 507 [] 0),(9,.pt 509 [] 0),(11,.pt 511 [] 0),(12,.pt 512 [] 0),(13,.t (.int i)),(15,.t (.int p.1))],[(503,bu s p.2.1),(504,.box 32 (.t (.agg d.l))),(507,.box 43 (.t (bw ⟨dk1,ts1,ac1,((i+1:Nat):Int)⟩))),(509,.box 43 (.t (bw (bif p.2.2 then ⟨dk1,ts1,ac1,((i+1:Nat):Int)⟩ else ⟨dk0,ts0,ac0,(i:Int)⟩)))),(511,.box 52 (.t (dX ⟨F1,[]⟩))),(512,.box 52 (.t (dX ⟨bif p.2.2 then F1 else F0,[]⟩)))]⟩)
    (fun p=>p.1≤3∧aV s p.2.1∧(p.1=3→p.2.2=true)) (fun p=>3 - p.1) (0,k,false) [(503,some 503),(504,some 504),(507,some 507),(509,some 509),(511,some 511),(512,some 512)] ⟨by simp,hk,by simp⟩ ?_
   rintro ⟨a,k',b⟩ ⟨ha,hk',hab⟩
   dsimp only at ha hk' hab ⊢
   cases b with
   | true=>
    simp only[cond_true]
    obtain⟨v,hv,cn⟩:=gB hk' 2 (by omega) (by omega)
    rcases Nat.lt_or_ge a 3 with h3|h3
    all_goals
     refine ah ?_
     refine ax cn [(0,503)] ?_
     by_cases v0:v=0
     ·subst v0
      rcases cag with g|⟨g,cag⟩
      ·refine c9 hr g ?_
       refine nX (i+1,ai s k') [(503,some 503),(504,some 504),(507,some 507),(509,some 509),(511,some 511),(512,some 512)] ?_ ?_ ?_
       ·exact⟨hb,hk'.next⟩
       ·dsimp only;omega
       exact sw hc1 hF1
      ·subst g
       refine aJ hr ?_
       refine dr hr cag [] ?_
       refine aJ hr ?_
       refine ax csm [] ?_
       refine aJ hr ?_
       refine nX (i+1,ai s k') [(503,some 503),(504,some 504),(507,some 507),(509,some 509),(511,some 511),(512,some 512)] ?_ ?_ ?_
       ·exact⟨hb,hk'.next⟩
       ·dsimp only;omega
       exact sw hc1 hF1
     ·repeat (first|(refine af rfl ?_;simp[go_sem,↓iO,iO,tN,hr,v0])|refine ba ?_|refine⟨aZ,?_⟩|refine iP ?_|refine iN ?_)
      refine nX (i+1,ai s k') [(503,some 503),(504,some 504),(507,some 507),(509,some 509),(511,some 511),(512,some 512)] ?_ ?_ ?_
      ·exact⟨hb,hk'.next⟩
      ·dsimp only;omega
      exact sw hc1 hF1
   | false=>
    simp only[cond_false]
    have ha3:a < 3:=by
     rcases Nat.lt_or_ge a 3 with h|h
     ·exact h
     ·exact absurd (hab (by omega)) (by simp)
    obtain⟨v,hv,cn⟩:=gB hk' ((Z.length:Int)+1) (by omega) (by omega)
    refine aJ hr ?_
    refine dr hr cen [] ?_
    refine aJ hr ?_
    refine ax ca [] ?_
    refine ah ?_
    refine ax cn [(0,503)] ?_
    by_cases a2:a=2
    ·subst a2
     obtain⟨b,⟨gb,gp⟩,hb2,ccr,crs⟩:=ck Z.length (Nat.le_refl _)
     obtain rfl:=hb2 rfl
     simp only[cond_true]at crs
     refine ah ?_
     refine ax ccr [] ?_
     refine ah ?_
     refine ax crs [] ?_
     refine ah ?_
     refine nX (2+1,ai s k',true) [(503,some 503),(504,some 504),(507,some 507),(509,some 509),(511,some 511),(512,some 512)] ?_ ?_ ?_
     ·exact⟨by dsimp only;omega,hk'.next,fun _=>rfl⟩
     ·dsimp only;omega
     exact dY
    ·obtain⟨n,rfl⟩:∃ n:Nat,v=(n:Int):=⟨v.toNat,by omega⟩
     obtain⟨b,⟨gb,gp⟩,_,ccr,crs⟩:=ck n (by omega)
     cases b
     all_goals
      simp only[cond_true,cond_false]at crs
      refine aJ a2 ?_
      refine ax ccr [] ?_
      refine ah ?_
      refine ax crs [] ?_
      repeat (first|(refine af rfl ?_;simp[go_sem,↓iO,iO,tN])|refine ba ?_|refine⟨aZ,?_⟩|refine iP ?_|refine iN ?_)
     ·refine nX (a+1,ai s k',false) [(503,some 503),(504,some 504),(507,some 507),(509,some 509),(511,some 511),(512,some 512)] ?_ ?_ ?_
      ·exact⟨by dsimp only;omega,hk'.next,fun h=>by dsimp only at h;omega⟩
      ·dsimp only;omega
      exact dY
     ·refine nX (a+1,ai s k',true) [(503,some 503),(504,some 504),(507,some 507),(509,some 509),(511,some 511),(512,some 512)] ?_ ?_ ?_
      ·exact⟨by dsimp only;omega,hk'.next,fun _=>rfl⟩
      ·dsimp only;omega
      exact dY
  ·obtain rfl:i=rs.length:=by omega
   have cR:=CU d hd h1 rs C hC hrl (hC.fr hd h1 hrl)
   have cS:=hC.sce hd h1 hrl rs.length hi
   have cF:=ML (q8 (rs.map dg))
   have cT:=IY d hd _ ok
   have e:ee (fE rs rs.length)=ee (rs.map dg):=by unfold fE;rw[List.take_length]
   unfold q8 at cR cF
   clear hC ok okn C0 X0
   generalize C rs.length=c at *
   generalize ee (rs.map dg)=F at cR cF e
   simp only[e]
   refine ah ?_
   refine ax cR [] ?_
   refine ah ?_
   refine ax cS [] ?_
   refine ax cF [] ?_
   refine ax cT [] ?_
   refine ax cA [] ?_
   refine ah ?_
   exact aF []
 ·rw[show decide (l.length≤400)=false by simpa using h4]at cfew
  refine nI Tryz.func3 rfl Tryz.ntmps3 ?_
  refine ah ?_
  refine ax cfew [] ?_
  refine ah ?_
  refine ax cA [] ?_
  refine ah ?_
  exact aF []
theorem topcrashes_walk (x:Option Addr) (n cap:Nat) (l:List Int) (w:World) (hr:DW .i64 w x n cap l) (wf:∀ z∈l,-9223372036854775808≤z∧z≤9223372036854775807) :
  Calls Tryz.prog 3 #[.slice x n cap] w fun e w'=>e = .returned (.bool true)∧Below w.heap.size w w':=by
 have hl:l.length≤9223372036854775807:=by
  rw[hr.length];have h1:=hr.le;have h2:=hr.capLe;unfold maxLen at h2;omega
 exact Ma (us:=[.slice x n cap]) (Cy l hl wf) (qz (JF hr) A9)
end Go.Proofs.YtocndodilpimnaaGreat
