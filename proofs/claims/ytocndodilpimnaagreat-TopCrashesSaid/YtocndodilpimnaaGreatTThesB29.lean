/- Several texts of this proof, one behind the other. No condition. -/
import Derived.Test.YtocndodilpimnaaGreatTThesB17
import Derived.Test.YtocndodilpimnaaGreatTThesB10
import Derived.Test.YtocndodilpimnaaGreatTThesB23
import Derived.Test.YtocndodilpimnaaGreatTThesB15
import Derived.Test.YtocndodilpimnaaGreatTThesB12
import Derived.Test.YtocndodilpimnaaGreatTThesB13
set_option maxRecDepth 100000
set_option maxHeartbeats 16000000
set_option linter.unusedVariables false
set_option linter.unusedSimpArgs false
namespace Go.Proofs.YtocndodilpimnaaGreat
open Go.RowKit Sy Dl
open Go.IntWalk renaming iteOmega → iO, toNatUp → tN
def Nz (d:fk) (ord:List Int) (f0 f1 g1 o1:List (Option (List (Int×Int)))):Prop:=∀ gi oo:List (Option (List (Int×Int))),
 aj Tryz.prog 73 [.pt 0 [] 0] [(0,zw d.net d.plan (.sl 1 (d.feeds.map aC)) (.sl 1 (ord.map aC)) (.own 2) (.own 3)),(1,aT f0),(2,aT gi),(3,aT oo)]
   (.t (.int 0)) [(0,zw d.net d.plan (.sl 1 (d.feeds.map aC)) (.sl 1 (ord.map aC)) (.own 1000) (.own 1001)),(1,aT f1),(1000,aT g1),(1001,aT o1)]
def jg (O:Nat→List (Option (List (Int×Int)))):Nat→Nat→List (Int×Int)
 | 0,i=>[]
 | k+1,i=>jg O k i++((O (k+1)).getD i none).getD []
@[go_sem] def NB (net plan:List T) (feeds order:T) (f a b:S):aA:=.box 164 (.ag [.t (.agg net),.t (.agg plan),.t feeds,.t order,f,a,b])
theorem LN (d:fk) (hd:ml d) (hn:Lx d) (fills:List (List (Int×Int))) (hf:yT d fills) (ord:List Int) (ho:aj Tryz.prog 142 [.t (.agg d.net),.t (.agg d.plan)] [] (.tup [.t (.sl 1 (ord.map aC)),.t (.int 0)]) [])
  (hfd:∀ b∈d.feeds,0≤b∧b < 1000) (ticks:Nat) (ht:ticks≤400) (F G O:Nat→List (Option (List (Int×Int)))) (hF0:F 0=fills.map some) (hG0:G 0=[]) (hO0:O 0=[]) (hOl:∀ k,(O (k+1)).length=d.ports.length)
  (hT:∀ k,k < ticks→Nz d ord (F k) (F (k+1)) (G (k+1)) (O (k+1))) (hS:∀ k i,k < ticks→Pc.jd (jg O (k+1) i)) (hz:∀ k i p,k < ticks→p∈((O (k+1)).getD i none).getD []→p.2≠0) (hL:∀ k i,k < ticks→(Pc.join (jg O (k+1) i)).length≤200) :
  aj Tryz.prog 24 [.t (.agg d.net),.t (.sl 1 (fills.map aU)),.t (.agg d.plan),.t (.sl 1 (d.feeds.map aC)),.t (.int ticks)] []
   (.tup [.own 1000,.t (.sl 1 ((List.range d.ports.length).map fun i=>aU (Pc.join (jg O ticks i)))),.t (.int 0)]) [(1000,aT (F ticks))]:=by
 have w1:=hd.w1
 have w2:=hd.w2
 have w3:=hd.w3
 have w4:=hd.w4
 have w5:=hd.w5
 have hmP:=hd.maxP
 have c1:=HZ d hd hn fills hf ord ho hfd
 rw[←hF0]at c1
 obtain⟨W,wl,wg,ws,wn,w0,wt,wf⟩:=yu 88 d.ports.length (fun k i=>Pc.join (jg O k i))
 have hW0:=w0 (fun q=>rfl)
 have hwt:=wt ticks
 refine nI Tryz.func24 rfl Tryz.ntmps24 ?_
 refine yB w1 w2 w3 w4 w5 ?_
 refine aY.fn (c1) [(1000,600),(1001,601)] [] [] (by kernel_rfl) ?_ ?_ ?_ (Or.inl rfl) ?_<;>simp[go_sem,↓iO,iO,tN,w1,w2,w3,w4,w5]
 repeat (refine ba ?_)
 try (refine⟨aZ,?_⟩)
 refine yB w1 w2 w3 w4 w5 ?_
 refine oP ?_
 refine CW.toRows 139 (W 0 0) (e:=89) (s:=1) (xs:=List.replicate d.ports.length (.lit (.slice none 0 0))) (by rfl) (by rw[wl];simp) (fun i x u h1 h2=>?_) ?_
 ·rw[hW0,List.getElem?_replicate]at h2
  rw[List.getElem?_replicate]at h1
  split at h1
  ·rename_i hi
   rw[if_pos hi]at h2
   cases h1;cases h2
   unfold wV;trivial
  ·cases h1
 simp[go_sem,↓iO,iO,tN]
 refine CW.loop (ι:=Nat) (fun k=>⟨[(13,.pt 600 [] 0),(15,.own 511),(40,.t (.int ticks)),(41,.t (.int k))],[(600,NB d.net d.plan (.sl 1 (d.feeds.map aC)) (.sl 1 (ord.map aC)) (.own 601) (.own 602) (.own 603)),(601,aT (F k)),(602,aT (G k)),(603,aT (O k)),(511,.rows 89 1 (W k 0) [])]⟩) (fun k=>k≤ticks) (fun k=>ticks - k) 0
  [(600,some 600),(601,some 601),(602,none),(603,none),(511,some 139)] (by omega) ?_ ?_
 ·exact sw hG0 hO0
 intro k hk
 by_cases hb:k < ticks
 ·have ct:=hT k hb (G k) (O k)
  have hol:=hOl k
  obtain⟨F0,hF0⟩:∃ X,F k=X:=⟨_,rfl⟩
  obtain⟨G0,hG0⟩:∃ X,G k=X:=⟨_,rfl⟩
  obtain⟨O0,hO0⟩:∃ X,O k=X:=⟨_,rfl⟩
  obtain⟨F1,hF1⟩:∃ X,F (k+1)=X:=⟨_,rfl⟩
  obtain⟨G1,hG1⟩:∃ X,G (k+1)=X:=⟨_,rfl⟩
  obtain⟨O1,hO1⟩:∃ X,O (k+1)=X:=⟨_,rfl⟩
  rw[hF0,hG0,hO0,hF1,hG1,hO1]at ct
  rw[hF0,hG0,hO0]
  rw[hO1]at hol
  refine aJ hb ?_
  refine ax ct [(0,600),(1,601),(2,602),(3,603),(1000,612),(1001,613)] ?_
  refine ah ?_
  refine oP ?_
  refine CW.loop (ι:=Nat) (fun i=>⟨[(13,.pt 600 [] 0),(15,.own 511),(40,.t (.int ticks)),(41,.t (.int k)),(51,.own 613),(52,.t (.int d.ports.length)),(53,.t (.int i))],[(600,NB d.net d.plan (.sl 1 (d.feeds.map aC)) (.sl 1 (ord.map aC)) (.own 601) (.own 612) (.own 613)),(601,aT F1),(612,aT G1),(613,aT O1),(511,.rows 89 1 (W k i) [])]⟩) (fun i=>i≤d.ports.length) (fun i=>d.ports.length - i) 0
   [(600,some 600),(601,some 601),(612,some 612),(613,some 613),(511,some 511)] (by omega) ?_ ?_
  ·exact dJ hol
  intro i hi
  by_cases hb2:i < d.ports.length
  ·have hwl:=wl k i
   have hwg:=wg k i hb2
   have hws:=ws k i hb2
   obtain⟨o,hoi⟩:∃ o,O1[i]? = some o:=aa (by omega)
   have hoi2:O1[i]'(by omega)=o:=(List.getElem?_eq_some_iff.1 hoi).2
   have hod:(O1.getD i none).getD []=o.getD []:=by rw[List.getD_eq_getElem?_getD,hoi];rfl
   have ha:jg O (k+1) i=jg O k i++o.getD []:=by simp only[jg,hO1,hod]
   have hs:=hS k i hb
   have hzz:=fun p=>hz k i p hb
   rw[hO1,hod]at hzz
   have hll:=hL k i hb
   rw[ha]at hs hws hll
   have j1:=yD (jg O k i) (o.getD []) hs hzz
   obtain⟨J,hJ⟩:∃ J,Pc.join (jg O k i)=J:=⟨_,rfl⟩
   obtain⟨J2,hJ2⟩:∃ J2,Pc.join (jg O k i++o.getD [])=J2:=⟨_,rfl⟩
   rw[hJ,hJ2]at j1
   rw[hJ]at hwg
   rw[hJ2]at hws hll
   obtain⟨X1,hX1⟩:∃ X,W k i=X:=⟨_,rfl⟩
   rw[hX1]at hwl hwg hws ⊢
   have hol2:i < O1.length:=by omega
   cases o with
   | none=>
    iterate 4 (refine af rfl ?_;simp[go_sem,↓iO,iO,tN,hoi,hoi2,hol2,hb2,hol,bK,cH];(repeat (refine ba ?_));try (refine⟨aZ,?_⟩))
    refine CW.openRow 511 i 555 (us:=X1) (ex:=[]) (u:=.ow 88 2 (J.map eI)) (b:=.list 88 2 (J.map eI)) (by rfl) hwg (by rfl) (by rfl) (by kernel_rfl) (by omega) ?_
    simp[go_sem,↓iO,iO,tN]
    iterate 1 (refine af rfl ?_;simp[go_sem,↓iO,iO,tN,hwl,hwg,hb2];(repeat (refine ba ?_));try (refine⟨aZ,?_⟩))
    refine Fu hwl hwg hb2 j1 [(0,555),(1000,660)] ?_
    iterate 1 (refine af rfl ?_;simp[go_sem,↓iO,iO,tN,hwl,hwg,hb2,hll];(repeat (refine ba ?_));try (refine⟨aZ,?_⟩))
    refine CW.closeRow 511 i 660 (.ow 88 2 (J2.map eI)) (us:=X1) (ex:=[(i,.own 660)]) (by rfl) (by rfl) (by simp[go_sem]) (by rfl) ?_
    simp[go_sem,↓iO,iO,tN,hws]
    refine aJ hll ?_
    exact nY (i+1) [(600,some 600),(601,some 601),(612,some 612),(613,some 613),(511,some 511)]
   | some o=>
    iterate 4 (refine af rfl ?_;simp[go_sem,↓iO,iO,tN,hoi,hoi2,hol2,hb2,hol,bK,cH];(repeat (refine ba ?_));try (refine⟨aZ,?_⟩))
    refine CW.openRow 511 i 555 (us:=X1) (ex:=[]) (u:=.ow 88 2 (J.map eI)) (b:=.list 88 2 (J.map eI)) (by rfl) hwg (by rfl) (by rfl) (by kernel_rfl) (by omega) ?_
    simp[go_sem,↓iO,iO,tN]
    iterate 1 (refine af rfl ?_;simp[go_sem,↓iO,iO,tN,hwl,hwg,hb2];(repeat (refine ba ?_));try (refine⟨aZ,?_⟩))
    refine Fu hwl hwg hb2 j1 [(0,555),(1000,660)] ?_
    iterate 1 (refine af rfl ?_;simp[go_sem,↓iO,iO,tN,hwl,hwg,hb2,hll];(repeat (refine ba ?_));try (refine⟨aZ,?_⟩))
    refine CW.closeRow 511 i 660 (.ow 88 2 (J2.map eI)) (us:=X1) (ex:=[(i,.own 660)]) (by rfl) (by rfl) (by simp[go_sem]) (by rfl) ?_
    simp[go_sem,↓iO,iO,tN,hws]
    refine aJ hll ?_
    exact nY (i+1) [(600,some 600),(601,some 601),(612,some 612),(613,some 613),(511,some 511)]
  ·obtain rfl:i=d.ports.length:=by omega
   rw[wn]
   refine ah ?_
   exact nX (k+1) [(600,some 600),(601,some 601),(602,some 612),(603,some 613),(511,some 511)] (by omega) (by omega) (Qd hF1 hG1 hO1)
 ·obtain rfl:k=ticks:=by omega
  refine ah ?_
  exact l9 hwt [(1000,some 601)]
abbrev Fo:T:=.agg [.int 1,.int 0,.lit (.bool false),.lit (.bool false)]
abbrev QW:T:=.agg [.int 0,.int 0,.lit (.bool false),.lit (.bool false)]
theorem Qr:aj Tryz.prog 128 [.t (.lit (.int .u64 1)),.t (.lit (.int .u64 3))] [] (.tup [.t (.lit (.int .u64 0)),.t (.lit (.int .u64 3))]) []:=a8 aL fy 30 _ _ _ _ _ (by kernel_rfl:m6 Tryz.prog pP [] 200 30 128 [.t (.lit (.int .u64 1)),.t (.lit (.int .u64 3))] []=some (.tup [.t (.lit (.int .u64 0)),.t (.lit (.int .u64 3))],[]))
def zX:Nat→List T
 | 1=>[Fo,QW,QW]
 | 2=>[Fo,Fo,QW]
 | _=>[Fo,Fo,Fo]
theorem LB:aj Tryz.prog 55 [.t (.sl 4 [Fo]),.t (.int 3)] [] (.t (.sl 4 [Fo,Fo,Fo])) []:=by
 have c:=Qr
 refine nI Tryz.func55 rfl Tryz.ntmps55 ?_
 refine ah ?_
 refine ax c [] ?_
 refine ah ?_
 refine oP ?_
 refine CW.loop (ι:=Nat) (fun k=>⟨[(7,.wn 507 [7] 0 3),(8,.t (.int k))],[(507,.list 134 4 (zX k))]⟩) (fun k=>1≤k∧k≤3) (fun k=>3 - k) 1 [(507,some 130)] (by omega) ?_ ?_
 ·simp[go_sem,↓iO,iO,tN,zX]
 rintro k ⟨hk1,hk⟩
 have h3:k=1∨k=2∨k=3:=by omega
 rcases h3 with rfl|rfl|rfl
 ·repeat (first|(refine af rfl ?_;simp[go_sem,↓iO,iO,tN,zX])|refine ba ?_|refine⟨aZ,?_⟩|refine iP ?_|refine iN ?_)
  refine nX 2 [(507,some 507)] ?_ ?_ ?_
  ·omega
  ·omega
  simp[go_sem,↓iO,iO,tN,zX]
 ·repeat (first|(refine af rfl ?_;simp[go_sem,↓iO,iO,tN,zX])|refine ba ?_|refine⟨aZ,?_⟩|refine iP ?_|refine iN ?_)
  refine nX 3 [(507,some 507)] ?_ ?_ ?_
  ·omega
  ·omega
  simp[go_sem,↓iO,iO,tN,zX]
 ·repeat (first|(refine af rfl ?_;simp[go_sem,↓iO,iO,tN,zX])|refine ba ?_|refine⟨aZ,?_⟩|refine iP ?_|refine iN ?_)
  first|rw[av]|rw[ae]
  refine⟨[],?_⟩
  simp[go_sem,↓iO,iO,tN,zX]
theorem Om:aj Tryz.prog 65 [.t (.sl 1 [])] [] (.t (.sl 1 [])) []:=by
 refine nI Tryz.func65 rfl Tryz.ntmps65 ?_
 iterate 1 (refine af rfl ?_;simp[go_sem,↓iO,iO,tN];(repeat (refine ba ?_));try (refine⟨aZ,?_⟩))
 refine CW.seq (CW.seq (CW.nilTest (k:=1) (xs:=[]) (e:=4) (by simp[go_sem]) (by simp[go_sem]) ?_ ?_))
 ·intro hx
  simp[go_sem,↓iO,iO,tN]
  refine ah ?_
  exact aF []
 ·simp[go_sem,↓iO,iO,tN]
  refine ah ?_
  exact aF []
theorem gK:aj Tryz.prog 55 (([.sl 4 [Fo],.int 3]:List T).map S.t) [] (.t (.sl 4 [Fo,Fo,Fo])) []:=LB
theorem nQ:aj Tryz.prog 65 (([.sl 1 []]:List T).map S.t) [] (.t (.sl 1 [])) []:=Om
abbrev QK:T:=.lit (.slice none 0 0)
abbrev dy:T:=.agg [.sl 1 [.lit (.string (str [97])),.lit (.string (str [98]))],.sl 7 [(.agg [(.lit (.string (str [103]))),(.int 0),(.int 1),(.int 20),(.int 0),(.int 0),(.sl 3 [(.agg [(.int 0),(.int 0),(.int 1000000)]),(.agg [(.int 20),(.int 0),(.int 1000000)])])])],.sl 3 [(.agg [(.lit (.string (str [112]))),(.int 0),(.int 300000)]),(.agg [(.lit (.string (str [113]))),(.int 1),(.int 0)])],.lit (.slice .none 0 0),.int 0,.int 0]
abbrev Lp:T:=.agg [.sl 1 [.int 0],.sl 1 [.int 0,.int 0],.sl 1 []]
abbrev H9:T:=.agg [.sl 1 [.int 5],.sl 1 [.int 5,.int (-5)],QK]
abbrev v0:T:=.agg [.int 1,.int 0,.lit (.bool false),.lit (.bool false)]
abbrev d0:T:=.agg [.sl 4 [v0,v0,v0],Lp]
abbrev Bm:T:=.agg [.sl 1 [.int 5],.sl 1 [.int 5,.int (-5)],.sl 1 []]
abbrev zp:T:=.agg [.int 0,.int 0,QK,.int 0]
abbrev steps:T:=.sl 7 [(.agg [(.int 1),(.int 0),(.int 0),zp]),(.agg [(.int 1),(.int 1),(.int 0),zp]),(.agg [(.int 1),(.int 2),(.int 0),zp]),(.agg [(.int 6),(.int 0),(.int 1),zp]),(.agg [(.int 5),(.int 0),(.int 5),(.agg [(.int 0),(.int 1),(.sl 2 [(.agg [(.int 0),(.lit (.bool .false))])]),(.int 0)])]),(.agg [(.int 6),(.int 0),(.int 1),zp])]
def Fx:List kC:=[]
theorem fj:aj Tryz.prog 53 (([dy]:List T).map S.t) [] (.t (.int 0)) []:=a8 aL (eC (l:=Fx) trivial) 30 _ _ _ _ _ (by kernel_rfl:m6 Tryz.prog (xH Fx) [122,20] 200 30 53 (([dy]:List T).map S.t) []=some ((.t (.int 0)),[]))
abbrev dM:kC:=⟨53,[dy],(.t (.int 0)),[]⟩
def uW:List kC:=[dM]
theorem bX:aj Tryz.prog 20 (([.int 20]:List T).map S.t) [] (.t (.agg [(.sl 1 [(.lit (.string (str [97]))),(.lit (.string (str [98])))]),(.sl 7 [(.agg [(.lit (.string (str [103]))),(.int 0),(.int 1),(.int 20),(.int 0),(.int 0),(.sl 3 [(.agg [(.int 0),(.int 0),(.int 1000000)]),(.agg [(.int 20),(.int 0),(.int 1000000)])])])]),(.sl 3 [(.agg [(.lit (.string (str [112]))),(.int 0),(.int 300000)]),(.agg [(.lit (.string (str [113]))),(.int 1),(.int 0)])]),(.lit (.slice .none 0 0)),(.int 0),(.int 0)])) []:=a8 aL (eC (l:=uW) ⟨fj,trivial⟩) 30 _ _ _ _ _ (by kernel_rfl:m6 Tryz.prog (xH uW) [122,20] 200 30 20 (([.int 20]:List T).map S.t) []=some ((.t (.agg [(.sl 1 [(.lit (.string (str [97]))),(.lit (.string (str [98])))]),(.sl 7 [(.agg [(.lit (.string (str [103]))),(.int 0),(.int 1),(.int 20),(.int 0),(.int 0),(.sl 3 [(.agg [(.int 0),(.int 0),(.int 1000000)]),(.agg [(.int 20),(.int 0),(.int 1000000)])])])]),(.sl 3 [(.agg [(.lit (.string (str [112]))),(.int 0),(.int 300000)]),(.agg [(.lit (.string (str [113]))),(.int 1),(.int 0)])]),(.lit (.slice .none 0 0)),(.int 0),(.int 0)])),[]))
abbrev bJ:kC:=⟨20,[.int 20],(.t (.agg [(.sl 1 [(.lit (.string (str [97]))),(.lit (.string (str [98])))]),(.sl 7 [(.agg [(.lit (.string (str [103]))),(.int 0),(.int 1),(.int 20),(.int 0),(.int 0),(.sl 3 [(.agg [(.int 0),(.int 0),(.int 1000000)]),(.agg [(.int 20),(.int 0),(.int 1000000)])])])]),(.sl 3 [(.agg [(.lit (.string (str [112]))),(.int 0),(.int 300000)]),(.agg [(.lit (.string (str [113]))),(.int 1),(.int 0)])]),(.lit (.slice .none 0 0)),(.int 0),(.int 0)])),[]⟩
def FT:List kC:=[dM,bJ]
theorem fZ:aj Tryz.prog 113 (([dy,Lp]:List T).map S.t) [] (.t (.int 0)) []:=a8 aL (eC (l:=FT) ⟨fj,bX,trivial⟩) 30 _ _ _ _ _ (by kernel_rfl:m6 Tryz.prog (xH FT) [122,20] 200 30 113 (([dy,Lp]:List T).map S.t) []=some ((.t (.int 0)),[]))
abbrev eG:kC:=⟨113,[dy,Lp],(.t (.int 0)),[]⟩
def FC:List kC:=[dM,bJ,eG]
theorem gG:aj Tryz.prog 113 (([dy,H9]:List T).map S.t) [] (.t (.int 0)) []:=a8 aL (eC (l:=FC) ⟨fj,bX,fZ,trivial⟩) 30 _ _ _ _ _ (by kernel_rfl:m6 Tryz.prog (xH FC) [122,20] 200 30 113 (([dy,H9]:List T).map S.t) []=some ((.t (.int 0)),[]))
abbrev eS:kC:=⟨113,[dy,H9],(.t (.int 0)),[]⟩
abbrev eT:kC:=⟨55,[.sl 4 [.agg [.int 1,.int 0,.lit (.bool false),.lit (.bool false)]],.int 3],(.t (.sl 4 [.agg [.int 1,.int 0,.lit (.bool false),.lit (.bool false)],.agg [.int 1,.int 0,.lit (.bool false),.lit (.bool false)],.agg [.int 1,.int 0,.lit (.bool false),.lit (.bool false)]])),[]⟩
def BH:List kC:=[dM,bJ,eG,eS,eT]
theorem fx:aj Tryz.prog 21 (([dy,.int 1]:List T).map S.t) [] (.tup [(.t (.agg [(.sl 4 [(.agg [(.int 1),(.int 0),(.lit (.bool .false)),(.lit (.bool .false))]),(.agg [(.int 1),(.int 0),(.lit (.bool .false)),(.lit (.bool .false))]),(.agg [(.int 1),(.int 0),(.lit (.bool .false)),(.lit (.bool .false))])]),(.agg [(.sl 1 [(.int 0)]),(.sl 1 [(.int 0),(.int 0)]),(.sl 1 [])])])),(.t (.int 0))]) []:=a8 aL (eC (l:=BH) ⟨fj,bX,fZ,gG,gK,trivial⟩) 30 _ _ _ _ _ (by kernel_rfl:m6 Tryz.prog (xH BH) [122,20,131,69,180,21,71,23,58,129,203,132,22,66,67] 200 30 21 (([dy,.int 1]:List T).map S.t) []=some ((.tup [(.t (.agg [(.sl 4 [(.agg [(.int 1),(.int 0),(.lit (.bool .false)),(.lit (.bool .false))]),(.agg [(.int 1),(.int 0),(.lit (.bool .false)),(.lit (.bool .false))]),(.agg [(.int 1),(.int 0),(.lit (.bool .false)),(.lit (.bool .false))])]),(.agg [(.sl 1 [(.int 0)]),(.sl 1 [(.int 0),(.int 0)]),(.sl 1 [])])])),(.t (.int 0))]),[]))
abbrev eo:kC:=⟨21,[dy,.int 1],(.tup [(.t (.agg [(.sl 4 [(.agg [(.int 1),(.int 0),(.lit (.bool .false)),(.lit (.bool .false))]),(.agg [(.int 1),(.int 0),(.lit (.bool .false)),(.lit (.bool .false))]),(.agg [(.int 1),(.int 0),(.lit (.bool .false)),(.lit (.bool .false))])]),(.agg [(.sl 1 [(.int 0)]),(.sl 1 [(.int 0),(.int 0)]),(.sl 1 [])])])),(.t (.int 0))]),[]⟩
def wE:List kC:=[dM,bJ,eG,eS,eT,eo]
theorem eM:aj Tryz.prog 60 (([dy,Lp]:List T).map S.t) [] (.tup [(.t (.agg [(.sl 1 [(.lit (.bool .false))]),(.sl 1 [(.lit (.bool .false)),(.lit (.bool .false))])])),(.t (.int 0))]) []:=a8 aL (eC (l:=wE) ⟨fj,bX,fZ,gG,gK,fx,trivial⟩) 30 _ _ _ _ _ (by kernel_rfl:m6 Tryz.prog (xH wE) [122,20,131,69,180,21,71,23,58,129,203,132,22,66,67] 200 30 60 (([dy,Lp]:List T).map S.t) []=some ((.tup [(.t (.agg [(.sl 1 [(.lit (.bool .false))]),(.sl 1 [(.lit (.bool .false)),(.lit (.bool .false))])])),(.t (.int 0))]),[]))
abbrev dU:kC:=⟨60,[dy,Lp],(.tup [(.t (.agg [(.sl 1 [(.lit (.bool .false))]),(.sl 1 [(.lit (.bool .false)),(.lit (.bool .false))])])),(.t (.int 0))]),[]⟩
def wK:List kC:=[dM,bJ,eG,eS,eT,eo,dU]
theorem fu:aj Tryz.prog 60 (([dy,H9]:List T).map S.t) [] (.tup [(.t (.agg [(.sl 1 [(.lit (.bool .true))]),(.sl 1 [(.lit (.bool .true)),(.lit (.bool .true))])])),(.t (.int 0))]) []:=a8 aL (eC (l:=wK) ⟨fj,bX,fZ,gG,gK,fx,eM,trivial⟩) 30 _ _ _ _ _ (by kernel_rfl:m6 Tryz.prog (xH wK) [122,20,131,69,180,21,71,23,58,129,203,132,22,66,67] 200 30 60 (([dy,H9]:List T).map S.t) []=some ((.tup [(.t (.agg [(.sl 1 [(.lit (.bool .true))]),(.sl 1 [(.lit (.bool .true)),(.lit (.bool .true))])])),(.t (.int 0))]),[]))
abbrev ez:kC:=⟨60,[dy,H9],(.tup [(.t (.agg [(.sl 1 [(.lit (.bool .true))]),(.sl 1 [(.lit (.bool .true)),(.lit (.bool .true))])])),(.t (.int 0))]),[]⟩
def rC:List kC:=[dM,bJ,eG,eS,eT,eo,dU,ez]
theorem ed:aj Tryz.prog 50 (([dy,d0]:List T).map S.t) [] (.t (.int 0)) []:=a8 aL (eC (l:=rC) ⟨fj,bX,fZ,gG,gK,fx,eM,fu,trivial⟩) 30 _ _ _ _ _ (by kernel_rfl:m6 Tryz.prog (xH rC) [122,20,131,69,180,21,71,23,58,129,203,132,22,66,67] 200 30 50 (([dy,d0]:List T).map S.t) []=some ((.t (.int 0)),[]))
abbrev dz:kC:=⟨50,[dy,d0],(.t (.int 0)),[]⟩
def AU:List kC:=[dM,bJ,eG,eS,eT,eo,dU,ez,dz]
theorem jt:aj Tryz.prog 58 (([dy,Lp]:List T).map S.t) [] (.tup [(.t (.lit (.slice .none 0 0))),(.t (.int 0))]) []:=a8 aL (eC (l:=AU) ⟨fj,bX,fZ,gG,gK,fx,eM,fu,ed,trivial⟩) 30 _ _ _ _ _ (by kernel_rfl:m6 Tryz.prog (xH AU) [122,20,131,69,180,21,71,23,58,129,203,132,22,66,67] 200 30 58 (([dy,Lp]:List T).map S.t) []=some ((.tup [(.t (.lit (.slice .none 0 0))),(.t (.int 0))]),[]))
abbrev gQ:kC:=⟨58,[dy,Lp],(.tup [(.t (.lit (.slice .none 0 0))),(.t (.int 0))]),[]⟩
def BA:List kC:=[dM,bJ,eG,eS,eT,eo,dU,ez,dz,gQ]
theorem kT:aj Tryz.prog 58 (([dy,H9]:List T).map S.t) [] (.tup [(.t (.sl 4 [(.agg [(.int 0),(.int 1),(.sl 2 [(.agg [(.int 0),(.lit (.bool .false))])]),(.int 5)])])),(.t (.int 0))]) []:=a8 aL (eC (l:=BA) ⟨fj,bX,fZ,gG,gK,fx,eM,fu,ed,jt,trivial⟩) 30 _ _ _ _ _ (by kernel_rfl:m6 Tryz.prog (xH BA) [122,20,131,69,180,21,71,23,58,129,203,132,22,66,67] 200 30 58 (([dy,H9]:List T).map S.t) []=some ((.tup [(.t (.sl 4 [(.agg [(.int 0),(.int 1),(.sl 2 [(.agg [(.int 0),(.lit (.bool .false))])]),(.int 5)])])),(.t (.int 0))]),[]))
abbrev iT:kC:=⟨58,[dy,H9],(.tup [(.t (.sl 4 [(.agg [(.int 0),(.int 1),(.sl 2 [(.agg [(.int 0),(.lit (.bool .false))])]),(.int 5)])])),(.t (.int 0))]),[]⟩
abbrev kN:kC:=⟨65,[.sl 1 []],(.t (.sl 1 [])),[]⟩
def BU:List kC:=[dM,bJ,eG,eS,eT,eo,dU,ez,dz,gQ,iT,kN]
theorem mP:aj Tryz.prog 22 (([dy,d0,H9,.int 5,.int 1]:List T).map S.t) [] (.tup [(.t (.sl 7 [(.agg [(.int 1),(.int 0),(.int 0),(.agg [(.int 0),(.int 0),(.lit (.slice .none 0 0)),(.int 0)])]),(.agg [(.int 1),(.int 1),(.int 0),(.agg [(.int 0),(.int 0),(.lit (.slice .none 0 0)),(.int 0)])]),(.agg [(.int 1),(.int 2),(.int 0),(.agg [(.int 0),(.int 0),(.lit (.slice .none 0 0)),(.int 0)])]),(.agg [(.int 6),(.int 0),(.int 1),(.agg [(.int 0),(.int 0),(.lit (.slice .none 0 0)),(.int 0)])]),(.agg [(.int 5),(.int 0),(.int 5),(.agg [(.int 0),(.int 1),(.sl 2 [(.agg [(.int 0),(.lit (.bool .false))])]),(.int 0)])]),(.agg [(.int 6),(.int 0),(.int 1),(.agg [(.int 0),(.int 0),(.lit (.slice .none 0 0)),(.int 0)])])])),(.t (.int 0))]) []:=a8 aL (eC (l:=BU) ⟨fj,bX,fZ,gG,gK,fx,eM,fu,ed,jt,kT,nQ,trivial⟩) 30 _ _ _ _ _ (by kernel_rfl:m6 Tryz.prog (xH BU) [122,20,131,69,180,21,71,23,58,129,203,132,22,66,67] 200 30 22 (([dy,d0,H9,.int 5,.int 1]:List T).map S.t) []=some ((.tup [(.t (.sl 7 [(.agg [(.int 1),(.int 0),(.int 0),(.agg [(.int 0),(.int 0),(.lit (.slice .none 0 0)),(.int 0)])]),(.agg [(.int 1),(.int 1),(.int 0),(.agg [(.int 0),(.int 0),(.lit (.slice .none 0 0)),(.int 0)])]),(.agg [(.int 1),(.int 2),(.int 0),(.agg [(.int 0),(.int 0),(.lit (.slice .none 0 0)),(.int 0)])]),(.agg [(.int 6),(.int 0),(.int 1),(.agg [(.int 0),(.int 0),(.lit (.slice .none 0 0)),(.int 0)])]),(.agg [(.int 5),(.int 0),(.int 5),(.agg [(.int 0),(.int 1),(.sl 2 [(.agg [(.int 0),(.lit (.bool .false))])]),(.int 0)])]),(.agg [(.int 6),(.int 0),(.int 1),(.agg [(.int 0),(.int 0),(.lit (.slice .none 0 0)),(.int 0)])])])),(.t (.int 0))]),[]))
abbrev kj:kC:=⟨22,[dy,d0,H9,.int 5,.int 1],(.tup [(.t (.sl 7 [(.agg [(.int 1),(.int 0),(.int 0),(.agg [(.int 0),(.int 0),(.lit (.slice .none 0 0)),(.int 0)])]),(.agg [(.int 1),(.int 1),(.int 0),(.agg [(.int 0),(.int 0),(.lit (.slice .none 0 0)),(.int 0)])]),(.agg [(.int 1),(.int 2),(.int 0),(.agg [(.int 0),(.int 0),(.lit (.slice .none 0 0)),(.int 0)])]),(.agg [(.int 6),(.int 0),(.int 1),(.agg [(.int 0),(.int 0),(.lit (.slice .none 0 0)),(.int 0)])]),(.agg [(.int 5),(.int 0),(.int 5),(.agg [(.int 0),(.int 1),(.sl 2 [(.agg [(.int 0),(.lit (.bool .false))])]),(.int 0)])]),(.agg [(.int 6),(.int 0),(.int 1),(.agg [(.int 0),(.int 0),(.lit (.slice .none 0 0)),(.int 0)])])])),(.t (.int 0))]),[]⟩
def zC:List kC:=[dM,bJ,eG,eS,eT,eo,dU,ez,dz,gQ,iT,kN,kj]
theorem oT:aj Tryz.prog 113 (([dy,Bm]:List T).map S.t) [] (.t (.int 0)) []:=a8 aL (eC (l:=zC) ⟨fj,bX,fZ,gG,gK,fx,eM,fu,ed,jt,kT,nQ,mP,trivial⟩) 30 _ _ _ _ _ (by kernel_rfl:m6 Tryz.prog (xH zC) [122,20,131,69,180,21,71,23,58,129,203,132,22,66,67] 200 30 113 (([dy,Bm]:List T).map S.t) []=some ((.t (.int 0)),[]))
abbrev lC:kC:=⟨113,[dy,Bm],(.t (.int 0)),[]⟩
def zH:List kC:=[dM,bJ,eG,eS,eT,eo,dU,ez,dz,gQ,iT,kN,kj,lC]
theorem so:aj Tryz.prog 70 (([d0]:List T).map S.t) [] (.ag [(.own 1000),(.ag [(.own 1001),(.own 1002),(.t (.sl 1 []))])]) [(1000,(.list 134 4 [(.agg [(.int 1),(.int 0),(.lit (.bool .false)),(.lit (.bool .false))]),(.agg [(.int 1),(.int 0),(.lit (.bool .false)),(.lit (.bool .false))]),(.agg [(.int 1),(.int 0),(.lit (.bool .false)),(.lit (.bool .false))])])),(1001,(.list 3 1 [(.int 0)])),(1002,(.list 3 1 [(.int 0),(.int 0)]))]:=a8 aL (eC (l:=zH) ⟨fj,bX,fZ,gG,gK,fx,eM,fu,ed,jt,kT,nQ,mP,oT,trivial⟩) 30 _ _ _ _ _ (by kernel_rfl:m6 Tryz.prog (xH zH) [122,20,131,69,180,21,71,23,58,129,203,132,22,66,67] 200 30 70 (([d0]:List T).map S.t) []=some ((.ag [(.own 1000),(.ag [(.own 1001),(.own 1002),(.t (.sl 1 []))])]),[(1000,(.list 134 4 [(.agg [(.int 1),(.int 0),(.lit (.bool .false)),(.lit (.bool .false))]),(.agg [(.int 1),(.int 0),(.lit (.bool .false)),(.lit (.bool .false))]),(.agg [(.int 1),(.int 0),(.lit (.bool .false)),(.lit (.bool .false))])])),(1001,(.list 3 1 [(.int 0)])),(1002,(.list 3 1 [(.int 0),(.int 0)]))]))
abbrev oS:kC:=⟨70,[d0],(.ag [(.own 1000),(.ag [(.own 1001),(.own 1002),(.t (.sl 1 []))])]),[(1000,(.list 134 4 [(.agg [(.int 1),(.int 0),(.lit (.bool .false)),(.lit (.bool .false))]),(.agg [(.int 1),(.int 0),(.lit (.bool .false)),(.lit (.bool .false))]),(.agg [(.int 1),(.int 0),(.lit (.bool .false)),(.lit (.bool .false))])])),(1001,(.list 3 1 [(.int 0)])),(1002,(.list 3 1 [(.int 0),(.int 0)]))]⟩
def Fz:List kC:=[dM,bJ,eG,eS,eT,eo,dU,ez,dz,gQ,iT,kN,kj,lC,oS]
theorem Co:aj Tryz.prog 71 (([dy,d0,.agg [.int 1,.int 0,.int 0,zp]]:List T).map S.t) [] (.tup [(.t (.agg [(.sl 4 [(.agg [(.int 1),(.int 0),(.lit (.bool .true)),(.lit (.bool .false))]),(.agg [(.int 1),(.int 0),(.lit (.bool .false)),(.lit (.bool .false))]),(.agg [(.int 1),(.int 0),(.lit (.bool .false)),(.lit (.bool .false))])]),(.agg [(.sl 1 [(.int 0)]),(.sl 1 [(.int 0),(.int 0)]),(.sl 1 [])])])),(.t (.int 0))]) []:=a8 aL (eC (l:=Fz) ⟨fj,bX,fZ,gG,gK,fx,eM,fu,ed,jt,kT,nQ,mP,oT,so,trivial⟩) 30 _ _ _ _ _ (by kernel_rfl:m6 Tryz.prog (xH Fz) [122,20,131,69,180,21,71,23,58,129,203,132,22,66,67] 200 30 71 (([dy,d0,.agg [.int 1,.int 0,.int 0,zp]]:List T).map S.t) []=some ((.tup [(.t (.agg [(.sl 4 [(.agg [(.int 1),(.int 0),(.lit (.bool .true)),(.lit (.bool .false))]),(.agg [(.int 1),(.int 0),(.lit (.bool .false)),(.lit (.bool .false))]),(.agg [(.int 1),(.int 0),(.lit (.bool .false)),(.lit (.bool .false))])]),(.agg [(.sl 1 [(.int 0)]),(.sl 1 [(.int 0),(.int 0)]),(.sl 1 [])])])),(.t (.int 0))]),[]))
abbrev zr:kC:=⟨71,[dy,d0,.agg [.int 1,.int 0,.int 0,zp]],(.tup [(.t (.agg [(.sl 4 [(.agg [(.int 1),(.int 0),(.lit (.bool .true)),(.lit (.bool .false))]),(.agg [(.int 1),(.int 0),(.lit (.bool .false)),(.lit (.bool .false))]),(.agg [(.int 1),(.int 0),(.lit (.bool .false)),(.lit (.bool .false))])]),(.agg [(.sl 1 [(.int 0)]),(.sl 1 [(.int 0),(.int 0)]),(.sl 1 [])])])),(.t (.int 0))]),[]⟩
def FU:List kC:=[dM,bJ,eG,eS,eT,eo,dU,ez,dz,gQ,iT,kN,kj,lC,oS,zr]
theorem Iu:aj Tryz.prog 23 (([dy,d0,steps]:List T).map S.t) [] (.tup [(.t (.agg [(.sl 4 [(.agg [(.int 1),(.int 1),(.lit (.bool .true)),(.lit (.bool .false))]),(.agg [(.int 1),(.int 1),(.lit (.bool .true)),(.lit (.bool .false))]),(.agg [(.int 1),(.int 1),(.lit (.bool .true)),(.lit (.bool .false))])]),(.agg [(.sl 1 [(.int 5)]),(.sl 1 [(.int 5),(.int (-5))]),(.sl 1 [])])])),(.t (.int 6)),(.t (.int 0))]) []:=a8 aL (eC (l:=FU) ⟨fj,bX,fZ,gG,gK,fx,eM,fu,ed,jt,kT,nQ,mP,oT,so,Co,trivial⟩) 30 _ _ _ _ _ (by kernel_rfl:m6 Tryz.prog (xH FU) [122,20,131,69,180,21,71,23,58,129,203,132,22,66,67] 200 30 23 (([dy,d0,steps]:List T).map S.t) []=some ((.tup [(.t (.agg [(.sl 4 [(.agg [(.int 1),(.int 1),(.lit (.bool .true)),(.lit (.bool .false))]),(.agg [(.int 1),(.int 1),(.lit (.bool .true)),(.lit (.bool .false))]),(.agg [(.int 1),(.int 1),(.lit (.bool .true)),(.lit (.bool .false))])]),(.agg [(.sl 1 [(.int 5)]),(.sl 1 [(.int 5),(.int (-5))]),(.sl 1 [])])])),(.t (.int 6)),(.t (.int 0))]),[]))
abbrev FG:kC:=⟨23,[dy,d0,steps],(.tup [(.t (.agg [(.sl 4 [(.agg [(.int 1),(.int 1),(.lit (.bool .true)),(.lit (.bool .false))]),(.agg [(.int 1),(.int 1),(.lit (.bool .true)),(.lit (.bool .false))]),(.agg [(.int 1),(.int 1),(.lit (.bool .true)),(.lit (.bool .false))])]),(.agg [(.sl 1 [(.int 5)]),(.sl 1 [(.int 5),(.int (-5))]),(.sl 1 [])])])),(.t (.int 6)),(.t (.int 0))]),[]⟩
def FQ:List kC:=[dM,bJ,eG,eS,eT,eo,dU,ez,dz,gQ,iT,kN,kj,lC,oS,zr,FG]
theorem Ko:aj Tryz.prog 142 (([dy,Bm]:List T).map S.t) [] (.tup [(.t (.sl 1 [(.int 0),(.int 1)])),(.t (.int 0))]) []:=a8 aL (eC (l:=FQ) ⟨fj,bX,fZ,gG,gK,fx,eM,fu,ed,jt,kT,nQ,mP,oT,so,Co,Iu,trivial⟩) 30 _ _ _ _ _ (by kernel_rfl:m6 Tryz.prog (xH FQ) [122,20,131,69,180,21,71,23,58,129,203,132,22,66,67] 200 30 142 (([dy,Bm]:List T).map S.t) []=some ((.tup [(.t (.sl 1 [(.int 0),(.int 1)])),(.t (.int 0))]),[]))
abbrev MV:kC:=⟨142,[dy,Bm],(.tup [(.t (.sl 1 [(.int 0),(.int 1)])),(.t (.int 0))]),[]⟩
abbrev Qc (c:Int):T:=.agg [.lit (.string (str [103])),.int 0,.int 1,.int c,.int 0,.int 0,.sl 3 [.agg [.int 0,.int 0,.int 1000000],.agg [.int c,.int 0,.int 1000000]]]
abbrev Dj:List T:=[.agg [.lit (.string (str [112])),.int 0,.int 300000],.agg [.lit (.string (str [113])),.int 1,.int 0]]
abbrev sY:List T:=[.lit (.string (str [97])),.lit (.string (str [98]))]
abbrev Ql (c:Int):List T:=[.sl 1 sY,.sl 7 [Qc c],.sl 3 Dj,.lit (.slice none 0 0),.int 0,.int 0]
abbrev tY (c:Int):T:=.agg (Ql c)
abbrev uF:List T:=[.sl 1 sY,.sl 1 [.lit (.string (str [103]))],.sl 1 [.lit (.string (str [112])),.lit (.string (str [113]))],.lit (.slice none 0 0)]
theorem OC (c:Int):aj Tryz.prog 121 (([tY c]:List T).map S.t) [] (.t (.bool true)) []:=a8 aL fy 30 _ _ _ _ _ (by kernel_rfl:m6 Tryz.prog pP [] 200 30 121 (([tY c]:List T).map S.t) []=some (.t (.bool true),[]))
theorem Qb (c:Int):aj Tryz.prog 125 (([tY c]:List T).map S.t) [] (.t (.bool false)) []:=a8 aL fy 30 _ _ _ _ _ (by kernel_rfl:m6 Tryz.prog pP [122] 200 30 125 (([tY c]:List T).map S.t) []=some (.t (.bool false),[]))
theorem QF (c:Int):aj Tryz.prog 126 (([tY c]:List T).map S.t) [] (.t (.bool true)) []:=a8 aL fy 30 _ _ _ _ _ (by kernel_rfl:m6 Tryz.prog pP [] 200 30 126 (([tY c]:List T).map S.t) []=some (.t (.bool true),[]))
theorem Qp (c:Int):aj Tryz.prog 122 (([tY c]:List T).map S.t) [] (.t (.agg uF)) []:=a8 aL fy 30 _ _ _ _ _ (by kernel_rfl:m6 Tryz.prog pP [122] 200 30 122 (([tY c]:List T).map S.t) []=some (.t (.agg uF),[]))
theorem FO (l:T) (h:l∈uF):aj Tryz.prog 123 [.t l,.fn 124 []] [] (.t (.bool false)) []:=by
 simp only[uF,List.mem_cons,List.not_mem_nil,or_false]at h
 rcases h with rfl|rfl|rfl|rfl
 ·exact a8 aL fy 30 _ _ _ _ _ (by kernel_rfl:m6 Tryz.prog pP [] 200 30 123 [.t (.sl 1 sY),.fn 124 []] []=some (.t (.bool false),[]))
 ·exact a8 aL fy 30 _ _ _ _ _ (by kernel_rfl:m6 Tryz.prog pP [] 200 30 123 [.t (.sl 1 [.lit (.string (str [103]))]),.fn 124 []] []=some (.t (.bool false),[]))
 ·exact a8 aL fy 30 _ _ _ _ _ (by kernel_rfl:m6 Tryz.prog pP [] 200 30 123 [.t (.sl 1 [.lit (.string (str [112])),.lit (.string (str [113]))]),.fn 124 []] []=some (.t (.bool false),[]))
 ·exact a8 aL fy 30 _ _ _ _ _ (by kernel_rfl:m6 Tryz.prog pP [] 200 30 123 [.t (.lit (.slice none 0 0)),.fn 124 []] []=some (.t (.bool false),[]))
theorem Qi:aj Tryz.prog 194 [.t (.sl 3 Dj),.fn 195 []] [] (.t (.bool false)) []:=a8 aL fy 30 _ _ _ _ _ (by kernel_rfl:m6 Tryz.prog pP [] 200 30 194 [.t (.sl 3 Dj),.fn 195 []] []=some (.t (.bool false),[]))
theorem Qw:aj Tryz.prog 197 [.t (.lit (.slice none 0 0)),.fn 198 []] [] (.t (.bool false)) []:=a8 aL fy 30 _ _ _ _ _ (by kernel_rfl:m6 Tryz.prog pP [] 200 30 197 [.t (.lit (.slice none 0 0)),.fn 198 []] []=some (.t (.bool false),[]))
def zu (c:Int):eH:=(⟨[103],0,1,c,0,0⟩,[(0,0,1000000),(c,0,1000000)])
theorem O7 (c:Int) (h0:20≤c) (h1:c≤200):jB (zu c):=by
 refine⟨by simp[zu],by simp only[zu];omega,by simp[zu],by simp[zu],by simp[zu],?_,?_,?_⟩
 ·intro k p hp
  match k,hp with
  | 0,hp=>simp[zu]at hp;subst hp;simp
  | 1,hp=>simp[zu]at hp;subst hp;refine⟨by simp,by simp,fun q _ hq=>?_⟩;simp[zu]at hq;subst hq;simp;omega
  | k+2,hp=>simp[zu]at hp
 ·intro p hp;simp[zu]at hp;subst hp;rfl
 ·intro p hp;simp[zu]at hp;subst hp;rfl
theorem EA (c:Int) (h0:20≤c) (h1:c≤200):aj Tryz.prog 127 [.t (tY c)] [] (.t (.bool true)) []:=by
 have c1:aj Tryz.prog 185 [.t (.sl 7 [Qc c]),.fn 192 []] [] (.t (.bool false)) []:=Ah [zu c] (by simp) (fun p hp=>by simp at hp;subst hp;exact xJ _ (O7 c h0 h1))
 have c2:=Qi
 have c3:=Qw
 have c4:=gu 0 (-100000) 100000000 true (by decide)
 have c5:=gu 0 0 100 true (by decide)
 refine nI Tryz.func127 rfl Tryz.ntmps127 ?_
 refine ah ?_
 refine ax c1 [] ?_
 refine ah ?_
 refine ax c2 [] ?_
 refine ah ?_
 refine ax c3 [] ?_
 refine ah ?_
 refine ax c4 [] ?_
 refine ah ?_
 refine ax c5 [] ?_
 refine ah ?_
 exact aF []
theorem G9 (c:Int) (h0:20≤c) (h1:c≤200):aj Tryz.prog 53 [.t (tY c)] [] (.t (.int 0)) []:=by
 have c1:=OC c
 have c2:=Qp c
 have c3:=Qb c
 have c4:=QF c
 have c5:=EA c h0 h1
 simp only[List.map_cons,List.map_nil]at c1 c2 c3 c4
 refine nI Tryz.func53 rfl Tryz.ntmps53 ?_
 refine ah ?_
 refine ax c1 [] ?_
 refine ah ?_
 refine ax c2 [] ?_
 refine ah ?_
 refine oP ?_
 refine lP (ι:=Nat) (fun k=>⟨[(1,.pt 101 [] 0),(9,.t (.agg uF)),(10,.t (.int k))],[(101,.box 32 (.t (tY c)))]⟩) (fun k=>k≤4) (fun k=>4 - k) 0 [(101,some 101)] (by omega) ?_
 intro k hk
 by_cases hb:k < 4
 ·have h4:k=0∨k=1∨k=2∨k=3:=by omega
  rcases h4 with rfl|rfl|rfl|rfl
  ·have q:=FO (.sl 1 sY) (by simp)
   refine ah ?_
   refine ax q [] ?_
   refine ah ?_
   exact nY 1 [(101,some 101)]
  ·have q:=FO (.sl 1 [.lit (.string (str [103]))]) (by simp)
   refine ah ?_
   refine ax q [] ?_
   refine ah ?_
   exact nY 2 [(101,some 101)]
  ·have q:=FO (.sl 1 [.lit (.string (str [112])),.lit (.string (str [113]))]) (by simp)
   refine ah ?_
   refine ax q [] ?_
   refine ah ?_
   exact nY 3 [(101,some 101)]
  ·have q:=FO (.lit (.slice none 0 0)) (by simp)
   refine ah ?_
   refine ax q [] ?_
   refine ah ?_
   exact nY 4 [(101,some 101)]
 ·obtain rfl:k=4:=by omega
  refine ah ?_
  refine ax c3 [] ?_
  refine ah ?_
  refine ax c4 [] ?_
  refine ah ?_
  refine ax c5 [] ?_
  refine ah ?_
  exact aF []
theorem Dq {l:List (Int×Int)} {p:Int×Int} (h:p∈l) (hp:0 < p.2):p.1∈Pc.aQ l:=by
 unfold Pc.aQ
 refine List.mem_flatMap.2 ⟨p,h,List.mem_replicate.2 ⟨by omega,rfl⟩⟩
theorem tz {l:List (Int×Int)} {x:Int} (h:x∈Pc.aQ l):∃ q∈l,q.1=x:=by
 unfold Pc.aQ at h
 obtain⟨q,hq,hx⟩:=List.mem_flatMap.1 h
 exact⟨q,hq,(List.mem_replicate.1 hx).2.symm⟩
structure QL (ps:List (Int×Int)) (k:Nat) (a b:List (Int×Int)):Prop where
 ca:Pc.Canon a
 cb:Pc.Canon b
 la:Pc.aQ a=(Pc.aQ ps).take k
 lb:Pc.aQ b=(Pc.aQ ps).drop k
 na:a.length≤ps.length
 nb:b.length≤ps.length
theorem K4 {ps:List (Int×Int)} (h:Pc.jd ps) (k:Nat):QL ps k (Pc.join (Pc.dp ps k)) (Pc.join (Pc.dq ps k)):=by
 have h1:=(tH h (Int.natCast_nonneg k)).each
 have h2:=(uO h (Int.natCast_nonneg k)).each
 have h3:=fun p hp=>(h.each p hp).1
 refine⟨Pc.iB fun p hp=>(h1 p hp).1,Pc.iB fun p hp=>(h2 p hp).1,?_,?_,?_,?_⟩
 ·rw[Pc.lj fun p hp=>(h1 p hp).1,Pc.zb ps h3]
 ·rw[Pc.lj fun p hp=>(h2 p hp).1,Pc.x8 ps h3]
 ·have:=Pc.fG (Pc.dp ps k);rw[Pc.kU]at this;exact this
 ·have:=Pc.fG (Pc.dq ps k);rw[Pc.kF]at this;exact this
theorem nG {a:List (Int×Int)} (h:Pc.Canon a):Pc.bN a=((Pc.aQ a).length:Int):=(Pc.dE a fun p hp=>Int.le_of_lt (h.pos p hp)).symm
theorem sF {a f g:List (Int×Int)} (hf:Pc.Vd f) (hg:Pc.Vd g) (hc:Pc.Canon a) (hl:∀ x∈Pc.aQ a,x∈Pc.aQ f∨x∈Pc.aQ g) (hn:a.length≤200) (hv:(Pc.aQ a).length≤1000000):Pc.Vd a:=by
 refine Pc.jw hc (fun p hp=>?_) hn (by rw[nG hc];omega)
 rcases hl p.1 (Dq hp (hc.pos p hp)) with h|h
 ·obtain⟨q,hq,he⟩:=tz h;rw[←he];exact (hf.each q hq).1
 ·obtain⟨q,hq,he⟩:=tz h;rw[←he];exact (hg.each q hq).1
structure yy (f g:List (Int×Int)) (back:Bool) (n o:List (Int×Int)):Prop where
 eq:Pc.push f g back=(n,o,0)
 vn:Pc.Vd n
 vo:Pc.Vd o
 ln:Pc.aQ n=if back then (Pc.aQ f++Pc.aQ g).drop (Pc.aQ g).length else (Pc.aQ g++Pc.aQ f).take (Pc.aQ f).length
 lo:Pc.aQ o=if back then (Pc.aQ f++Pc.aQ g).take (Pc.aQ g).length else (Pc.aQ g++Pc.aQ f).drop (Pc.aQ f).length
 nn:n.length≤f.length+g.length
 no:o.length≤f.length+g.length
theorem Ep {f g:List (Int×Int)} (hf:Pc.Vd f) (hg:Pc.Vd g) (hs:f.length+g.length≤200) (back:Bool):∃ n o,yy f g back n o:=by
 have vf:=nG hf.canon
 have vg:=nG hg.canon
 have bf:=hf.bN
 have bg:=hg.bN
 cases back with
 | true=>
  have hc:=K4 (pz hf hg) (Pc.aQ g).length
  rw[←vg]at hc
  have la:=hc.la
  have lb:=hc.lb
  rw[Pc.ey]at la lb
  have na:=hc.na
  have nb:=hc.nb
  rw[List.length_append]at na nb
  have hsh:Pc.shift f g true=(Pc.join (Pc.dq (f++g) (Pc.bN g)),Pc.join (Pc.dp (f++g) (Pc.bN g))):=rfl
  refine⟨_,_,?_,?_,?_,lb,la,nb,na⟩
  ·rw[sH (Pc.iq hf) (Pc.iq hg) (by rw[hsh];dsimp only;exact⟨by omega,by omega⟩),hsh]
  ·refine sF hf hg hc.cb (fun x hx=>?_) (by omega) (by rw[lb,List.length_drop,List.length_append];omega)
   rw[lb]at hx;exact List.mem_append.1 (List.mem_of_mem_drop hx)
  ·refine sF hf hg hc.ca (fun x hx=>?_) (by omega) (by rw[la,List.length_take,List.length_append];omega)
   rw[la]at hx;exact List.mem_append.1 (List.mem_of_mem_take hx)
 | false=>
  have hc:=K4 (pz hg hf) (Pc.aQ f).length
  rw[←vf]at hc
  have la:=hc.la
  have lb:=hc.lb
  rw[Pc.ey]at la lb
  have na:=hc.na
  have nb:=hc.nb
  rw[List.length_append]at na nb
  have hsh:Pc.shift f g false=(Pc.join (Pc.dp (g++f) (Pc.bN f)),Pc.join (Pc.dq (g++f) (Pc.bN f))):=rfl
  refine⟨_,_,?_,?_,?_,la,lb,by omega,by omega⟩
  ·rw[sH (Pc.iq hf) (Pc.iq hg) (by rw[hsh];dsimp only;exact⟨by omega,by omega⟩),hsh]
  ·refine sF hg hf hc.ca (fun x hx=>?_) (by omega) (by rw[la,List.length_take,List.length_append];omega)
   rw[la]at hx;exact List.mem_append.1 (List.mem_of_mem_take hx)
  ·refine sF hg hf hc.cb (fun x hx=>?_) (by omega) (by rw[lb,List.length_drop,List.length_append];omega)
   rw[lb]at hx;exact List.mem_append.1 (List.mem_of_mem_drop hx)
theorem yv:∀ f:List (Int×Int),Pc.bN f.reverse=Pc.bN f
 | []=>rfl
 | p :: r=>by rw[List.reverse_cons,Pc.eR,yv r];simp only[Pc.bN];omega
theorem Fp {α:Type} {l:List α} {i:Nat} (h:i < l.length):l.reverse[i]? = l[l.length - 1 - i]?:=List.getElem?_reverse h
theorem O4 {f:List (Int×Int)} (h:Pc.Vd f):Pc.Vd f.reverse:=by
 refine⟨by rw[List.length_reverse];exact h.len,?_,by rw[yv];exact h.bN⟩
 intro i hi p hp
 rw[List.length_reverse]at hi
 rw[Fp hi]at hp
 have h1:=h.each p (au hp)
 refine⟨by omega,fun q h0 hq=>?_⟩
 rw[Fp (by omega)]at hq
 have e:f.length - 1 - (i - 1)=f.length - 1 - i+1:=by omega
 rw[e]at hq
 have h2:=(h.ok (f.length - 1 - i+1) (by omega) q hq).2 p (by omega) (by simpa using hp)
 exact fun hh=>h2 hh.symm
theorem Js (r:Int) (hr:0 < r):∀ k:Nat,cs [r] k=[(k:Int)]
 | 0=>rfl
 | k+1=>by
  simp only[cs,Js r hr k]
  simp[yA,nx,rt,hr]
theorem Ad (r:Int) (hr:0 < r):∀ (l:List (Int×Int)) (a:Nat),(∀ p∈l,0≤p.2)→ka [r] 0 l a=l
 | [],_,_=>rfl
 | p :: t,a,h=>by
  have hp:=h p (by simp)
  simp only[ka,Js r hr,rt]
  rw[Ad r hr t _ (fun q hq=>h q (by simp[hq]))]
  have:((a+p.2.toNat:Nat):Int) - (a:Int)=p.2:=by omega
  simp
  rw[Int.max_eq_left hp]
  ext<;>simp
  omega
theorem JG {l:List (Int×Int)} (h:Pc.Vd l):Pc.merge l=l:=by
 rw[iL ⟨by have:=h.len;omega,fun p hp=>by have:=h.each p hp;omega⟩,Pc.join_self h.canon]
theorem At (r:Int) (hr:0 < r) (h1:r≤1000) (l:List (Int×Int)) (hl:Pc.Vd l) (hv:Pc.bN l≤r) (hne:l≠[]):zE l [r]=([l],0):=by
 have hR:nh [r]:=⟨by simp,by simp;omega,by simp[jC];omega⟩
 have hc:=Ox hR (hl.sane.bN).1 (by simp[jC];omega)
 unfold zE
 rw[JG hl]
 have hlen:=hl.len
 simp only[hc]
 rw[if_neg (by simp[hne];omega),if_neg (by simp)]
 simp[Bk,List.range_succ,Ad r hr l 0 hl.nonneg,Pc.join_self hl.canon]
theorem xS {b r:Int} (hb:0≤b∧b < 1000) (hr:0 < r) (h1:r≤1000):Pc.Vd [(b,r)]:=by
 refine Pc.jw ⟨hr,by simp,trivial⟩ (fun p hp=>?_) (by simp) (by simp[Pc.bN];omega)
 simp at hp;subst hp;exact hb
def dP (pm:T) (c r:Int) (fd:List Int):fk:={nodes:=.sl 1 sY,segs:=[zu c],ports:=[([112],0,300000),([113],1,0)],stat:=.lit (.slice none 0 0),vap:=.int 0,stl:=.int 0,rates:=[r],prates:=[r,-r],pumps:=pm,feeds:=fd}
theorem F5 (pm:T) (hpm:pm.width=1) (c r:Int) (fd:List Int) (h0:0≤r) (h1:r≤1000) (hf:fd.length=2) (hb:∀ b∈fd,0≤b∧b < 1000):ml (dP pm c r fd):=by
 refine⟨rfl,rfl,rfl,rfl,hpm,rfl,rfl,hf,by simp[dP],by simp[dP],by simp[dP],by simp[dP],?_,?_,?_⟩
 ·intro x hx;simp[dP]at hx;omega
 ·intro x hx;simp[dP]at hx;omega
 ·intro x hx;have:=hb x hx;omega
section
variable {pm:T} {c r b b':Int} {f n o:List (Int×Int)}
theorem OH (hr:0 < r):cd 0 true 0 (dP pm c r [b,b']).ports (dP pm c r [b,b']).prates=[(0,r)]:=by
 have h1:r≠0:=by omega
 have h2:max r (-r)=r:=by omega
 simp[dP,cd,gn,h1,h2,hr]
theorem Pz (hr:0 < r):cd 0 false 0 (dP pm c r [b,b']).ports (dP pm c r [b,b']).prates=[]:=by
 have h1:¬ (r≤0):=by omega
 simp[dP,cd,gn,h1,hr]
theorem Pl (hr:0 < r):cd 1 true 0 (dP pm c r [b,b']).ports (dP pm c r [b,b']).prates=[]:=by
 have h1:¬ (r < 0):=by omega
 simp[dP,cd,gn,h1,hr]
theorem O8 (hr:0 < r):cd 1 false 0 (dP pm c r [b,b']).ports (dP pm c r [b,b']).prates=[(1,r)]:=by
 have h1:r≠0:=by omega
 have h2:max (-r) r=r:=by omega
 have h3:0≤r:=by omega
 simp[dP,cd,gn,h1,h2,h3,hr]
theorem Km (hr:0 < r):bz 0 true 0 ((dP pm c r [b,b']).segs.map (·.1)) (dP pm c r [b,b']).rates=[]:=by
 have h1:¬ (r < 0):=by omega
 simp[dP,zu,bz,E7,vT,vU,h1]
theorem PG (hr:0 < r):bz 0 false 0 ((dP pm c r [b,b']).segs.map (·.1)) (dP pm c r [b,b']).rates=[(0,r)]:=by
 have h1:¬ (r < 0):=by omega
 have h2:max r (-r)=r:=by omega
 have h3:r≠0:=by omega
 simp[dP,zu,bz,E7,vT,vU,h1,gn,h2,h3]
theorem Jv (hr:0 < r):bz 1 true 0 ((dP pm c r [b,b']).segs.map (·.1)) (dP pm c r [b,b']).rates=[(0,r)]:=by
 have h1:¬ (r < 0):=by omega
 have h2:max r (-r)=r:=by omega
 have h3:r≠0:=by omega
 simp[dP,zu,bz,E7,vT,vU,h1,gn,h2,h3]
theorem Pf (hr:0 < r):bz 1 false 0 ((dP pm c r [b,b']).segs.map (·.1)) (dP pm c r [b,b']).rates=[]:=by
 have h1:¬ (r < 0):=by omega
 simp[dP,zu,bz,E7,vT,vU,h1]
abbrev L6:T:=.sl 1 (([0,1]:List Int).map aC)
theorem MD (hpm:pm.width=1) (hr:0 < r) (h1:r≤1000) (hb:0≤b∧b < 1000) (hb':0≤b'∧b' < 1000) (hf:Pc.Vd f) (hp:yy f [(b,r)] false n o) :
  wq (dP pm c r [b,b']) L6 0 [some f] [none] [none,none] [some n] [some o.reverse] [none,none]:=by
 have hok:=F5 pm hpm c r [b,b'] (by omega) h1 rfl (fun x hx=>by simp at hx;omega)
 have hv:=xS hb hr h1
 have hcm:kH (dP pm c r [b,b']) [none] 0=[(b,r)]:=by
  unfold kH
  rw[OH hr,Km hr]
  simp[ve,dP]
 have hbk:mg (dP pm c r [b,b']).rates (0,r)=false:=by
  have:¬ (r < 0):=by omega
  simp[mg,dP,this]
 have hg0:gJ [some f] (0,r)=f:=rfl
 have hfv:tW f [(b,r)] false=n:=by simp[tW,hp.eq]
 have hov:y9 f [(b,r)] false=o.reverse:=by simp[y9,hp.eq]
 have hpe:wo f [(b,r)] false=0:=by simp[wo,hp.eq]
 have hfl:=hf.len
 have hol:=hp.vo.len
 have:=E9 (dP pm c r [b,b']) hok L6 rfl [some f] [none] [none,none] 0 rfl rfl rfl (by rw[hcm];exact hv.sane) (by rw[Km hr];simp)
  [(b,r)] (by rw[hcm];exact Pc.join_self hv.canon) (by simp) (by simp) [] [(0,r)] (Pz hr) (PG hr) [[(b,r)]] (At r hr h1 _ hv (by simp[Pc.bN]) (by simp)) rfl
  (fun k y hy=>by
   match k,hy with
   | 0,hy=>
    simp at hy;subst hy
    rw[hbk,hg0]
    refine⟨⟨f,rfl,by omega⟩,by simp,?_,?_⟩
    ·simp only[List.length_nil,Nat.zero_add,List.getD_cons_zero];rw[hov,List.length_reverse];omega
    ·simp only[List.length_nil,Nat.zero_add,List.getD_cons_zero];exact hpe
   | k+1,hy=>simp at hy)
 unfold wq
 simp only[List.length_singleton,List.length_nil,fQ,ju,jY,nD,List.getD_cons_zero,hbk,hg0,Nat.zero_add,hfv,hov,List.set_cons_zero]at this
 exact this
theorem Mi (hpm:pm.width=1) (hr:0 < r) (h1:r≤1000) (hb:0≤b∧b < 1000) (hb':0≤b'∧b' < 1000) (ho:Pc.Vd o) (hov:Pc.bN o=r) (fl:List (Int×Int)) :
  wq (dP pm c r [b,b']) L6 1 [some fl] [some o.reverse] [none,none] [some fl] [some o.reverse] [none,some o.reverse]:=by
 have hok:=F5 pm hpm c r [b,b'] (by omega) h1 rfl (fun x hx=>by simp at hx;omega)
 have hv:=O4 ho
 have hcm:kH (dP pm c r [b,b']) [some o.reverse] 1=o.reverse:=by
  unfold kH
  rw[Pl hr,Jv hr]
  simp[ve,gJ]
 have hvol:Pc.bN o.reverse=r:=by rw[yv,hov]
 have hne:o.reverse≠[]:=fun e=>by rw[e]at hvol;simp[Pc.bN]at hvol;omega
 have hlen:=hv.len
 have:=E9 (dP pm c r [b,b']) hok L6 rfl [some fl] [some o.reverse] [none,none] 1 rfl rfl rfl (by rw[hcm];exact hv.sane)
  (by
   rw[Jv hr]
   intro z hz p hp
   simp at hz;subst hz
   have:p∈o.reverse:=hp
   have:=hv.each p this
   omega)
  o.reverse (by rw[hcm];exact Pc.join_self hv.canon) hne hlen [(1,r)] [] (O8 hr) (Pf hr) [o.reverse] (At r hr h1 _ hv (by omega) hne) rfl (fun k y hy=>by simp at hy)
 unfold wq
 simp only[List.length_singleton,List.length_nil,fQ,ju,jY,nD,List.getD_cons_zero,List.set_cons_zero,List.set_cons_succ]at this
 exact this
end
abbrev d5:fk:=dP (.sl 1 []) 20 5 [2,0]
def f5:Nat→List (Option (List (Int×Int)))
 | 0=>[some [(1,20)]]
 | 1=>[some [(2,5),(1,15)]]
 | _=>[some [(2,10),(1,10)]]
def g5:Nat→List (Option (List (Int×Int)))
 | 0=>[]
 | _=>[some [(1,5)]]
def o5:Nat→List (Option (List (Int×Int)))
 | 0=>[]
 | _=>[none,some [(1,5)]]
theorem QT:Pc.Vd [(1,20)]:=Pc.jw ⟨by simp,by simp,trivial⟩ (by simp) (by simp) (by simp[Pc.bN])
theorem QX:Pc.Vd [(2,5),(1,15)]:=Pc.jw ⟨by simp,by simp,by simp,by simp,trivial⟩ (by simp) (by simp) (by simp[Pc.bN])
theorem EF {f n o:List (Int×Int)} (hf:Pc.Vd f) (hl:f.length≤10) (h:Pc.push f [(2,5)] false=(n,o,0)):yy f [(2,5)] false n o:=by
 obtain⟨n',o',hp⟩:=Ep hf (xS (b:=2) (r:=5) (by omega) (by omega) (by omega)) (by simp;omega) false
 have:=hp.eq
 rw[h]at this
 cases this
 exact hp
theorem FH {f g n o:List (Int×Int)} {back:Bool} (hf:Pc.Vd f) (hg:Pc.Vd g) (h:Pc.shift f g back=(n,o)) (hn:n.length≤200) (ho:o.length≤200):Pc.push f g back=(n,o,0):=by
 unfold Pc.push
 rw[if_pos ⟨Pc.iq hf,Pc.iq hg⟩,h,if_pos ⟨hn,ho⟩]
theorem Nt {f n:List (Int×Int)} (hf:Pc.Vd f) (hp:yy f [(2,5)] false n [(1,5)]):Nz d5 [0,1] [some f] [some n] [some [(1,5)]] [none,some [(1,5)]]:=by
 intro gi oo
 have h0:=MD (pm:=.sl 1 []) (c:=20) (b':=0) rfl (r:=5) (by omega) (by omega) (by omega) (by omega) hf hp
 have h1:=Mi (pm:=.sl 1 []) (c:=20) (b:=2) (b':=0) rfl (r:=5) (by omega) (by omega) (by omega) (by omega) hp.vo (by simp[Pc.bN]) n
 exact LI d5 (F5 _ rfl 20 5 _ (by omega) (by omega) rfl (by simp)) [0,1] (by simp) gi oo
  (fun k=>match k with|0=>[some f]|_+1=>[some n]) (fun k=>match k with|0=>[none]|_+1=>[some [(1,5)]]) (fun k=>match k with|0=>[none,none]|1=>[none,none]|_+2=>[none,some [(1,5)]]) rfl rfl
  (fun k node hk=>by
   match k,hk with
   | 0,hk=>simp at hk;subst hk;exact h0
   | 1,hk=>simp at hk;subst hk;exact h1
   | k+2,hk=>simp at hk)
theorem NU (k i:Nat) (hk:k < 2):Pc.jd (jg o5 (k+1) i)∧(Pc.join (jg o5 (k+1) i)).length≤200:=by
 have h:(jg o5 (k+1) i).length≤2∧∀ p∈jg o5 (k+1) i,p=(1,5):=by
  match k,i,hk with
  | 0,0,_=>simp[jg,o5]
  | 0,1,_=>simp[jg,o5]
  | 0,i+2,_=>simp[jg,o5]
  | 1,0,_=>simp[jg,o5]
  | 1,1,_=>simp[jg,o5]
  | 1,i+2,_=>simp[jg,o5]
  | k+2,_,hk=>omega
 refine⟨⟨by omega,fun p hp=>?_⟩,?_⟩
 ·rw[h.2 p hp];simp
 ·have:=Pc.fG (jg o5 (k+1) i);omega
theorem Mu:aj Tryz.prog 24 (([dy,.sl 1 [.sl 2 [.agg [.int 1,.int 20]]],Bm,.sl 1 [.int 2,.int 0],.int 2]:List T).map S.t) [] (.tup [(.own 1000),(.t (.sl 1 [.sl 2 [],.sl 2 [.agg [.int 1,.int 10]]])),(.t (.int 0))]) [(1000,(.list 89 1 [.sl 2 [.agg [.int 2,.int 10],.agg [.int 1,.int 10]]]))]:=
 LN d5 (F5 _ rfl 20 5 _ (by omega) (by omega) rfl (by simp)) (G9 20 (by omega) (by omega)) [[(1,20)]] ⟨rfl,fun g hg=>by simp at hg;subst hg;exact QT,fun i g s hi hs=>by
   match i,hi,hs with
   | 0,hi,hs=>simp at hi;simp[dP]at hs;subst hi;subst hs;rfl
   | i+1,hi,hs=>simp at hi⟩ [0,1] Ko (fun x hx=>by simp[dP]at hx;omega) 2 (by omega) f5 g5 o5 rfl rfl rfl (fun k=>rfl)
  (fun k hk=>by
   match k,hk with
   | 0,_=>exact Nt QT (EF QT (by simp) (FH QT (xS (by omega) (by omega) (by omega)) (by decide) (by simp) (by simp)))
   | 1,_=>exact Nt QX (EF QX (by simp) (FH QX (xS (by omega) (by omega) (by omega)) (by decide) (by simp) (by simp)))
   | k+2,hk=>omega)
  (fun k i hk=>(NU k i hk).1) (fun k i p hk hp=>by
   match i,hp with
   | 0,hp=>simp[o5]at hp
   | 1,hp=>simp[o5]at hp;subst hp;simp
   | i+2,hp=>simp[o5]at hp) (fun k i hk=>(NU k i hk).2)
abbrev K5:kC:=⟨24,[dy,.sl 1 [.sl 2 [.agg [.int 1,.int 20]]],Bm,.sl 1 [.int 2,.int 0],.int 2],(.tup [(.own 1000),(.t (.sl 1 [.sl 2 [],.sl 2 [.agg [.int 1,.int 10]]])),(.t (.int 0))]),[(1000,(.list 89 1 [.sl 2 [.agg [.int 2,.int 10],.agg [.int 1,.int 10]]]))]⟩
def sR:List kC:=[dM,bJ,eG,eS,eT,eo,dU,ez,dz,gQ,iT,kN,kj,lC,oS,zr,FG,MV,K5]
theorem Hr:aj Tryz.prog 5 (([]:List T).map S.t) [] (.t (.lit (.bool .true))) []:=a8 aL (eC (l:=sR) ⟨fj,bX,fZ,gG,gK,fx,eM,fu,ed,jt,kT,nQ,mP,oT,so,Co,Iu,Ko,Mu,trivial⟩) 30 _ _ _ _ _ (by kernel_rfl:m6 Tryz.prog (xH sR) [122,20,131,69,180,21,71,23,58,129,203,132,22,66,67] 200 30 5 (([]:List T).map S.t) []=some ((.t (.lit (.bool .true))),[]))
end Go.Proofs.YtocndodilpimnaaGreat
