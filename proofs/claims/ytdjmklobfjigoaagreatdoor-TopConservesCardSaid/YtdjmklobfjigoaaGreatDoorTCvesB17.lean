import Derived.Test.YtdjmklobfjigoaaGreatDoorTCvesB16
import Derived.Test.YtdjmklobfjigoaaGreatDoorTCvesB12
import Derived.Test.YtdjmklobfjigoaaGreatDoorTCvesB14
set_option maxRecDepth 100000
set_option maxHeartbeats 16000000
set_option linter.unusedVariables false
set_option linter.unusedSimpArgs false
namespace Go.Proofs.YtdjmklobfjigoaaGreatDoor
open Go.RowKit Sy Dl
open Go.IntWalk renaming iteOmega → iO, toNatUp → tN
def TickE (d:LineD) (ord:List Int) (f0:List (Option (List (Int×Int)))):Prop:=∀ gi oo:List (Option (List (Int×Int))),∃ f1 g1 o1:List (Option (List (Int×Int))),
 FnOk Tryz.prog 26 [.pt 0 [] 0] [(0,lineX d.net d.plan (.sl 1 (d.feeds.map encI)) (.sl 1 (ord.map encI)) (.own 2) (.own 3)),(1,blkG f0),(2,blkG gi),(3,blkG oo)]
   (.t (.int 4)) [(0,lineX d.net d.plan (.sl 1 (d.feeds.map encI)) (.sl 1 (ord.map encI)) (.own 1000) (.own 1001)),(1,blkG f1),(1000,blkG g1),(1001,blkG o1)]
theorem arun_err (d:LineD) (hd:LineOk d) (hn:NetC d) (fills:List (List (Int×Int))) (hf:FillsOk d fills) (ord:List Int) (ho:FnOk Tryz.prog 48 [.t (.agg d.net),.t (.agg d.plan)] [] (.tup [.t (.sl 1 (ord.map encI)),.t (.int 0)]) [])
  (hfd:∀ b∈d.feeds,0≤b∧b < 1000) (ticks:Nat) (ht:ticks≤400) (F G O:Nat→List (Option (List (Int×Int)))) (hF0:F 0=fills.map some) (hG0:G 0=[]) (hO0:O 0=[]) (hOl:∀ k,(O (k+1)).length=d.ports.length)
  (K:Nat) (hK:K < ticks)
  (hT:∀ k,k < K→TickC d ord (F k) (F (k+1)) (G (k+1)) (O (k+1))) (hS:∀ k i,k < K→Pc.Sane (allV O (k+1) i)) (hz:∀ k i p,k < K→p∈((O (k+1)).getD i none).getD []→p.2≠0) (hL:∀ k i,k < K→(Pc.join (allV O (k+1) i)).length≤200)
  (hF:TickE d ord (F K)∨(TickC d ord (F K) (F (K+1)) (G (K+1)) (O (K+1))∧(∀ i,Pc.Sane (allV O (K+1) i))∧(∀ i,∀ p∈((O (K+1)).getD i none).getD [],p.2≠0)∧∃ Ki,Ki < d.ports.length∧(∀ i,i < Ki→(Pc.join (allV O (K+1) i)).length≤200)∧200 < (Pc.join (allV O (K+1) Ki)).length)) :
  FnOk Tryz.prog 16 [.t (.agg d.net),.t (.sl 1 (fills.map encPs)),.t (.agg d.plan),.t (.sl 1 (d.feeds.map encI)),.t (.int ticks)] []
   (.tup [.t (.lit (.slice none 0 0)),.t (.lit (.slice none 0 0)),.t (.int 4)]) []:=by
 have w1:=hd.w1
 have w2:=hd.w2
 have w3:=hd.w3
 have w4:=hd.w4
 have w5:=hd.w5
 have hmP:=hd.maxP
 have c1:=astart_fn d hd hn fills hf ord ho hfd
 rw[←hF0]at c1
 obtain⟨W,wl,wg,ws,wn,w0,wt,wf⟩:=rows_ex 40 d.ports.length (fun k i=>Pc.join (allV O k i))
 have hW0:=w0 (fun q=>rfl)
 have hwt:=wt ticks
 refine FnOk.intro fact_mixed Tryz.func16 rfl Tryz.ntmps16 (by rfl) (by simp) ?_
 repeat (first|(refine n1s rfl ?_;simp[go_sem,↓iO,iO,tN,w1,w2,w3,w4,w5])|refine anI ?_|refine⟨dcK,?_⟩|refine iP ?_|refine iN ?_)
 refine cF (c1) [(1000,600),(1001,601)] ?_ ?_ ?_ ?_<;>simp[go_sem,↓iO,iO,tN,w1,w2,w3,w4,w5]
 repeat (first|(refine n1s rfl ?_;simp[go_sem,↓iO,iO,tN,w1,w2,w3,w4,w5])|refine anI ?_|refine⟨dcK,?_⟩|refine iP ?_|refine iN ?_)
 refine nf1_sound' _ _ _ ?_;simp only[nf1]
 refine CW.toRows 139 (W 0 0) (e:=41) (s:=1) (xs:=List.replicate d.ports.length (.lit (.slice none 0 0))) (by rfl) (by rw[wl];simp) (fun i x u h1 h2=>?_) ?_
 ·rw[hW0,List.getElem?_replicate]at h2
  rw[List.getElem?_replicate]at h1
  split at h1
  ·rename_i hi
   rw[if_pos hi]at h2
   cases h1;cases h2
   unfold relTU;trivial
  ·cases h1
 simp[go_sem,↓iO,iO,tN]
 refine CW.loop (ι:=Nat) (fun k=>⟨[(13,.pt 600 [] 0),(15,.own 511),(40,.t (.int ticks)),(41,.t (.int k))],[(600,lineY d.net d.plan (.sl 1 (d.feeds.map encI)) (.sl 1 (ord.map encI)) (.own 601) (.own 602) (.own 603)),(601,blkG (F k)),(602,blkG (G k)),(603,blkG (O k)),(511,.rows 41 1 (W k 0) [])]⟩) (fun k=>k≤K) (fun k=>K - k) 0
  [(600,some 600),(601,some 601),(602,none),(603,none),(511,some 139)] (by omega) ?_ ?_
 ·simp[go_sem,↓iO,iO,tN,hG0,hO0]
 intro k hk
 by_cases hbK:k < K
 ·have hb:k < ticks:=by omega
  have ct:=hT k hbK (G k) (O k)
  have hol:=hOl k
  obtain⟨F0,hF0⟩:∃ X,F k=X:=⟨_,rfl⟩
  obtain⟨G0,hG0⟩:∃ X,G k=X:=⟨_,rfl⟩
  obtain⟨O0,hO0⟩:∃ X,O k=X:=⟨_,rfl⟩
  obtain⟨F1,hF1⟩:∃ X,F (k+1)=X:=⟨_,rfl⟩
  obtain⟨G1,hG1⟩:∃ X,G (k+1)=X:=⟨_,rfl⟩
  obtain⟨O1,hO1⟩:∃ X,O (k+1)=X:=⟨_,rfl⟩
  rw[hF0,hG0,hO0,hF1,hG1,hO1]at ct
  rw[hF0,hG0,hO0]
  rw[hO1]at hol
  repeat (first|(refine n1s rfl ?_;simp[go_sem,↓iO,iO,tN,hb])|refine anI ?_|refine⟨dcK,?_⟩|refine iP ?_|refine iN ?_)
  refine cF (ct) [(0,600),(1,601),(2,602),(3,603),(1000,612),(1001,613)] ?_ ?_ ?_ ?_<;>simp[go_sem,↓iO,iO,tN]
  repeat (first|(refine n1s rfl ?_;simp[go_sem,↓iO,iO,tN])|refine anI ?_|refine⟨dcK,?_⟩|refine iP ?_|refine iN ?_)
  refine nf1_sound' _ _ _ ?_;simp only[nf1]
  refine CW.loop (ι:=Nat) (fun i=>⟨[(13,.pt 600 [] 0),(15,.own 511),(40,.t (.int ticks)),(41,.t (.int k)),(51,.own 613),(52,.t (.int d.ports.length)),(53,.t (.int i))],[(600,lineY d.net d.plan (.sl 1 (d.feeds.map encI)) (.sl 1 (ord.map encI)) (.own 601) (.own 612) (.own 613)),(601,blkG F1),(612,blkG G1),(613,blkG O1),(511,.rows 41 1 (W k i) [])]⟩) (fun i=>i≤d.ports.length) (fun i=>d.ports.length - i) 0
   [(600,some 600),(601,some 601),(612,some 612),(613,some 613),(511,some 511)] (by omega) ?_ ?_
  ·simp[go_sem,↓iO,iO,tN,hol]
  intro i hi
  by_cases hb2:i < d.ports.length
  ·have hwl:=wl k i
   have hwg:=wg k i hb2
   have hws:=ws k i hb2
   obtain⟨o,hoi⟩:∃ o,O1[i]? = some o:=has_get (by omega)
   have hoi2:O1[i]'(by omega)=o:=(List.getElem?_eq_some_iff.1 hoi).2
   have hod:(O1.getD i none).getD []=o.getD []:=by rw[List.getD_eq_getElem?_getD,hoi];rfl
   have ha:allV O (k+1) i=allV O k i++o.getD []:=by simp only[allV,hO1,hod]
   have hs:=hS k i hbK
   have hzz:=fun p=>hz k i p hbK
   rw[hO1,hod]at hzz
   have hll:=hL k i hbK
   rw[ha]at hs hws hll
   have j1:=join_fn (allV O k i) (o.getD []) hs hzz
   obtain⟨J,hJ⟩:∃ J,Pc.join (allV O k i)=J:=⟨_,rfl⟩
   obtain⟨J2,hJ2⟩:∃ J2,Pc.join (allV O k i++o.getD [])=J2:=⟨_,rfl⟩
   rw[hJ,hJ2]at j1
   rw[hJ]at hwg
   rw[hJ2]at hws hll
   obtain⟨X1,hX1⟩:∃ X,W k i=X:=⟨_,rfl⟩
   rw[hX1]at hwl hwg hws ⊢
   have hol2:i < O1.length:=by omega
   cases o with
   | none=>
    iterate 4 (refine n1s rfl ?_;simp[go_sem,↓iO,iO,tN,hoi,hoi2,hol2,hb2,hol,widths_gv,width_gv];(repeat (refine anI ?_));try (refine⟨dcK,?_⟩))
    refine CW.openRow 511 i 555 (us:=X1) (ex:=[]) (u:=.ow 40 2 (J.map encP)) (b:=.list 40 2 (J.map encP)) (by rfl) hwg (by rfl) (by rfl) (by kernel_rfl) (by omega) ?_
    simp[go_sem,↓iO,iO,tN]
    iterate 1 (refine n1s rfl ?_;simp[go_sem,↓iO,iO,tN,hwl,hwg,hb2];(repeat (refine anI ?_));try (refine⟨dcK,?_⟩))
    refine cF (j1) [(0,555),(1000,660)] ?_ ?_ ?_ ?_<;>simp[go_sem,↓iO,iO,tN,hwl,hwg,hb2]
    repeat (refine anI ?_)
    try (refine⟨dcK,?_⟩)
    iterate 1 (refine n1s rfl ?_;simp[go_sem,↓iO,iO,tN,hwl,hwg,hb2,hll];(repeat (refine anI ?_));try (refine⟨dcK,?_⟩))
    refine CW.closeRow 511 i 660 (.ow 40 2 (J2.map encP)) (us:=X1) (ex:=[(i,.own 660)]) (by rfl) (by rfl) (by simp[go_sem]) (by rfl) ?_
    simp[go_sem,↓iO,iO,tN,hws]
    repeat (first|(refine n1s rfl ?_;simp[go_sem,↓iO,iO,tN,hll])|refine anI ?_|refine⟨dcK,?_⟩|refine iP ?_|refine iN ?_)
    rw[RqN];refine⟨i+1,[(600,some 600),(601,some 601),(612,some 612),(613,some 613),(511,some 511)],?_,?_,?_⟩
    ·omega
    ·omega
    simp[go_sem,↓iO,iO,tN]
   | some o=>
    iterate 4 (refine n1s rfl ?_;simp[go_sem,↓iO,iO,tN,hoi,hoi2,hol2,hb2,hol,widths_gv,width_gv];(repeat (refine anI ?_));try (refine⟨dcK,?_⟩))
    refine CW.openRow 511 i 555 (us:=X1) (ex:=[]) (u:=.ow 40 2 (J.map encP)) (b:=.list 40 2 (J.map encP)) (by rfl) hwg (by rfl) (by rfl) (by kernel_rfl) (by omega) ?_
    simp[go_sem,↓iO,iO,tN]
    iterate 1 (refine n1s rfl ?_;simp[go_sem,↓iO,iO,tN,hwl,hwg,hb2];(repeat (refine anI ?_));try (refine⟨dcK,?_⟩))
    refine cF (j1) [(0,555),(1000,660)] ?_ ?_ ?_ ?_<;>simp[go_sem,↓iO,iO,tN,hwl,hwg,hb2]
    repeat (refine anI ?_)
    try (refine⟨dcK,?_⟩)
    iterate 1 (refine n1s rfl ?_;simp[go_sem,↓iO,iO,tN,hwl,hwg,hb2,hll];(repeat (refine anI ?_));try (refine⟨dcK,?_⟩))
    refine CW.closeRow 511 i 660 (.ow 40 2 (J2.map encP)) (us:=X1) (ex:=[(i,.own 660)]) (by rfl) (by rfl) (by simp[go_sem]) (by rfl) ?_
    simp[go_sem,↓iO,iO,tN,hws]
    repeat (first|(refine n1s rfl ?_;simp[go_sem,↓iO,iO,tN,hll])|refine anI ?_|refine⟨dcK,?_⟩|refine iP ?_|refine iN ?_)
    rw[RqN];refine⟨i+1,[(600,some 600),(601,some 601),(612,some 612),(613,some 613),(511,some 511)],?_,?_,?_⟩
    ·omega
    ·omega
    simp[go_sem,↓iO,iO,tN]
  ·obtain rfl:i=d.ports.length:=by omega
   rw[wn]
   repeat (first|(refine n1s rfl ?_;simp[go_sem,↓iO,iO,tN])|refine anI ?_|refine⟨dcK,?_⟩|refine iP ?_|refine iN ?_)
   rw[RqN];refine⟨k+1,[(600,some 600),(601,some 601),(602,some 612),(603,some 613),(511,some 511)],?_,?_,?_⟩
   ·omega
   ·omega
   simp[go_sem,↓iO,iO,tN,hF1,hG1,hO1]
 ·obtain rfl:k=K:=by omega
  have hb:k < ticks:=hK
  rcases hF with hE|⟨hC,hSK,hzK,Ki,hKi,hLi,hLK⟩
  ·obtain⟨f1,g1,o1,ce⟩:=hE (G k) (O k)
   obtain⟨F0,hF0⟩:∃ X,F k=X:=⟨_,rfl⟩
   obtain⟨G0,hG0⟩:∃ X,G k=X:=⟨_,rfl⟩
   obtain⟨O0,hO0⟩:∃ X,O k=X:=⟨_,rfl⟩
   rw[hF0,hG0,hO0]at ce
   rw[hF0,hG0,hO0]
   repeat (first|(refine n1s rfl ?_;simp[go_sem,↓iO,iO,tN,hb])|refine anI ?_|refine⟨dcK,?_⟩|refine iP ?_|refine iN ?_)
   refine cF (ce) [(0,600),(1,601),(2,602),(3,603),(1000,612),(1001,613)] ?_ ?_ ?_ ?_<;>simp[go_sem,↓iO,iO,tN]
   repeat (first|(refine n1s rfl ?_;simp[go_sem,↓iO,iO,tN])|refine anI ?_|refine⟨dcK,?_⟩|refine iP ?_|refine iN ?_)
   first|rw[TqR]|rw[TqN]
   refine⟨[],?_⟩
   simp[go_sem,↓iO,iO,tN]
  ·have ct:=hC (G k) (O k)
   have hol:=hOl k
   obtain⟨F0,hF0⟩:∃ X,F k=X:=⟨_,rfl⟩
   obtain⟨G0,hG0⟩:∃ X,G k=X:=⟨_,rfl⟩
   obtain⟨O0,hO0⟩:∃ X,O k=X:=⟨_,rfl⟩
   obtain⟨F1,hF1⟩:∃ X,F (k+1)=X:=⟨_,rfl⟩
   obtain⟨G1,hG1⟩:∃ X,G (k+1)=X:=⟨_,rfl⟩
   obtain⟨O1,hO1⟩:∃ X,O (k+1)=X:=⟨_,rfl⟩
   rw[hF0,hG0,hO0,hF1,hG1,hO1]at ct
   rw[hF0,hG0,hO0]
   rw[hO1]at hol
   repeat (first|(refine n1s rfl ?_;simp[go_sem,↓iO,iO,tN,hb])|refine anI ?_|refine⟨dcK,?_⟩|refine iP ?_|refine iN ?_)
   refine cF (ct) [(0,600),(1,601),(2,602),(3,603),(1000,612),(1001,613)] ?_ ?_ ?_ ?_<;>simp[go_sem,↓iO,iO,tN]
   repeat (first|(refine n1s rfl ?_;simp[go_sem,↓iO,iO,tN])|refine anI ?_|refine⟨dcK,?_⟩|refine iP ?_|refine iN ?_)
   refine nf1_sound' _ _ _ ?_;simp only[nf1]
   refine CW.loop (ι:=Nat) (fun i=>⟨[(13,.pt 600 [] 0),(15,.own 511),(40,.t (.int ticks)),(41,.t (.int k)),(51,.own 613),(52,.t (.int d.ports.length)),(53,.t (.int i))],[(600,lineY d.net d.plan (.sl 1 (d.feeds.map encI)) (.sl 1 (ord.map encI)) (.own 601) (.own 612) (.own 613)),(601,blkG F1),(612,blkG G1),(613,blkG O1),(511,.rows 41 1 (W k i) [])]⟩) (fun i=>i≤Ki) (fun i=>Ki - i) 0
    [(600,some 600),(601,some 601),(612,some 612),(613,some 613),(511,some 511)] (by omega) ?_ ?_
   ·simp[go_sem,↓iO,iO,tN,hol]
   intro i hi
   by_cases hbi:i < Ki
   ·have hb2:i < d.ports.length:=by omega
    have hwl:=wl k i
    have hwg:=wg k i hb2
    have hws:=ws k i hb2
    obtain⟨o,hoi⟩:∃ o,O1[i]? = some o:=has_get (by omega)
    have hoi2:O1[i]'(by omega)=o:=(List.getElem?_eq_some_iff.1 hoi).2
    have hod:(O1.getD i none).getD []=o.getD []:=by rw[List.getD_eq_getElem?_getD,hoi];rfl
    have ha:allV O (k+1) i=allV O k i++o.getD []:=by simp only[allV,hO1,hod]
    have hs:=hSK i
    have hzz:=hzK i
    rw[hO1,hod]at hzz
    have hll:=hLi i hbi
    rw[ha]at hs hws hll
    have j1:=join_fn (allV O k i) (o.getD []) hs hzz
    obtain⟨J,hJ⟩:∃ J,Pc.join (allV O k i)=J:=⟨_,rfl⟩
    obtain⟨J2,hJ2⟩:∃ J2,Pc.join (allV O k i++o.getD [])=J2:=⟨_,rfl⟩
    rw[hJ,hJ2]at j1
    rw[hJ]at hwg
    rw[hJ2]at hws hll
    obtain⟨X1,hX1⟩:∃ X,W k i=X:=⟨_,rfl⟩
    rw[hX1]at hwl hwg hws ⊢
    have hol2:i < O1.length:=by omega
    cases o with
    | none=>
     iterate 4 (refine n1s rfl ?_;simp[go_sem,↓iO,iO,tN,hoi,hoi2,hol2,hb2,hol,widths_gv,width_gv];(repeat (refine anI ?_));try (refine⟨dcK,?_⟩))
     refine CW.openRow 511 i 555 (us:=X1) (ex:=[]) (u:=.ow 40 2 (J.map encP)) (b:=.list 40 2 (J.map encP)) (by rfl) hwg (by rfl) (by rfl) (by kernel_rfl) (by omega) ?_
     simp[go_sem,↓iO,iO,tN]
     iterate 1 (refine n1s rfl ?_;simp[go_sem,↓iO,iO,tN,hwl,hwg,hb2];(repeat (refine anI ?_));try (refine⟨dcK,?_⟩))
     refine cF (j1) [(0,555),(1000,660)] ?_ ?_ ?_ ?_<;>simp[go_sem,↓iO,iO,tN,hwl,hwg,hb2]
     repeat (refine anI ?_)
     try (refine⟨dcK,?_⟩)
     iterate 1 (refine n1s rfl ?_;simp[go_sem,↓iO,iO,tN,hwl,hwg,hb2,hll];(repeat (refine anI ?_));try (refine⟨dcK,?_⟩))
     refine CW.closeRow 511 i 660 (.ow 40 2 (J2.map encP)) (us:=X1) (ex:=[(i,.own 660)]) (by rfl) (by rfl) (by simp[go_sem]) (by rfl) ?_
     simp[go_sem,↓iO,iO,tN,hws]
     repeat (first|(refine n1s rfl ?_;simp[go_sem,↓iO,iO,tN,hll])|refine anI ?_|refine⟨dcK,?_⟩|refine iP ?_|refine iN ?_)
     rw[RqN];refine⟨i+1,[(600,some 600),(601,some 601),(612,some 612),(613,some 613),(511,some 511)],?_,?_,?_⟩
     ·omega
     ·omega
     simp[go_sem,↓iO,iO,tN]
    | some o=>
     iterate 4 (refine n1s rfl ?_;simp[go_sem,↓iO,iO,tN,hoi,hoi2,hol2,hb2,hol,widths_gv,width_gv];(repeat (refine anI ?_));try (refine⟨dcK,?_⟩))
     refine CW.openRow 511 i 555 (us:=X1) (ex:=[]) (u:=.ow 40 2 (J.map encP)) (b:=.list 40 2 (J.map encP)) (by rfl) hwg (by rfl) (by rfl) (by kernel_rfl) (by omega) ?_
     simp[go_sem,↓iO,iO,tN]
     iterate 1 (refine n1s rfl ?_;simp[go_sem,↓iO,iO,tN,hwl,hwg,hb2];(repeat (refine anI ?_));try (refine⟨dcK,?_⟩))
     refine cF (j1) [(0,555),(1000,660)] ?_ ?_ ?_ ?_<;>simp[go_sem,↓iO,iO,tN,hwl,hwg,hb2]
     repeat (refine anI ?_)
     try (refine⟨dcK,?_⟩)
     iterate 1 (refine n1s rfl ?_;simp[go_sem,↓iO,iO,tN,hwl,hwg,hb2,hll];(repeat (refine anI ?_));try (refine⟨dcK,?_⟩))
     refine CW.closeRow 511 i 660 (.ow 40 2 (J2.map encP)) (us:=X1) (ex:=[(i,.own 660)]) (by rfl) (by rfl) (by simp[go_sem]) (by rfl) ?_
     simp[go_sem,↓iO,iO,tN,hws]
     repeat (first|(refine n1s rfl ?_;simp[go_sem,↓iO,iO,tN,hll])|refine anI ?_|refine⟨dcK,?_⟩|refine iP ?_|refine iN ?_)
     rw[RqN];refine⟨i+1,[(600,some 600),(601,some 601),(612,some 612),(613,some 613),(511,some 511)],?_,?_,?_⟩
     ·omega
     ·omega
     simp[go_sem,↓iO,iO,tN]
   ·obtain rfl:i=Ki:=by omega
    have hb2:i < d.ports.length:=hKi
    have hwl:=wl k i
    have hwg:=wg k i hb2
    have hws:=ws k i hb2
    obtain⟨o,hoi⟩:∃ o,O1[i]? = some o:=has_get (by omega)
    have hoi2:O1[i]'(by omega)=o:=(List.getElem?_eq_some_iff.1 hoi).2
    have hod:(O1.getD i none).getD []=o.getD []:=by rw[List.getD_eq_getElem?_getD,hoi];rfl
    have ha:allV O (k+1) i=allV O k i++o.getD []:=by simp only[allV,hO1,hod]
    have hs:=hSK i
    have hzz:=hzK i
    rw[hO1,hod]at hzz
    have hll:=hLK
    rw[ha]at hs hws hll
    have j1:=join_fn (allV O k i) (o.getD []) hs hzz
    obtain⟨J,hJ⟩:∃ J,Pc.join (allV O k i)=J:=⟨_,rfl⟩
    obtain⟨J2,hJ2⟩:∃ J2,Pc.join (allV O k i++o.getD [])=J2:=⟨_,rfl⟩
    rw[hJ,hJ2]at j1
    rw[hJ]at hwg
    rw[hJ2]at hws hll
    obtain⟨X1,hX1⟩:∃ X,W k i=X:=⟨_,rfl⟩
    rw[hX1]at hwl hwg hws ⊢
    have hol2:i < O1.length:=by omega
    cases o with
    | none=>
     iterate 4 (refine n1s rfl ?_;simp[go_sem,↓iO,iO,tN,hoi,hoi2,hol2,hb2,hol,widths_gv,width_gv];(repeat (refine anI ?_));try (refine⟨dcK,?_⟩))
     refine CW.openRow 511 i 555 (us:=X1) (ex:=[]) (u:=.ow 40 2 (J.map encP)) (b:=.list 40 2 (J.map encP)) (by rfl) hwg (by rfl) (by rfl) (by kernel_rfl) (by omega) ?_
     simp[go_sem,↓iO,iO,tN]
     iterate 1 (refine n1s rfl ?_;simp[go_sem,↓iO,iO,tN,hwl,hwg,hb2];(repeat (refine anI ?_));try (refine⟨dcK,?_⟩))
     refine cF (j1) [(0,555),(1000,660)] ?_ ?_ ?_ ?_<;>simp[go_sem,↓iO,iO,tN,hwl,hwg,hb2]
     repeat (refine anI ?_)
     try (refine⟨dcK,?_⟩)
     iterate 1 (refine n1s rfl ?_;simp[go_sem,↓iO,iO,tN,hwl,hwg,hb2,hll];(repeat (refine anI ?_));try (refine⟨dcK,?_⟩))
     refine CW.closeRow 511 i 660 (.ow 40 2 (J2.map encP)) (us:=X1) (ex:=[(i,.own 660)]) (by rfl) (by rfl) (by simp[go_sem]) (by rfl) ?_
     simp[go_sem,↓iO,iO,tN,hws]
     repeat (first|(refine n1s rfl ?_;simp[go_sem,↓iO,iO,tN,hll])|refine anI ?_|refine⟨dcK,?_⟩|refine iP ?_|refine iN ?_)
     first|rw[TqR]|rw[TqN]
     refine⟨[],?_⟩
     simp[go_sem,↓iO,iO,tN]
    | some o=>
     iterate 4 (refine n1s rfl ?_;simp[go_sem,↓iO,iO,tN,hoi,hoi2,hol2,hb2,hol,widths_gv,width_gv];(repeat (refine anI ?_));try (refine⟨dcK,?_⟩))
     refine CW.openRow 511 i 555 (us:=X1) (ex:=[]) (u:=.ow 40 2 (J.map encP)) (b:=.list 40 2 (J.map encP)) (by rfl) hwg (by rfl) (by rfl) (by kernel_rfl) (by omega) ?_
     simp[go_sem,↓iO,iO,tN]
     iterate 1 (refine n1s rfl ?_;simp[go_sem,↓iO,iO,tN,hwl,hwg,hb2];(repeat (refine anI ?_));try (refine⟨dcK,?_⟩))
     refine cF (j1) [(0,555),(1000,660)] ?_ ?_ ?_ ?_<;>simp[go_sem,↓iO,iO,tN,hwl,hwg,hb2]
     repeat (refine anI ?_)
     try (refine⟨dcK,?_⟩)
     iterate 1 (refine n1s rfl ?_;simp[go_sem,↓iO,iO,tN,hwl,hwg,hb2,hll];(repeat (refine anI ?_));try (refine⟨dcK,?_⟩))
     refine CW.closeRow 511 i 660 (.ow 40 2 (J2.map encP)) (us:=X1) (ex:=[(i,.own 660)]) (by rfl) (by rfl) (by simp[go_sem]) (by rfl) ?_
     simp[go_sem,↓iO,iO,tN,hws]
     repeat (first|(refine n1s rfl ?_;simp[go_sem,↓iO,iO,tN,hll])|refine anI ?_|refine⟨dcK,?_⟩|refine iP ?_|refine iN ?_)
     first|rw[TqR]|rw[TqN]
     refine⟨[],?_⟩
     simp[go_sem,↓iO,iO,tN]
end Go.Proofs.YtdjmklobfjigoaaGreatDoor
namespace Go.Proofs.YtdjmklobfjigoaaGreatDoor
open Go.RowKit Sy Dl
def sumN:Nat→(Nat→Int)→Int
 | 0,_=>0
 | n+1,f=>sumN n f+f n
theorem sumN_congr {f g:Nat→Int}:∀ {n:Nat},(∀ i,i < n→f i=g i)→sumN n f=sumN n g
 | 0,_=>rfl
 | n+1,h=>by
  have:=sumN_congr (n:=n) fun i hi=>h i (by omega)
  simp only[sumN,this,h n (by omega)]
theorem sumN_add (f g:Nat→Int):∀ n,sumN n (fun i=>f i+g i)=sumN n f+sumN n g
 | 0=>rfl
 | n+1=>by simp only[sumN,sumN_add f g n];omega
theorem sumN_zero:∀ n,sumN n (fun _=>0)=0
 | 0=>rfl
 | n+1=>by simp only[sumN,sumN_zero n];rfl
theorem sumN_head (f:Nat→Int):∀ n,sumN (n+1) f=f 0+sumN n fun i=>f (i+1)
 | 0=>by simp[sumN]
 | n+1=>by
  have:=sumN_head f n
  simp only[sumN]at this ⊢
  omega
theorem sumN_one {f g:Nat→Int} {i:Nat} {x:Int}:∀ {n:Nat},i < n→g i=f i+x→(∀ j,j < n→j≠i→g j=f j)→sumN n g=sumN n f+x
 | 0,h,_,_=>by omega
 | n+1,h,h1,h2=>by
  simp only[sumN]
  by_cases e:i=n
  ·subst e
   rw[sumN_congr (f:=g) (g:=f) fun j hj=>h2 j (by omega) (by omega),h1];omega
  ·rw[sumN_one (f:=f) (g:=g) (n:=n) (by omega) h1 fun j hj hne=>h2 j (by omega) hne,h2 n (by omega) (fun q=>e q.symm)];omega
def sgFr (ps:List SegV) (i:Nat):Int:=((ps[i]?).map (·.fr)).getD 0
def sgTo (ps:List SegV) (i:Nat):Int:=((ps[i]?).map (·.to)).getD 0
def sgOn (node:Int) (inn:Bool) (ps:List SegV) (rs:List Int) (i:Nat):Bool:=decide (rs.getD i 0≠0∧tgt inn (sgFr ps i) (sgTo ps i) (rs.getD i 0)=node)
theorem segYs_sum (node:Int) (inn:Bool) (h:Nat→Int):∀ (k:Nat) (ps:List SegV) (rs:List Int),rs.length=ps.length→tot ((segYs node inn k ps rs).map fun y=>h y.1)=sumN ps.length fun i=>if sgOn node inn ps rs i=true then h (k+i) else 0
 | k,[],[],_=>by simp[segYs,tot,sumN]
 | k,[],r :: rs,hl=>by simp at hl
 | k,p :: ps,[],hl=>by simp at hl
 | k,p :: ps,r :: rs,hl=>by
  have ih:=segYs_sum node inn h (k+1) ps rs (by simpa using hl)
  rw[List.length_cons,sumN_head]
  have e:sumN ps.length (fun i=>if sgOn node inn (p :: ps) (r :: rs) (i+1)=true then h (k+(i+1)) else 0)=sumN ps.length fun i=>if sgOn node inn ps rs i=true then h (k+1+i) else 0:=by
   refine sumN_congr fun i hi=>?_
   have e1:sgOn node inn (p :: ps) (r :: rs) (i+1)=sgOn node inn ps rs i:=by simp[sgOn,sgFr,sgTo]
   rw[e1,show k+(i+1)=k+1+i by omega]
  rw[e,←ih]
  have e0:sgOn node inn (p :: ps) (r :: rs) 0=decide (r≠0∧tgt inn p.fr p.to r=node):=by simp[sgOn,sgFr,sgTo]
  rw[e0]
  simp only[segYs]
  split
  ·rename_i hc
   rw[if_pos (decide_eq_true hc)]
   simp only[List.map_cons,tot,Nat.add_zero]
  ·rename_i hc
   rw[if_neg (by simpa using hc)]
   omega
def ptNd (ps:List Prt) (i:Nat):Int:=((ps[i]?).map (·.2.1)).getD 0
def ptOn (node:Int) (inn:Bool) (ps:List Prt) (rs:List Int) (i:Nat):Bool:=decide (ptNd ps i=node∧rs.getD i 0≠0∧decide (rs.getD i 0 > 0)=inn)
theorem prtYs_sum (node:Int) (inn:Bool) (h:Nat→Int→Int):∀ (k:Nat) (ps:List Prt) (rs:List Int),rs.length=ps.length→tot ((prtYs node inn k ps rs).map fun y=>h y.1 y.2)=sumN ps.length fun i=>if ptOn node inn ps rs i=true then h (k+i) (absI (rs.getD i 0)) else 0
 | k,[],[],_=>by simp[prtYs,tot,sumN]
 | k,[],r :: rs,hl=>by simp at hl
 | k,p :: ps,[],hl=>by simp at hl
 | k,p :: ps,r :: rs,hl=>by
  have ih:=prtYs_sum node inn h (k+1) ps rs (by simpa using hl)
  rw[List.length_cons,sumN_head]
  have e:sumN ps.length (fun i=>if ptOn node inn (p :: ps) (r :: rs) (i+1)=true then h (k+(i+1)) (absI ((r :: rs).getD (i+1) 0)) else 0)=sumN ps.length fun i=>if ptOn node inn ps rs i=true then h (k+1+i) (absI (rs.getD i 0)) else 0:=by
   refine sumN_congr fun i hi=>?_
   have e1:ptOn node inn (p :: ps) (r :: rs) (i+1)=ptOn node inn ps rs i:=by simp[ptOn,ptNd]
   rw[e1,show k+(i+1)=k+1+i by omega];simp
  rw[e,←ih]
  have e0:ptOn node inn (p :: ps) (r :: rs) 0=decide (p.2.1=node∧r≠0∧decide (r > 0)=inn):=by simp[ptOn,ptNd]
  rw[e0]
  simp only[prtYs]
  split
  ·rename_i hc
   rw[if_pos (decide_eq_true hc)]
   simp only[List.map_cons,tot,Nat.add_zero]
   simp
  ·rename_i hc
   rw[if_neg (by rw[decide_eq_true_eq];exact hc)]
   omega
end Go.Proofs.YtdjmklobfjigoaaGreatDoor
namespace Go.Proofs.YtdjmklobfjigoaaGreatDoor
open Go.RowKit Sy
namespace Dl
theorem nx_min (R C:List Int):∀ k,(nx R C k=-1∧∀ i,i < k→¬ 0 < rt R i)∨∃ j:Nat,nx R C k=(j:Int)∧j < k∧0 < rt R j∧∀ i,i < k→0 < rt R i→(rt C j+1) * rt R i≤(rt C i+1) * rt R j
 | 0=> .inl ⟨rfl,fun i h=>by omega⟩
 | k+1=>by
  rcases nx_min R C k with ⟨h1,h2⟩|⟨j,h1,h2,h3,h4⟩
  ·by_cases h0:0 < rt R k
   ·refine .inr ⟨k,?_,by omega,h0,fun i hi hri=>?_⟩
    ·unfold nx;rw[if_pos ⟨h0,.inl (by omega)⟩]
    ·by_cases e:i=k
     ·subst e;omega
     ·exact (h2 i (by omega) hri).elim
   ·refine .inl ⟨?_,fun i hi=>?_⟩
    ·unfold nx;rw[if_neg (fun h=>h0 h.1)];exact h1
    ·by_cases e:i=k
     ·subst e;exact h0
     ·exact h2 i (by omega)
  ·by_cases hc:0 < rt R k∧(rt C k+1) * rt R j < (rt C j+1) * rt R k
   ·refine .inr ⟨k,?_,by omega,hc.1,fun i hi hri=>?_⟩
    ·unfold nx;rw[h1,Int.toNat_natCast,if_pos ⟨hc.1,.inr hc.2⟩]
    ·by_cases e:i=k
     ·subst e;omega
     ·have h5:=h4 i (by omega) hri
      have h6:=Int.mul_lt_mul_of_pos_right hc.2 hri
      have h7:=Int.mul_le_mul_of_nonneg_right h5 (Int.le_of_lt hc.1)
      refine Int.le_of_lt (Int.lt_of_mul_lt_mul_right (a:=rt R j) ?_ (by omega))
      grind
   ·refine .inr ⟨j,?_,by omega,h3,fun i hi hri=>?_⟩
    ·unfold nx
     rw[h1,Int.toNat_natCast,if_neg ?_]
     rintro ⟨h5,h6|h6⟩
     ·omega
     ·exact hc ⟨h5,h6⟩
    ·by_cases e:i=k
     ·subst e
      have:¬ ((rt C i+1) * rt R j < (rt C j+1) * rt R i):=fun h=>hc ⟨hri,h⟩
      omega
     ·exact h4 i (by omega) hri
theorem cs_step {r:List Int} (h:Rates r) (k:Nat):∃ j:Nat,nx r (cs r k) r.length=(j:Int)∧j < r.length∧0 < rt r j∧cs r (k+1)=(cs r k).set j (rt (cs r k) j+1)∧
  (∀ i,i < r.length→0 < rt r i→(rt (cs r k) j+1) * rt r i≤(rt (cs r k) i+1) * rt r j):=by
 rcases nx_min r (cs r k) r.length with ⟨h1,h2⟩|⟨j,h1,h2,h3,h4⟩
 ·obtain⟨j,h3,_⟩:=h.nx (cs r k)
  omega
 ·exact⟨j,h1,h2,h3,by rw[cs,bump,h1];rfl,h4⟩
theorem rt_set {C:List Int} {j i:Nat} {x:Int} (h:j < C.length):rt (C.set j x) i=if i=j then x else rt C i:=by
 unfold rt
 simp only[List.getD_eq_getElem?_getD,List.getElem?_set]
 by_cases e:j=i
 ·subst e;simp[h]
 ·rw[if_neg e,if_neg (fun h=>e h.symm)]
theorem cs_tot {r:List Int} (h:Rates r):∀ k,tot (cs r k)=k
 | 0=>by
  have:∀ n,tot (List.replicate n 0)=0:=by
   intro n
   induction n with
   | zero=>rfl
   | succ n ih=>rw[List.replicate_succ,tot,ih];rfl
  simpa [cs] using this r.length
 | k+1=>by
  obtain⟨j,h1,h2,h3,h4,_⟩:=cs_step h k
  have hl:=cs_len r k
  rw[h4,tot_set (get_rt (by omega)),cs_tot h k]
  omega
theorem tot_le_pt:∀ {c r:List Int},c.length=r.length→(∀ j,j < r.length→rt c j≤rt r j)→tot c≤tot r∧(tot c=tot r→c=r)
 | [],[],_,_=>by simp
 | [],_ :: _,hl,_=>by simp at hl
 | _ :: _,[],hl,_=>by simp at hl
 | x :: c,y :: r,hl,hall=>by
  simp only[List.length_cons,Nat.add_right_cancel_iff]at hl
  have h0:=hall 0 (by simp)
  have e0:rt (x :: c) 0=x:=rfl
  have e1:rt (y :: r) 0=y:=rfl
  rw[e0,e1]at h0
  obtain⟨h1,h2⟩:=tot_le_pt hl (fun j hj=>by have:=hall (j+1) (by simpa using hj);simpa [rt] using this)
  simp only[tot]
  refine⟨by omega,fun h=>?_⟩
  have e2:tot c=tot r:=by omega
  rw[h2 e2,show x=y by omega]
theorem rt_nn {r:List Int} (h:Rates r) (i:Nat):0≤rt r i:=by
 unfold rt
 rw[List.getD_eq_getElem?_getD]
 cases hz:r[i]? with
 | none=>simp
 | some z=>exact h.nn z (List.mem_of_getElem? hz)
theorem cs_le {r:List Int} (h:Rates r):∀ k:Nat,(k:Int)≤tot r→∀ i,i < r.length→rt (cs r k) i≤rt r i
 | 0,_,i,hi=>by
  have:=rt_bd r 0 i
  have:=rt_nn h i
  omega
 | k+1,hk,i,hi=>by
  have ih:=cs_le h k (by omega)
  obtain⟨j,h1,h2,h3,h4,h5⟩:=cs_step h k
  have hl:=cs_len r k
  rw[h4,rt_set (by omega)]
  split
  ·rename_i e
   subst e
   obtain⟨m,hm,hlt⟩:∃ m,m < r.length∧rt (cs r k) m < rt r m:=by
    refine Classical.byContradiction fun hn=>?_
    have:∀ j,j < r.length→rt r j≤rt (cs r k) j:=fun j hj=>by
     refine Classical.byContradiction fun hlt=>hn ⟨j,hj,by omega⟩
    have h6:=(tot_le_pt (c:=r) (r:=cs r k) hl.symm (fun j hj=>this j (by omega))).1
    rw[cs_tot h k]at h6
    omega
   have hb:=rt_bd r k m
   have hpos:0 < rt r m:=by omega
   have h7:=h5 m hm hpos
   have h8:=Int.mul_le_mul_of_nonneg_right (show rt (cs r k) m+1≤rt r m by omega) (Int.le_of_lt h3)
   refine Int.le_of_mul_le_mul_right (a:=rt r m) ?_ hpos
   have h9:rt r m * rt r i=rt r i * rt r m:=Int.mul_comm _ _
   omega
  ·exact ih i hi
theorem cs_all {r:List Int} (h:Rates r):cs r (tot r).toNat=r:=by
 have h0:=h.pos
 have h1:=cs_le h (tot r).toNat (by omega)
 refine (tot_le_pt (cs_len r _) h1).2 ?_
 rw[cs_tot h];omega
end Dl
end Go.Proofs.YtdjmklobfjigoaaGreatDoor
namespace Go.Proofs.YtdjmklobfjigoaaGreatDoor
open Go.RowKit Sy
namespace Dl
def who (r:List Int) (t:Nat):Nat:=(nx r (cs r t) r.length).toNat
def pick (r:List Int) (x:Nat):List Int→Nat→List Int
 | [],_=>[]
 | b :: L,t=>if who r t=x then b :: pick r x L (t+1) else pick r x L (t+1)
theorem pick_app (r:List Int) (x:Nat):∀ (a b:List Int) (t:Nat),pick r x (a++b) t=pick r x a t++pick r x b (t+a.length)
 | [],b,t=>by simp[pick]
 | c :: a,b,t=>by
  have ih:=pick_app r x a b (t+1)
  simp only[List.cons_append,pick,ih,List.length_cons]
  rw[show t+1+a.length=t+(a.length+1) by omega]
  split<;>simp
theorem cs_who {r:List Int} (h:Rates r) (t x:Nat):rt (cs r (t+1)) x=rt (cs r t) x+(if who r t=x then 1 else 0):=by
 obtain⟨j,h1,h2,_,h4,_⟩:=cs_step h t
 have hw:who r t=j:=by unfold who;rw[h1];rfl
 rw[h4,rt_set (by rw[cs_len];exact h2),hw]
 by_cases e:x=j
 ·subst e;simp
 ·rw[if_neg e,if_neg (fun h=>e h.symm)];omega
theorem pick_len {r:List Int} (h:Rates r) (x:Nat):∀ (L:List Int) (t:Nat),((pick r x L t).length:Int)=rt (cs r (t+L.length)) x - rt (cs r t) x
 | [],t=>by simp[pick]
 | b :: L,t=>by
  have ih:=pick_len h x L (t+1)
  have hw:=cs_who h t x
  simp only[pick,List.length_cons]
  rw[show t+(L.length+1)=t+1+L.length by omega]
  split
  ·rename_i e
   rw[if_pos e]at hw
   simp only[List.length_cons];omega
  ·rename_i e
   rw[if_neg e]at hw
   omega
theorem pick_rep {r:List Int} (h:Rates r) (x:Nat) (b:Int):∀ (v t:Nat),pick r x (List.replicate v b) t=List.replicate (rt (cs r (t+v)) x - rt (cs r t) x).toNat b:=by
 intro v t
 have h1:=pick_len h x (List.replicate v b) t
 rw[List.length_replicate]at h1
 have h2:∀ c∈pick r x (List.replicate v b) t,c=b:=by
  have:∀ (L:List Int) (t:Nat),(∀ c∈L,c=b)→∀ c∈pick r x L t,c=b:=by
   intro L
   induction L with
   | nil=>intro t _ c hc;simp[pick]at hc
   | cons a L ih=>
    intro t ha c hc
    simp only[pick]at hc
    split at hc
    ·rcases List.mem_cons.1 hc with rfl|hc
     ·exact ha _ (by simp)
     ·exact ih _ (fun y hy=>ha y (by simp[hy])) c hc
    ·exact ih _ (fun y hy=>ha y (by simp[hy])) c hc
  exact this _ t (fun c hc=>List.eq_of_mem_replicate hc)
 rw[List.eq_replicate_iff]
 exact⟨by omega,h2⟩
theorem strm_litres {r:List Int} (h:Rates r) (x:Nat):∀ (ps:List (Int×Int)) (t:Nat),Pc.litres (strm r x ps t)=pick r x (Pc.litres ps) t
 | [],t=>by simp[strm,Pc.litres,pick]
 | p :: ps,t=>by
  rw[strm,Pc.litres_cons,Pc.litres_cons,pick_app,pick_rep h,List.length_replicate,strm_litres h x ps]
theorem strm_nn (r:List Int) (i:Nat):∀ (l:List (Int×Int)) (n:Nat),∀ q∈strm r i l n,0≤q.2
 | [],_,q,hq=>by simp[strm]at hq
 | p :: t,n,q,hq=>by
  simp only[strm,List.mem_cons]at hq
  rcases hq with rfl|hq
  ·have:=cs_mono r n i p.2.toNat
   simp only;omega
  ·exact strm_nn r i t _ q hq
theorem rt_range {C:List Int} {n:Nat} (h:C.length=n):(List.range n).map (rt C)=C:=by
 apply List.ext_getElem?
 intro i
 rw[List.getElem?_map]
 by_cases hi:i < n
 ·rw[List.getElem?_range hi,get_rt (by omega)];rfl
 ·rw[List.getElem?_eq_none (l:=List.range n) (by simpa using Nat.le_of_not_lt hi),List.getElem?_eq_none (by omega)];rfl
theorem tot_add (f g:Nat→Int):∀ L:List Nat,tot (L.map fun i=>f i+g i)=tot (L.map f)+tot (L.map g)
 | []=>rfl
 | x :: L=>by simp[tot,tot_add f g L];omega
theorem tot_sub (f g:Nat→Int):∀ L:List Nat,tot (L.map fun i=>f i - g i)=tot (L.map f) - tot (L.map g)
 | []=>rfl
 | x :: L=>by simp[tot,tot_sub f g L];omega
theorem tot_zero:∀ L:List Nat,tot (L.map fun _=>0)=0
 | []=>rfl
 | x :: L=>by simp[tot,tot_zero L]
theorem of_strm {r:List Int} (h:Rates r) (b:Int):∀ (ps:List (Int×Int)) (t:Nat),(∀ p∈ps,0≤p.2)→tot ((List.range r.length).map fun i=>Pc.of_ (strm r i ps t) b)=Pc.of_ ps b
 | [],t,_=>by simp only[strm,Pc.of_];exact tot_zero _
 | p :: ps,t,hp=>by
  have ih:=of_strm h b ps (t+p.2.toNat) (fun q hq=>hp q (by simp[hq]))
  have h0:=hp p (by simp)
  simp only[strm,Pc.of_]
  by_cases e:p.1=b
  ·simp only[if_pos e]
   rw[tot_add,ih,tot_sub,rt_range (cs_len r _),rt_range (cs_len r _),cs_tot h,cs_tot h]
   omega
  ·simp only[if_neg e]
   rw[tot_add,ih,tot_zero]
theorem of_count (b:Int):∀ {l:List (Int×Int)},(∀ p∈l,0≤p.2)→Pc.of_ l b=((Pc.litres l).count b:Int)
 | [],_=>by simp[Pc.of_,Pc.litres]
 | p :: r,h=>by
  have ih:=of_count b (l:=r) fun q hq=>h q (List.mem_cons_of_mem _ hq)
  have hp:=h p (List.mem_cons_self)
  rw[Pc.litres_cons,List.count_append,Pc.of_,ih]
  by_cases he:p.1=b
  ·rw[if_pos he,he,List.count_replicate_self];omega
  ·have h0:(List.replicate p.2.toNat p.1).count b=0:=List.count_eq_zero.2 (by intro hm;exact he (List.mem_replicate.1 hm).2.symm)
   rw[if_neg he,h0];omega
theorem of_join (b:Int) {l:List (Int×Int)} (h:∀ p∈l,0≤p.2):Pc.of_ (Pc.join l) b=Pc.of_ l b:=by
 rw[of_count b h,of_count b (fun p hp=>by have:=(Pc.join_canon h).pos p hp;omega),Pc.join_litres h]
theorem of_dealt {r:List Int} (h:Rates r) (b:Int) {ps:List (Int×Int)} (hp:∀ p∈ps,0≤p.2):tot ((dealt r ps).map fun l=>Pc.of_ l b)=Pc.of_ ps b:=by
 rw[←of_strm h b ps 0 hp]
 unfold dealt
 rw[List.map_map]
 congr 1
 apply List.map_congr_left
 intro i _
 exact of_join b (strm_nn r i ps 0)
theorem vol_dealt {r:List Int} (h:Rates r) {f:List (Int×Int)} (hf:∀ p∈f,0≤p.2) (hv:Pc.vol f=tot r) (i:Nat):Pc.vol (Pc.join (strm r i f 0))=rt r i:=by
 rw[Pc.join_vol (strm_nn r i f 0),←Pc.litres_length _ (strm_nn r i f 0),strm_litres h,pick_len h]
 have h1:=Pc.litres_length f hf
 rw[Nat.zero_add,show (Pc.litres f).length=(tot r).toNat by omega,cs_all h]
 have:=rt_bd r 0 i
 omega
end Dl
end Go.Proofs.YtdjmklobfjigoaaGreatDoor
namespace Go.Proofs.YtdjmklobfjigoaaGreatDoor
open Go.RowKit Sy
structure PushR (f g n o:List (Int×Int)):Prop where
 vn:Pc.Vd n
 vo:Pc.Vd o
 qn:Pc.vol n=Pc.vol f
 qo:Pc.vol o=Pc.vol g
 of_:∀ b,Pc.of_ n b+Pc.of_ o b=Pc.of_ f b+Pc.of_ g b
theorem of_rev (l:List (Int×Int)) (h:∀ p∈l,0≤p.2) (b:Int):Pc.of_ l.reverse b=Pc.of_ l b:=by
 rw[of_count b h,of_count b (fun p hp=>h p (List.mem_reverse.1 hp)),litres_rev,List.count_reverse]
theorem pushR {f g:List (Int×Int)} (hf:Pc.Vd f) (hg:Pc.Vd g) (back:Bool):pushE f g back≠0∨(pushE f g back=0∧PushR f g (fillV f g back) (outV f g back)):=by
 cases back with
 | true=>
  rcases push_cases hf hg true with ⟨n,o,hp⟩|he
  ·refine Or.inr ⟨by simp[pushE,hp.eq],?_⟩
   have h1:=push_vol hf hg hp
   simp only[fillV,outV,if_true,hp.eq]
   exact⟨hp.vn,hp.vo,h1.1,h1.2,fun b=>(push_of hf hg hp b).symm⟩
  ·exact Or.inl (by simpa [pushE] using he)
 | false=>
  have hg2:=vd_rev hg
  rcases push_cases hf hg2 false with ⟨n,o,hp⟩|he
  ·refine Or.inr ⟨by simp[pushE,hp.eq],?_⟩
   have h1:=push_vol hf hg2 hp
   simp only[fillV,outV,Bool.false_eq_true,if_false,hp.eq]
   refine⟨hp.vn,vd_rev hp.vo,h1.1,by rw[vol_rev,h1.2,vol_rev],fun b=>?_⟩
   have:=push_of hf hg2 hp b
   rw[of_rev g hg.nonneg]at this
   rw[of_rev o hp.vo.nonneg]
   exact this.symm
  ·exact Or.inl (by simpa [pushE] using he)
theorem first_fail (n:Nat) (B:Nat→Prop):∃ K,K≤n∧(∀ k,k < K→¬ B k)∧(K < n→B K):=by
 classical
 induction n with
 | zero=>exact⟨0,Nat.le_refl _,fun k h=>by omega,fun h=>by omega⟩
 | succ n ih=>
  obtain⟨K,h1,h2,h3⟩:=ih
  by_cases e:K < n
  ·exact⟨K,by omega,h2,fun _=>h3 e⟩
  ·obtain rfl:K=n:=by omega
   by_cases hb:B K
   ·exact⟨K,by omega,h2,fun _=>hb⟩
   ·exact⟨K+1,Nat.le_refl _,fun k hk=>by
     by_cases e2:k < K
     ·exact h2 k e2
     ·obtain rfl:k=K:=by omega
      exact hb,fun h=>by omega⟩
theorem flat_of {α:Type} (b:Int) (g:α→List (Int×Int)):∀ l:List α,Pc.of_ (l.flatMap g) b=Dl.tot (l.map fun x=>Pc.of_ (g x) b)
 | []=>by simp[Pc.of_,Dl.tot]
 | x :: r=>by simp only[List.flatMap_cons,Pc.of_append,flat_of b g r,List.map_cons,Dl.tot]
theorem vol_app' (a b:List (Int×Int)):Pc.vol (a++b)=Pc.vol a+Pc.vol b:=by
 induction a with
 | nil=>simp[Pc.vol]
 | cons p r ih=>simp only[List.cons_append,Pc.vol,ih];omega
theorem flat_vol {α:Type} (g:α→List (Int×Int)):∀ l:List α,Pc.vol (l.flatMap g)=Dl.tot (l.map fun x=>Pc.vol (g x))
 | []=>by simp[Pc.vol,Dl.tot]
 | x :: r=>by simp only[List.flatMap_cons,vol_app',flat_vol g r,List.map_cons,Dl.tot]
theorem prtPc_vol (feeds:List Int):∀ ys:List (Nat×Int),Pc.vol (prtPc feeds ys)=Dl.tot (ys.map (·.2))
 | []=>by simp[prtPc,Pc.vol,Dl.tot]
 | y :: r=>by
  have:=prtPc_vol feeds r
  simp only[prtPc,List.map_cons,Pc.vol,Dl.tot]at this ⊢
  omega
structure NdOk (d:LineD) (v:Int) (F G:Fi):Prop where
 fil:∀ (k:Nat) y,(segYs v false 0 (d.segs.map (·.1)) d.rates)[k]? = some y→∃ f,F[y.1]? = some (some f)∧Pc.Vd f
 giv:∀ z∈segYs v true 0 (d.segs.map (·.1)) d.rates,∃ g,G[z.1]? = some (some g)∧Pc.Vd g∧Pc.vol g=z.2
 fed:∀ i,0≤d.feeds.getD i 0∧d.feeds.getD i 0 < 1000
 bal:Dl.tot ((prtYs v true 0 d.ports d.prates).map (·.2))+Dl.tot ((segYs v true 0 (d.segs.map (·.1)) d.rates).map (·.2))=Dl.tot ((prtYs v false 0 d.ports d.prates).map (·.2))+Dl.tot ((segYs v false 0 (d.segs.map (·.1)) d.rates).map (·.2))
 bR:∀ r∈d.rates,-1000≤r∧r≤1000
 bP:∀ r∈d.prates,-1000≤r∧r≤1000
 num:d.ports.length+d.segs.length≤64
structure NdR (d:LineD) (v:Int) (F G:Fi) (x:List (List (Int×Int))) (n o:Nat→List (Int×Int)):Prop where
 len:x.length=(prtYs v false 0 d.ports d.prates).length+(segYs v false 0 (d.segs.map (·.1)) d.rates).length
 each:∀ (i:Nat) q r,x[i]? = some q→((prtYs v false 0 d.ports d.prates).map (·.2)++(segYs v false 0 (d.segs.map (·.1)) d.rates).map (·.2))[i]? = some r→Pc.Vd q∧Pc.vol q=r
 sum:∀ b,Dl.tot (x.map fun q=>Pc.of_ q b)=Pc.of_ (prtPc d.feeds (prtYs v true 0 d.ports d.prates)) b+Dl.tot ((segYs v true 0 (d.segs.map (·.1)) d.rates).map fun z=>Pc.of_ (gvAt G z) b)
 psh:∀ (k:Nat) y,(segYs v false 0 (d.segs.map (·.1)) d.rates)[k]? = some y→PushR (gvAt F y) (x.getD ((prtYs v false 0 d.ports d.prates).length+k) []) (n k) (o k)
theorem yS_bd {d:LineD} {v:Int} {inn:Bool} (h:∀ r∈d.rates,-1000≤r∧r≤1000):∀ y∈segYs v inn 0 (d.segs.map (·.1)) d.rates,0 < y.2∧y.2≤1000:=fun y hy=>by
 obtain⟨_,_,h1,r,hr,e⟩:=segYs_get hy
 have:=h r hr
 refine⟨h1,?_⟩
 rw[e];unfold absI;omega
theorem yP_bd {d:LineD} {v:Int} {inn:Bool} (h:∀ r∈d.prates,-1000≤r∧r≤1000):∀ y∈prtYs v inn 0 d.ports d.prates,0 < y.2∧y.2≤1000:=fun y hy=>by
 obtain⟨_,_,h1,r,hr,e⟩:=prtYs_get hy
 have:=h r hr
 refine⟨h1,?_⟩
 rw[e];unfold absI;omega
theorem tot_pos:∀ {l:List Int},(∀ x∈l,0 < x)→(l=[]∧Dl.tot l=0)∨(l≠[]∧0 < Dl.tot l)
 | [],_=>Or.inl ⟨rfl,rfl⟩
 | x :: r,h=>by
  have h1:=h x (by simp)
  have h2:=Dl.tot_nn (l:=r) fun y hy=>Int.le_of_lt (h y (by simp[hy]))
  exact Or.inr ⟨by simp,by simp only[Dl.tot];omega⟩
theorem node_step (d:LineD) (hd:LineOk d) (order:T) (w6:order.width=1) (F G O:Fi) (v:Int) (hF:F.length=d.segs.length) (hG:G.length=d.segs.length) (hO:O.length=d.ports.length) (h:NdOk d v F G) :
  (∃ f1 g1 o1,NodeE d order v F G O f1 g1 o1)∨∃ x n o,NdR d v F G x n o∧
   NodeC d order v F G O (setK F (segYs v false 0 (d.segs.map (·.1)) d.rates) (fun k _=>some (n k)) (segYs v false 0 (d.segs.map (·.1)) d.rates).length) (setK G (segYs v false 0 (d.segs.map (·.1)) d.rates) (fun k _=>some (o k)) (segYs v false 0 (d.segs.map (·.1)) d.rates).length) (outO O (prtYs v false 0 d.ports d.prates) x (prtYs v false 0 d.ports d.prates).length):=by
 have hgv:∀ z∈segYs v true 0 (d.segs.map (·.1)) d.rates,Pc.Vd (gvAt G z)∧Pc.vol (gvAt G z)=z.2:=fun z hz=>by
  obtain⟨g,h1,h2,h3⟩:=h.giv z hz
  have:gvAt G z=g:=by unfold gvAt;rw[List.getD_eq_getElem?_getD,h1];rfl
  rw[this];exact⟨h2,h3⟩
 have bS:=fun inn=>yS_bd (v:=v) (inn:=inn) h.bR
 have bP:=fun inn=>yP_bd (v:=v) (inn:=inn) h.bP
 have lS:=fun inn=>segYs_len2 v inn 0 (d.segs.map (·.1)) d.rates
 have lP:=fun inn=>prtYs_len2 v inn 0 d.ports d.prates
 simp only[List.length_map]at lS
 have hnum:=h.num
 obtain⟨P,hP⟩:∃ P,prtYs v false 0 d.ports d.prates=P:=⟨_,rfl⟩
 obtain⟨Sg,hSg⟩:∃ P,segYs v false 0 (d.segs.map (·.1)) d.rates=P:=⟨_,rfl⟩
 have hbal:=h.bal
 have hfil:=h.fil
 have bSf:=bS false
 have bPf:=bP false
 have lSf:=lS false
 have lPf:=lP false
 rw[hP,hSg]at hbal
 rw[hSg]at hfil bSf lSf
 rw[hP]at bPf lPf
 have hcv:Pc.vol (comesV d G v)=Dl.tot (P.map (·.2)++Sg.map (·.2)):=by
  unfold comesV
  rw[vol_app',prtPc_vol,flat_vol,Dl.tot_app]
  have:(segYs v true 0 (d.segs.map (·.1)) d.rates).map (fun x=>Pc.vol (gvAt G x))=(segYs v true 0 (d.segs.map (·.1)) d.rates).map (·.2):=List.map_congr_left fun z hz=>(hgv z hz).2
  rw[this];exact hbal
 have hce:∀ p∈comesV d G v,(0≤p.1∧p.1 < 1000)∧0 < p.2∧p.2≤1000000:=fun p hp=>by
  unfold comesV at hp
  rcases List.mem_append.1 hp with hp|hp
  ·obtain⟨y,hy,rfl⟩:=List.mem_map.1 hp
   have:=bP true y hy
   exact⟨h.fed y.1,this.1,by show y.2≤1000000;omega⟩
  ·obtain⟨z,hz,hp⟩:=List.mem_flatMap.1 hp
   have:=(hgv z hz).1.each p hp
   omega
 have hcn:∀ p∈comesV d G v,0≤p.2:=fun p hp=>by have:=hce p hp;omega
 have hcl:(comesV d G v).length≤100000:=by
  unfold comesV
  rw[List.length_append]
  have e1:(prtPc d.feeds (prtYs v true 0 d.ports d.prates)).length≤64:=by have:=lP true;simp[prtPc];omega
  have gen:∀ l:List (Nat×Int),(∀ z∈l,Pc.Vd (gvAt G z))→(l.flatMap (gvAt G)).length≤200 * l.length:=by
   intro l
   induction l with
   | nil=>intro _;simp
   | cons z r ih=>
    intro hz
    have h1:=ih fun y hy=>hz y (by simp[hy])
    have h2:=(hz z (by simp)).len
    simp only[List.flatMap_cons,List.length_append,List.length_cons]
    omega
  have e2:=gen _ fun z hz=>(hgv z hz).1
  have:=lS true
  omega
 have hsane:Pc.Sane (comesV d G v):=⟨hcl,fun p hp=>by have:=hce p hp;omega⟩
 have hnz:∀ z∈segYs v true 0 (d.segs.map (·.1)) d.rates,∀ p∈gvAt G z,p.2≠0:=fun z hz p hp=>by have:=((hgv z hz).1.each p hp).2;omega
 have hof:∀ b,Pc.of_ (comesV d G v) b=Pc.of_ (prtPc d.feeds (prtYs v true 0 d.ports d.prates)) b+Dl.tot ((segYs v true 0 (d.segs.map (·.1)) d.rates).map fun z=>Pc.of_ (gvAt G z) b):=fun b=>by
  unfold comesV
  rw[Pc.of_append,flat_of]
 obtain⟨l,hl⟩:∃ l,Pc.join (comesV d G v)=l:=⟨_,rfl⟩
 have hlc:Pc.Canon l:=by rw[←hl];exact Pc.join_canon hcn
 have hlv:Pc.vol l=Dl.tot (P.map (·.2)++Sg.map (·.2)):=by rw[←hl,Pc.join_vol hcn,hcv]
 have hlo:∀ b,Pc.of_ l b=Pc.of_ (comesV d G v) b:=fun b=>by rw[←hl,Dl.of_join b hcn]
 have hrp:∀ x∈P.map (·.2)++Sg.map (·.2),0 < x∧x≤1000:=fun x hx=>by
  rcases List.mem_append.1 hx with hx|hx
  ·obtain⟨y,hy,rfl⟩:=List.mem_map.1 hx
   exact bPf y hy
  ·obtain⟨y,hy,rfl⟩:=List.mem_map.1 hx
   exact bSf y hy
 have hrl:(P.map (·.2)++Sg.map (·.2)).length≤64:=by simp;omega
 by_cases hl0:l=[]
 ·right
  have h0:Dl.tot (P.map (·.2)++Sg.map (·.2))=0:=by rw[←hlv,hl0];rfl
  rcases tot_pos fun x hx=>(hrp x hx).1 with ⟨e,_⟩|⟨_,hp⟩
  ·simp only[List.append_eq_nil_iff,List.map_eq_nil_iff]at e
   obtain⟨rfl,rfl⟩:=e
   refine⟨[],fun _=>[],fun _=>[],⟨by rw[hP,hSg];rfl,fun i q r hq=>by simp at hq,fun b=>?_,fun k y hy=>by rw[hSg]at hy;simp at hy⟩,?_⟩
   ·rw[←hof b,←hlo b,hl0];rfl
   ·rw[hSg,hP]
    exact node0_fn d hd order w6 F G O v hG hsane hnz (by rw[hl,hl0])
  ·omega
 ·by_cases hl2:l.length≤200
  ·have hb1000:∀ p∈l,0≤p.1∧p.1 < 1000:=fun p hp=>by
    have h1:=mem_litres hp (hlc.pos p hp)
    rw[←hl,Pc.join_litres hcn]at h1
    obtain⟨q,hq,e⟩:=litres_mem h1
    rw[←e];exact (hce q hq).1
   have htl:=Dl.tot_le (M:=1000) (l:=P.map (·.2)++Sg.map (·.2)) fun x hx=>(hrp x hx).2
   have hlvd:Pc.Vd l:=Pc.vd_of_canon hlc hb1000 hl2 (by omega)
   have hpos:0 < Dl.tot (P.map (·.2)++Sg.map (·.2)):=by
    rcases tot_pos fun x hx=>(hrp x hx).1 with ⟨_,e⟩|⟨_,hp⟩
    ·exfalso
     apply hl0
     rw[e]at hlv
     cases hll:l with
     | nil=>rfl
     | cons p r=>
      have h1:=hlc.pos p (by rw[hll];simp)
      have h2:=(Pc.vol_bound r fun q hq=>by have:=hlvd.sane.each q (by rw[hll];simp[hq]);omega).1
      rw[hll]at hlv
      simp only[Pc.vol]at hlv
      omega
    ·exact hp
   have hR:Dl.Rates (P.map (·.2)++Sg.map (·.2)):=⟨hrl,fun x hx=>by have:=hrp x hx;omega,hpos⟩
   have hx:Dl.dealV l (P.map (·.2)++Sg.map (·.2))=(Dl.dealt (P.map (·.2)++Sg.map (·.2)) l,0):=by
    have hc:=Dl.chk_of hR (show 0≤Pc.vol l by omega) (by omega)
    unfold Dl.dealV
    rw[merge_vd hlvd]
    simp only[hc]
    rw[if_neg (by simp[hl0];omega),if_neg (by simp)]
   obtain⟨R,hRR⟩:∃ R,P.map (·.2)++Sg.map (·.2)=R:=⟨_,rfl⟩
   rw[hRR]at hR hx hlv hrp
   obtain⟨x,hxx⟩:∃ x,Dl.dealt R l=x:=⟨_,rfl⟩
   rw[hxx]at hx
   have hxl:x.length=P.length+Sg.length:=by rw[←hxx,Dl.dealt,List.length_map,List.length_range,←hRR];simp
   have hxe:∀ (i:Nat) q r,x[i]? = some q→R[i]? = some r→Pc.Vd q∧Pc.vol q=r:=fun i q r hq hr=>by
    obtain⟨hi,e⟩:=List.getElem?_eq_some_iff.1 hq
    subst hxx
    simp only[Dl.dealt,List.getElem_map,List.getElem_range]at e
    have hnn:=Dl.strm_nn R i l 0
    have hv:=Dl.vol_dealt hR hlvd.nonneg hlv i
    rw[e,Dl.rt_get hr]at hv
    have hr1:=hrp r (List.mem_of_getElem? hr)
    refine⟨?_,hv⟩
    rw[←e]at hv ⊢
    refine Pc.vd_of_canon (Pc.join_canon hnn) (fun p hp=>?_) ?_ (by omega)
    ·have h1:=mem_litres hp ((Pc.join_canon hnn).pos p hp)
     rw[Pc.join_litres hnn]at h1
     obtain⟨q',hq',e2⟩:=litres_mem h1
     rw[←e2]
     exact (Dl.strm_each R i l 0 (fun p hp=>⟨hb1000 p hp,by have:=hlvd.sane.each p hp;omega⟩) q' hq').1
    ·have:=Pc.join_length (Dl.strm R i l 0)
     rw[Dl.strm_len]at this
     omega
   have hxs:∀ k y,Sg[k]? = some y→Pc.Vd (x.getD (P.length+k) [])∧Pc.vol (x.getD (P.length+k) [])=y.2:=fun k y hy=>by
    have hk:=(List.getElem?_eq_some_iff.1 hy).1
    obtain⟨q,hq⟩:∃ q,x[P.length+k]? = some q:=has_get (by omega)
    have e:x.getD (P.length+k) []=q:=by rw[List.getD_eq_getElem?_getD,hq];rfl
    rw[e]
    refine hxe _ q y.2 hq ?_
    rw[←hRR,List.getElem?_append_right (by simp),List.length_map,Nat.add_sub_cancel_left,List.getElem?_map,hy];rfl
   have hgf:∀ k y,Sg[k]? = some y→∃ f,F[y.1]? = some (some f)∧gvAt F y=f∧Pc.Vd f:=fun k y hy=>by
    obtain⟨f,h1,h2⟩:=hfil k y hy
    exact⟨f,h1,by unfold gvAt;rw[List.getD_eq_getElem?_getD,h1];rfl,h2⟩
   obtain⟨K,hK,hKo,hKb⟩:=first_fail Sg.length fun k=>∃ y,Sg[k]? = some y∧pushE (gvAt F y) (x.getD (P.length+k) []) (backAt d.rates y)≠0
   have hok:∀ k y,k < K→Sg[k]? = some y→pushE (gvAt F y) (x.getD (P.length+k) []) (backAt d.rates y)=0∧PushR (gvAt F y) (x.getD (P.length+k) []) (fillV (gvAt F y) (x.getD (P.length+k) []) (backAt d.rates y)) (outV (gvAt F y) (x.getD (P.length+k) []) (backAt d.rates y)):=fun k y hk hy=>by
    obtain⟨f,h1,h2,h3⟩:=hgf k y hy
    rcases pushR (f:=gvAt F y) (g:=x.getD (P.length+k) []) (by rw[h2];exact h3) (hxs k y hy).1 (backAt d.rates y) with he|he
    ·exact absurd ⟨y,hy,he⟩ (hKo k hk)
    ·exact he
   have hlen6:∀ (l:List (Int×Int)),Pc.Vd l→l.length≤1000000:=fun l h=>by have:=h.len;omega
   have call:=fun E hE=>node_all d hd order w6 F G O v hG hF hO (by rw[←hl]at *;exact hsane) hnz l hl hl0 hl2 P Sg hP hSg x (by rw[hRR];exact hx) hxl K hK E hE
    (fun k y hk hy=>by
     obtain⟨f,h1,h2,h3⟩:=hgf k y hy
     obtain⟨e,hp⟩:=hok k y hk hy
     exact⟨⟨f,h1,hlen6 f h3⟩,hlen6 _ (hxs k y hy).1,hlen6 _ hp.vo,e⟩)
    (fun y hy=>by
     obtain⟨f,h1,h2,h3⟩:=hgf K y hy
     have hKl:=(List.getElem?_eq_some_iff.1 hy).1
     obtain⟨y',hy',he⟩:=hKb hKl
     rw[hy]at hy';cases hy'
     exact⟨⟨f,h1,hlen6 f h3⟩,hlen6 _ (hxs K y hy).1,he⟩)
   by_cases hKl:K < Sg.length
   ·exact Or.inl ⟨_,_,_,call 4 (Or.inr ⟨hKl,rfl⟩)⟩
   ·obtain rfl:K=Sg.length:=by omega
    right
    have hc:=call 0 (Or.inl ⟨rfl,rfl⟩)
    refine⟨x,fun k=>fillV (gvAt F (Sg.getD k (0,0))) (x.getD (P.length+k) []) (backAt d.rates (Sg.getD k (0,0))),fun k=>outV (gvAt F (Sg.getD k (0,0))) (x.getD (P.length+k) []) (backAt d.rates (Sg.getD k (0,0))),⟨by rw[hP,hSg];exact hxl,fun i q r hq hr=>?_,fun b=>?_,fun k y hy=>?_⟩,?_⟩
    ·rw[hP,hSg,hRR]at hr
     exact hxe i q r hq hr
    ·rw[←hof b,←hlo b,←hxx]
     exact Dl.of_dealt hR b hlvd.nonneg
    ·rw[hSg]at hy
     rw[hP]
     have e:Sg.getD k (0,0)=y:=by rw[List.getD_eq_getElem?_getD,hy];rfl
     rw[e]
     exact (hok k y (List.getElem?_eq_some_iff.1 hy).1 hy).2
    ·rw[hSg,hP]
     have gen:∀ {α:Type} (fi:List α) (u w:Nat→Nat×Int→α) n,(∀ k,k < n→u k (Sg.getD k (0,0))=w k (Sg.getD k (0,0)))→setK fi Sg u n=setK fi Sg w n:=by
      intro α fi u w n
      induction n with
      | zero=>intro _;rfl
      | succ n ih=>
       intro hh
       simp only[setK]
       rw[ih fun k hk=>hh k (by omega),hh n (by omega)]
     have e1:=gen F (fun k _=>some (fillV (gvAt F (Sg.getD k (0,0))) (x.getD (P.length+k) []) (backAt d.rates (Sg.getD k (0,0))))) (nodeF d.rates F x P.length) Sg.length fun k hk=>rfl
     have e2:=gen G (fun k _=>some (outV (gvAt F (Sg.getD k (0,0))) (x.getD (P.length+k) []) (backAt d.rates (Sg.getD k (0,0))))) (nodeG d.rates F x P.length) Sg.length fun k hk=>rfl
     rw[←e1,←e2]at hc
     exact hc
  ·exact Or.inl ⟨_,_,_,node_long d hd order w6 F G O v hG hsane hnz (by rw[hl];omega)⟩
theorem sumN_app (a:Nat) (f:Nat→Int):∀ b,sumN (a+b) f=sumN a f+sumN b fun j=>f (a+j)
 | 0=>by simp[sumN]
 | b+1=>by
  have:=sumN_app a f b
  rw[show a+(b+1)=a+b+1 by omega]
  simp only[sumN];omega
theorem tot_sumN {α:Type} (dv:α) (f:α→Int):∀ x:List α,Dl.tot (x.map f)=sumN x.length fun i=>f (x.getD i dv)
 | []=>rfl
 | a :: r=>by
  rw[List.length_cons,sumN_head,List.map_cons]
  have:=tot_sumN dv f r
  simp only[Dl.tot,this]
  simp
theorem segYs_mem (node:Int) (inn:Bool):∀ (k:Nat) (ps:List SegV) (rs:List Int) (y:Nat×Int),y∈segYs node inn k ps rs→∃ i,y.1=k+i∧i < ps.length∧sgOn node inn ps rs i=true∧y.2=absI (rs.getD i 0)
 | k,[],rs,y,h=>by simp[segYs]at h
 | k,p :: ps,[],y,h=>by simp[segYs]at h
 | k,p :: ps,r :: rs,y,h=>by
  simp only[segYs]at h
  have rest:y∈segYs node inn (k+1) ps rs→∃ i,y.1=k+i∧i < (p :: ps).length∧sgOn node inn (p :: ps) (r :: rs) i=true∧y.2=absI ((r :: rs).getD i 0):=fun h=>by
   obtain⟨i,h1,h2,h3,h4⟩:=segYs_mem node inn (k+1) ps rs y h
   refine⟨i+1,by omega,by simp;omega,?_,by simpa using h4⟩
   have e1:sgOn node inn (p :: ps) (r :: rs) (i+1)=sgOn node inn ps rs i:=by simp[sgOn,sgFr,sgTo]
   rw[e1];exact h3
  split at h
  ·rename_i hc
   rcases List.mem_cons.1 h with rfl|h
   ·exact⟨0,rfl,by simp,by simp[sgOn,sgFr,sgTo];exact hc,by simp⟩
   ·exact rest h
  ·exact rest h
theorem mem_segYs (node:Int) (inn:Bool):∀ (k:Nat) (ps:List SegV) (rs:List Int) (i:Nat),rs.length=ps.length→i < ps.length→sgOn node inn ps rs i=true→(k+i,absI (rs.getD i 0))∈segYs node inn k ps rs
 | k,[],rs,i,_,h,_=>by simp at h
 | k,p :: ps,[],i,hl,_,_=>by simp at hl
 | k,p :: ps,r :: rs,0,hl,_,hc=>by
  simp[sgOn,sgFr,sgTo]at hc
  simp only[segYs]
  rw[if_pos hc]
  simp
 | k,p :: ps,r :: rs,i+1,hl,hi,hc=>by
  have e1:sgOn node inn (p :: ps) (r :: rs) (i+1)=sgOn node inn ps rs i:=by simp[sgOn,sgFr,sgTo]
  rw[e1]at hc
  have:=mem_segYs node inn (k+1) ps rs i (by simpa using hl) (by simpa using hi) hc
  rw[show k+1+i=k+(i+1) by omega]at this
  simp only[segYs]
  split
  ·exact List.mem_cons_of_mem _ (by simpa using this)
  ·simpa using this
theorem prtYs_mem (node:Int) (inn:Bool):∀ (k:Nat) (ps:List Prt) (rs:List Int) (y:Nat×Int),y∈prtYs node inn k ps rs→∃ i,y.1=k+i∧i < ps.length∧ptOn node inn ps rs i=true∧y.2=absI (rs.getD i 0)
 | k,[],rs,y,h=>by simp[prtYs]at h
 | k,p :: ps,[],y,h=>by simp[prtYs]at h
 | k,p :: ps,r :: rs,y,h=>by
  simp only[prtYs]at h
  have rest:y∈prtYs node inn (k+1) ps rs→∃ i,y.1=k+i∧i < (p :: ps).length∧ptOn node inn (p :: ps) (r :: rs) i=true∧y.2=absI ((r :: rs).getD i 0):=fun h=>by
   obtain⟨i,h1,h2,h3,h4⟩:=prtYs_mem node inn (k+1) ps rs y h
   refine⟨i+1,by omega,by simp;omega,?_,by simpa using h4⟩
   have e1:ptOn node inn (p :: ps) (r :: rs) (i+1)=ptOn node inn ps rs i:=by simp[ptOn,ptNd]
   rw[e1];exact h3
  split at h
  ·rename_i hc
   rcases List.mem_cons.1 h with rfl|h
   ·refine⟨0,rfl,by simp,?_,by simp⟩
    have e0:ptOn node inn (p :: ps) (r :: rs) 0=decide (p.2.1=node∧r≠0∧decide (r > 0)=inn):=by simp[ptOn,ptNd]
    rw[e0];exact decide_eq_true hc
   ·exact rest h
  ·exact rest h
theorem prtYs_inc (node:Int) (inn:Bool):∀ (k:Nat) (ps:List Prt) (rs:List Int),(prtYs node inn k ps rs).Pairwise (fun a b=>a.1 < b.1)
 | k,[],rs=>by simp[prtYs]
 | k,p :: ps,[]=>by simp[prtYs]
 | k,p :: ps,r :: rs=>by
  have:=prtYs_inc node inn (k+1) ps rs
  simp only[prtYs]
  split
  ·refine List.Pairwise.cons (fun b hb=>?_) this
   have:=(prtYs_get hb).1
   dsimp only;omega
  ·exact this
theorem setK_get {α:Type} (fi:List α) (Sg:List (Nat×Int)) (v:Nat→Nat×Int→α) (hS:Sg.Pairwise (fun a b=>a.1 < b.1)) (hl:∀ y∈Sg,y.1 < fi.length):∀ n,n≤Sg.length→∀ j y,j < n→Sg[j]? = some y→(setK fi Sg v n)[y.1]? = some (v j y)
 | 0,_,j,y,h,_=>by omega
 | n+1,hn,j,y,hj,hy=>by
  have hyl:=hl y (List.mem_of_getElem? hy)
  simp only[setK]
  by_cases e:j=n
  ·subst e
   have:Sg.getD j (0,0)=y:=by rw[List.getD_eq_getElem?_getD,hy];rfl
   rw[this,List.getElem?_set_self (by rw[setK_len];exact hyl)]
  ·obtain⟨hjl,ey⟩:=List.getElem?_eq_some_iff.1 hy
   have h2:=List.pairwise_iff_getElem.1 hS j n hjl (by omega) (by omega)
   rw[ey]at h2
   rw[List.getElem?_set_ne (by rw[List.getD_eq_getElem?_getD,List.getElem?_eq_getElem (by omega)];simp;omega)]
   exact setK_get fi Sg v hS hl n (by omega) j y (by omega) hy
theorem setK_out {α:Type} (fi:List α) (Sg:List (Nat×Int)) (v:Nat→Nat×Int→α) (s:Nat) (h:∀ y∈Sg,y.1≠s):∀ n,n≤Sg.length→(setK fi Sg v n)[s]? = fi[s]?
 | 0,_=>rfl
 | n+1,hn=>by
  simp only[setK]
  rw[List.getElem?_set_ne ?_,setK_out fi Sg v s h n (by omega)]
  rw[List.getD_eq_getElem?_getD,List.getElem?_eq_getElem (by omega)]
  exact h _ (List.getElem_mem (by omega))
theorem outO_setK (oo:Fi) (P:List (Nat×Int)) (x:List (List (Int×Int))):∀ n,outO oo P x n=setK oo P (fun k _=>some (x.getD k [])) n
 | 0=>rfl
 | n+1=>by simp only[outO,setK,outO_setK oo P x n]
def gvO (F:Fi) (s:Nat):List (Int×Int):=(F.getD s none).getD []
theorem gvO_some {F:Fi} {s:Nat} {f:List (Int×Int)} (h:F[s]? = some (some f)):gvO F s=f:=by unfold gvO;rw[List.getD_eq_getElem?_getD,h];rfl
theorem gvO_none {F:Fi} {s:Nat} (h:F[s]? = some none):gvO F s=[]:=by unfold gvO;rw[List.getD_eq_getElem?_getD,h];rfl
theorem gvO_get {F G:Fi} {s:Nat} (h:F[s]? = G[s]?):gvO F s=gvO G s:=by unfold gvO;rw[List.getD_eq_getElem?_getD,List.getD_eq_getElem?_getD,h]
theorem sum_setK (m:Nat) (w:Nat→Bool) (b:Int) (F:Fi) (hF:F.length=m) (Sg:List (Nat×Int)) (n:Nat→List (Int×Int)) (hS:Sg.Pairwise (fun a b=>a.1 < b.1)) (hl:∀ y∈Sg,y.1 < m∧w y.1=true):∀ N,N≤Sg.length→
  sumN m (fun s=>if w s=true then Pc.of_ (gvO (setK F Sg (fun k _=>some (n k)) N) s) b else 0)=sumN m (fun s=>if w s=true then Pc.of_ (gvO F s) b else 0)+sumN N fun j=>Pc.of_ (n j) b - Pc.of_ (gvO F (Sg.getD j (0,0)).1) b
 | 0,_=>by simp[setK,sumN]
 | N+1,hN=>by
  have ih:=sum_setK m w b F hF Sg n hS hl N (by omega)
  obtain⟨y,hy⟩:∃ y,Sg[N]? = some y:=has_get (by omega)
  have ey:Sg.getD N (0,0)=y:=by rw[List.getD_eq_getElem?_getD,hy];rfl
  have hyl:=hl y (List.mem_of_getElem? hy)
  have hold:(setK F Sg (fun k _=>some (n k)) N)[y.1]? = F[y.1]?:=setK_at F Sg _ hS N y hy N (Nat.le_refl _)
  have hnew:=setK_get F Sg (fun k _=>some (n k)) hS (fun y hy=>by rw[hF];exact (hl y hy).1) (N+1) hN N y (by omega) hy
  rw[sumN_one (f:=fun s=>if w s=true then Pc.of_ (gvO (setK F Sg (fun k _=>some (n k)) N) s) b else 0) (i:=y.1) (x:=Pc.of_ (n N) b - Pc.of_ (gvO F y.1) b) hyl.1 ?_ ?_,ih]
  ·simp only[sumN]
   rw[ey];omega
  ·rw[if_pos hyl.2,if_pos hyl.2,gvO_some hnew,gvO_get hold];omega
  ·intro j hj hne
   have:(setK F Sg (fun k _=>some (n k)) (N+1))[j]? = (setK F Sg (fun k _=>some (n k)) N)[j]?:=by
    simp only[setK]
    rw[ey,List.getElem?_set_ne (fun q=>hne q.symm)]
   rw[gvO_get this]
def LineD.ps (d:LineD):List SegV:=d.segs.map (·.1)
def toN (d:LineD) (s:Nat):Int:=tgt true (sgFr d.ps s) (sgTo d.ps s) (d.rates.getD s 0)
def frN (d:LineD) (s:Nat):Int:=tgt false (sgFr d.ps s) (sgTo d.ps s) (d.rates.getD s 0)
def capN (d:LineD) (s:Nat):Int:=((d.segs[s]?).map (·.1.cp)).getD 0
structure FlD (d:LineD) (ord:List Int):Prop where
 nd:ord.Nodup
 seg:∀ s,s < d.segs.length→d.rates.getD s 0≠0→∃ i j:Nat,i < j∧ord[i]? = some (frN d s)∧ord[j]? = some (toN d s)
 inp:∀ p,p < d.ports.length→0 < d.prates.getD p 0→ptNd d.ports p∈ord
 bal:∀ v∈ord,Dl.tot ((prtYs v true 0 d.ports d.prates).map (·.2))+Dl.tot ((segYs v true 0 (d.segs.map (·.1)) d.rates).map (·.2))=Dl.tot ((prtYs v false 0 d.ports d.prates).map (·.2))+Dl.tot ((segYs v false 0 (d.segs.map (·.1)) d.rates).map (·.2))
 bR:∀ r∈d.rates,-1000≤r∧r≤1000
 bP:∀ r∈d.prates,-1000≤r∧r≤1000
 num:d.ports.length+d.segs.length≤64
 fed:∀ i,0≤d.feeds.getD i 0∧d.feeds.getD i 0 < 1000
def Sw (m:Nat) (w:Nat→Bool) (F:Fi) (b:Int):Int:=sumN m fun s=>if w s=true then Pc.of_ (gvO F s) b else 0
def inK (d:LineD) (L:List Int) (b:Int):Int:=sumN d.ports.length fun p=>if decide (0 < d.prates.getD p 0∧ptNd d.ports p∈L)=true then (if d.feeds.getD p 0=b then d.prates.getD p 0 else 0) else 0
def wG (d:LineD) (L:List Int) (s:Nat):Bool:=!(decide (toN d s∈L))
def wA (_:Nat):Bool:=true
structure TkI (d:LineD) (L:List Int) (F0 F G O:Fi):Prop where
 lF:F.length=d.segs.length
 lG:G.length=d.segs.length
 lO:O.length=d.ports.length
 fF:∀ s,s < d.segs.length→∃ f,F[s]? = some (some f)∧Pc.Vd f∧Pc.vol f=capN d s
 gG:∀ s,s < d.segs.length→d.rates.getD s 0≠0→frN d s∈L→∃ g,G[s]? = some (some g)∧Pc.Vd g∧Pc.vol g=absI (d.rates.getD s 0)
 gN:∀ s,s < d.segs.length→¬ (d.rates.getD s 0≠0∧frN d s∈L)→G[s]? = some none
 oO:∀ p,p < d.ports.length→O[p]? = some none∨∃ q,O[p]? = some (some q)∧Pc.Vd q∧Pc.vol q≤1000
 oN:∀ p,p < d.ports.length→ptNd d.ports p∉L→O[p]? = some none
 sum:∀ b,Sw d.segs.length wA F b+Sw d.ports.length wA O b+Sw d.segs.length (wG d L) G b=Sw d.segs.length wA F0 b+inK d L b
theorem nodup_at {α:Type} {l:List α} (h:l.Nodup) {i j:Nat} {x:α} (hi:l[i]? = some x) (hj:l[j]? = some x):i=j:=by
 obtain⟨hil,ei⟩:=List.getElem?_eq_some_iff.1 hi
 obtain⟨hjl,ej⟩:=List.getElem?_eq_some_iff.1 hj
 by_cases e:i=j
 ·exact e
 ·exfalso
  have hp:=List.pairwise_iff_getElem.1 h
  rcases Nat.lt_or_gt_of_ne e with hlt|hlt
  ·exact hp i j hil hjl hlt (by rw[ei,ej])
  ·exact hp j i hjl hil hlt (by rw[ei,ej])
theorem mem_take {α:Type} {l:List α} {x:α} {k:Nat} (h:x∈l.take k):∃ i,i < k∧l[i]? = some x:=by
 obtain⟨i,hi,e⟩:=List.getElem_of_mem h
 rw[List.length_take]at hi
 refine⟨i,by omega,?_⟩
 rw[List.getElem_take]at e
 rw[←e];exact List.getElem?_eq_getElem (by omega)
theorem take_mem {α:Type} {l:List α} {x:α} {i k:Nat} (hi:l[i]? = some x) (h:i < k):x∈l.take k:=by
 obtain⟨hil,e⟩:=List.getElem?_eq_some_iff.1 hi
 have:(l.take k)[i]? = some x:=by rw[List.getElem?_take,if_pos h];exact hi
 exact List.mem_of_getElem? this
theorem take_succ_mem {l:List Int} {k:Nat} {v x:Int} (hv:l[k]? = some v):x∈l.take (k+1)↔x∈l.take k∨x=v:=by
 obtain⟨hk,e⟩:=List.getElem?_eq_some_iff.1 hv
 rw[List.take_succ_eq_append_getElem hk,e];simp
theorem prtPc_of (feeds:List Int) (b:Int):∀ ys:List (Nat×Int),Pc.of_ (prtPc feeds ys) b=Dl.tot (ys.map fun y=>if feeds.getD y.1 0=b then y.2 else 0)
 | []=>by simp[prtPc,Pc.of_,Dl.tot]
 | y :: r=>by
  have:=prtPc_of feeds b r
  simp only[prtPc,List.map_cons,Pc.of_,Dl.tot]at this ⊢
  rw[this]
theorem tk_step (d:LineD) (hd:LineOk d) {ord:List Int} (hf:FlD d ord) {k:Nat} {v:Int} (hv:ord[k]? = some v) {F0 F G O:Fi} (h:TkI d (ord.take k) F0 F G O) :
  (∃ f1 g1 o1,NodeE d (.sl 1 (ord.map encI)) v F G O f1 g1 o1)∨∃ F1 G1 O1,NodeC d (.sl 1 (ord.map encI)) v F G O F1 G1 O1∧TkI d (ord.take (k+1)) F0 F1 G1 O1:=by
 have hm:(d.segs.map (·.1)).length=d.segs.length:=List.length_map _
 have hvm:v∈ord:=List.mem_of_getElem? hv
 have hvk:v∉ord.take k:=fun hm=>by
  obtain⟨i,hi,e⟩:=mem_take hm
  have:=nodup_at hf.nd e hv
  omega
 have tk:∀ x,x∈ord.take (k+1)↔x∈ord.take k∨x=v:=fun x=>take_succ_mem hv
 have son:∀ inn s,sgOn v inn (d.segs.map (·.1)) d.rates s=true↔d.rates.getD s 0≠0∧(if inn then toN d s else frN d s)=v:=fun inn s=>by
  cases inn<;>simp[sgOn,toN,frN,LineD.ps]
 have hnd:NdOk d v F G:=by
  refine⟨fun j y hy=>?_,fun z hz=>?_,hf.fed,hf.bal v hvm,hf.bR,hf.bP,hf.num⟩
  ·obtain⟨i,h1,h2,_,_⟩:=segYs_mem v false 0 _ _ y (List.mem_of_getElem? hy)
   obtain⟨f,a1,a2,_⟩:=h.fF y.1 (by omega)
   exact⟨f,a1,a2⟩
  ·obtain⟨i,h1,h2,h3,h4⟩:=segYs_mem v true 0 _ _ z hz
   rw[Nat.zero_add]at h1
   subst h1
   rw[son]at h3
   obtain⟨h5,h6⟩:=h3
   simp only[if_true]at h6
   obtain⟨i1,j1,h7,h8,h9⟩:=hf.seg z.1 (by omega) h5
   rw[h6]at h9
   have:=nodup_at hf.nd h9 hv
   obtain⟨g,a1,a2,a3⟩:=h.gG z.1 (by omega) h5 (take_mem h8 (by omega))
   exact⟨g,a1,a2,by rw[a3,h4]⟩
 rcases node_step d hd (.sl 1 (ord.map encI)) rfl F G O v h.lF h.lG h.lO hnd with he|⟨x,n,o,hR,hC⟩
 ·exact Or.inl he
 refine Or.inr ⟨_,_,_,hC,?_⟩
 have hSinc:=segYs_inc v false 0 (d.segs.map (·.1)) d.rates
 have hPinc:=prtYs_inc v false 0 d.ports d.prates
 have hSm:=fun y hy=>segYs_mem v false 0 (d.segs.map (·.1)) d.rates y hy
 have hPm:=fun y hy=>prtYs_mem v false 0 d.ports d.prates y hy
 have hSi:=segYs_sum v true (fun s=>0+0)
 obtain⟨Sg,hSg⟩:∃ P,segYs v false 0 (d.segs.map (·.1)) d.rates=P:=⟨_,rfl⟩
 obtain⟨P,hP⟩:∃ P,prtYs v false 0 d.ports d.prates=P:=⟨_,rfl⟩
 have hin:∀ s,s < d.segs.length→sgOn v false (d.segs.map (·.1)) d.rates s=true→∃ (j:Nat) (y:Nat×Int),Sg[j]? = some y∧y.1=s∧y.2=absI (d.rates.getD s 0):=fun s hs ho=>by
  have:=mem_segYs v false 0 (d.segs.map (·.1)) d.rates s (by rw[hm];exact hd.lenR) (by omega) ho
  rw[hSg]at this
  obtain⟨j,hj,e⟩:=List.getElem_of_mem this
  exact⟨j,(0+s,absI (d.rates.getD s 0)),by rw[←e];exact List.getElem?_eq_getElem hj,Nat.zero_add s,rfl⟩
 have hRl:=hR.len
 have hRe:=hR.each
 have hRs:=hR.sum
 have hRp:=hR.psh
 rw[hSg]at hSinc hSm hRl hRe hRp
 rw[hP]at hPinc hPm hRl hRe hRp
 rw[hSg,hP]
 rw[outO_setK]
 have hSl:∀ y∈Sg,y.1 < d.segs.length:=fun y hy=>by obtain⟨i,h1,h2,_⟩:=hSm y hy;omega
 have hPl:∀ y∈P,y.1 < d.ports.length:=fun y hy=>by obtain⟨i,h1,h2,_⟩:=hPm y hy;omega
 have hSy:∀ y∈Sg,d.rates.getD y.1 0≠0∧frN d y.1=v:=fun y hy=>by
  obtain⟨i,h1,h2,h3,_⟩:=hSm y hy
  rw[Nat.zero_add]at h1
  rw[←h1,son]at h3
  simpa using h3
 have hPy:∀ y∈P,ptNd d.ports y.1=v:=fun y hy=>by
  obtain⟨i,h1,h2,h3,_⟩:=hPm y hy
  rw[Nat.zero_add]at h1
  rw[←h1]at h3
  simp[ptOn]at h3
  exact h3.1
 have hout:∀ s,s < d.segs.length→¬ (d.rates.getD s 0≠0∧frN d s=v)→∀ y∈Sg,y.1≠s:=fun s hs hn y hy e=>by
  subst e;exact hn (hSy y hy)
 have hSx:∀ j y,Sg[j]? = some y→Pc.vol (x.getD (P.length+j) [])=y.2:=fun j y hy=>by
  have hj:=(List.getElem?_eq_some_iff.1 hy).1
  obtain⟨q,hq⟩:∃ q,x[P.length+j]? = some q:=has_get (by omega)
  have e:x.getD (P.length+j) []=q:=by rw[List.getD_eq_getElem?_getD,hq];rfl
  rw[e]
  refine (hRe _ q y.2 hq ?_).2
  rw[List.getElem?_append_right (by simp),List.length_map,Nat.add_sub_cancel_left,List.getElem?_map,hy];rfl
 refine⟨by rw[setK_len];exact h.lF,by rw[setK_len];exact h.lG,by rw[setK_len];exact h.lO,fun s hs=>?_,fun s hs hr hfr=>?_,fun s hs hn=>?_,fun p hp=>?_,fun p hp hn=>?_,fun b=>?_⟩
 ·obtain⟨f,a1,a2,a3⟩:=h.fF s hs
  by_cases ho:sgOn v false (d.segs.map (·.1)) d.rates s=true
  ·obtain⟨j,y,hy,rfl,_⟩:=hin s hs ho
   have hp:=hRp j y hy
   rw[setK_get F Sg _ hSinc (fun y hy=>by rw[h.lF];exact hSl y hy) Sg.length (Nat.le_refl _) j y (List.getElem?_eq_some_iff.1 hy).1 hy]
   refine⟨n j,rfl,hp.vn,?_⟩
   have e:gvAt F y=f:=gvO_some a1
   rw[hp.qn,e,a3]
  ·rw[setK_out F Sg _ s (hout s hs (fun hh=>ho ((son false s).2 (by simpa using hh)))) _ (Nat.le_refl _)]
   exact⟨f,a1,a2,a3⟩
 ·by_cases ho:sgOn v false (d.segs.map (·.1)) d.rates s=true
  ·obtain⟨j,y,hy,rfl,h2⟩:=hin s hs ho
   have hp:=hRp j y hy
   rw[setK_get G Sg _ hSinc (fun y hy=>by rw[h.lG];exact hSl y hy) Sg.length (Nat.le_refl _) j y (List.getElem?_eq_some_iff.1 hy).1 hy]
   exact⟨o j,rfl,hp.vo,by rw[hp.qo,hSx j y hy,h2]⟩
  ·have hne:¬ frN d s=v:=fun e=>ho ((son false s).2 ⟨hr,by simpa using e⟩)
   rw[setK_out G Sg _ s (hout s hs (fun hh=>hne hh.2)) _ (Nat.le_refl _)]
   exact h.gG s hs hr (((tk _).1 hfr).resolve_right hne)
 ·have hne:¬ (d.rates.getD s 0≠0∧frN d s=v):=fun hh=>hn ⟨hh.1,(tk _).2 (Or.inr hh.2)⟩
  rw[setK_out G Sg _ s (hout s hs hne) _ (Nat.le_refl _)]
  exact h.gN s hs fun hh=>hn ⟨hh.1,(tk _).2 (Or.inl hh.2)⟩
 ·by_cases hpm:∃ (j:Nat) (y:Nat×Int),P[j]? = some y∧y.1=p
  ·obtain⟨j,y,hy,rfl⟩:=hpm
   right
   have hj:=(List.getElem?_eq_some_iff.1 hy).1
   rw[setK_get O P _ hPinc (fun y hy=>by rw[h.lO];exact hPl y hy) P.length (Nat.le_refl _) j y hj hy]
   obtain⟨q,hq⟩:∃ q,x[j]? = some q:=has_get (by omega)
   have e:x.getD j []=q:=by rw[List.getD_eq_getElem?_getD,hq];rfl
   have:=hRe j q y.2 hq (by rw[List.getElem?_append_left (by simpa using hj),List.getElem?_map,hy];rfl)
   rw[e]
   have hb:=(yP_bd (v:=v) (inn:=false) hf.bP y (by rw[hP];exact List.mem_of_getElem? hy)).2
   exact⟨q,rfl,this.1,by omega⟩
  ·rw[setK_out O P _ p (fun y hy e=>hpm (by
    obtain⟨j,hj,e2⟩:=List.getElem_of_mem hy
    exact⟨j,y,by rw[←e2];exact List.getElem?_eq_getElem hj,e⟩)) _ (Nat.le_refl _)]
   exact h.oO p hp
 ·rw[setK_out O P _ p (fun y hy e=>hn ((tk _).2 (Or.inr (by rw[←e];exact hPy y hy)))) _ (Nat.le_refl _)]
  exact h.oN p hp fun hh=>hn ((tk _).2 (Or.inl hh))
 ·have hs:=h.sum b
  have q1:=sum_setK d.segs.length wA b F h.lF Sg n hSinc (fun y hy=>⟨hSl y hy,rfl⟩) Sg.length (Nat.le_refl _)
  have q2:=sum_setK d.ports.length wA b O h.lO P (fun j=>x.getD j []) hPinc (fun y hy=>⟨hPl y hy,rfl⟩) P.length (Nat.le_refl _)
  have q3:=sum_setK d.segs.length (wG d (ord.take (k+1))) b G h.lG Sg o hSinc (fun y hy=>⟨hSl y hy,by
   obtain⟨h1,h2⟩:=hSy y hy
   obtain⟨i,j,h3,h4,h5⟩:=hf.seg y.1 (hSl y hy) h1
   rw[h2]at h4
   have e1:=nodup_at hf.nd h4 hv
   simp only[wG,Bool.not_eq_true',decide_eq_false_iff_not]
   intro hm2
   obtain⟨i2,h6,h7⟩:=mem_take hm2
   have e2:=nodup_at hf.nd h7 h5
   omega⟩) Sg.length (Nat.le_refl _)
  have z3:∀ j,j < Sg.length→Pc.of_ (gvO G (Sg.getD j (0,0)).1) b=0:=fun j hj=>by
   obtain⟨y,hy⟩:∃ y,Sg[j]? = some y:=has_get hj
   have ey:Sg.getD j (0,0)=y:=by rw[List.getD_eq_getElem?_getD,hy];rfl
   obtain⟨h1,h2⟩:=hSy y (List.mem_of_getElem? hy)
   rw[ey,gvO_none (h.gN y.1 (hSl y (List.mem_of_getElem? hy)) (fun hh=>hvk (by rw[←h2];exact hh.2)))];rfl
  have z2:∀ j,j < P.length→Pc.of_ (gvO O (P.getD j (0,0)).1) b=0:=fun j hj=>by
   obtain⟨y,hy⟩:∃ y,P[j]? = some y:=has_get hj
   have ey:P.getD j (0,0)=y:=by rw[List.getD_eq_getElem?_getD,hy];rfl
   have h2:=hPy y (List.mem_of_getElem? hy)
   rw[ey,gvO_none (h.oN y.1 (hPl y (List.mem_of_getElem? hy)) (fun hh=>hvk (by rw[←h2];exact hh)))];rfl
  have r3:sumN Sg.length (fun j=>Pc.of_ (o j) b - Pc.of_ (gvO G (Sg.getD j (0,0)).1) b)=sumN Sg.length fun j=>Pc.of_ (o j) b:=sumN_congr fun j hj=>by rw[z3 j hj];omega
  have r2:sumN P.length (fun j=>Pc.of_ (x.getD j []) b - Pc.of_ (gvO O (P.getD j (0,0)).1) b)=sumN P.length fun j=>Pc.of_ (x.getD j []) b:=sumN_congr fun j hj=>by rw[z2 j hj];omega
  have r1:(sumN Sg.length fun j=>Pc.of_ (n j) b - Pc.of_ (gvO F (Sg.getD j (0,0)).1) b)+sumN Sg.length (fun j=>Pc.of_ (o j) b)=sumN Sg.length fun j=>Pc.of_ (x.getD (P.length+j) []) b:=by
   rw[←sumN_add]
   refine sumN_congr fun j hj=>?_
   obtain⟨y,hy⟩:∃ y,Sg[j]? = some y:=has_get hj
   have ey:Sg.getD j (0,0)=y:=by rw[List.getD_eq_getElem?_getD,hy];rfl
   have:=(hRp j y hy).of_ b
   rw[ey]
   have e:gvAt F y=gvO F y.1:=rfl
   rw[e]at this
   omega
  have r4:Dl.tot (x.map fun q=>Pc.of_ q b)=sumN P.length (fun j=>Pc.of_ (x.getD j []) b)+sumN Sg.length fun j=>Pc.of_ (x.getD (P.length+j) []) b:=by
   rw[tot_sumN [] (fun q=>Pc.of_ q b) x,hRl,sumN_app]
  have r5:=hRs b
  have r6:Sw d.segs.length (wG d (ord.take k)) G b=Sw d.segs.length (wG d (ord.take (k+1))) G b+Dl.tot ((segYs v true 0 (d.segs.map (·.1)) d.rates).map fun z=>Pc.of_ (gvAt G z) b):=by
   have e:=segYs_sum v true (fun s=>Pc.of_ (gvO G s) b) 0 (d.segs.map (·.1)) d.rates (by rw[hm];exact hd.lenR)
   have e2:((segYs v true 0 (d.segs.map (·.1)) d.rates).map fun z=>Pc.of_ (gvAt G z) b)=(segYs v true 0 (d.segs.map (·.1)) d.rates).map fun y=>Pc.of_ (gvO G y.1) b:=rfl
   rw[e2,e,hm]
   unfold Sw
   rw[←sumN_add]
   refine sumN_congr fun s hs=>?_
   rw[Nat.zero_add]
   by_cases ha:toN d s∈ord.take k
   ·have h1:wG d (ord.take k) s=false:=by simp[wG,ha]
    have h2:wG d (ord.take (k+1)) s=false:=by simp[wG,(tk _).2 (Or.inl ha)]
    have h3:¬ sgOn v true (d.segs.map (·.1)) d.rates s=true:=fun hh=>by
     have:=((son true s).1 hh).2
     simp only[if_true]at this
     exact hvk (this ▸ ha)
    rw[if_neg h3];simp[h1,h2]
   ·have h1:wG d (ord.take k) s=true:=by simp[wG,ha]
    rw[h1,if_pos rfl]
    by_cases hb:toN d s=v
    ·have h2:wG d (ord.take (k+1)) s=false:=by simp[wG,(tk _).2 (Or.inr hb)]
     rw[h2,if_neg (by simp)]
     by_cases hr:d.rates.getD s 0=0
     ·have h3:¬ sgOn v true (d.segs.map (·.1)) d.rates s=true:=fun hh=>((son true s).1 hh).1 hr
      rw[if_neg h3,gvO_none (h.gN s hs (fun hh=>hh.1 hr))];rfl
     ·rw[if_pos ((son true s).2 ⟨hr,by simpa using hb⟩)];omega
    ·have h2:wG d (ord.take (k+1)) s=true:=by
      simp only[wG,Bool.not_eq_true',decide_eq_false_iff_not]
      intro hh
      rcases (tk _).1 hh with hh|hh
      ·exact ha hh
      ·exact hb hh
     have h3:¬ sgOn v true (d.segs.map (·.1)) d.rates s=true:=fun hh=>hb (by simpa using ((son true s).1 hh).2)
     rw[h2,if_pos rfl,if_neg h3];omega
  have r7:inK d (ord.take (k+1)) b=inK d (ord.take k) b+Pc.of_ (prtPc d.feeds (prtYs v true 0 d.ports d.prates)) b:=by
   rw[prtPc_of]
   have e:=prtYs_sum v true (fun p r=>if d.feeds.getD p 0=b then r else 0) 0 d.ports d.prates hd.lenP
   rw[e]
   unfold inK
   rw[←sumN_add]
   refine sumN_congr fun p hp=>?_
   rw[Nat.zero_add]
   by_cases hr:0 < d.prates.getD p 0
   ·have hab:absI (d.prates.getD p 0)=d.prates.getD p 0:=by unfold absI;omega
    rw[hab]
    by_cases ha:ptNd d.ports p∈ord.take k
    ·have h3:¬ ptOn v true d.ports d.prates p=true:=fun hh=>by
      simp[ptOn]at hh
      exact hvk (hh.1 ▸ ha)
     rw[if_pos (decide_eq_true ⟨hr,(tk _).2 (Or.inl ha)⟩),if_pos (decide_eq_true ⟨hr,ha⟩),if_neg h3];omega
    ·have h1:¬ (decide (0 < d.prates.getD p 0∧ptNd d.ports p∈ord.take k)=true):=by simp[ha]
     rw[if_neg h1]
     by_cases hb:ptNd d.ports p=v
     ·have h3:ptOn v true d.ports d.prates p=true:=by
       have hr2:d.prates.getD p 0≠0:=by omega
       unfold ptOn
       exact decide_eq_true ⟨hb,hr2,decide_eq_true hr⟩
      rw[if_pos (decide_eq_true ⟨hr,(tk _).2 (Or.inr hb)⟩),if_pos h3];omega
     ·have h3:¬ ptOn v true d.ports d.prates p=true:=fun hh=>by
       simp[ptOn]at hh
       exact hb hh.1
      have h4:¬ (decide (0 < d.prates.getD p 0∧ptNd d.ports p∈ord.take (k+1))=true):=fun hh=>by
       rcases (tk _).1 (of_decide_eq_true hh).2 with hh|hh
       ·exact ha hh
       ·exact hb hh
      rw[if_neg h4,if_neg h3];rfl
   ·have h1:¬ (decide (0 < d.prates.getD p 0∧ptNd d.ports p∈ord.take k)=true):=fun hh=>hr (of_decide_eq_true hh).1
    have h2:¬ (decide (0 < d.prates.getD p 0∧ptNd d.ports p∈ord.take (k+1))=true):=fun hh=>hr (of_decide_eq_true hh).1
    have h3:¬ ptOn v true d.ports d.prates p=true:=fun hh=>by
     have:=(of_decide_eq_true hh).2.2
     exact hr (by simpa using this)
    rw[if_neg h1,if_neg h2,if_neg h3];rfl
  unfold Sw at hs r6 ⊢
  omega
end Go.Proofs.YtdjmklobfjigoaaGreatDoor
