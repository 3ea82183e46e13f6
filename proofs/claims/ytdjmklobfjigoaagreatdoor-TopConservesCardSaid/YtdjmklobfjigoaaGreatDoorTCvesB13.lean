import Derived.Test.YtdjmklobfjigoaaGreatDoorTCvesB12
import Derived.Test.YtdjmklobfjigoaaGreatDoorTCvesB10
import Derived.Test.YtdjmklobfjigoaaGreatDoorTCvesB11
set_option maxRecDepth 100000
set_option maxHeartbeats 16000000
set_option linter.unusedVariables false
set_option linter.unusedSimpArgs false
namespace Go.Proofs.YtdjmklobfjigoaaGreatDoor
open Go.RowKit Sy Dl
open Go.IntWalk renaming iteOmega → iO, toNatUp → tN
theorem node0_fn (d:LineD) (hd:LineOk d) (order:T) (w6:order.width=1) (fi gi oo:List (Option (List (Int×Int)))) (node:Int) (hg:gi.length=d.segs.length) (hS:Pc.Sane (comesV d gi node)) (hnz:∀ z∈segYs node true 0 (d.segs.map (·.1)) d.rates,∀ p∈gvAt gi z,p.2≠0) (hl:Pc.join (comesV d gi node)=[]) :
  FnOk Tryz.prog 51 [.pt 0 [] 0,.t (.int node)] [(0,lineB d.net d.plan (.sl 1 (d.feeds.map encI)) order),(1,blkG fi),(2,blkG gi),(3,blkG oo)]
   (.t (.int 0)) [(0,lineB d.net d.plan (.sl 1 (d.feeds.map encI)) order),(1,blkG fi),(2,blkG gi),(3,blkG oo)]:=by
 have s1:=stream_fn d hd order w6 fi gi oo node hg hS hnz
 rw[hl]at s1
 refine FnOk.intro fact_mixed Tryz.func51 rfl Tryz.ntmps51 (by rfl) (by simp) ?_
 repeat (first|(refine n1s rfl ?_;simp[go_sem,↓iO,iO,tN])|refine anI ?_|refine⟨dcK,?_⟩|refine iP ?_|refine iN ?_)
 refine cF (s1) [(0,0),(1,1),(2,2),(3,3),(1000,510)] ?_ ?_ ?_ ?_<;>simp[go_sem,↓iO,iO,tN]
 repeat (first|(refine n1s rfl ?_;simp[go_sem,↓iO,iO,tN])|refine anI ?_|refine⟨dcK,?_⟩|refine iP ?_|refine iN ?_)
 first|rw[TqR]|rw[TqN]
 refine⟨[(0,some 0),(1,some 1),(2,some 2),(3,some 3)],?_⟩
 simp[go_sem,↓iO,iO,tN]
def NodeC (d:LineD) (order:T) (node:Int) (f0 g0 o0 f1 g1 o1:List (Option (List (Int×Int)))):Prop:=
 FnOk Tryz.prog 51 [.pt 0 [] 0,.t (.int node)] [(0,lineB d.net d.plan (.sl 1 (d.feeds.map encI)) order),(1,blkG f0),(2,blkG g0),(3,blkG o0)]
   (.t (.int 0)) [(0,lineB d.net d.plan (.sl 1 (d.feeds.map encI)) order),(1,blkG f1),(2,blkG g1),(3,blkG o1)]
@[go_sem] def lineX (net plan:List T) (feeds order:T) (a b:S):Blk:=.box 76 (.ag [.t (.agg net),.t (.agg plan),.t feeds,.t order,.own 1,a,b])
theorem gv_none (n:Nat):(List.replicate n (none:Option (List (Int×Int)))).map encGv=List.replicate n (.lit (.slice none 0 0)):=by simp[encGv]
theorem tick_fn (d:LineD) (hd:LineOk d) (ord:List Int) (hol:ord.length≤1000) (gi oo:List (Option (List (Int×Int)))) (F G O:Nat→List (Option (List (Int×Int)))) (hG0:G 0=List.replicate d.segs.length none) (hO0:O 0=List.replicate d.ports.length none)
  (hN:∀ k node,ord[k]? = some node→NodeC d (.sl 1 (ord.map encI)) node (F k) (G k) (O k) (F (k+1)) (G (k+1)) (O (k+1))) :
  FnOk Tryz.prog 26 [.pt 0 [] 0] [(0,lineX d.net d.plan (.sl 1 (d.feeds.map encI)) (.sl 1 (ord.map encI)) (.own 2) (.own 3)),(1,blkG (F 0)),(2,blkG gi),(3,blkG oo)]
   (.t (.int 0)) [(0,lineX d.net d.plan (.sl 1 (d.feeds.map encI)) (.sl 1 (ord.map encI)) (.own 1000) (.own 1001)),(1,blkG (F ord.length)),(1000,blkG (G ord.length)),(1001,blkG (O ord.length))]:=by
 have w1:=hd.w1
 have w2:=hd.w2
 have w3:=hd.w3
 have w4:=hd.w4
 have w5:=hd.w5
 have hmS:=hd.maxS
 have hmP:=hd.maxP
 refine FnOk.intro fact_mixed Tryz.func26 rfl Tryz.ntmps26 (by rfl) (by simp) ?_
 repeat (first|(refine n1s rfl ?_;simp[go_sem,↓iO,iO,tN,w1,w2,w3,w4,w5])|refine anI ?_|refine⟨dcK,?_⟩|refine iP ?_|refine iN ?_)
 refine nf1_sound' _ _ _ ?_;simp only[nf1]
 refine CW.loop (ι:=Nat) (fun k=>⟨[(0,.pt 0 [] 0),(29,.t (.sl 1 (ord.map encI))),(30,.t (.int ord.length)),(31,.t (.int k))],[(0,lineX d.net d.plan (.sl 1 (d.feeds.map encI)) (.sl 1 (ord.map encI)) (.own 500) (.own 501)),(1,blkG (F k)),(500,blkG (G k)),(501,blkG (O k))]⟩) (fun k=>k≤ord.length) (fun k=>ord.length - k) 0 [(0,some 0),(1,some 1),(500,some 114),(501,some 121)] (by omega) ?_ ?_
 ·simp[go_sem,↓iO,iO,tN,hG0,hO0,gv_none]
 intro k hk
 by_cases hb:k < ord.length
 ·obtain⟨node,hn⟩:=has_get hb
  have c1:=hN k node hn
  have hn2:ord[k]=node:=(List.getElem?_eq_some_iff.1 hn).2
  unfold NodeC at c1
  obtain⟨F0,hF0⟩:∃ F0,F k=F0:=⟨_,rfl⟩
  obtain⟨G0,hG0⟩:∃ G0,G k=G0:=⟨_,rfl⟩
  obtain⟨O0,hO0⟩:∃ O0,O k=O0:=⟨_,rfl⟩
  obtain⟨F1,hF1⟩:∃ F1,F (k+1)=F1:=⟨_,rfl⟩
  obtain⟨G1,hG1⟩:∃ G1,G (k+1)=G1:=⟨_,rfl⟩
  obtain⟨O1,hO1⟩:∃ O1,O (k+1)=O1:=⟨_,rfl⟩
  rw[hF0,hG0,hO0,hF1,hG1,hO1]at c1
  rw[hF0,hG0,hO0]
  repeat (first|(refine n1s rfl ?_;simp[go_sem,↓iO,iO,tN,hn,hn2,hb])|refine anI ?_|refine⟨dcK,?_⟩|refine iP ?_|refine iN ?_)
  refine cF (c1) [(0,0),(1,1),(2,500),(3,501)] ?_ ?_ ?_ ?_<;>simp[go_sem,↓iO,iO,tN]
  repeat (first|(refine n1s rfl ?_;simp[go_sem,↓iO,iO,tN])|refine anI ?_|refine⟨dcK,?_⟩|refine iP ?_|refine iN ?_)
  rw[RqN];refine⟨k+1,[(0,some 0),(1,some 1),(500,some 500),(501,some 501)],?_,?_,?_⟩
  ·omega
  ·omega
  simp[go_sem,↓iO,iO,tN,hF1,hG1,hO1]
 ·obtain rfl:k=ord.length:=by omega
  obtain⟨F0,hF0⟩:∃ F0,F ord.length=F0:=⟨_,rfl⟩
  obtain⟨G0,hG0⟩:∃ G0,G ord.length=G0:=⟨_,rfl⟩
  obtain⟨O0,hO0⟩:∃ O0,O ord.length=O0:=⟨_,rfl⟩
  rw[hF0,hG0,hO0]
  repeat (first|(refine n1s rfl ?_;simp[go_sem,↓iO,iO,tN])|refine anI ?_|refine⟨dcK,?_⟩|refine iP ?_|refine iN ?_)
  first|rw[TqR]|rw[TqN]
  refine⟨[(0,some 0),(1,some 1),(1000,some 500),(1001,some 501)],?_⟩
  simp[go_sem,↓iO,iO,tN]
end Go.Proofs.YtdjmklobfjigoaaGreatDoor
namespace Go.Proofs.YtdjmklobfjigoaaGreatDoor
open Go.RowKit Sy
open Go.IntWalk renaming iteOmega → iO, toNatUp → tN
theorem seg_idx (l:List (Sgm)) (hlen:l.length≤1000000) (hall:∀ p∈l,FnOk Tryz.prog 87 [.t (encSg p)] [] (.t (.bool false)) []):FnOk Tryz.prog 120 [.t (.sl 7 (l.map encSg)),.fn 87 []] [] (.t (.int (-1))) []:=by
 refine FnOk.intro fact_mixed Tryz.func120 rfl Tryz.ntmps120 (by rfl) (by simp) ?_
 repeat (first|(refine n1s rfl ?_;simp[go_sem,↓iO,iO,tN])|refine anI ?_|refine⟨dcK,?_⟩|refine iP ?_|refine iN ?_)
 refine nf1_sound' _ _ _ ?_;simp only[nf1]
 refine CW.loop (ι:=Nat) (fun k=>⟨[(0,.t (.sl 7 (l.map encSg))),(1,.fn 87 []),(7,.t (.int l.length)),(8,.t (.int k))],[]⟩) (fun k=>k≤l.length) (fun k=>l.length - k) 0 [] (by omega) ?_ ?_
 ·simp[go_sem,↓iO,iO,tN]
 intro k hk
 by_cases hb:k < l.length
 ·obtain⟨p,hp⟩:=has_get hb
  have hu:=hall p (mem_get hp)
  repeat (first|(refine n1s rfl ?_;simp[go_sem,↓iO,iO,tN,hp])|refine anI ?_|refine⟨dcK,?_⟩|refine iP ?_|refine iN ?_)
  refine cF (hu) [] ?_ ?_ ?_ ?_<;>simp[go_sem,↓iO,iO,tN]
  repeat (first|(refine n1s rfl ?_;simp[go_sem,↓iO,iO,tN])|refine anI ?_|refine⟨dcK,?_⟩|refine iP ?_|refine iN ?_)
  rw[RqN];refine⟨k+1,[],?_,?_,?_⟩
  ·omega
  ·omega
  simp[go_sem,↓iO,iO,tN]
 ·obtain rfl:k=l.length:=by omega
  repeat (first|(refine n1s rfl ?_;simp[go_sem,↓iO,iO,tN])|refine anI ?_|refine⟨dcK,?_⟩|refine iP ?_|refine iN ?_)
  first|rw[TqR]|rw[TqN]
  refine⟨[],?_⟩
  simp[go_sem,↓iO,iO,tN]
theorem seg_cont (l:List (Sgm)) (hlen:l.length≤1000000) (hall:∀ p∈l,FnOk Tryz.prog 87 [.t (encSg p)] [] (.t (.bool false)) []):FnOk Tryz.prog 79 [.t (.sl 7 (l.map encSg)),.fn 87 []] [] (.t (.bool false)) []:=by
 refine FnOk.intro fact_mixed Tryz.func79 rfl Tryz.ntmps79 (by rfl) (by simp) ?_
 repeat (first|(refine n1s rfl ?_;simp[go_sem,↓iO,iO,tN])|refine anI ?_|refine⟨dcK,?_⟩|refine iP ?_|refine iN ?_)
 refine cF (seg_idx l hlen hall) [] ?_ ?_ ?_ ?_<;>simp[go_sem,↓iO,iO,tN]
 repeat (first|(refine n1s rfl ?_;simp[go_sem,↓iO,iO,tN])|refine anI ?_|refine⟨dcK,?_⟩|refine iP ?_|refine iN ?_)
 first|rw[TqR]|rw[TqN]
 refine⟨[],?_⟩
 simp[go_sem,↓iO,iO,tN]
theorem fci_idx (l:List (Int)) (hlen:l.length≤1000000) (hall:∀ p∈l,FnOk Tryz.prog 95 [.t (encI p)] [] (.t (.bool false)) []):FnOk Tryz.prog 66 [.t (.sl 1 (l.map encI)),.fn 95 []] [] (.t (.int (-1))) []:=by
 refine FnOk.intro fact_mixed Tryz.func66 rfl Tryz.ntmps66 (by rfl) (by simp) ?_
 repeat (first|(refine n1s rfl ?_;simp[go_sem,↓iO,iO,tN])|refine anI ?_|refine⟨dcK,?_⟩|refine iP ?_|refine iN ?_)
 refine nf1_sound' _ _ _ ?_;simp only[nf1]
 refine CW.loop (ι:=Nat) (fun k=>⟨[(0,.t (.sl 1 (l.map encI))),(1,.fn 95 []),(7,.t (.int l.length)),(8,.t (.int k))],[]⟩) (fun k=>k≤l.length) (fun k=>l.length - k) 0 [] (by omega) ?_ ?_
 ·simp[go_sem,↓iO,iO,tN]
 intro k hk
 by_cases hb:k < l.length
 ·obtain⟨p,hp⟩:=has_get hb
  have hu:=hall p (mem_get hp)
  repeat (first|(refine n1s rfl ?_;simp[go_sem,↓iO,iO,tN,hp])|refine anI ?_|refine⟨dcK,?_⟩|refine iP ?_|refine iN ?_)
  refine cF (hu) [] ?_ ?_ ?_ ?_<;>simp[go_sem,↓iO,iO,tN]
  repeat (first|(refine n1s rfl ?_;simp[go_sem,↓iO,iO,tN])|refine anI ?_|refine⟨dcK,?_⟩|refine iP ?_|refine iN ?_)
  rw[RqN];refine⟨k+1,[],?_,?_,?_⟩
  ·omega
  ·omega
  simp[go_sem,↓iO,iO,tN]
 ·obtain rfl:k=l.length:=by omega
  repeat (first|(refine n1s rfl ?_;simp[go_sem,↓iO,iO,tN])|refine anI ?_|refine⟨dcK,?_⟩|refine iP ?_|refine iN ?_)
  first|rw[TqR]|rw[TqN]
  refine⟨[],?_⟩
  simp[go_sem,↓iO,iO,tN]
theorem fci_cont (l:List (Int)) (hlen:l.length≤1000000) (hall:∀ p∈l,FnOk Tryz.prog 95 [.t (encI p)] [] (.t (.bool false)) []):FnOk Tryz.prog 49 [.t (.sl 1 (l.map encI)),.fn 95 []] [] (.t (.bool false)) []:=by
 refine FnOk.intro fact_mixed Tryz.func49 rfl Tryz.ntmps49 (by rfl) (by simp) ?_
 repeat (first|(refine n1s rfl ?_;simp[go_sem,↓iO,iO,tN])|refine anI ?_|refine⟨dcK,?_⟩|refine iP ?_|refine iN ?_)
 refine cF (fci_idx l hlen hall) [] ?_ ?_ ?_ ?_<;>simp[go_sem,↓iO,iO,tN]
 repeat (first|(refine n1s rfl ?_;simp[go_sem,↓iO,iO,tN])|refine anI ?_|refine⟨dcK,?_⟩|refine iP ?_|refine iN ?_)
 first|rw[TqR]|rw[TqN]
 refine⟨[],?_⟩
 simp[go_sem,↓iO,iO,tN]
theorem sti_idx (l:List (Int)) (hlen:l.length≤1000000) (hall:∀ p∈l,FnOk Tryz.prog 50 [.t (encI p)] [] (.t (.bool false)) []):FnOk Tryz.prog 66 [.t (.sl 1 (l.map encI)),.fn 50 []] [] (.t (.int (-1))) []:=by
 refine FnOk.intro fact_mixed Tryz.func66 rfl Tryz.ntmps66 (by rfl) (by simp) ?_
 repeat (first|(refine n1s rfl ?_;simp[go_sem,↓iO,iO,tN])|refine anI ?_|refine⟨dcK,?_⟩|refine iP ?_|refine iN ?_)
 refine nf1_sound' _ _ _ ?_;simp only[nf1]
 refine CW.loop (ι:=Nat) (fun k=>⟨[(0,.t (.sl 1 (l.map encI))),(1,.fn 50 []),(7,.t (.int l.length)),(8,.t (.int k))],[]⟩) (fun k=>k≤l.length) (fun k=>l.length - k) 0 [] (by omega) ?_ ?_
 ·simp[go_sem,↓iO,iO,tN]
 intro k hk
 by_cases hb:k < l.length
 ·obtain⟨p,hp⟩:=has_get hb
  have hu:=hall p (mem_get hp)
  repeat (first|(refine n1s rfl ?_;simp[go_sem,↓iO,iO,tN,hp])|refine anI ?_|refine⟨dcK,?_⟩|refine iP ?_|refine iN ?_)
  refine cF (hu) [] ?_ ?_ ?_ ?_<;>simp[go_sem,↓iO,iO,tN]
  repeat (first|(refine n1s rfl ?_;simp[go_sem,↓iO,iO,tN])|refine anI ?_|refine⟨dcK,?_⟩|refine iP ?_|refine iN ?_)
  rw[RqN];refine⟨k+1,[],?_,?_,?_⟩
  ·omega
  ·omega
  simp[go_sem,↓iO,iO,tN]
 ·obtain rfl:k=l.length:=by omega
  repeat (first|(refine n1s rfl ?_;simp[go_sem,↓iO,iO,tN])|refine anI ?_|refine⟨dcK,?_⟩|refine iP ?_|refine iN ?_)
  first|rw[TqR]|rw[TqN]
  refine⟨[],?_⟩
  simp[go_sem,↓iO,iO,tN]
theorem sti_cont (l:List (Int)) (hlen:l.length≤1000000) (hall:∀ p∈l,FnOk Tryz.prog 50 [.t (encI p)] [] (.t (.bool false)) []):FnOk Tryz.prog 49 [.t (.sl 1 (l.map encI)),.fn 50 []] [] (.t (.bool false)) []:=by
 refine FnOk.intro fact_mixed Tryz.func49 rfl Tryz.ntmps49 (by rfl) (by simp) ?_
 repeat (first|(refine n1s rfl ?_;simp[go_sem,↓iO,iO,tN])|refine anI ?_|refine⟨dcK,?_⟩|refine iP ?_|refine iN ?_)
 refine cF (sti_idx l hlen hall) [] ?_ ?_ ?_ ?_<;>simp[go_sem,↓iO,iO,tN]
 repeat (first|(refine n1s rfl ?_;simp[go_sem,↓iO,iO,tN])|refine anI ?_|refine⟨dcK,?_⟩|refine iP ?_|refine iN ?_)
 first|rw[TqR]|rw[TqN]
 refine⟨[],?_⟩
 simp[go_sem,↓iO,iO,tN]
theorem acr_idx (l:List (List (Int×Int))) (hlen:l.length≤1000000) (hall:∀ p∈l,FnOk Tryz.prog 47 [.t (encPs p)] [] (.t (.bool false)) []):FnOk Tryz.prog 63 [.t (.sl 1 (l.map encPs)),.fn 47 []] [] (.t (.int (-1))) []:=by
 refine FnOk.intro fact_mixed Tryz.func63 rfl Tryz.ntmps63 (by rfl) (by simp) ?_
 repeat (first|(refine n1s rfl ?_;simp[go_sem,↓iO,iO,tN])|refine anI ?_|refine⟨dcK,?_⟩|refine iP ?_|refine iN ?_)
 refine nf1_sound' _ _ _ ?_;simp only[nf1]
 refine CW.loop (ι:=Nat) (fun k=>⟨[(0,.t (.sl 1 (l.map encPs))),(1,.fn 47 []),(7,.t (.int l.length)),(8,.t (.int k))],[]⟩) (fun k=>k≤l.length) (fun k=>l.length - k) 0 [] (by omega) ?_ ?_
 ·simp[go_sem,↓iO,iO,tN]
 intro k hk
 by_cases hb:k < l.length
 ·obtain⟨p,hp⟩:=has_get hb
  have hu:=hall p (mem_get hp)
  repeat (first|(refine n1s rfl ?_;simp[go_sem,↓iO,iO,tN,hp])|refine anI ?_|refine⟨dcK,?_⟩|refine iP ?_|refine iN ?_)
  refine cF (hu) [] ?_ ?_ ?_ ?_<;>simp[go_sem,↓iO,iO,tN]
  repeat (first|(refine n1s rfl ?_;simp[go_sem,↓iO,iO,tN])|refine anI ?_|refine⟨dcK,?_⟩|refine iP ?_|refine iN ?_)
  rw[RqN];refine⟨k+1,[],?_,?_,?_⟩
  ·omega
  ·omega
  simp[go_sem,↓iO,iO,tN]
 ·obtain rfl:k=l.length:=by omega
  repeat (first|(refine n1s rfl ?_;simp[go_sem,↓iO,iO,tN])|refine anI ?_|refine⟨dcK,?_⟩|refine iP ?_|refine iN ?_)
  first|rw[TqR]|rw[TqN]
  refine⟨[],?_⟩
  simp[go_sem,↓iO,iO,tN]
theorem acr_cont (l:List (List (Int×Int))) (hlen:l.length≤1000000) (hall:∀ p∈l,FnOk Tryz.prog 47 [.t (encPs p)] [] (.t (.bool false)) []):FnOk Tryz.prog 46 [.t (.sl 1 (l.map encPs)),.fn 47 []] [] (.t (.bool false)) []:=by
 refine FnOk.intro fact_mixed Tryz.func46 rfl Tryz.ntmps46 (by rfl) (by simp) ?_
 repeat (first|(refine n1s rfl ?_;simp[go_sem,↓iO,iO,tN])|refine anI ?_|refine⟨dcK,?_⟩|refine iP ?_|refine iN ?_)
 refine cF (acr_idx l hlen hall) [] ?_ ?_ ?_ ?_<;>simp[go_sem,↓iO,iO,tN]
 repeat (first|(refine n1s rfl ?_;simp[go_sem,↓iO,iO,tN])|refine anI ?_|refine⟨dcK,?_⟩|refine iP ?_|refine iN ?_)
 first|rw[TqR]|rw[TqN]
 refine⟨[],?_⟩
 simp[go_sem,↓iO,iO,tN]
theorem nprop1_fn (s:Sgm) (h:PipeOk s):FnOk Tryz.prog 87 [.t (encSg s)] [] (.t (.bool false)) []:=by
 have c:=pipe_fn s h
 refine FnOk.intro fact_mixed Tryz.func87 rfl Tryz.ntmps87 (by rfl) (by simp) ?_
 repeat (first|(refine n1s rfl ?_;simp[go_sem,↓iO,iO,tN])|refine anI ?_|refine⟨dcK,?_⟩|refine iP ?_|refine iN ?_)
 refine cF (c) [] ?_ ?_ ?_ ?_<;>simp[go_sem,↓iO,iO,tN]
 repeat (first|(refine n1s rfl ?_;simp[go_sem,↓iO,iO,tN])|refine anI ?_|refine⟨dcK,?_⟩|refine iP ?_|refine iN ?_)
 first|rw[TqR]|rw[TqN]
 refine⟨[],?_⟩
 simp[go_sem,↓iO,iO,tN]
theorem within_fn (n m:Int) (hm:-1000000≤m∧m≤1000000) (h:-m≤n∧n≤m):FnOk Tryz.prog 94 [.t (.int n),.t (.int m)] [] (.t (.bool true)) []:=by
 obtain⟨h1,h2⟩:=h
 refine FnOk.intro fact_mixed Tryz.func94 rfl Tryz.ntmps94 (by rfl) (by simp) ?_
 repeat (first|(refine n1s rfl ?_;simp[go_sem,↓iO,iO,tN,h1,h2])|refine anI ?_|refine⟨dcK,?_⟩|refine iP ?_|refine iN ?_)
 first|rw[TqR]|rw[TqN]
 refine⟨[],?_⟩
 simp[go_sem,↓iO,iO,tN,h1,h2]
theorem fcheck1_fn (n:Int) (h:-1000≤n∧n≤1000):FnOk Tryz.prog 95 [.t (.int n)] [] (.t (.bool false)) []:=by
 have c:=within_fn n 1000 (by omega) h
 refine FnOk.intro fact_mixed Tryz.func95 rfl Tryz.ntmps95 (by rfl) (by simp) ?_
 repeat (first|(refine n1s rfl ?_;simp[go_sem,↓iO,iO,tN])|refine anI ?_|refine⟨dcK,?_⟩|refine iP ?_|refine iN ?_)
 refine cF (c) [] ?_ ?_ ?_ ?_<;>simp[go_sem,↓iO,iO,tN]
 repeat (first|(refine n1s rfl ?_;simp[go_sem,↓iO,iO,tN])|refine anI ?_|refine⟨dcK,?_⟩|refine iP ?_|refine iN ?_)
 first|rw[TqR]|rw[TqN]
 refine⟨[],?_⟩
 simp[go_sem,↓iO,iO,tN]
theorem am_f:fldsB Tryz.prog 149=none:=by kernel_rfl
theorem am_a:arrB Tryz.prog 149=some (24,3):=by kernel_rfl
theorem am_g:Tryz.prog.eqGuardType Tryz.prog.depth 149=false:=by kernel_rfl
theorem am_c:cellB Tryz.prog 3=true:=by kernel_rfl
theorem am_i:(intB Tryz.prog 3).isSome=true:=by kernel_rfl
theorem eq_ints:∀ l:List Int,eqAs Tryz.prog 3 (l.map T.int) (l.map T.int)=some true
 | []=>rfl
 | x :: r=>by simp[eqAs,eqV,eq_ints r,am_i]
@[go_sem] def encS (k:List Nat):T:=.lit (.string (str k))
abbrev Stn:=List Nat×Int×Int×Int×Int
@[go_sem] def encSn (s:Stn):T:=.agg [.lit (.string (str s.1)),.int s.2.1,.int s.2.2.1,.int s.2.2.2.1,.int s.2.2.2.2]
structure NetD where
 nn:List (List Nat)
 segs:List Sgm
 ports:List Prt
 stns:List Stn
 vap:Int
 stl:Int
@[go_sem] def NetD.l (d:NetD):List T:=[.sl 1 (d.nn.map encS),.sl 7 (d.segs.map encSg),.sl 3 (d.ports.map encPr),.sl 5 (d.stns.map encSn),.int d.vap,.int d.stl]
structure NameOk (k:List Nat):Prop where
 by_:∀ x∈k,x < 256
 fn:FnOk Tryz.prog 59 [.t (encS k)] [] (.t (.bool true)) []
structure NetOk (d:NetD):Prop where
 n0:1≤d.nn.length
 n1:d.nn.length≤24
 s1:d.segs.length≤32
 p1:d.ports.length≤24
 t1:d.stns.length≤12
 nmN:∀ k∈d.nn,NameOk k
 nmS:∀ s∈d.segs,NameOk s.1.nm
 nmP:∀ p∈d.ports,NameOk p.1
 nmT:∀ s∈d.stns,NameOk s.1
 ndN:d.nn.Nodup
 ndS:(d.segs.map fun s=>s.1.nm).Nodup
 ndP:(d.ports.map fun p=>p.1).Nodup
 ndT:(d.stns.map fun s=>s.1).Nodup
 ndU:(d.stns.map fun s=>s.2.1).Nodup
 knS:∀ s∈d.segs,(0≤s.1.fr∧s.1.fr < d.nn.length)∧0≤s.1.to∧s.1.to < d.nn.length
 knP:∀ p∈d.ports,0≤p.2.1∧p.2.1 < d.nn.length
 knT:∀ s∈d.stns,0≤s.2.1∧s.2.1 < d.nn.length
 pipe:∀ s∈d.segs,PipeOk s
 prs:∀ p∈d.ports,0≤p.2.2∧p.2.2≤100000000
 stn:∀ s∈d.stns,(0≤s.2.2.1∧s.2.2.1≤100000000)∧(0≤s.2.2.2.1∧s.2.2.2.1≤100000)∧0≤s.2.2.2.2∧s.2.2.2.2≤100000000
 vap:-100000≤d.vap∧d.vap≤100000000
 stl:0≤d.stl∧d.stl≤100
theorem strB_inj {a b:List Nat} (ha:∀ x∈a,x < 256) (hb:∀ x∈b,x < 256) (h:(str a).toList=(str b).toList):a=b:=by
 rw[str_toList,str_toList]at h
 have gen:∀ a b:List Nat,(∀ x∈a,x < 256)→(∀ x∈b,x < 256)→(a.map fun c=>UInt8.ofNat c)=(b.map fun c=>UInt8.ofNat c)→a=b:=by
  intro a
  induction a with
  | nil=>intro b _ _ h;cases b<;>simp_all
  | cons x r ih=>
   intro b ha hb h
   cases b with
   | nil=>simp at h
   | cons y s=>
    simp only[List.map_cons,List.cons.injEq]at h
    have h1:=congrArg UInt8.toNat h.1
    simp at h1
    have hx:=ha x (by simp)
    have hy:=hb y (by simp)
    rw[ih s (fun z hz=>ha z (by simp[hz])) (fun z hz=>hb z (by simp[hz])) h.2]
    congr 1
    omega
 exact gen a b ha hb h
theorem lim_idx (l:List (Sgm)) (hlen:l.length≤1000000) (hall:∀ p∈l,FnOk Tryz.prog 80 [.t (encSg p)] [] (.t (.bool false)) []):FnOk Tryz.prog 120 [.t (.sl 7 (l.map encSg)),.fn 80 []] [] (.t (.int (-1))) []:=by
 refine FnOk.intro fact_mixed Tryz.func120 rfl Tryz.ntmps120 (by rfl) (by simp) ?_
 repeat (first|(refine n1s rfl ?_;simp[go_sem,↓iO,iO,tN])|refine anI ?_|refine⟨dcK,?_⟩|refine iP ?_|refine iN ?_)
 refine nf1_sound' _ _ _ ?_;simp only[nf1]
 refine CW.loop (ι:=Nat) (fun k=>⟨[(0,.t (.sl 7 (l.map encSg))),(1,.fn 80 []),(7,.t (.int l.length)),(8,.t (.int k))],[]⟩) (fun k=>k≤l.length) (fun k=>l.length - k) 0 [] (by omega) ?_ ?_
 ·simp[go_sem,↓iO,iO,tN]
 intro k hk
 by_cases hb:k < l.length
 ·obtain⟨p,hp⟩:=has_get hb
  have hu:=hall p (mem_get hp)
  repeat (first|(refine n1s rfl ?_;simp[go_sem,↓iO,iO,tN,hp])|refine anI ?_|refine⟨dcK,?_⟩|refine iP ?_|refine iN ?_)
  refine cF (hu) [] ?_ ?_ ?_ ?_<;>simp[go_sem,↓iO,iO,tN]
  repeat (first|(refine n1s rfl ?_;simp[go_sem,↓iO,iO,tN])|refine anI ?_|refine⟨dcK,?_⟩|refine iP ?_|refine iN ?_)
  rw[RqN];refine⟨k+1,[],?_,?_,?_⟩
  ·omega
  ·omega
  simp[go_sem,↓iO,iO,tN]
 ·obtain rfl:k=l.length:=by omega
  repeat (first|(refine n1s rfl ?_;simp[go_sem,↓iO,iO,tN])|refine anI ?_|refine⟨dcK,?_⟩|refine iP ?_|refine iN ?_)
  first|rw[TqR]|rw[TqN]
  refine⟨[],?_⟩
  simp[go_sem,↓iO,iO,tN]
theorem lim_cont (l:List (Sgm)) (hlen:l.length≤1000000) (hall:∀ p∈l,FnOk Tryz.prog 80 [.t (encSg p)] [] (.t (.bool false)) []):FnOk Tryz.prog 79 [.t (.sl 7 (l.map encSg)),.fn 80 []] [] (.t (.bool false)) []:=by
 refine FnOk.intro fact_mixed Tryz.func79 rfl Tryz.ntmps79 (by rfl) (by simp) ?_
 repeat (first|(refine n1s rfl ?_;simp[go_sem,↓iO,iO,tN])|refine anI ?_|refine⟨dcK,?_⟩|refine iP ?_|refine iN ?_)
 refine cF (lim_idx l hlen hall) [] ?_ ?_ ?_ ?_<;>simp[go_sem,↓iO,iO,tN]
 repeat (first|(refine n1s rfl ?_;simp[go_sem,↓iO,iO,tN])|refine anI ?_|refine⟨dcK,?_⟩|refine iP ?_|refine iN ?_)
 first|rw[TqR]|rw[TqN]
 refine⟨[],?_⟩
 simp[go_sem,↓iO,iO,tN]
theorem cks_idx (l:List (List Nat)) (hlen:l.length≤1000000) (hall:∀ p∈l,FnOk Tryz.prog 58 [.t (encS p)] [] (.t (.bool false)) []):FnOk Tryz.prog 81 [.t (.sl 1 (l.map encS)),.fn 58 []] [] (.t (.int (-1))) []:=by
 refine FnOk.intro fact_mixed Tryz.func81 rfl Tryz.ntmps81 (by rfl) (by simp) ?_
 repeat (first|(refine n1s rfl ?_;simp[go_sem,↓iO,iO,tN])|refine anI ?_|refine⟨dcK,?_⟩|refine iP ?_|refine iN ?_)
 refine nf1_sound' _ _ _ ?_;simp only[nf1]
 refine CW.loop (ι:=Nat) (fun k=>⟨[(0,.t (.sl 1 (l.map encS))),(1,.fn 58 []),(7,.t (.int l.length)),(8,.t (.int k))],[]⟩) (fun k=>k≤l.length) (fun k=>l.length - k) 0 [] (by omega) ?_ ?_
 ·simp[go_sem,↓iO,iO,tN]
 intro k hk
 by_cases hb:k < l.length
 ·obtain⟨p,hp⟩:=has_get hb
  have hu:=hall p (mem_get hp)
  repeat (first|(refine n1s rfl ?_;simp[go_sem,↓iO,iO,tN,hp])|refine anI ?_|refine⟨dcK,?_⟩|refine iP ?_|refine iN ?_)
  refine cF (hu) [] ?_ ?_ ?_ ?_<;>simp[go_sem,↓iO,iO,tN]
  repeat (first|(refine n1s rfl ?_;simp[go_sem,↓iO,iO,tN])|refine anI ?_|refine⟨dcK,?_⟩|refine iP ?_|refine iN ?_)
  rw[RqN];refine⟨k+1,[],?_,?_,?_⟩
  ·omega
  ·omega
  simp[go_sem,↓iO,iO,tN]
 ·obtain rfl:k=l.length:=by omega
  repeat (first|(refine n1s rfl ?_;simp[go_sem,↓iO,iO,tN])|refine anI ?_|refine⟨dcK,?_⟩|refine iP ?_|refine iN ?_)
  first|rw[TqR]|rw[TqN]
  refine⟨[],?_⟩
  simp[go_sem,↓iO,iO,tN]
theorem cks_cont (l:List (List Nat)) (hlen:l.length≤1000000) (hall:∀ p∈l,FnOk Tryz.prog 58 [.t (encS p)] [] (.t (.bool false)) []):FnOk Tryz.prog 57 [.t (.sl 1 (l.map encS)),.fn 58 []] [] (.t (.bool false)) []:=by
 refine FnOk.intro fact_mixed Tryz.func57 rfl Tryz.ntmps57 (by rfl) (by simp) ?_
 repeat (first|(refine n1s rfl ?_;simp[go_sem,↓iO,iO,tN])|refine anI ?_|refine⟨dcK,?_⟩|refine iP ?_|refine iN ?_)
 refine cF (cks_idx l hlen hall) [] ?_ ?_ ?_ ?_<;>simp[go_sem,↓iO,iO,tN]
 repeat (first|(refine n1s rfl ?_;simp[go_sem,↓iO,iO,tN])|refine anI ?_|refine⟨dcK,?_⟩|refine iP ?_|refine iN ?_)
 first|rw[TqR]|rw[TqN]
 refine⟨[],?_⟩
 simp[go_sem,↓iO,iO,tN]
theorem pr2_idx (l:List (Prt)) (hlen:l.length≤1000000) (hall:∀ p∈l,FnOk Tryz.prog 90 [.t (encPr p)] [] (.t (.bool false)) []):FnOk Tryz.prog 121 [.t (.sl 3 (l.map encPr)),.fn 90 []] [] (.t (.int (-1))) []:=by
 refine FnOk.intro fact_mixed Tryz.func121 rfl Tryz.ntmps121 (by rfl) (by simp) ?_
 repeat (first|(refine n1s rfl ?_;simp[go_sem,↓iO,iO,tN])|refine anI ?_|refine⟨dcK,?_⟩|refine iP ?_|refine iN ?_)
 refine nf1_sound' _ _ _ ?_;simp only[nf1]
 refine CW.loop (ι:=Nat) (fun k=>⟨[(0,.t (.sl 3 (l.map encPr))),(1,.fn 90 []),(7,.t (.int l.length)),(8,.t (.int k))],[]⟩) (fun k=>k≤l.length) (fun k=>l.length - k) 0 [] (by omega) ?_ ?_
 ·simp[go_sem,↓iO,iO,tN]
 intro k hk
 by_cases hb:k < l.length
 ·obtain⟨p,hp⟩:=has_get hb
  have hu:=hall p (mem_get hp)
  repeat (first|(refine n1s rfl ?_;simp[go_sem,↓iO,iO,tN,hp])|refine anI ?_|refine⟨dcK,?_⟩|refine iP ?_|refine iN ?_)
  refine cF (hu) [] ?_ ?_ ?_ ?_<;>simp[go_sem,↓iO,iO,tN]
  repeat (first|(refine n1s rfl ?_;simp[go_sem,↓iO,iO,tN])|refine anI ?_|refine⟨dcK,?_⟩|refine iP ?_|refine iN ?_)
  rw[RqN];refine⟨k+1,[],?_,?_,?_⟩
  ·omega
  ·omega
  simp[go_sem,↓iO,iO,tN]
 ·obtain rfl:k=l.length:=by omega
  repeat (first|(refine n1s rfl ?_;simp[go_sem,↓iO,iO,tN])|refine anI ?_|refine⟨dcK,?_⟩|refine iP ?_|refine iN ?_)
  first|rw[TqR]|rw[TqN]
  refine⟨[],?_⟩
  simp[go_sem,↓iO,iO,tN]
theorem pr2_cont (l:List (Prt)) (hlen:l.length≤1000000) (hall:∀ p∈l,FnOk Tryz.prog 90 [.t (encPr p)] [] (.t (.bool false)) []):FnOk Tryz.prog 89 [.t (.sl 3 (l.map encPr)),.fn 90 []] [] (.t (.bool false)) []:=by
 refine FnOk.intro fact_mixed Tryz.func89 rfl Tryz.ntmps89 (by rfl) (by simp) ?_
 repeat (first|(refine n1s rfl ?_;simp[go_sem,↓iO,iO,tN])|refine anI ?_|refine⟨dcK,?_⟩|refine iP ?_|refine iN ?_)
 refine cF (pr2_idx l hlen hall) [] ?_ ?_ ?_ ?_<;>simp[go_sem,↓iO,iO,tN]
 repeat (first|(refine n1s rfl ?_;simp[go_sem,↓iO,iO,tN])|refine anI ?_|refine⟨dcK,?_⟩|refine iP ?_|refine iN ?_)
 first|rw[TqR]|rw[TqN]
 refine⟨[],?_⟩
 simp[go_sem,↓iO,iO,tN]
theorem pr3_idx (l:List (Stn)) (hlen:l.length≤1000000) (hall:∀ p∈l,FnOk Tryz.prog 93 [.t (encSn p)] [] (.t (.bool false)) []):FnOk Tryz.prog 84 [.t (.sl 5 (l.map encSn)),.fn 93 []] [] (.t (.int (-1))) []:=by
 refine FnOk.intro fact_mixed Tryz.func84 rfl Tryz.ntmps84 (by rfl) (by simp) ?_
 repeat (first|(refine n1s rfl ?_;simp[go_sem,↓iO,iO,tN])|refine anI ?_|refine⟨dcK,?_⟩|refine iP ?_|refine iN ?_)
 refine nf1_sound' _ _ _ ?_;simp only[nf1]
 refine CW.loop (ι:=Nat) (fun k=>⟨[(0,.t (.sl 5 (l.map encSn))),(1,.fn 93 []),(7,.t (.int l.length)),(8,.t (.int k))],[]⟩) (fun k=>k≤l.length) (fun k=>l.length - k) 0 [] (by omega) ?_ ?_
 ·simp[go_sem,↓iO,iO,tN]
 intro k hk
 by_cases hb:k < l.length
 ·obtain⟨p,hp⟩:=has_get hb
  have hu:=hall p (mem_get hp)
  repeat (first|(refine n1s rfl ?_;simp[go_sem,↓iO,iO,tN,hp])|refine anI ?_|refine⟨dcK,?_⟩|refine iP ?_|refine iN ?_)
  refine cF (hu) [] ?_ ?_ ?_ ?_<;>simp[go_sem,↓iO,iO,tN]
  repeat (first|(refine n1s rfl ?_;simp[go_sem,↓iO,iO,tN])|refine anI ?_|refine⟨dcK,?_⟩|refine iP ?_|refine iN ?_)
  rw[RqN];refine⟨k+1,[],?_,?_,?_⟩
  ·omega
  ·omega
  simp[go_sem,↓iO,iO,tN]
 ·obtain rfl:k=l.length:=by omega
  repeat (first|(refine n1s rfl ?_;simp[go_sem,↓iO,iO,tN])|refine anI ?_|refine⟨dcK,?_⟩|refine iP ?_|refine iN ?_)
  first|rw[TqR]|rw[TqN]
  refine⟨[],?_⟩
  simp[go_sem,↓iO,iO,tN]
theorem pr3_cont (l:List (Stn)) (hlen:l.length≤1000000) (hall:∀ p∈l,FnOk Tryz.prog 93 [.t (encSn p)] [] (.t (.bool false)) []):FnOk Tryz.prog 92 [.t (.sl 5 (l.map encSn)),.fn 93 []] [] (.t (.bool false)) []:=by
 refine FnOk.intro fact_mixed Tryz.func92 rfl Tryz.ntmps92 (by rfl) (by simp) ?_
 repeat (first|(refine n1s rfl ?_;simp[go_sem,↓iO,iO,tN])|refine anI ?_|refine⟨dcK,?_⟩|refine iP ?_|refine iN ?_)
 refine cF (pr3_idx l hlen hall) [] ?_ ?_ ?_ ?_<;>simp[go_sem,↓iO,iO,tN]
 repeat (first|(refine n1s rfl ?_;simp[go_sem,↓iO,iO,tN])|refine anI ?_|refine⟨dcK,?_⟩|refine iP ?_|refine iN ?_)
 first|rw[TqR]|rw[TqN]
 refine⟨[],?_⟩
 simp[go_sem,↓iO,iO,tN]
theorem lim1_fn (s:Sgm) (h:2≤s.2.length∧s.2.length≤8):FnOk Tryz.prog 80 [.t (encSg s)] [] (.t (.bool false)) []:=by
 obtain⟨h1,h2⟩:=h
 obtain⟨⟨nm,fr,to,cp,rs,wv⟩,pts⟩:=s
 dsimp only at h1 h2
 refine FnOk.intro fact_mixed Tryz.func80 rfl Tryz.ntmps80 (by rfl) (by simp) ?_
 repeat (first|(refine n1s rfl ?_;simp[go_sem,↓iO,iO,tN,h1,h2])|refine anI ?_|refine⟨dcK,?_⟩|refine iP ?_|refine iN ?_)
 first|rw[TqR]|rw[TqN]
 refine⟨[],?_⟩
 simp[go_sem,↓iO,iO,tN,h1,h2]
 omega
theorem pre_ex {α:Type} (l:List α) (f:α→T):∃ A:Nat→List T,A 0=[]∧(∀ (k:Nat) x,l[k]? = some x→A (k+1)=A k++[f x])∧(∀ k,k≤l.length→(A k).length=k)∧A l.length=l.map f:=by
 refine⟨fun k=>(l.take k).map f,rfl,fun k x hx=>?_,fun k hk=>by simp;omega,by simp⟩
 obtain⟨hk,e⟩:=List.getElem?_eq_some_iff.1 hx
 show (l.take (k+1)).map f=(l.take k).map f++[f x]
 rw[List.take_succ_eq_append_getElem hk,e];simp
theorem limits_fn (d:NetD) (h:NetOk d):FnOk Tryz.prog 55 [.t (.agg d.l)] [] (.t (.bool true)) []:=by
 have h1:=h.n0
 have h2:=h.n1
 have h3:=h.s1
 have h4:=h.p1
 have h5:=h.t1
 have c:=lim_cont d.segs (by omega) (fun s hs=>lim1_fn s (h.pipe s hs).len)
 refine FnOk.intro fact_mixed Tryz.func55 rfl Tryz.ntmps55 (by rfl) (by simp) ?_
 repeat (first|(refine n1s rfl ?_;simp[go_sem,↓iO,iO,tN,h1,h2,h3,h4,h5])|refine anI ?_|refine⟨dcK,?_⟩|refine iP ?_|refine iN ?_)
 refine cF (c) [] ?_ ?_ ?_ ?_<;>simp[go_sem,↓iO,iO,tN]
 repeat (first|(refine n1s rfl ?_;simp[go_sem,↓iO,iO,tN])|refine anI ?_|refine⟨dcK,?_⟩|refine iP ?_|refine iN ?_)
 first|rw[TqR]|rw[TqN]
 refine⟨[],?_⟩
 simp[go_sem,↓iO,iO,tN]
theorem names_fn (d:NetD) (h:NetOk d):FnOk Tryz.prog 56 [.t (.agg d.l)] [] (.t (.agg [.sl 1 (d.nn.map encS),.sl 1 (d.segs.map fun s=>encS s.1.nm),.sl 1 (d.ports.map fun p=>encS p.1),.sl 1 (d.stns.map fun s=>encS s.1)])) []:=by
 have h3:=h.s1
 have h4:=h.p1
 have h5:=h.t1
 obtain⟨NS,s0,ss,sl,se⟩:=pre_ex d.segs (fun s=>encS s.1.nm)
 obtain⟨NP,p0,ps,pl,pe⟩:=pre_ex d.ports (fun s=>encS s.1)
 obtain⟨NT,t0,ts,tl,te⟩:=pre_ex d.stns (fun s=>encS s.1)
 refine FnOk.intro fact_mixed Tryz.func56 rfl Tryz.ntmps56 (by rfl) (by simp) ?_
 repeat (first|(refine n1s rfl ?_;simp[go_sem,↓iO,iO,tN])|refine anI ?_|refine⟨dcK,?_⟩|refine iP ?_|refine iN ?_)
 refine nf1_sound' _ _ _ ?_;simp only[nf1]
 refine CW.loop (ι:=Nat) (fun k=>⟨[(1,.pt 501 [] 0),(2,.pt 502 [] 0),(3,.pt 503 [] 0),(14,.t (.sl 7 (d.segs.map encSg))),(15,.t (.int d.segs.length)),(16,.t (.int k))],[(501,.box 33 (.t (.agg d.l))),(502,.box 109 (.t (.agg [.lit (.slice none 0 0),.lit (.slice none 0 0),.lit (.slice none 0 0),.lit (.slice none 0 0)]))),(503,.box 109 (.ag [.t (.sl 1 (d.nn.map encS)),.own 510,.t (.lit (.slice none 0 0)),.t (.lit (.slice none 0 0))])),(510,.list 9 1 (NS k))]⟩)
  (fun k=>k≤d.segs.length) (fun k=>d.segs.length - k) 0 [(501,some 101),(502,some 102),(503,some 103),(510,none)] (by omega) ?_ ?_
 ·simp[go_sem,↓iO,iO,tN,s0]
  simp only[wkXs]
  exact⟨wkT_refl _,rfl,rfl,rfl,wkT_refl _,rfl,wkT_refl _,rfl,trivial⟩
 intro k hk
 by_cases hb:k < d.segs.length
 ·obtain⟨s,hs⟩:=has_get hb
  have e1:=ss k _ hs
  have e2:=sl k (by omega)
  obtain⟨⟨nm,fr,to,cp,rs,wv⟩,pts⟩:=s
  dsimp only at e1
  simp only[encS]at e1
  obtain⟨A,hA⟩:∃ A,NS k=A:=⟨_,rfl⟩
  rw[hA]at e1 e2 ⊢
  repeat (first|(refine n1s rfl ?_;simp[go_sem,↓iO,iO,tN,hs,e2])|refine anI ?_|refine⟨dcK,?_⟩|refine iP ?_|refine iN ?_)
  rw[RqN];refine⟨k+1,[(501,some 501),(502,some 502),(503,some 503),(510,some 125)],?_,?_,?_⟩
  ·omega
  ·omega
  simp[go_sem,↓iO,iO,tN,e1]
 ·obtain rfl:k=d.segs.length:=by omega
  rw[se]
  obtain⟨AS,hAS⟩:∃ A,d.segs.map (fun s=>encS s.1.nm)=A:=⟨_,rfl⟩
  rw[hAS]
  repeat (first|(refine n1s rfl ?_;simp[go_sem,↓iO,iO,tN])|refine anI ?_|refine⟨dcK,?_⟩|refine iP ?_|refine iN ?_)
  refine nf1_sound' _ _ _ ?_;simp only[nf1]
  refine CW.loop (ι:=Nat) (fun k=>⟨[(1,.pt 501 [] 0),(2,.pt 502 [] 0),(3,.pt 503 [] 0),(29,.t (.sl 3 (d.ports.map encPr))),(30,.t (.int d.ports.length)),(31,.t (.int k))],[(501,.box 33 (.t (.agg d.l))),(502,.box 109 (.t (.agg [.lit (.slice none 0 0),.lit (.slice none 0 0),.lit (.slice none 0 0),.lit (.slice none 0 0)]))),(503,.box 109 (.ag [.t (.sl 1 (d.nn.map encS)),.t (.sl 1 AS),.own 511,.t (.lit (.slice none 0 0))])),(511,.list 9 1 (NP k))]⟩)
   (fun k=>k≤d.ports.length) (fun k=>d.ports.length - k) 0 [(501,some 501),(502,some 502),(503,some 503),(511,none)] (by omega) ?_ ?_
  ·simp[go_sem,↓iO,iO,tN,p0]
  intro k hk
  by_cases hb:k < d.ports.length
  ·obtain⟨s,hs⟩:=has_get hb
   have e1:=ps k _ hs
   have e2:=pl k (by omega)
   obtain⟨nm,nd,pr⟩:=s
   dsimp only at e1
   simp only[encS]at e1
   obtain⟨A,hA⟩:∃ A,NP k=A:=⟨_,rfl⟩
   rw[hA]at e1 e2 ⊢
   repeat (first|(refine n1s rfl ?_;simp[go_sem,↓iO,iO,tN,hs,e2])|refine anI ?_|refine⟨dcK,?_⟩|refine iP ?_|refine iN ?_)
   rw[RqN];refine⟨k+1,[(501,some 501),(502,some 502),(503,some 503),(511,some 140)],?_,?_,?_⟩
   ·omega
   ·omega
   simp[go_sem,↓iO,iO,tN,e1]
  ·obtain rfl:k=d.ports.length:=by omega
   rw[pe]
   obtain⟨AP,hAP⟩:∃ A,d.ports.map (fun s=>encS s.1)=A:=⟨_,rfl⟩
   rw[hAP]
   repeat (first|(refine n1s rfl ?_;simp[go_sem,↓iO,iO,tN])|refine anI ?_|refine⟨dcK,?_⟩|refine iP ?_|refine iN ?_)
   refine nf1_sound' _ _ _ ?_;simp only[nf1]
   refine CW.loop (ι:=Nat) (fun k=>⟨[(1,.pt 501 [] 0),(2,.pt 502 [] 0),(3,.pt 503 [] 0),(44,.t (.sl 5 (d.stns.map encSn))),(45,.t (.int d.stns.length)),(46,.t (.int k))],[(501,.box 33 (.t (.agg d.l))),(502,.box 109 (.t (.agg [.lit (.slice none 0 0),.lit (.slice none 0 0),.lit (.slice none 0 0),.lit (.slice none 0 0)]))),(503,.box 109 (.ag [.t (.sl 1 (d.nn.map encS)),.t (.sl 1 AS),.t (.sl 1 AP),.own 512])),(512,.list 9 1 (NT k))]⟩)
    (fun k=>k≤d.stns.length) (fun k=>d.stns.length - k) 0 [(501,some 501),(502,some 502),(503,some 503),(512,none)] (by omega) ?_ ?_
   ·simp[go_sem,↓iO,iO,tN,t0]
   intro k hk
   by_cases hb:k < d.stns.length
   ·obtain⟨s,hs⟩:=has_get hb
    have e1:=ts k _ hs
    have e2:=tl k (by omega)
    obtain⟨nm,nd,hd1,fl,su⟩:=s
    dsimp only at e1
    simp only[encS]at e1
    obtain⟨A,hA⟩:∃ A,NT k=A:=⟨_,rfl⟩
    rw[hA]at e1 e2 ⊢
    repeat (first|(refine n1s rfl ?_;simp[go_sem,↓iO,iO,tN,hs,e2])|refine anI ?_|refine⟨dcK,?_⟩|refine iP ?_|refine iN ?_)
    rw[RqN];refine⟨k+1,[(501,some 501),(502,some 502),(503,some 503),(512,some 155)],?_,?_,?_⟩
    ·omega
    ·omega
    simp[go_sem,↓iO,iO,tN,e1]
   ·obtain rfl:k=d.stns.length:=by omega
    rw[te]
    obtain⟨AT,hAT⟩:∃ A,d.stns.map (fun s=>encS s.1)=A:=⟨_,rfl⟩
    rw[hAT]
    repeat (first|(refine n1s rfl ?_;simp[go_sem,↓iO,iO,tN])|refine anI ?_|refine⟨dcK,?_⟩|refine iP ?_|refine iN ?_)
    first|rw[TqR]|rw[TqN]
    refine⟨[],?_⟩
    simp[go_sem,↓iO,iO,tN,hAS,hAP,hAT]
    exact⟨hAS.symm,hAP.symm,hAT.symm⟩
theorem nodup_ne {α:Type}:∀ {l:List α},l.Nodup→∀ {i j:Nat} {a b:α},i < j→l[i]? = some a→l[j]? = some b→a≠b
 | [],_,i,j,a,b,_,h,_=>by simp at h
 | x :: r,hn,0,j+1,a,b,_,h,g=>by
  simp only[List.getElem?_cons_zero,Option.some.injEq,List.getElem?_cons_succ]at h g
  subst h
  exact fun e=>(List.nodup_cons.1 hn).1 (e ▸ mem_get g)
 | x :: r,hn,i+1,j+1,a,b,hij,h,g=>by
  simp only[List.getElem?_cons_succ]at h g
  exact nodup_ne (List.nodup_cons.1 hn).2 (by omega) h g
theorem sidx_fn (l:List (List Nat)) (hlen:l.length≤1000000) (hb:∀ k∈l,∀ x∈k,x < 256) (hnd:l.Nodup) (i:Nat) (k:List Nat) (hi:l[i]? = some k):FnOk Tryz.prog 83 [.t (.sl 1 (l.map encS)),.t (encS k)] [] (.t (.int i)) []:=by
 have hil:=(List.getElem?_eq_some_iff.1 hi).1
 refine FnOk.intro fact_mixed Tryz.func83 rfl Tryz.ntmps83 (by rfl) (by simp) ?_
 repeat (first|(refine n1s rfl ?_;simp[go_sem,↓iO,iO,tN])|refine anI ?_|refine⟨dcK,?_⟩|refine iP ?_|refine iN ?_)
 refine nf1_sound' _ _ _ ?_;simp only[nf1]
 refine CW.loop (ι:=Nat) (fun j=>⟨[(0,.t (.sl 1 (l.map encS))),(1,.t (encS k)),(7,.t (.int l.length)),(8,.t (.int j))],[]⟩) (fun j=>j≤i) (fun j=>i - j) 0 [] (by omega) ?_ ?_
 ·simp[go_sem,↓iO,iO,tN]
 intro j hj
 by_cases he:j < i
 ·obtain⟨m,hm⟩:∃ m,l[j]? = some m:=has_get (by omega)
  have hjl:j < l.length:=by omega
  have hne:¬ (str k).toList=(str m).toList:=fun e=>by
   have:=strB_inj (hb k (mem_get hi)) (hb m (mem_get hm)) e
   subst this
   exact nodup_ne hnd he hm hi rfl
  repeat (first|(refine n1s rfl ?_;simp[go_sem,↓iO,iO,tN,hm,hne])|refine anI ?_|refine⟨dcK,?_⟩|refine iP ?_|refine iN ?_)
  rw[RqN];refine⟨j+1,[],?_,?_,?_⟩
  ·omega
  ·omega
  simp[go_sem,↓iO,iO,tN]
 ·obtain rfl:j=i:=by omega
  repeat (first|(refine n1s rfl ?_;simp[go_sem,↓iO,iO,tN,hi])|refine anI ?_|refine⟨dcK,?_⟩|refine iP ?_|refine iN ?_)
  first|rw[TqR]|rw[TqN]
  refine⟨[],?_⟩
  simp[go_sem,↓iO,iO,tN]
theorem tw1_fn (x s:Stn) (b:Bool) (hb:decide (x.2.1=s.2.1)=b):FnOk Tryz.prog 85 [.t (encSn x),.pt 0 [] 0] [(0,.box 90 (.t (encSn s)))] (.t (.bool b)) [(0,.box 90 (.t (encSn s)))]:=by
 subst hb
 obtain⟨x1,x2,x3,x4,x5⟩:=x
 obtain⟨s1,s2,s3,s4,s5⟩:=s
 refine FnOk.intro fact_mixed Tryz.func85 rfl Tryz.ntmps85 (by rfl) (by simp) ?_
 repeat (first|(refine n1s rfl ?_;simp[go_sem,↓iO,iO,tN])|refine anI ?_|refine⟨dcK,?_⟩|refine iP ?_|refine iN ?_)
 first|rw[TqR]|rw[TqN]
 refine⟨[(0,some 0)],?_⟩
 simp[go_sem,↓iO,iO,tN]
theorem tidx_fn (l:List Stn) (hlen:l.length≤1000000) (hnd:(l.map fun s=>s.2.1).Nodup) (i:Nat) (s:Stn) (hi:l[i]? = some s) :
  FnOk Tryz.prog 84 [.t (.sl 5 (l.map encSn)),.fn 85 [.pt 0 [] 0]] [(0,.box 90 (.t (encSn s)))] (.t (.int i)) [(0,.box 90 (.t (encSn s)))]:=by
 have hil:=(List.getElem?_eq_some_iff.1 hi).1
 refine FnOk.intro fact_mixed Tryz.func84 rfl Tryz.ntmps84 (by rfl) (by simp) ?_
 repeat (first|(refine n1s rfl ?_;simp[go_sem,↓iO,iO,tN])|refine anI ?_|refine⟨dcK,?_⟩|refine iP ?_|refine iN ?_)
 refine nf1_sound' _ _ _ ?_;simp only[nf1]
 refine CW.loop (ι:=Nat) (fun j=>⟨[(0,.t (.sl 5 (l.map encSn))),(1,.fn 85 [.pt 0 [] 0]),(7,.t (.int l.length)),(8,.t (.int j))],[(0,.box 90 (.t (encSn s)))]⟩) (fun j=>j≤i) (fun j=>i - j) 0 [(0,some 0)] (by omega) ?_ ?_
 ·simp[go_sem,↓iO,iO,tN]
 intro j hj
 by_cases he:j < i
 ·obtain⟨m,hm⟩:∃ m,l[j]? = some m:=has_get (by omega)
  have hjl:j < l.length:=by omega
  have hne:¬ m.2.1=s.2.1:=fun e=>by
   have h1:(l.map fun s=>s.2.1)[j]? = some m.2.1:=by rw[List.getElem?_map,hm];rfl
   have h2:(l.map fun s=>s.2.1)[i]? = some s.2.1:=by rw[List.getElem?_map,hi];rfl
   exact nodup_ne hnd he h1 h2 e
  have c:=tw1_fn m s false (by simpa using hne)
  repeat (first|(refine n1s rfl ?_;simp[go_sem,↓iO,iO,tN,hm])|refine anI ?_|refine⟨dcK,?_⟩|refine iP ?_|refine iN ?_)
  refine cF (c) [(0,0)] ?_ ?_ ?_ ?_<;>simp[go_sem,↓iO,iO,tN,hm]
  repeat (first|(refine n1s rfl ?_;simp[go_sem,↓iO,iO,tN,hm])|refine anI ?_|refine⟨dcK,?_⟩|refine iP ?_|refine iN ?_)
  rw[RqN];refine⟨j+1,[(0,some 0)],?_,?_,?_⟩
  ·omega
  ·omega
  simp[go_sem,↓iO,iO,tN]
 ·obtain rfl:j=i:=by omega
  have c:=tw1_fn s s true (by simp)
  repeat (first|(refine n1s rfl ?_;simp[go_sem,↓iO,iO,tN,hi])|refine anI ?_|refine⟨dcK,?_⟩|refine iP ?_|refine iN ?_)
  refine cF (c) [(0,0)] ?_ ?_ ?_ ?_<;>simp[go_sem,↓iO,iO,tN,hi]
  repeat (first|(refine n1s rfl ?_;simp[go_sem,↓iO,iO,tN,hi])|refine anI ?_|refine⟨dcK,?_⟩|refine iP ?_|refine iN ?_)
  first|rw[TqR]|rw[TqN]
  refine⟨[(0,some 0)],?_⟩
  simp[go_sem,↓iO,iO,tN]
def NetD.ns (d:NetD):Nat→List (List Nat)
 | 0=>d.nn
 | 1=>d.segs.map fun s=>s.1.nm
 | 2=>d.ports.map fun p=>p.1
 | _=>d.stns.map fun s=>s.1
theorem ns_ok (d:NetD) (h:NetOk d) (i:Nat):(d.ns i).length≤32∧(∀ k∈d.ns i,NameOk k)∧(d.ns i).Nodup:=by
 match i with
 | 0=>exact⟨by have:=h.n1;simp only[NetD.ns];omega,h.nmN,h.ndN⟩
 | 1=>exact⟨by have:=h.s1;simp[NetD.ns];omega,fun k hk=>by simp only[NetD.ns]at hk;obtain⟨s,hs,rfl⟩:=List.mem_map.1 hk;exact h.nmS s hs,h.ndS⟩
 | 2=>exact⟨by have:=h.p1;simp[NetD.ns];omega,fun k hk=>by simp only[NetD.ns]at hk;obtain⟨s,hs,rfl⟩:=List.mem_map.1 hk;exact h.nmP s hs,h.ndP⟩
 | i+3=>exact⟨by have:=h.t1;simp[NetD.ns];omega,fun k hk=>by simp only[NetD.ns]at hk;obtain⟨s,hs,rfl⟩:=List.mem_map.1 hk;exact h.nmT s hs,h.ndT⟩
abbrev NetD.nt (d:NetD):T:=.agg [.sl 1 ((d.ns 0).map encS),.sl 1 ((d.ns 1).map encS),.sl 1 ((d.ns 2).map encS),.sl 1 ((d.ns 3).map encS)]
theorem names_fn' (d:NetD) (h:NetOk d):FnOk Tryz.prog 56 [.t (.agg d.l)] [] (.t d.nt) []:=by
 have:=names_fn d h
 simp only[NetD.nt,NetD.ns,List.map_map,Function.comp_def]
 exact this
theorem twice_fn (d:NetD) (h:NetOk d):FnOk Tryz.prog 60 [.t (.agg d.l)] [] (.t (.bool false)) []:=by
 have c1:=names_fn' d h
 have h5:=h.t1
 obtain⟨N0,hN0⟩:∃ N,d.nt=N:=⟨_,rfl⟩
 have hgt:∀ i:Nat,i < 4→∃ l:List (List Nat),d.ns i=l∧l.length≤32∧(∀ k∈l,NameOk k)∧l.Nodup:=fun i _=>⟨_,rfl,(ns_ok d h i).1,(ns_ok d h i).2.1,(ns_ok d h i).2.2⟩
 obtain⟨l0,e0,a0,b0,n0⟩:=hgt 0 (by omega)
 obtain⟨l1,e1,a1,b1,n1⟩:=hgt 1 (by omega)
 obtain⟨l2,e2,a2,b2,n2⟩:=hgt 2 (by omega)
 obtain⟨l3,e3,a3,b3,n3⟩:=hgt 3 (by omega)
 have hN:d.nt = .agg [.sl 1 (l0.map encS),.sl 1 (l1.map encS),.sl 1 (l2.map encS),.sl 1 (l3.map encS)]:=by simp only[NetD.nt,e0,e1,e2,e3]
 rw[hN]at c1
 clear hN hN0 e0 e1 e2 e3 hgt
 refine FnOk.intro fact_mixed Tryz.func60 rfl Tryz.ntmps60 (by rfl) (by simp) ?_
 repeat (first|(refine n1s rfl ?_;simp[go_sem,↓iO,iO,tN])|refine anI ?_|refine⟨dcK,?_⟩|refine iP ?_|refine iN ?_)
 refine cF (c1) [] ?_ ?_ ?_ ?_<;>simp[go_sem,↓iO,iO,tN]
 repeat (first|(refine n1s rfl ?_;simp[go_sem,↓iO,iO,tN])|refine anI ?_|refine⟨dcK,?_⟩|refine iP ?_|refine iN ?_)
 refine nf1_sound' _ _ _ ?_;simp only[nf1]
 refine CW.loop (ι:=Nat) (fun q=>⟨[(1,.pt 501 [] 0),(10,.t (.agg [.sl 1 (l0.map encS),.sl 1 (l1.map encS),.sl 1 (l2.map encS),.sl 1 (l3.map encS)])),(11,.t (.int q))],[(501,.box 33 (.t (.agg d.l)))]⟩) (fun q=>q≤4) (fun q=>4 - q) 0 [(501,some 101)] (by omega) ?_ ?_
 ·simp[go_sem,↓iO,iO,tN]
 intro q hq
 have h4:q=0∨q=1∨q=2∨q=3∨q=4:=by omega
 rcases h4 with rfl|rfl|rfl|rfl|rfl
 ·repeat (first|(refine n1s rfl ?_;simp[go_sem,↓iO,iO,tN])|refine anI ?_|refine⟨dcK,?_⟩|refine iP ?_|refine iN ?_)
  refine nf1_sound' _ _ _ ?_;simp only[nf1]
  refine CW.loop (ι:=Nat) (fun i=>⟨[(1,.pt 501 [] 0),(4,.t (.sl 1 (l0.map encS))),(10,.t (.agg [.sl 1 (l0.map encS),.sl 1 (l1.map encS),.sl 1 (l2.map encS),.sl 1 (l3.map encS)])),(11,.t (.int (0:Nat))),(14,.t (.sl 1 (l0.map encS))),(15,.t (.int l0.length)),(16,.t (.int i))],[(501,.box 33 (.t (.agg d.l)))]⟩) (fun i=>i≤l0.length) (fun i=>l0.length - i) 0 [(501,some 501)] (by omega) ?_ ?_
  ·simp[go_sem,↓iO,iO,tN]
  intro i hi
  by_cases hb:i < l0.length
  ·obtain⟨k,hk⟩:=has_get hb
   have c:=sidx_fn l0 (by omega) (fun m hm=>(b0 m hm).by_) n0 i k hk
   repeat (first|(refine n1s rfl ?_;simp[go_sem,↓iO,iO,tN,hk])|refine anI ?_|refine⟨dcK,?_⟩|refine iP ?_|refine iN ?_)
   refine cF (c) [] ?_ ?_ ?_ ?_<;>simp[go_sem,↓iO,iO,tN,hk]
   repeat (first|(refine n1s rfl ?_;simp[go_sem,↓iO,iO,tN,hk])|refine anI ?_|refine⟨dcK,?_⟩|refine iP ?_|refine iN ?_)
   rw[RqN];refine⟨i+1,[(501,some 501)],?_,?_,?_⟩
   ·omega
   ·omega
   simp[go_sem,↓iO,iO,tN]
  ·obtain rfl:i=l0.length:=by omega
   repeat (first|(refine n1s rfl ?_;simp[go_sem,↓iO,iO,tN])|refine anI ?_|refine⟨dcK,?_⟩|refine iP ?_|refine iN ?_)
   rw[RqN];refine⟨1,[(501,some 501)],?_,?_,?_⟩
   ·omega
   ·omega
   simp[go_sem,↓iO,iO,tN]
 ·repeat (first|(refine n1s rfl ?_;simp[go_sem,↓iO,iO,tN])|refine anI ?_|refine⟨dcK,?_⟩|refine iP ?_|refine iN ?_)
  refine nf1_sound' _ _ _ ?_;simp only[nf1]
  refine CW.loop (ι:=Nat) (fun i=>⟨[(1,.pt 501 [] 0),(4,.t (.sl 1 (l1.map encS))),(10,.t (.agg [.sl 1 (l0.map encS),.sl 1 (l1.map encS),.sl 1 (l2.map encS),.sl 1 (l3.map encS)])),(11,.t (.int (1:Nat))),(14,.t (.sl 1 (l1.map encS))),(15,.t (.int l1.length)),(16,.t (.int i))],[(501,.box 33 (.t (.agg d.l)))]⟩) (fun i=>i≤l1.length) (fun i=>l1.length - i) 0 [(501,some 501)] (by omega) ?_ ?_
  ·simp[go_sem,↓iO,iO,tN]
  intro i hi
  by_cases hb:i < l1.length
  ·obtain⟨k,hk⟩:=has_get hb
   have c:=sidx_fn l1 (by omega) (fun m hm=>(b1 m hm).by_) n1 i k hk
   repeat (first|(refine n1s rfl ?_;simp[go_sem,↓iO,iO,tN,hk])|refine anI ?_|refine⟨dcK,?_⟩|refine iP ?_|refine iN ?_)
   refine cF (c) [] ?_ ?_ ?_ ?_<;>simp[go_sem,↓iO,iO,tN,hk]
   repeat (first|(refine n1s rfl ?_;simp[go_sem,↓iO,iO,tN,hk])|refine anI ?_|refine⟨dcK,?_⟩|refine iP ?_|refine iN ?_)
   rw[RqN];refine⟨i+1,[(501,some 501)],?_,?_,?_⟩
   ·omega
   ·omega
   simp[go_sem,↓iO,iO,tN]
  ·obtain rfl:i=l1.length:=by omega
   repeat (first|(refine n1s rfl ?_;simp[go_sem,↓iO,iO,tN])|refine anI ?_|refine⟨dcK,?_⟩|refine iP ?_|refine iN ?_)
   rw[RqN];refine⟨2,[(501,some 501)],?_,?_,?_⟩
   ·omega
   ·omega
   simp[go_sem,↓iO,iO,tN]
 ·repeat (first|(refine n1s rfl ?_;simp[go_sem,↓iO,iO,tN])|refine anI ?_|refine⟨dcK,?_⟩|refine iP ?_|refine iN ?_)
  refine nf1_sound' _ _ _ ?_;simp only[nf1]
  refine CW.loop (ι:=Nat) (fun i=>⟨[(1,.pt 501 [] 0),(4,.t (.sl 1 (l2.map encS))),(10,.t (.agg [.sl 1 (l0.map encS),.sl 1 (l1.map encS),.sl 1 (l2.map encS),.sl 1 (l3.map encS)])),(11,.t (.int (2:Nat))),(14,.t (.sl 1 (l2.map encS))),(15,.t (.int l2.length)),(16,.t (.int i))],[(501,.box 33 (.t (.agg d.l)))]⟩) (fun i=>i≤l2.length) (fun i=>l2.length - i) 0 [(501,some 501)] (by omega) ?_ ?_
  ·simp[go_sem,↓iO,iO,tN]
  intro i hi
  by_cases hb:i < l2.length
  ·obtain⟨k,hk⟩:=has_get hb
   have c:=sidx_fn l2 (by omega) (fun m hm=>(b2 m hm).by_) n2 i k hk
   repeat (first|(refine n1s rfl ?_;simp[go_sem,↓iO,iO,tN,hk])|refine anI ?_|refine⟨dcK,?_⟩|refine iP ?_|refine iN ?_)
   refine cF (c) [] ?_ ?_ ?_ ?_<;>simp[go_sem,↓iO,iO,tN,hk]
   repeat (first|(refine n1s rfl ?_;simp[go_sem,↓iO,iO,tN,hk])|refine anI ?_|refine⟨dcK,?_⟩|refine iP ?_|refine iN ?_)
   rw[RqN];refine⟨i+1,[(501,some 501)],?_,?_,?_⟩
   ·omega
   ·omega
   simp[go_sem,↓iO,iO,tN]
  ·obtain rfl:i=l2.length:=by omega
   repeat (first|(refine n1s rfl ?_;simp[go_sem,↓iO,iO,tN])|refine anI ?_|refine⟨dcK,?_⟩|refine iP ?_|refine iN ?_)
   rw[RqN];refine⟨3,[(501,some 501)],?_,?_,?_⟩
   ·omega
   ·omega
   simp[go_sem,↓iO,iO,tN]
 ·repeat (first|(refine n1s rfl ?_;simp[go_sem,↓iO,iO,tN])|refine anI ?_|refine⟨dcK,?_⟩|refine iP ?_|refine iN ?_)
  refine nf1_sound' _ _ _ ?_;simp only[nf1]
  refine CW.loop (ι:=Nat) (fun i=>⟨[(1,.pt 501 [] 0),(4,.t (.sl 1 (l3.map encS))),(10,.t (.agg [.sl 1 (l0.map encS),.sl 1 (l1.map encS),.sl 1 (l2.map encS),.sl 1 (l3.map encS)])),(11,.t (.int (3:Nat))),(14,.t (.sl 1 (l3.map encS))),(15,.t (.int l3.length)),(16,.t (.int i))],[(501,.box 33 (.t (.agg d.l)))]⟩) (fun i=>i≤l3.length) (fun i=>l3.length - i) 0 [(501,some 501)] (by omega) ?_ ?_
  ·simp[go_sem,↓iO,iO,tN]
  intro i hi
  by_cases hb:i < l3.length
  ·obtain⟨k,hk⟩:=has_get hb
   have c:=sidx_fn l3 (by omega) (fun m hm=>(b3 m hm).by_) n3 i k hk
   repeat (first|(refine n1s rfl ?_;simp[go_sem,↓iO,iO,tN,hk])|refine anI ?_|refine⟨dcK,?_⟩|refine iP ?_|refine iN ?_)
   refine cF (c) [] ?_ ?_ ?_ ?_<;>simp[go_sem,↓iO,iO,tN,hk]
   repeat (first|(refine n1s rfl ?_;simp[go_sem,↓iO,iO,tN,hk])|refine anI ?_|refine⟨dcK,?_⟩|refine iP ?_|refine iN ?_)
   rw[RqN];refine⟨i+1,[(501,some 501)],?_,?_,?_⟩
   ·omega
   ·omega
   simp[go_sem,↓iO,iO,tN]
  ·obtain rfl:i=l3.length:=by omega
   repeat (first|(refine n1s rfl ?_;simp[go_sem,↓iO,iO,tN])|refine anI ?_|refine⟨dcK,?_⟩|refine iP ?_|refine iN ?_)
   rw[RqN];refine⟨4,[(501,some 501)],?_,?_,?_⟩
   ·omega
   ·omega
   simp[go_sem,↓iO,iO,tN]
 ·repeat (first|(refine n1s rfl ?_;simp[go_sem,↓iO,iO,tN])|refine anI ?_|refine⟨dcK,?_⟩|refine iP ?_|refine iN ?_)
  refine nf1_sound' _ _ _ ?_;simp only[nf1]
  refine CW.loop (ι:=Nat) (fun i=>⟨[(1,.pt 501 [] 0),(29,.t (.sl 5 (d.stns.map encSn))),(30,.t (.int d.stns.length)),(31,.t (.int i))],[(501,.box 33 (.t (.agg d.l)))]⟩) (fun i=>i≤d.stns.length) (fun i=>d.stns.length - i) 0 [(501,some 501)] (by omega) ?_ ?_
  ·simp[go_sem,↓iO,iO,tN]
  intro i hi
  by_cases hb:i < d.stns.length
  ·obtain⟨s,hs⟩:=has_get hb
   have c:=tidx_fn d.stns (by omega) h.ndU i s hs
   obtain⟨s1,s2,s3,s4,s5⟩:=s
   repeat (first|(refine n1s rfl ?_;simp[go_sem,↓iO,iO,tN,hs])|refine anI ?_|refine⟨dcK,?_⟩|refine iP ?_|refine iN ?_)
   refine cF (c) [(0,108)] ?_ ?_ ?_ ?_<;>simp[go_sem,↓iO,iO,tN,hs]
   repeat (first|(refine n1s rfl ?_;simp[go_sem,↓iO,iO,tN,hs])|refine anI ?_|refine⟨dcK,?_⟩|refine iP ?_|refine iN ?_)
   rw[RqN];refine⟨i+1,[(501,some 501)],?_,?_,?_⟩
   ·omega
   ·omega
   simp[go_sem,↓iO,iO,tN]
  ·obtain rfl:i=d.stns.length:=by omega
   repeat (first|(refine n1s rfl ?_;simp[go_sem,↓iO,iO,tN])|refine anI ?_|refine⟨dcK,?_⟩|refine iP ?_|refine iN ?_)
   first|rw[TqR]|rw[TqN]
   refine⟨[],?_⟩
   simp[go_sem,↓iO,iO,tN]
theorem kn1_fn (d:NetD) (hd:d.nn.length≤24) (k:Int) (h:0≤k∧k < d.nn.length):FnOk Tryz.prog 86 [.t (.int k),.pt 0 [] 0] [(0,.box 33 (.t (.agg d.l)))] (.t (.bool false)) [(0,.box 33 (.t (.agg d.l)))]:=by
 obtain⟨h1,h2⟩:=h
 refine FnOk.intro fact_mixed Tryz.func86 rfl Tryz.ntmps86 (by rfl) (by simp) ?_
 repeat (first|(refine n1s rfl ?_;simp[go_sem,↓iO,iO,tN,h1,h2])|refine anI ?_|refine⟨dcK,?_⟩|refine iP ?_|refine iN ?_)
 first|rw[TqR]|rw[TqN]
 refine⟨[(0,some 0)],?_⟩
 simp[go_sem,↓iO,iO,tN,h1,h2]
theorem kidx_fn (d:NetD) (hd:d.nn.length≤24) (l:List Int) (hlen:l.length≤1000000) (hall:∀ k∈l,0≤k∧k < d.nn.length) :
  FnOk Tryz.prog 66 [.t (.sl 1 (l.map encI)),.fn 86 [.pt 0 [] 0]] [(0,.box 33 (.t (.agg d.l)))] (.t (.int (-1))) [(0,.box 33 (.t (.agg d.l)))]:=by
 refine FnOk.intro fact_mixed Tryz.func66 rfl Tryz.ntmps66 (by rfl) (by simp) ?_
 repeat (first|(refine n1s rfl ?_;simp[go_sem,↓iO,iO,tN])|refine anI ?_|refine⟨dcK,?_⟩|refine iP ?_|refine iN ?_)
 refine nf1_sound' _ _ _ ?_;simp only[nf1]
 refine CW.loop (ι:=Nat) (fun j=>⟨[(0,.t (.sl 1 (l.map encI))),(1,.fn 86 [.pt 0 [] 0]),(7,.t (.int l.length)),(8,.t (.int j))],[(0,.box 33 (.t (.agg d.l)))]⟩) (fun j=>j≤l.length) (fun j=>l.length - j) 0 [(0,some 0)] (by omega) ?_ ?_
 ·simp[go_sem,↓iO,iO,tN]
 intro j hj
 by_cases he:j < l.length
 ·obtain⟨m,hm⟩:∃ m,l[j]? = some m:=has_get he
  have c:=kn1_fn d hd m (hall m (mem_get hm))
  repeat (first|(refine n1s rfl ?_;simp[go_sem,↓iO,iO,tN,hm])|refine anI ?_|refine⟨dcK,?_⟩|refine iP ?_|refine iN ?_)
  refine cF (c) [(0,0)] ?_ ?_ ?_ ?_<;>simp[go_sem,↓iO,iO,tN,hm]
  repeat (first|(refine n1s rfl ?_;simp[go_sem,↓iO,iO,tN,hm])|refine anI ?_|refine⟨dcK,?_⟩|refine iP ?_|refine iN ?_)
  rw[RqN];refine⟨j+1,[(0,some 0)],?_,?_,?_⟩
  ·omega
  ·omega
  simp[go_sem,↓iO,iO,tN]
 ·obtain rfl:j=l.length:=by omega
  repeat (first|(refine n1s rfl ?_;simp[go_sem,↓iO,iO,tN])|refine anI ?_|refine⟨dcK,?_⟩|refine iP ?_|refine iN ?_)
  first|rw[TqR]|rw[TqN]
  refine⟨[(0,some 0)],?_⟩
  simp[go_sem,↓iO,iO,tN]
theorem kcont_fn (d:NetD) (hd:d.nn.length≤24) (l:List Int) (hlen:l.length≤1000000) (hall:∀ k∈l,0≤k∧k < d.nn.length) :
  FnOk Tryz.prog 49 [.t (.sl 1 (l.map encI)),.fn 86 [.pt 0 [] 0]] [(0,.box 33 (.t (.agg d.l)))] (.t (.bool false)) [(0,.box 33 (.t (.agg d.l)))]:=by
 have c:=kidx_fn d hd l hlen hall
 refine FnOk.intro fact_mixed Tryz.func49 rfl Tryz.ntmps49 (by rfl) (by simp) ?_
 repeat (first|(refine n1s rfl ?_;simp[go_sem,↓iO,iO,tN])|refine anI ?_|refine⟨dcK,?_⟩|refine iP ?_|refine iN ?_)
 refine cF (c) [(0,0)] ?_ ?_ ?_ ?_<;>simp[go_sem,↓iO,iO,tN]
 repeat (first|(refine n1s rfl ?_;simp[go_sem,↓iO,iO,tN])|refine anI ?_|refine⟨dcK,?_⟩|refine iP ?_|refine iN ?_)
 first|rw[TqR]|rw[TqN]
 refine⟨[(0,some 0)],?_⟩
 simp[go_sem,↓iO,iO,tN]
def NetD.sn (d:NetD) (k:Nat):List Int:=(d.segs.take k).flatMap fun s=>[s.1.fr,s.1.to]
def NetD.pn (d:NetD) (k:Nat):List Int:=d.sn d.segs.length++(d.ports.take k).map fun p=>p.2.1
def NetD.tn (d:NetD) (k:Nat):List Int:=d.pn d.ports.length++(d.stns.take k).map fun p=>p.2.1
theorem sn_step (d:NetD) (k:Nat) (s:Sgm) (h:d.segs[k]? = some s):d.sn (k+1)=d.sn k++[s.1.fr,s.1.to]:=by
 obtain⟨hk,e⟩:=List.getElem?_eq_some_iff.1 h
 simp only[NetD.sn,List.take_succ_eq_append_getElem hk,e,List.flatMap_append];simp
theorem sn_len (d:NetD) (k:Nat):(d.sn k).length≤2 * k:=by
 simp only[NetD.sn,List.length_flatMap]
 have:∀ l:List Sgm,(l.map fun s=>[s.1.fr,s.1.to].length).sum=2 * l.length:=by
  intro l;induction l with
  | nil=>rfl
  | cons a r ih=>rw[List.map_cons,List.sum_cons,ih];simp;omega
 rw[this,List.length_take];omega
theorem pn_step (d:NetD) (k:Nat) (s:Prt) (h:d.ports[k]? = some s):d.pn (k+1)=d.pn k++[s.2.1]:=by
 obtain⟨hk,e⟩:=List.getElem?_eq_some_iff.1 h
 simp only[NetD.pn,List.take_succ_eq_append_getElem hk,e,List.map_append,List.append_assoc,List.map_cons,List.map_nil]
theorem tn_step (d:NetD) (k:Nat) (s:Stn) (h:d.stns[k]? = some s):d.tn (k+1)=d.tn k++[s.2.1]:=by
 obtain⟨hk,e⟩:=List.getElem?_eq_some_iff.1 h
 simp only[NetD.tn,List.take_succ_eq_append_getElem hk,e,List.map_append,List.append_assoc,List.map_cons,List.map_nil]
theorem sn_mem (d:NetD) (h:NetOk d) (k:Nat):∀ x∈d.sn k,0≤x∧x < d.nn.length:=by
 intro x hx
 simp only[NetD.sn,List.mem_flatMap]at hx
 obtain⟨s,hs,hx⟩:=hx
 have:=h.knS s (List.mem_of_mem_take hs)
 simp at hx
 rcases hx with rfl|rfl
 ·exact this.1
 ·exact this.2
theorem pn_mem (d:NetD) (h:NetOk d) (k:Nat):∀ x∈d.pn k,0≤x∧x < d.nn.length:=by
 intro x hx
 simp only[NetD.pn,List.mem_append,List.mem_map]at hx
 rcases hx with hx|⟨s,hs,rfl⟩
 ·exact sn_mem d h _ x hx
 ·exact h.knP s (List.mem_of_mem_take hs)
theorem tn_mem (d:NetD) (h:NetOk d) (k:Nat):∀ x∈d.tn k,0≤x∧x < d.nn.length:=by
 intro x hx
 simp only[NetD.tn,List.mem_append,List.mem_map]at hx
 rcases hx with hx|⟨s,hs,rfl⟩
 ·exact pn_mem d h _ x hx
 ·exact h.knT s (List.mem_of_mem_take hs)
theorem kn_ex (d:NetD) (h:NetOk d):∃ A P Q:Nat→List Int,(A 0=[]∧(∀ (k:Nat) s,d.segs[k]? = some s→A (k+1)=A k++[s.1.fr,s.1.to])∧(∀ k,k≤d.segs.length→(A k).length≤64))∧
  (P 0=A d.segs.length∧(∀ (k:Nat) s,d.ports[k]? = some s→P (k+1)=P k++[s.2.1])∧(∀ k,k≤d.ports.length→(P k).length≤88))∧
  (Q 0=P d.ports.length∧(∀ (k:Nat) s,d.stns[k]? = some s→Q (k+1)=Q k++[s.2.1])∧(∀ k,k≤d.stns.length→(Q k).length≤100))∧∀ x∈Q d.stns.length,0≤x∧x < d.nn.length:=by
 have a:=h.s1
 have b:=h.p1
 have c:=h.t1
 have s0:=sn_len d d.segs.length
 have p0:∀ k,(d.pn k).length≤(d.sn d.segs.length).length+k:=by intro k;simp only[NetD.pn,List.length_append,List.length_map,List.length_take];omega
 have q0:∀ k,(d.tn k).length≤(d.pn d.ports.length).length+k:=by intro k;simp only[NetD.tn,List.length_append,List.length_map,List.length_take];omega
 refine⟨d.sn,d.pn,d.tn,⟨rfl,sn_step d,fun k hk=>?_⟩,⟨by simp[NetD.pn],pn_step d,fun k hk=>?_⟩,⟨by simp[NetD.tn],tn_step d,fun k hk=>?_⟩,tn_mem d h _⟩
 ·have:=sn_len d k;omega
 ·have:=p0 k;omega
 ·have:=q0 k;have:=p0 d.ports.length;omega
theorem known_fn (d:NetD) (h:NetOk d):FnOk Tryz.prog 61 [.t (.agg d.l)] [] (.t (.bool true)) []:=by
 have h2:=h.n1
 have h3:=h.s1
 have h4:=h.p1
 have h5:=h.t1
 obtain⟨A,P,Q,⟨a0,aS,al⟩,⟨p0,pS,pl⟩,⟨q0,qS,ql⟩,qm⟩:=kn_ex d h
 have c:=kcont_fn d h.n1 (Q d.stns.length) (by have:=ql _ (Nat.le_refl _);omega) qm
 refine FnOk.intro fact_mixed Tryz.func61 rfl Tryz.ntmps61 (by rfl) (by simp) ?_
 repeat (first|(refine n1s rfl ?_;simp[go_sem,↓iO,iO,tN])|refine anI ?_|refine⟨dcK,?_⟩|refine iP ?_|refine iN ?_)
 refine nf1_sound' _ _ _ ?_;simp only[nf1]
 refine CW.loop (ι:=Nat) (fun k=>⟨[(1,.pt 501 [] 0),(3,.own 510),(11,.t (.sl 7 (d.segs.map encSg))),(12,.t (.int d.segs.length)),(13,.t (.int k))],[(501,.box 33 (.t (.agg d.l))),(510,.list 3 1 ((A k).map encI))]⟩)
  (fun k=>k≤d.segs.length) (fun k=>d.segs.length - k) 0 [(501,some 101),(510,none)] (by omega) ?_ ?_
 ·simp[go_sem,↓iO,iO,tN,a0]
 intro k hk
 by_cases hb:k < d.segs.length
 ·obtain⟨s,hs⟩:=has_get hb
  have e1:=aS k _ hs
  have e2:=al k (by omega)
  obtain⟨⟨nm,fr,to,cp,rs,wv⟩,pts⟩:=s
  dsimp only at e1
  obtain⟨B,hB⟩:∃ B,A k=B:=⟨_,rfl⟩
  rw[hB]at e1 e2 ⊢
  repeat (first|(refine n1s rfl ?_;simp[go_sem,↓iO,iO,tN,hs,e2])|refine anI ?_|refine⟨dcK,?_⟩|refine iP ?_|refine iN ?_)
  rw[RqN];refine⟨k+1,[(501,some 501),(510,some 123)],?_,?_,?_⟩
  ·omega
  ·omega
  simp[go_sem,↓iO,iO,tN,e1]
 ·obtain rfl:k=d.segs.length:=by omega
  repeat (first|(refine n1s rfl ?_;simp[go_sem,↓iO,iO,tN])|refine anI ?_|refine⟨dcK,?_⟩|refine iP ?_|refine iN ?_)
  refine nf1_sound' _ _ _ ?_;simp only[nf1]
  refine CW.loop (ι:=Nat) (fun k=>⟨[(1,.pt 501 [] 0),(3,.own 510),(26,.t (.sl 3 (d.ports.map encPr))),(27,.t (.int d.ports.length)),(28,.t (.int k))],[(501,.box 33 (.t (.agg d.l))),(510,.list 3 1 ((P k).map encI))]⟩)
   (fun k=>k≤d.ports.length) (fun k=>d.ports.length - k) 0 [(501,some 501),(510,some 510)] (by omega) ?_ ?_
  ·simp[go_sem,↓iO,iO,tN,p0]
  intro k hk
  by_cases hb:k < d.ports.length
  ·obtain⟨s,hs⟩:=has_get hb
   have e1:=pS k _ hs
   have e2:=pl k (by omega)
   obtain⟨nm,nd,pr⟩:=s
   dsimp only at e1
   obtain⟨B,hB⟩:∃ B,P k=B:=⟨_,rfl⟩
   rw[hB]at e1 e2 ⊢
   repeat (first|(refine n1s rfl ?_;simp[go_sem,↓iO,iO,tN,hs,e2])|refine anI ?_|refine⟨dcK,?_⟩|refine iP ?_|refine iN ?_)
   rw[RqN];refine⟨k+1,[(501,some 501),(510,some 136)],?_,?_,?_⟩
   ·omega
   ·omega
   simp[go_sem,↓iO,iO,tN,e1]
  ·obtain rfl:k=d.ports.length:=by omega
   repeat (first|(refine n1s rfl ?_;simp[go_sem,↓iO,iO,tN])|refine anI ?_|refine⟨dcK,?_⟩|refine iP ?_|refine iN ?_)
   refine nf1_sound' _ _ _ ?_;simp only[nf1]
   refine CW.loop (ι:=Nat) (fun k=>⟨[(1,.pt 501 [] 0),(3,.own 510),(39,.t (.sl 5 (d.stns.map encSn))),(40,.t (.int d.stns.length)),(41,.t (.int k))],[(501,.box 33 (.t (.agg d.l))),(510,.list 3 1 ((Q k).map encI))]⟩)
    (fun k=>k≤d.stns.length) (fun k=>d.stns.length - k) 0 [(501,some 501),(510,some 510)] (by omega) ?_ ?_
   ·simp[go_sem,↓iO,iO,tN,q0]
   intro k hk
   by_cases hb:k < d.stns.length
   ·obtain⟨s,hs⟩:=has_get hb
    have e1:=qS k _ hs
    have e2:=ql k (by omega)
    obtain⟨nm,nd,hd1,fl,su⟩:=s
    dsimp only at e1
    obtain⟨B,hB⟩:∃ B,Q k=B:=⟨_,rfl⟩
    rw[hB]at e1 e2 ⊢
    repeat (first|(refine n1s rfl ?_;simp[go_sem,↓iO,iO,tN,hs,e2])|refine anI ?_|refine⟨dcK,?_⟩|refine iP ?_|refine iN ?_)
    rw[RqN];refine⟨k+1,[(501,some 501),(510,some 149)],?_,?_,?_⟩
    ·omega
    ·omega
    simp[go_sem,↓iO,iO,tN,e1]
   ·obtain rfl:k=d.stns.length:=by omega
    repeat (first|(refine n1s rfl ?_;simp[go_sem,↓iO,iO,tN])|refine anI ?_|refine⟨dcK,?_⟩|refine iP ?_|refine iN ?_)
    refine CallK.fn (c) [(0,501)] [] [510] (by kernel_rfl) ?_ ?_ ?_ (Or.inl rfl) ?_<;>simp[go_sem,↓iO,iO,tN]
    repeat (first|(refine n1s rfl ?_;simp[go_sem,↓iO,iO,tN])|refine anI ?_|refine⟨dcK,?_⟩|refine iP ?_|refine iN ?_)
    first|rw[TqR]|rw[TqN]
    refine⟨[],?_⟩
    simp[go_sem,↓iO,iO,tN]
theorem place_fn (x:Nat) (h:97≤x∧x≤122):FnOk Tryz.prog 82 [.t (.lit (.int .u8 x))] [] (.t (.int 1)) []:=by
 obtain⟨h1,h2⟩:=h
 have e1:(97:Int)≤x:=by omega
 have e2:(x:Int)≤122:=by omega
 refine FnOk.intro fact_mixed Tryz.func82 rfl Tryz.ntmps82 (by rfl) (by simp) ?_
 repeat (first|(refine n1s rfl ?_;simp[go_sem,↓iO,iO,tN,e1,e2])|refine anI ?_|refine⟨dcK,?_⟩|refine iP ?_|refine iN ?_)
 first|rw[TqR]|rw[TqN]
 refine⟨[],?_⟩
 simp[go_sem,↓iO,iO,tN]
theorem name_fn (k:List Nat) (h0:1≤k.length) (h1:k.length≤12) (h:∀ x∈k,97≤x∧x≤122):FnOk Tryz.prog 59 [.t (encS k)] [] (.t (.bool true)) []:=by
 have hc:∀ (j:Nat) x,k[j]? = some x→(str k).data.toList[j]? = some (UInt8.ofNat x)∧(UInt8.ofNat x).toNat=x:=by
  intro j x hx
  have:=h x (mem_get hx)
  have e:(str k).data.toList=k.map fun c=>UInt8.ofNat c:=by simp[str]
  rw[e,List.getElem?_map,hx]
  refine⟨rfl,?_⟩
  rw[UInt8.toNat_ofNat'];omega
 obtain⟨x,hx⟩:∃ x,k[0]? = some x:=has_get (by omega)
 obtain⟨a1,a2⟩:=hc 0 x hx
 have c:=place_fn x (h x (mem_get hx))
 refine FnOk.intro fact_mixed Tryz.func59 rfl Tryz.ntmps59 (by rfl) (by simp) ?_
 repeat (first|(refine n1s rfl ?_;simp[go_sem,↓iO,iO,tN,a1,a2])|refine anI ?_|refine⟨dcK,?_⟩|refine iP ?_|refine iN ?_)
 refine cF (c) [] ?_ ?_ ?_ ?_<;>simp[go_sem,↓iO,iO,tN,a1,a2]
 repeat (first|(refine n1s rfl ?_;simp[go_sem,↓iO,iO,tN])|refine anI ?_|refine⟨dcK,?_⟩|refine iP ?_|refine iN ?_)
 refine nf1_sound' _ _ _ ?_;simp only[nf1]
 refine CW.loop (ι:=Nat) (fun j=>⟨[(0,.t (encS k)),(19,.t (.int k.length)),(20,.t (.int j))],[]⟩) (fun j=>j≤k.length) (fun j=>k.length - j) 0 [] (by omega) ?_ ?_
 ·simp[go_sem,↓iO,iO,tN]
 intro j hj
 by_cases hb:j < k.length
 ·obtain⟨y,hy⟩:=has_get hb
  obtain⟨b1,b2⟩:=hc j y hy
  have c2:=place_fn y (h y (mem_get hy))
  repeat (first|(refine n1s rfl ?_;simp[go_sem,↓iO,iO,tN,b1,b2])|refine anI ?_|refine⟨dcK,?_⟩|refine iP ?_|refine iN ?_)
  refine cF (c2) [] ?_ ?_ ?_ ?_<;>simp[go_sem,↓iO,iO,tN,b1,b2]
  repeat (first|(refine n1s rfl ?_;simp[go_sem,↓iO,iO,tN])|refine anI ?_|refine⟨dcK,?_⟩|refine iP ?_|refine iN ?_)
  rw[RqN];refine⟨j+1,[],?_,?_,?_⟩
  ·omega
  ·omega
  simp[go_sem,↓iO,iO,tN]
 ·obtain rfl:j=k.length:=by omega
  repeat (first|(refine n1s rfl ?_;simp[go_sem,↓iO,iO,tN])|refine anI ?_|refine⟨dcK,?_⟩|refine iP ?_|refine iN ?_)
  first|rw[TqR]|rw[TqN]
  refine⟨[],?_⟩
  simp[go_sem,↓iO,iO,tN]
theorem name_ok (k:List Nat) (h0:1≤k.length) (h1:k.length≤12) (h:∀ x∈k,97≤x∧x≤122):NameOk k:=⟨fun x hx=>by have:=h x hx;omega,name_fn k h0 h1 h⟩
theorem nprop2_fn (p:Prt) (h:0≤p.2.2∧p.2.2≤100000000):FnOk Tryz.prog 90 [.t (encPr p)] [] (.t (.bool false)) []:=by
 have c:=nin_fn p.2.2 0 100000000 true (by simpa using h)
 obtain⟨a,b,e⟩:=p
 refine FnOk.intro fact_mixed Tryz.func90 rfl Tryz.ntmps90 (by rfl) (by simp) ?_
 repeat (first|(refine n1s rfl ?_;simp[go_sem,↓iO,iO,tN])|refine anI ?_|refine⟨dcK,?_⟩|refine iP ?_|refine iN ?_)
 refine cF (c) [] ?_ ?_ ?_ ?_<;>simp[go_sem,↓iO,iO,tN]
 repeat (first|(refine n1s rfl ?_;simp[go_sem,↓iO,iO,tN])|refine anI ?_|refine⟨dcK,?_⟩|refine iP ?_|refine iN ?_)
 first|rw[TqR]|rw[TqN]
 refine⟨[],?_⟩
 simp[go_sem,↓iO,iO,tN]
theorem nprop3_fn (p:Stn) (h:(0≤p.2.2.1∧p.2.2.1≤100000000)∧(0≤p.2.2.2.1∧p.2.2.2.1≤100000)∧0≤p.2.2.2.2∧p.2.2.2.2≤100000000):FnOk Tryz.prog 93 [.t (encSn p)] [] (.t (.bool false)) []:=by
 have c1:=nin_fn p.2.2.1 0 100000000 true (by simpa using h.1)
 have c2:=nin_fn p.2.2.2.1 0 100000 true (by simpa using h.2.1)
 have c3:=nin_fn p.2.2.2.2 0 100000000 true (by simpa using h.2.2)
 obtain⟨a,b,e,f,g⟩:=p
 refine FnOk.intro fact_mixed Tryz.func93 rfl Tryz.ntmps93 (by rfl) (by simp) ?_
 repeat (first|(refine n1s rfl ?_;simp[go_sem,↓iO,iO,tN])|refine anI ?_|refine⟨dcK,?_⟩|refine iP ?_|refine iN ?_)
 refine cF (c1) [] ?_ ?_ ?_ ?_<;>simp[go_sem,↓iO,iO,tN]
 repeat (first|(refine n1s rfl ?_;simp[go_sem,↓iO,iO,tN])|refine anI ?_|refine⟨dcK,?_⟩|refine iP ?_|refine iN ?_)
 refine cF (c2) [] ?_ ?_ ?_ ?_<;>simp[go_sem,↓iO,iO,tN]
 repeat (first|(refine n1s rfl ?_;simp[go_sem,↓iO,iO,tN])|refine anI ?_|refine⟨dcK,?_⟩|refine iP ?_|refine iN ?_)
 refine cF (c3) [] ?_ ?_ ?_ ?_<;>simp[go_sem,↓iO,iO,tN]
 repeat (first|(refine n1s rfl ?_;simp[go_sem,↓iO,iO,tN])|refine anI ?_|refine⟨dcK,?_⟩|refine iP ?_|refine iN ?_)
 first|rw[TqR]|rw[TqN]
 refine⟨[],?_⟩
 simp[go_sem,↓iO,iO,tN]
theorem nproperG_fn (d:NetD) (h:NetOk d):FnOk Tryz.prog 62 [.t (.agg d.l)] [] (.t (.bool true)) []:=by
 have h3:=h.s1
 have h4:=h.p1
 have h5:=h.t1
 have c1:=seg_cont d.segs (by omega) (fun p hp=>nprop1_fn _ (h.pipe p hp))
 have c2:=pr2_cont d.ports (by omega) (fun p hp=>nprop2_fn _ (h.prs p hp))
 have c3:=pr3_cont d.stns (by omega) (fun p hp=>nprop3_fn _ (h.stn p hp))
 have c4:=nin_fn d.vap (-100000) 100000000 true (by simpa using h.vap)
 have c5:=nin_fn d.stl 0 100 true (by simpa using h.stl)
 refine FnOk.intro fact_mixed Tryz.func62 rfl Tryz.ntmps62 (by rfl) (by simp) ?_
 repeat (first|(refine n1s rfl ?_;simp[go_sem,↓iO,iO,tN])|refine anI ?_|refine⟨dcK,?_⟩|refine iP ?_|refine iN ?_)
 refine cF (c1) [] ?_ ?_ ?_ ?_<;>simp[go_sem,↓iO,iO,tN]
 repeat (first|(refine n1s rfl ?_;simp[go_sem,↓iO,iO,tN])|refine anI ?_|refine⟨dcK,?_⟩|refine iP ?_|refine iN ?_)
 refine cF (c2) [] ?_ ?_ ?_ ?_<;>simp[go_sem,↓iO,iO,tN]
 repeat (first|(refine n1s rfl ?_;simp[go_sem,↓iO,iO,tN])|refine anI ?_|refine⟨dcK,?_⟩|refine iP ?_|refine iN ?_)
 refine cF (c3) [] ?_ ?_ ?_ ?_<;>simp[go_sem,↓iO,iO,tN]
 repeat (first|(refine n1s rfl ?_;simp[go_sem,↓iO,iO,tN])|refine anI ?_|refine⟨dcK,?_⟩|refine iP ?_|refine iN ?_)
 refine cF (c4) [] ?_ ?_ ?_ ?_<;>simp[go_sem,↓iO,iO,tN]
 repeat (first|(refine n1s rfl ?_;simp[go_sem,↓iO,iO,tN])|refine anI ?_|refine⟨dcK,?_⟩|refine iP ?_|refine iN ?_)
 refine cF (c5) [] ?_ ?_ ?_ ?_<;>simp[go_sem,↓iO,iO,tN]
 repeat (first|(refine n1s rfl ?_;simp[go_sem,↓iO,iO,tN])|refine anI ?_|refine⟨dcK,?_⟩|refine iP ?_|refine iN ?_)
 first|rw[TqR]|rw[TqN]
 refine⟨[],?_⟩
 simp[go_sem,↓iO,iO,tN]
theorem ncheck1_fn (k:List Nat) (h:NameOk k):FnOk Tryz.prog 58 [.t (encS k)] [] (.t (.bool false)) []:=by
 have c:=h.fn
 refine FnOk.intro fact_mixed Tryz.func58 rfl Tryz.ntmps58 (by rfl) (by simp) ?_
 repeat (first|(refine n1s rfl ?_;simp[go_sem,↓iO,iO,tN])|refine anI ?_|refine⟨dcK,?_⟩|refine iP ?_|refine iN ?_)
 refine cF (c) [] ?_ ?_ ?_ ?_<;>simp[go_sem,↓iO,iO,tN]
 repeat (first|(refine n1s rfl ?_;simp[go_sem,↓iO,iO,tN])|refine anI ?_|refine⟨dcK,?_⟩|refine iP ?_|refine iN ?_)
 first|rw[TqR]|rw[TqN]
 refine⟨[],?_⟩
 simp[go_sem,↓iO,iO,tN]
theorem ncheckG_fn (d:NetD) (h:NetOk d):FnOk Tryz.prog 45 [.t (.agg d.l)] [] (.t (.int 0)) []:=by
 have c1:=limits_fn d h
 have c2:=names_fn' d h
 have c3:=twice_fn d h
 have c4:=known_fn d h
 have c5:=nproperG_fn d h
 have hgt:∀ i:Nat,i < 4→∃ l:List (List Nat),d.ns i=l∧FnOk Tryz.prog 57 [.t (.sl 1 (l.map encS)),.fn 58 []] [] (.t (.bool false)) []:=fun i _=>⟨_,rfl,cks_cont _ (by have:=(ns_ok d h i).1;omega) (fun p hp=>ncheck1_fn _ ((ns_ok d h i).2.1 p hp))⟩
 obtain⟨l0,e0,d0⟩:=hgt 0 (by omega)
 obtain⟨l1,e1,d1⟩:=hgt 1 (by omega)
 obtain⟨l2,e2,d2⟩:=hgt 2 (by omega)
 obtain⟨l3,e3,d3⟩:=hgt 3 (by omega)
 have hN:d.nt = .agg [.sl 1 (l0.map encS),.sl 1 (l1.map encS),.sl 1 (l2.map encS),.sl 1 (l3.map encS)]:=by simp only[NetD.nt,e0,e1,e2,e3]
 rw[hN]at c2
 clear hN e0 e1 e2 e3 hgt
 refine FnOk.intro fact_mixed Tryz.func45 rfl Tryz.ntmps45 (by rfl) (by simp) ?_
 repeat (first|(refine n1s rfl ?_;simp[go_sem,↓iO,iO,tN])|refine anI ?_|refine⟨dcK,?_⟩|refine iP ?_|refine iN ?_)
 refine cF (c1) [] ?_ ?_ ?_ ?_<;>simp[go_sem,↓iO,iO,tN]
 repeat (first|(refine n1s rfl ?_;simp[go_sem,↓iO,iO,tN])|refine anI ?_|refine⟨dcK,?_⟩|refine iP ?_|refine iN ?_)
 refine cF (c2) [] ?_ ?_ ?_ ?_<;>simp[go_sem,↓iO,iO,tN]
 repeat (first|(refine n1s rfl ?_;simp[go_sem,↓iO,iO,tN])|refine anI ?_|refine⟨dcK,?_⟩|refine iP ?_|refine iN ?_)
 refine nf1_sound' _ _ _ ?_;simp only[nf1]
 refine CW.loop (ι:=Nat) (fun k=>⟨[(1,.pt 501 [] 0),(9,.t (.agg [.sl 1 (l0.map encS),.sl 1 (l1.map encS),.sl 1 (l2.map encS),.sl 1 (l3.map encS)])),(10,.t (.int k))],[(501,.box 33 (.t (.agg d.l)))]⟩) (fun k=>k≤4) (fun k=>4 - k) 0 [(501,some 101)] (by omega) ?_ ?_
 ·simp[go_sem,↓iO,iO,tN]
 intro k hk
 have h4:k=0∨k=1∨k=2∨k=3∨k=4:=by omega
 rcases h4 with rfl|rfl|rfl|rfl|rfl
 ·repeat (first|(refine n1s rfl ?_;simp[go_sem,↓iO,iO,tN])|refine anI ?_|refine⟨dcK,?_⟩|refine iP ?_|refine iN ?_)
  refine cF (d0) [] ?_ ?_ ?_ ?_<;>simp[go_sem,↓iO,iO,tN]
  repeat (first|(refine n1s rfl ?_;simp[go_sem,↓iO,iO,tN])|refine anI ?_|refine⟨dcK,?_⟩|refine iP ?_|refine iN ?_)
  rw[RqN];refine⟨1,[(501,some 501)],?_,?_,?_⟩
  ·omega
  ·omega
  simp[go_sem,↓iO,iO,tN]
 ·repeat (first|(refine n1s rfl ?_;simp[go_sem,↓iO,iO,tN])|refine anI ?_|refine⟨dcK,?_⟩|refine iP ?_|refine iN ?_)
  refine cF (d1) [] ?_ ?_ ?_ ?_<;>simp[go_sem,↓iO,iO,tN]
  repeat (first|(refine n1s rfl ?_;simp[go_sem,↓iO,iO,tN])|refine anI ?_|refine⟨dcK,?_⟩|refine iP ?_|refine iN ?_)
  rw[RqN];refine⟨2,[(501,some 501)],?_,?_,?_⟩
  ·omega
  ·omega
  simp[go_sem,↓iO,iO,tN]
 ·repeat (first|(refine n1s rfl ?_;simp[go_sem,↓iO,iO,tN])|refine anI ?_|refine⟨dcK,?_⟩|refine iP ?_|refine iN ?_)
  refine cF (d2) [] ?_ ?_ ?_ ?_<;>simp[go_sem,↓iO,iO,tN]
  repeat (first|(refine n1s rfl ?_;simp[go_sem,↓iO,iO,tN])|refine anI ?_|refine⟨dcK,?_⟩|refine iP ?_|refine iN ?_)
  rw[RqN];refine⟨3,[(501,some 501)],?_,?_,?_⟩
  ·omega
  ·omega
  simp[go_sem,↓iO,iO,tN]
 ·repeat (first|(refine n1s rfl ?_;simp[go_sem,↓iO,iO,tN])|refine anI ?_|refine⟨dcK,?_⟩|refine iP ?_|refine iN ?_)
  refine cF (d3) [] ?_ ?_ ?_ ?_<;>simp[go_sem,↓iO,iO,tN]
  repeat (first|(refine n1s rfl ?_;simp[go_sem,↓iO,iO,tN])|refine anI ?_|refine⟨dcK,?_⟩|refine iP ?_|refine iN ?_)
  rw[RqN];refine⟨4,[(501,some 501)],?_,?_,?_⟩
  ·omega
  ·omega
  simp[go_sem,↓iO,iO,tN]
 ·repeat (first|(refine n1s rfl ?_;simp[go_sem,↓iO,iO,tN])|refine anI ?_|refine⟨dcK,?_⟩|refine iP ?_|refine iN ?_)
  refine cF (c3) [] ?_ ?_ ?_ ?_<;>simp[go_sem,↓iO,iO,tN]
  repeat (first|(refine n1s rfl ?_;simp[go_sem,↓iO,iO,tN])|refine anI ?_|refine⟨dcK,?_⟩|refine iP ?_|refine iN ?_)
  refine cF (c4) [] ?_ ?_ ?_ ?_<;>simp[go_sem,↓iO,iO,tN]
  repeat (first|(refine n1s rfl ?_;simp[go_sem,↓iO,iO,tN])|refine anI ?_|refine⟨dcK,?_⟩|refine iP ?_|refine iN ?_)
  refine cF (c5) [] ?_ ?_ ?_ ?_<;>simp[go_sem,↓iO,iO,tN]
  repeat (first|(refine n1s rfl ?_;simp[go_sem,↓iO,iO,tN])|refine anI ?_|refine⟨dcK,?_⟩|refine iP ?_|refine iN ?_)
  first|rw[TqR]|rw[TqN]
  refine⟨[],?_⟩
  simp[go_sem,↓iO,iO,tN]
def rangeV (l:List Int) (k:Nat) (lo hi:Int):Int:=lo+nV l k (hi - lo+1)
theorem rangeV_range {l:List Int} {k:Nat} {lo hi:Int} (h:lo≤hi):lo≤rangeV l k lo hi∧rangeV l k lo hi≤hi:=by
 have:=nV_range (l:=l) (k:=k) (n:=hi - lo+1) (by omega)
 unfold rangeV;omega
theorem range_fn (l:List Int) (k:Nat) (lo hi:Int) (h:SrcOk l k) (h1:-1000000000000000000≤lo) (h2:lo≤hi) (h3:hi≤1000000000000000000) :
  FnOk Tryz.prog 8 [.pt 0 [] 0,.t (.int lo),.t (.int hi)] [(0,srcB l k)] (.t (.int (rangeV l k lo hi))) [(0,srcB l (nextK l k))]:=by
 have h4:=nV_range (l:=l) (k:=k) (n:=hi - lo+1) (by omega)
 refine FnOk.intro fact_mixed Tryz.func8 rfl Tryz.ntmps8 (by rfl) (by simp) ?_
 repeat (first|(refine n1s rfl ?_;simp[go_sem,↓iO,iO,tN])|refine anI ?_|refine⟨dcK,?_⟩|refine iP ?_|refine iN ?_)
 refine cF (n_fn l k (hi - lo+1) h (by omega)) [(0,0)] ?_ ?_ ?_ ?_<;>simp[go_sem,↓iO,iO,tN]
 repeat (first|(refine n1s rfl ?_;simp[go_sem,↓iO,iO,tN])|refine anI ?_|refine⟨dcK,?_⟩|refine iP ?_|refine iN ?_)
 first|rw[TqR]|rw[TqN]
 refine⟨[(0,some 0)],?_⟩
 simp[go_sem,↓iO,iO,tN,rangeV]
theorem n_ex {l:List Int} {k:Nat} (h:SrcOk l k) (n:Int) (h1:1≤n) (h2:n≤9223372036854775807):∃ v,(0≤v∧v < n)∧FnOk Tryz.prog 21 [.pt 0 [] 0,.t (.int n)] [(0,srcB l k)] (.t (.int v)) [(0,srcB l (nextK l k))]:=
 ⟨_,nV_range h1,n_fn l k n h h2⟩
def pickV (l:List Int) (k:Nat) (xs:List Int):Int:=xs.getD (nV l k xs.length).toNat 0
theorem pickV_mem {l:List Int} {k:Nat} {xs:List Int} (h:1≤xs.length):pickV l k xs∈xs:=by
 have h1:=nV_range (l:=l) (k:=k) (n:=xs.length) (by omega)
 obtain⟨v,hv⟩:=has_get (show (nV l k xs.length).toNat < xs.length by omega)
 unfold pickV
 rw[List.getD_eq_getElem?_getD,hv]
 exact mem_get hv
theorem pick_fn {l:List Int} {k:Nat} (h:SrcOk l k) (xs:List Int) (h1:1≤xs.length) (h2:xs.length≤1000000) :
  FnOk Tryz.prog 39 [.pt 0 [] 0,.t (encIs xs)] [(0,srcB l k)] (.t (.int (pickV l k xs))) [(0,srcB l (nextK l k))]:=by
 have hn:=nV_range (l:=l) (k:=k) (n:=xs.length) (by omega)
 have hc:=n_fn l k xs.length h (by omega)
 have hp:pickV l k xs=xs.getD (nV l k xs.length).toNat 0:=rfl
 obtain⟨n,hnn⟩:∃ n,nV l k xs.length=n:=⟨_,rfl⟩
 rw[hnn]at hn hc hp
 obtain⟨m,rfl⟩:∃ m:Nat,n=(m:Int):=⟨n.toNat,by omega⟩
 obtain⟨v,hv⟩:=has_get (show m < xs.length by omega)
 rw[Int.toNat_natCast,List.getD_eq_getElem?_getD,hv]at hp
 rw[hp]
 refine FnOk.intro fact_mixed Tryz.func39 rfl Tryz.ntmps39 (by rfl) (by simp) ?_
 repeat (first|(refine n1s rfl ?_;simp[go_sem,↓iO,iO,tN])|refine anI ?_|refine⟨dcK,?_⟩|refine iP ?_|refine iN ?_)
 refine cF (hc) [(0,0)] ?_ ?_ ?_ ?_<;>simp[go_sem,↓iO,iO,tN,hv]
 repeat (first|(refine n1s rfl ?_;simp[go_sem,↓iO,iO,tN,hv])|refine anI ?_|refine⟨dcK,?_⟩|refine iP ?_|refine iN ?_)
 first|rw[TqR]|rw[TqN]
 refine⟨[(0,some 0)],?_⟩
 simp[go_sem,↓iO,iO,tN]
theorem pick_ex {l:List Int} {k:Nat} (h:SrcOk l k) (xs:List Int) (h1:1≤xs.length) (h2:xs.length≤1000000) :
  ∃ v,v∈xs∧FnOk Tryz.prog 39 [.pt 0 [] 0,.t (encIs xs)] [(0,srcB l k)] (.t (.int v)) [(0,srcB l (nextK l k))]:=
 ⟨_,pickV_mem h1,pick_fn h xs h1 h2⟩
end Go.Proofs.YtdjmklobfjigoaaGreatDoor
