import Derived.Test.YtdjmklobfjigoaaGreatDoorTCvesB14
set_option maxRecDepth 100000
set_option maxHeartbeats 16000000
set_option linter.unusedVariables false
set_option linter.unusedSimpArgs false
namespace Go.Proofs.YtdjmklobfjigoaaGreatDoor
open Go.RowKit Sy
open Go.IntWalk renaming iteOmega → iO, toNatUp → tN
theorem ends2_fn (s:Sgm) (r:Int):FnOk Tryz.prog 97 [.t (encSg s),.t (.int r)] [] (.tup [.t (.int (fFr s.1.fr s.1.to r)),.t (.int (fTo s.1.fr s.1.to r))]) []:=by
 obtain⟨⟨nm,fr,to,cp,rs,wv⟩,pts⟩:=s
 refine FnOk.intro fact_mixed Tryz.func97 rfl Tryz.ntmps97 (by rfl) (by simp) ?_
 by_cases hr:r < 0
 ·repeat (first|(refine n1s rfl ?_;simp[go_sem,↓iO,iO,tN,hr])|refine anI ?_|refine⟨dcK,?_⟩|refine iP ?_|refine iN ?_)
  first|rw[TqR]|rw[TqN]
  refine⟨[],?_⟩
  simp[go_sem,↓iO,iO,tN,fFr,fTo,hr]
 ·repeat (first|(refine n1s rfl ?_;simp[go_sem,↓iO,iO,tN,hr])|refine anI ?_|refine⟨dcK,?_⟩|refine iP ?_|refine iN ?_)
  first|rw[TqR]|rw[TqN]
  refine⟨[],?_⟩
  simp[go_sem,↓iO,iO,tN,fFr,fTo,hr]
@[go_sem] def encBl (b:Bool):T:=.bool b
def blkB (out:List Nat) (k:Nat) (x:Int×Int×Int):Bool:=x.2.2 != 0 && fTo x.1 x.2.1 x.2.2 == (k:Int) && !(out.contains (fFr x.1 x.2.1 x.2.2).toNat)
def rdyB (F:flows) (out:List Nat) (k:Nat):Bool:=F.all fun x=>!(blkB out k x)
def nextB (F:flows) (n:Nat) (out:List Nat):Option Nat:=(List.range n).find? fun k=>!out.contains k && rdyB F out k
def ordV (F:flows) (n:Nat):Nat→List Nat→List Nat
 | 0,out=>out
 | f+1,out=>match nextB F n out with
  | none=>out
  | some k=>ordV F n f (out++[k])
def thV (n:Nat) (out:List Nat):List Bool:=(List.range n).map fun j=>out.contains j
theorem thV_len (n out):(thV n out).length=n:=by simp[thV]
theorem thV_get (n:Nat) (out:List Nat) (j:Nat) (h:j < n):(thV n out)[j]? = some (out.contains j):=by simp[thV,h]
theorem thV_nil (n:Nat):thV n []=List.replicate n false:=by
 apply List.ext_getElem<;>simp[thV]
theorem thV_set (n:Nat) (out:List Nat) (k:Nat) (h:k < n):(thV n out).set k true=thV n (out++[k]):=by
 apply List.ext_getElem
 ·simp[thV]
 intro i h1 h2
 rw[List.getElem_set]
 simp only[thV,List.getElem_map,List.getElem_range]
 by_cases e:k=i
 ·subst e;simp
 ·simp only[if_neg e]
  have:i≠k:=fun q=>e q.symm
  simp[List.contains_eq_mem,this]
structure OrdI (F:flows) (n:Nat) (fin:List Nat) (p:List Nat×Nat):Prop where
 k1:p.2≤n
 nd:p.1.Nodup
 lt:∀ j∈p.1,j < n
 bf:∀ j,j < p.2→p.1.contains j=true∨rdyB F p.1 j=false
 fi:ordV F n (n - p.1.length) p.1=fin
theorem nodup_len {n:Nat} {l:List Nat} (hn:l.Nodup) (hl:∀ j∈l,j < n):l.length≤n:=by
 have:=List.Nodup.length_le_of_subset hn (l₂:=List.range n) (fun j hj=>List.mem_range.2 (hl j hj))
 simpa using this
theorem OrdI.len {F n fin p} (h:OrdI F n fin p):p.1.length≤n:=nodup_len h.nd h.lt
theorem OrdI.skip {F n fin p} (h:OrdI F n fin p) (hk:p.2 < n) (hb:p.1.contains p.2=true∨rdyB F p.1 p.2=false):OrdI F n fin (p.1,p.2+1):=
 ⟨by show p.2+1≤n;omega,h.nd,h.lt,fun j hj=>by
  by_cases e:j=p.2
  ·subst e;exact hb
  ·exact h.bf j (by have:j < p.2+1:=hj;omega),h.fi⟩
theorem OrdI.take {F n fin p} (h:OrdI F n fin p) (hk:p.2 < n) (hb:p.1.contains p.2=false) (hr:rdyB F p.1 p.2=true):p.1.length < n∧OrdI F n fin (p.1++[p.2],0):=by
 have hnm:p.2∉p.1:=by simpa [List.contains_eq_mem] using hb
 have nd':(p.1++[p.2]).Nodup:=by
  rw[List.nodup_append]
  exact⟨h.nd,by simp,fun a ha b hb e=>by simp at hb;subst hb;subst e;exact hnm ha⟩
 have lt':∀ j∈p.1++[p.2],j < n:=fun j hj=>by
  rcases List.mem_append.1 hj with hj|hj
  ·exact h.lt j hj
  ·simp at hj;omega
 have hl:=nodup_len nd' lt'
 simp only[List.length_append,List.length_cons,List.length_nil]at hl
 refine⟨by omega,Nat.zero_le _,nd',lt',fun j hj=>absurd hj (by simp),?_⟩
 rw[←h.fi]
 obtain⟨f,hf⟩:∃ f,n - p.1.length=f+1:=⟨n - p.1.length - 1,by omega⟩
 have hN:nextB F n p.1=some p.2:=by
  unfold nextB
  rw[List.find?_range_eq_some]
  refine⟨by simp[hnm,hr],by simpa using hk,fun j hj=>?_⟩
  rcases h.bf j hj with e|e
  ·have e:j∈p.1:=by simpa using e
   simp[e]
  ·simp[e]
 rw[hf]
 show _=(match nextB F n p.1 with|none=>p.1|some k=>ordV F n f (p.1++[k]))
 rw[hN]
 show ordV F n (n - (p.1++[p.2]).length) (p.1++[p.2])=_
 have:n - (p.1++[p.2]).length=f:=by simp only[List.length_append,List.length_cons,List.length_nil];omega
 rw[this]
theorem OrdI.done {F n fin p} (h:OrdI F n fin p) (hk:p.2=n):p.1=fin:=by
 rw[←h.fi]
 cases hf:n - p.1.length with
 | zero=>rfl
 | succ f=>
  show _=(match nextB F n p.1 with|none=>p.1|some k=>ordV F n f (p.1++[k]))
  have hN:nextB F n p.1=none:=by
   unfold nextB
   rw[List.find?_eq_none]
   intro j hj
   rcases h.bf j (by rw[hk];exact List.mem_range.1 hj) with e|e
   ·have e:j∈p.1:=by simpa using e
    simp[e]
   ·simp[e]
  rw[hN]
theorem ends3 (d:NetD) (h:NetOk d) (s:Sgm) (hs:s∈d.segs) (r:Int):0≤fFr s.1.fr s.1.to r∧fFr s.1.fr s.1.to r < d.nn.length:=by
 have:=h.knS s hs
 unfold fFr;split<;>omega
theorem rdy_of (F:flows) (out:List Nat) (k:Nat) (h:∀ (i:Nat) x,F[i]? = some x→blkB out k x=false):rdyB F out k=true:=by
 rw[rdyB,List.all_eq_true]
 intro x hx
 obtain⟨i,hi,rfl⟩:=List.getElem_of_mem hx
 simp[h i _ (List.getElem?_eq_getElem hi)]
theorem nrdy_of (F:flows) (out:List Nat) (k i:Nat) (x:Int×Int×Int) (hx:F[i]? = some x) (h:blkB out k x=true):rdyB F out k=false:=by
 rw[rdyB,List.all_eq_false]
 exact⟨x,mem_get hx,by simp[h]⟩
theorem order_fn (d:NetD) (h:NetOk d) (rates prates:List Int) (pumps:T) (hw:pumps.width=1) (hp:PlnOk d rates prates) :
  FnOk Tryz.prog 65 [.t (.agg d.l),.t (.agg (plnL rates prates pumps))] [] (.t (.sl 1 (((ordV (sgFl d.segs rates) d.nn.length d.nn.length []).map Int.ofNat).map encI))) []:=by
 have h0:=h.n0
 have h1:=h.n1
 have h3:=h.s1
 have q1:=hp.l1
 obtain⟨n,hn⟩:∃ n,d.nn.length=n:=⟨_,rfl⟩
 obtain⟨F,hF⟩:∃ F,sgFl d.segs rates=F:=⟨_,rfl⟩
 have hFg:∀ (i:Nat) s r,d.segs[i]? = some s→rates[i]? = some r→F[i]? = some (s.1.fr,s.1.to,r):=fun i s r hs hr=>by
  rw[←hF]
  simp only[sgFl,List.getElem?_map,(List.getElem?_zip_eq_some (z:=(s,r))).2 ⟨hs,hr⟩,Option.map_some]
 have hFl:F.length=d.segs.length:=by rw[←hF];simp[sgFl,q1]
 rw[hF,hn]
 obtain⟨fin,hfin⟩:∃ fin,ordV F n n []=fin:=⟨_,rfl⟩
 rw[hfin]
 have t0:=thV_nil n
 have tl:=thV_len n
 refine FnOk.intro fact_mixed Tryz.func65 rfl Tryz.ntmps65 (by rfl) (by simp) ?_
 repeat (first|(refine n1s rfl ?_;simp[go_sem,↓iO,iO,tN,hn])|refine anI ?_|refine⟨dcK,?_⟩|refine iP ?_|refine iN ?_)
 refine nf1_sound' _ _ _ ?_;simp only[nf1]
 refine CW.loop (ι:=List Nat×Nat) (fun p=>⟨[(2,.pt 502 [] 0),(3,.pt 503 [] 0),(5,.own 510),(6,.own 511),(7,.t (.int p.2))],[(502,.box 33 (.t (.agg d.l))),(503,.box 45 (.t (.agg (plnL rates prates pumps)))),(510,.list 3 1 ((p.1.map Int.ofNat).map encI)),(511,.list 4 1 ((thV n p.1).map encBl))]⟩)
  (fun p=>OrdI F n fin p) (fun p=>(n - p.1.length) * (n+1)+(n - p.2)) ([],0) [(502,some 102),(503,some 103),(510,none),(511,some 115)] ⟨Nat.zero_le _,List.nodup_nil,by simp,by simp,hfin⟩ ?_ ?_
 ·simp[go_sem,↓iO,iO,tN,t0]
 rintro ⟨o,k⟩ hI
 have hkn:=hI.k1
 have hol:=hI.len
 dsimp only at hkn hol ⊢
 by_cases hk:k < n
 ·have hg:=thV_get n o k hk
  by_cases hc:o.contains k=true
  ·rw[hc]at hg
   repeat (first|(refine n1s rfl ?_;simp[go_sem,↓iO,iO,tN,hn,hg,tl])|refine anI ?_|refine⟨dcK,?_⟩|refine iP ?_|refine iN ?_)
   rw[RqN];refine⟨(o,k+1),[(502,some 502),(503,some 503),(510,some 510),(511,some 511)],?_,?_,?_⟩
   ·exact hI.skip hk (Or.inl hc)
   ·show (n - o.length) * (n+1)+(n - (k+1)) < (n - o.length) * (n+1)+(n - k)
    omega
   simp[go_sem,↓iO,iO,tN]
  ·have hc:o.contains k=false:=by simpa using hc
   rw[hc]at hg
   repeat (first|(refine n1s rfl ?_;simp[go_sem,↓iO,iO,tN,hn,hg,tl])|refine anI ?_|refine⟨dcK,?_⟩|refine iP ?_|refine iN ?_)
   refine nf1_sound' _ _ _ ?_;simp only[nf1]
   refine CW.loop (ι:=Nat) (fun i=>⟨[(2,.pt 502 [] 0),(3,.pt 503 [] 0),(5,.own 510),(6,.own 511),(7,.t (.int k)),(28,.t (.sl 7 (d.segs.map encSg))),(29,.t (.int d.segs.length)),(30,.t (.int i))],[(502,.box 33 (.t (.agg d.l))),(503,.box 45 (.t (.agg (plnL rates prates pumps)))),(510,.list 3 1 ((o.map Int.ofNat).map encI)),(511,.list 4 1 ((thV n o).map encBl))]⟩)
    (fun i=>i≤d.segs.length∧∀ (j:Nat) x,j < i→F[j]? = some x→blkB o k x=false) (fun i=>d.segs.length - i) 0 [(502,some 502),(503,some 503),(510,some 510),(511,some 511)] ⟨by omega,by omega⟩ ?_ ?_
   ·simp[go_sem,↓iO,iO,tN]
   rintro i ⟨hi,hbf⟩
   by_cases hb:i < d.segs.length
   ·obtain⟨s,hs⟩:=has_get hb
    obtain⟨r,hr⟩:∃ r,rates[i]? = some r:=has_get (by omega)
    have e1:=hFg i s r hs hr
    have e2:=ends3 d h s (mem_get hs) r
    have c:=ends2_fn s r
    obtain⟨fi,hfi⟩:∃ f,fFr s.1.fr s.1.to r=f:=⟨_,rfl⟩
    obtain⟨ti,hti⟩:∃ f,fTo s.1.fr s.1.to r=f:=⟨_,rfl⟩
    rw[hfi,hti]at c
    rw[hfi]at e2
    have hB:blkB o k (s.1.fr,s.1.to,r)=(r != 0 && ti == (k:Int) && !(o.contains fi.toNat)):=by simp only[blkB,hfi,hti]
    obtain⟨m,hm⟩:∃ m,o.contains fi.toNat=m:=⟨_,rfl⟩
    have hgf:=thV_get n o fi.toNat (by omega)
    rw[hm]at hgf hB
    have go:blkB o k (s.1.fr,s.1.to,r)=false→∀ (j:Nat) x,j < i+1→F[j]? = some x→blkB o k x=false:=fun hz j x hj hx=>by
     by_cases e:j=i
     ·subst e;rw[e1]at hx;cases hx;exact hz
     ·exact hbf j x (by omega) hx
    repeat (first|(refine n1s rfl ?_;simp[go_sem,↓iO,iO,tN,hn,hs,hr])|refine anI ?_|refine⟨dcK,?_⟩|refine iP ?_|refine iN ?_)
    refine cF (c) [] ?_ ?_ ?_ ?_<;>simp[go_sem,↓iO,iO,tN,hn,hs,hr]
    repeat (refine anI ?_)
    try (refine⟨dcK,?_⟩)
    obtain⟨⟨nm,fr,to,cp,rs,wv⟩,pts⟩:=s
    by_cases hr0:r=0
    ·have hz:blkB o k (fr,to,r)=false:=by rw[hB];simp[hr0]
     repeat (first|(refine n1s rfl ?_;simp[go_sem,↓iO,iO,tN,hn,hs,hr,hr0])|refine anI ?_|refine⟨dcK,?_⟩|refine iP ?_|refine iN ?_)
     rw[RqN];refine⟨i+1,[(502,some 502),(503,some 503),(510,some 510),(511,some 511)],?_,?_,?_⟩
     ·exact⟨by omega,fun j a b c=>go hz j (a,b,c)⟩
     ·omega
     simp[go_sem,↓iO,iO,tN]
    ·by_cases ht:ti=k
     ·cases m with
      | true=>
       have hz:blkB o k (fr,to,r)=false:=by rw[hB];simp
       repeat (first|(refine n1s rfl ?_;simp[go_sem,↓iO,iO,tN,hn,hs,hr,hr0,ht,hgf,tl])|refine anI ?_|refine⟨dcK,?_⟩|refine iP ?_|refine iN ?_)
       rw[RqN];refine⟨i+1,[(502,some 502),(503,some 503),(510,some 510),(511,some 511)],?_,?_,?_⟩
       ·exact⟨by omega,fun j a b c=>go hz j (a,b,c)⟩
       ·omega
       simp[go_sem,↓iO,iO,tN]
      | false=>
       have hz:blkB o k (fr,to,r)=true:=by rw[hB];simp[hr0,ht]
       repeat (first|(refine n1s rfl ?_;simp[go_sem,↓iO,iO,tN,hn,hs,hr,hr0,ht,hgf,tl])|refine anI ?_|refine⟨dcK,?_⟩|refine iP ?_|refine iN ?_)
       rw[RqN];refine⟨(o,k+1),[(502,some 502),(503,some 503),(510,some 510),(511,some 511)],?_,?_,?_⟩
       ·exact hI.skip hk (Or.inr (nrdy_of F o k i _ e1 hz))
       ·show (n - o.length) * (n+1)+(n - (k+1)) < (n - o.length) * (n+1)+(n - k)
        omega
       simp[go_sem,↓iO,iO,tN]
     ·have hz:blkB o k (fr,to,r)=false:=by rw[hB];simp[ht]
      repeat (first|(refine n1s rfl ?_;simp[go_sem,↓iO,iO,tN,hn,hs,hr,hr0,ht])|refine anI ?_|refine⟨dcK,?_⟩|refine iP ?_|refine iN ?_)
      rw[RqN];refine⟨i+1,[(502,some 502),(503,some 503),(510,some 510),(511,some 511)],?_,?_,?_⟩
      ·exact⟨by omega,fun j a b c=>go hz j (a,b,c)⟩
      ·omega
      simp[go_sem,↓iO,iO,tN]
   ·obtain rfl:i=d.segs.length:=by omega
    have hrd:rdyB F o k=true:=rdy_of F o k fun i x hx=>hbf i x (by have:=(List.getElem?_eq_some_iff.1 hx).1;omega) hx
    obtain⟨z1,z2⟩:=hI.take hk hc hrd
    dsimp only at z1
    have e5:=thV_set n o k hk
    repeat (first|(refine n1s rfl ?_;simp[go_sem,↓iO,iO,tN,hn,hg,tl])|refine anI ?_|refine⟨dcK,?_⟩|refine iP ?_|refine iN ?_)
    rw[RqN];refine⟨(o++[k],0),[(502,some 502),(503,some 503),(510,some 170),(511,some 511)],?_,?_,?_⟩
    ·exact z2
    ·show (n - (o++[k]).length) * (n+1)+(n - 0) < (n - o.length) * (n+1)+(n - k)
     simp only[List.length_append,List.length_cons,List.length_nil]
     obtain⟨q,hq⟩:∃ q,n - o.length=q+1:=⟨n - o.length - 1,by omega⟩
     have:n - (o.length+(0+1))=q:=by omega
     rw[this,hq,Nat.add_mul];omega
    simp[go_sem,↓iO,iO,tN]
    rw[←e5,List.map_set]
    rfl
 ·obtain rfl:k=n:=by omega
  have:=hI.done rfl
  dsimp only at this
  subst this
  repeat (first|(refine n1s rfl ?_;simp[go_sem,↓iO,iO,tN,hn])|refine anI ?_|refine⟨dcK,?_⟩|refine iP ?_|refine iN ?_)
  first|rw[TqR]|rw[TqN]
  refine⟨[],?_⟩
  simp[go_sem,↓iO,iO,tN]
structure FlowOk (d:NetD) (rates prates:List Int) (pl:List T):Prop where
 pln:PlnOk d rates prates
 cap:∀ (k:Nat) s r,d.segs[k]? = some s→rates[k]? = some r→-s.1.cp≤r∧r≤s.1.cp
 pum:pl.length=d.stns.length
 bal:(sumP (sgFl d.segs rates++ptFl d.ports prates)).1=(sumP (sgFl d.segs rates++ptFl d.ports prates)).2
 acy:(ordV (sgFl d.segs rates) d.nn.length d.nn.length []).length=d.nn.length
theorem sumP_len (l:flows) (h:∀ x∈l,-1000≤x.2.2∧x.2.2≤1000):(sumP l).1.length=24∧(sumP l).2.length=24:=⟨(sumP_ok l _ _ zero24_ok h).l1,(sumP_ok l _ _ zero24_ok h).l2⟩
theorem fcheckG_fn (d:NetD) (h:NetOk d) (rates prates:List Int) (pl:List T) (hf:FlowOk d rates prates pl) :
  FnOk Tryz.prog 64 [.t (.agg d.l),.t (.agg (plnL rates prates (.sl 1 pl)))] [] (.t (.int 0)) []:=by
 have hp:=hf.pln
 have h0:=h.n0
 have h1:=h.n1
 have h3:=h.s1
 have h4:=h.p1
 have h5:=h.t1
 have q1:=hp.l1
 have q2:=hp.l2
 have q3:=hf.pum
 have c1:=ncheckG_fn d h
 have c2:=fci_cont prates (by omega) (fun p hq=>fcheck1_fn p (hp.b2 p hq))
 have c3:=sums_fn d h rates prates (.sl 1 pl) rfl hp
 have c4:=order_fn d h rates prates (.sl 1 pl) rfl hp
 obtain⟨O,hO⟩:∃ O,ordV (sgFl d.segs rates) d.nn.length d.nn.length []=O:=⟨_,rfl⟩
 rw[hO]at c4
 have q4:=hf.acy
 rw[hO]at q4
 obtain⟨A,hA⟩:∃ A,(sumP (sgFl d.segs rates++ptFl d.ports prates)).1=A:=⟨_,rfl⟩
 have hA2:=hf.bal
 rw[hA]at hA2
 have hl:A.length=24:=by
  rw[hA2]
  refine (sumP_len _ fun x hx=>?_).2
  rcases List.mem_append.1 hx with hx|hx
  ·obtain⟨y,hy,rfl⟩:=List.mem_map.1 hx
   exact hp.b1 _ (List.of_mem_zip hy).2
  ·obtain⟨y,hy,rfl⟩:=List.mem_map.1 hx
   exact hp.b2 _ (List.of_mem_zip hy).2
 simp only[strT,←hA2,hA]at c3
 have hq:eqAs Tryz.prog 3 (A.map encI) (A.map encI)=some true:=eq_ints A
 refine FnOk.intro fact_mixed Tryz.func64 rfl Tryz.ntmps64 (by rfl) (by simp) ?_
 repeat (first|(refine n1s rfl ?_;simp[go_sem,↓iO,iO,tN])|refine anI ?_|refine⟨dcK,?_⟩|refine iP ?_|refine iN ?_)
 refine cF (c1) [] ?_ ?_ ?_ ?_<;>simp[go_sem,↓iO,iO,tN]
 repeat (first|(refine n1s rfl ?_;simp[go_sem,↓iO,iO,tN,q1,q2,q3])|refine anI ?_|refine⟨dcK,?_⟩|refine iP ?_|refine iN ?_)
 refine nf1_sound' _ _ _ ?_;simp only[nf1]
 refine CW.loop (ι:=Nat) (fun k=>⟨[(2,.pt 502 [] 0),(3,.pt 503 [] 0),(40,.t (.sl 7 (d.segs.map encSg))),(41,.t (.int d.segs.length)),(42,.t (.int k))],[(502,.box 33 (.t (.agg d.l))),(503,.box 45 (.t (.agg (plnL rates prates (.sl 1 pl)))))]⟩) (fun k=>k≤d.segs.length) (fun k=>d.segs.length - k) 0 [(502,some 102),(503,some 103)] (by omega) ?_ ?_
 ·simp[go_sem,↓iO,iO,tN]
 intro k hk
 by_cases hb:k < d.segs.length
 ·obtain⟨s,hs⟩:=has_get hb
  obtain⟨r,hr⟩:∃ r,rates[k]? = some r:=has_get (by omega)
  have e1:=hf.cap k s r hs hr
  have e2:=hp.b1 r (mem_get hr)
  have e3:=(h.pipe s (mem_get hs)).cap
  obtain⟨⟨nm,fr,to,cp,rs,wv⟩,pts⟩:=s
  dsimp only at e1 e3
  obtain⟨m,hm⟩:∃ m,min 1000 cp=m:=⟨_,rfl⟩
  have c5:=within_fn r m (by omega) (by omega)
  repeat (first|(refine n1s rfl ?_;simp[go_sem,↓iO,iO,tN,hs,hr,hm])|refine anI ?_|refine⟨dcK,?_⟩|refine iP ?_|refine iN ?_)
  refine cF (c5) [] ?_ ?_ ?_ ?_<;>simp[go_sem,↓iO,iO,tN,hs,hr,hm]
  repeat (first|(refine n1s rfl ?_;simp[go_sem,↓iO,iO,tN])|refine anI ?_|refine⟨dcK,?_⟩|refine iP ?_|refine iN ?_)
  rw[RqN];refine⟨k+1,[(502,some 502),(503,some 503)],?_,?_,?_⟩
  ·omega
  ·omega
  simp[go_sem,↓iO,iO,tN]
 ·obtain rfl:k=d.segs.length:=by omega
  repeat (first|(refine n1s rfl ?_;simp[go_sem,↓iO,iO,tN])|refine anI ?_|refine⟨dcK,?_⟩|refine iP ?_|refine iN ?_)
  refine cF (c2) [] ?_ ?_ ?_ ?_<;>simp[go_sem,↓iO,iO,tN]
  repeat (first|(refine n1s rfl ?_;simp[go_sem,↓iO,iO,tN])|refine anI ?_|refine⟨dcK,?_⟩|refine iP ?_|refine iN ?_)
  refine cF (c3) [] ?_ ?_ ?_ ?_<;>simp[go_sem,↓iO,iO,tN,hl]
  repeat (first|(refine n1s rfl ?_;simp[go_sem,↓iO,iO,tN,hl,am_f,am_a,am_g,am_c,hq])|refine anI ?_|refine⟨dcK,?_⟩|refine iP ?_|refine iN ?_)
  refine cF (c4) [] ?_ ?_ ?_ ?_<;>simp[go_sem,↓iO,iO,tN]
  repeat (first|(refine n1s rfl ?_;simp[go_sem,↓iO,iO,tN,q4])|refine anI ?_|refine⟨dcK,?_⟩|refine iP ?_|refine iN ?_)
  first|rw[TqR]|rw[TqN]
  refine⟨[],?_⟩
  simp[go_sem,↓iO,iO,tN]
theorem forderG_fn (d:NetD) (h:NetOk d) (rates prates:List Int) (pl:List T) (hf:FlowOk d rates prates pl) :
  FnOk Tryz.prog 48 [.t (.agg d.l),.t (.agg (plnL rates prates (.sl 1 pl)))] [] (.tup [.t (.sl 1 (((ordV (sgFl d.segs rates) d.nn.length d.nn.length []).map Int.ofNat).map encI)),.t (.int 0)]) []:=by
 have c1:=fcheckG_fn d h rates prates pl hf
 have c4:=order_fn d h rates prates (.sl 1 pl) rfl hf.pln
 obtain⟨O,hO⟩:∃ O,ordV (sgFl d.segs rates) d.nn.length d.nn.length []=O:=⟨_,rfl⟩
 rw[hO]at c4 ⊢
 refine FnOk.intro fact_mixed Tryz.func48 rfl Tryz.ntmps48 (by rfl) (by simp) ?_
 repeat (first|(refine n1s rfl ?_;simp[go_sem,↓iO,iO,tN])|refine anI ?_|refine⟨dcK,?_⟩|refine iP ?_|refine iN ?_)
 refine cF (c1) [] ?_ ?_ ?_ ?_<;>simp[go_sem,↓iO,iO,tN]
 repeat (first|(refine n1s rfl ?_;simp[go_sem,↓iO,iO,tN])|refine anI ?_|refine⟨dcK,?_⟩|refine iP ?_|refine iN ?_)
 refine cF (c4) [] ?_ ?_ ?_ ?_<;>simp[go_sem,↓iO,iO,tN]
 repeat (first|(refine n1s rfl ?_;simp[go_sem,↓iO,iO,tN])|refine anI ?_|refine⟨dcK,?_⟩|refine iP ?_|refine iN ?_)
 first|rw[TqR]|rw[TqN]
 refine⟨[],?_⟩
 simp[go_sem,↓iO,iO,tN]
end Go.Proofs.YtdjmklobfjigoaaGreatDoor
namespace Go.Proofs.YtdjmklobfjigoaaGreatDoor
open Go.RowKit Sy Dl
theorem nodup_map_range {α:Type} (f:Nat→α) (n:Nat) (h:∀ i j,i < n→j < n→f i=f j→i=j):((List.range n).map f).Nodup:=by
 induction n with
 | zero=>simp
 | succ n ih=>
  rw[map_range_succ,List.nodup_append]
  refine⟨ih fun i j hi hj=>h i j (by omega) (by omega),by simp,fun a ha b hb e=>?_⟩
  obtain⟨i,hi,rfl⟩:=List.mem_map.1 ha
  simp at hb
  subst hb
  have hi:=List.mem_range.1 hi
  have:=h i n (by omega) (by omega) e
  omega
end Go.Proofs.YtdjmklobfjigoaaGreatDoor
namespace Go.Proofs.YtdjmklobfjigoaaGreatDoor
open Go.RowKit Sy
open Go.IntWalk renaming iteOmega → iO, toNatUp → tN
def nwPs:List Int:=[300000,1000000,0,5000000]
def nwPt (l:List Int) (m i k:Nat) (p:List Prt):Nat×List Prt:=
 if i=0∨i=m then (nextK l k,p++[([113,97+p.length],(i:Int),pickV l k nwPs)])
 else if nV l k 2=0 then (nextK l (nextK l k),p++[([113,97+p.length],(i:Int),pickV l (nextK l k) nwPs)])
 else (nextK l k,p)
def nwSt (l:List Int) (m i k:Nat) (s:List Stn):Nat×List Stn:=
 if i < m then
  (
   if nV l k 3=0 then (nextK l (nextK l (nextK l (nextK l k))),s++[([115,97+s.length],(i:Int),pickV l (nextK l k) [500000,2000000,0],pickV l (nextK l (nextK l k)) [0,200,100000],pickV l (nextK l (nextK l (nextK l k))) [0,100000,400000])])
   else (nextK l k,s))
 else (k,s)
def nwW (l:List Int) (m k0:Nat):Nat→Nat×List Prt×List Stn
 | 0=>(k0,[],[])
 | i+1=>((nwSt l m i (nwPt l m i (nwW l m k0 i).1 (nwW l m k0 i).2.1).1 (nwW l m k0 i).2.2).1,(nwPt l m i (nwW l m k0 i).1 (nwW l m k0 i).2.1).2,(nwSt l m i (nwPt l m i (nwW l m k0 i).1 (nwW l m k0 i).2.1).1 (nwW l m k0 i).2.2).2)
structure NwP (l:List Int) (i:Nat) (k:Nat) (p:List Prt):Prop where
 src:SrcOk l k
 len:p.length≤i
 one:1≤i→1≤p.length
 at_:∀ (j:Nat) x,p[j]? = some x→x.1=[113,97+j]∧(0≤x.2.1∧x.2.1 < i)∧0≤x.2.2∧x.2.2≤5000000
structure NwS (l:List Int) (m i:Nat) (k:Nat) (s:List Stn):Prop where
 src:SrcOk l k
 len:s.length≤i∧s.length≤m
 at_:∀ (j:Nat) x,s[j]? = some x→x.1=[115,97+j]∧(0≤x.2.1∧x.2.1 < i∧x.2.1 < m)∧(0≤x.2.2.1∧x.2.2.1≤2000000)∧(0≤x.2.2.2.1∧x.2.2.2.1≤100000)∧0≤x.2.2.2.2∧x.2.2.2.2≤400000
 nd:(s.map fun x=>x.2.1).Nodup
theorem snoc_get {α:Type} {l:List α} {a x:α} {j:Nat} (h:(l++[a])[j]? = some x):(j < l.length∧l[j]? = some x)∨(j=l.length∧x=a):=by
 by_cases hj:j < l.length
 ·rw[List.getElem?_append_left hj]at h
  exact Or.inl ⟨hj,h⟩
 ·have hl:=(List.getElem?_eq_some_iff.1 h).1
  simp at hl
  have:j=l.length:=by omega
  subst this
  simp at h
  exact Or.inr ⟨rfl,h.symm⟩
theorem nwPs_bd {l:List Int} {k:Nat}:0≤pickV l k nwPs∧pickV l k nwPs≤5000000:=by
 have:=pickV_mem (l:=l) (k:=k) (xs:=nwPs) (by simp[nwPs])
 obtain⟨v,hv⟩:∃ v,pickV l k nwPs=v:=⟨_,rfl⟩
 rw[hv]at this ⊢
 simp[nwPs]at this;omega
theorem nwPt_ok {l:List Int} {m i k:Nat} {p:List Prt} (h:NwP l i k p):NwP l (i+1) (nwPt l m i k p).1 (nwPt l m i k p).2:=by
 have gen:∀ (k':Nat) (v:Int),SrcOk l k'→0≤v∧v≤5000000→NwP l (i+1) k' (p++[([113,97+p.length],(i:Int),v)]):=fun k' v h1 h2=>by
  refine⟨h1,by have:=h.len;simp;omega,fun _=>by simp,fun j x hx=>?_⟩
  rcases snoc_get hx with ⟨hj,hx⟩|⟨rfl,rfl⟩
  ·obtain⟨a1,a2,a3⟩:=h.at_ j x hx
   exact⟨a1,by omega,a3⟩
  ·exact⟨rfl,by dsimp only;omega,h2⟩
 unfold nwPt
 split
 ·exact gen _ _ h.src.next nwPs_bd
 ·rename_i hn
  split
  ·exact gen _ _ h.src.next.next nwPs_bd
  ·exact⟨h.src.next,by have:=h.len;dsimp only;omega,fun _=>h.one (by omega),fun j x hx=>by
    obtain⟨a1,a2,a3⟩:=h.at_ j x hx
    exact⟨a1,by omega,a3⟩⟩
theorem nwSt_ok {l:List Int} {m i k:Nat} {s:List Stn} (h:NwS l m i k s):NwS l m (i+1) (nwSt l m i k s).1 (nwSt l m i k s).2:=by
 have keep:∀ k',SrcOk l k'→NwS l m (i+1) k' s:=fun k' h1=>⟨h1,by have:=h.len;omega,fun j x hx=>by
  obtain⟨a1,a2,a3⟩:=h.at_ j x hx
  exact⟨a1,by omega,a3⟩,h.nd⟩
 unfold nwSt
 split
 ·rename_i him
  split
  ·have b1:=pickV_mem (l:=l) (k:=nextK l k) (xs:=[500000,2000000,0]) (by simp)
   have b2:=pickV_mem (l:=l) (k:=nextK l (nextK l k)) (xs:=[0,200,100000]) (by simp)
   have b3:=pickV_mem (l:=l) (k:=nextK l (nextK l (nextK l k))) (xs:=[0,100000,400000]) (by simp)
   simp at b1 b2 b3
   have hle:s.length≤i:=h.len.1
   refine⟨h.src.next.next.next.next,?_,fun j x hx=>?_,?_⟩
   ·simp only[List.length_append,List.length_cons,List.length_nil]
    have hnd:=h.nd
    have hsub:s.length≤i:=h.len.1
    omega
   ·rcases snoc_get hx with ⟨hj,hx⟩|⟨rfl,rfl⟩
    ·obtain⟨a1,a2,a3⟩:=h.at_ j x hx
     exact⟨a1,by omega,a3⟩
    ·exact⟨rfl,by dsimp only;omega,by dsimp only;omega,by dsimp only;omega,by dsimp only;omega⟩
   ·simp only[List.map_append,List.map_cons,List.map_nil]
    refine List.nodup_append.2 ⟨h.nd,by simp,fun a ha b hb e=>?_⟩
    simp at hb
    obtain⟨x,hx,rfl⟩:=List.mem_map.1 ha
    obtain⟨j,hj,ex⟩:=List.getElem_of_mem hx
    have:=(h.at_ j x (by rw[←ex];exact List.getElem?_eq_getElem hj)).2.1
    omega
  ·exact keep _ h.src.next
 ·exact keep _ h.src
theorem nwW_ok {l:List Int} {m k0:Nat} (h:SrcOk l k0):∀ i,NwP l i (nwW l m k0 i).1 (nwW l m k0 i).2.1∧NwS l m i (nwW l m k0 i).1 (nwW l m k0 i).2.2
 | 0=>⟨⟨h,Nat.le_refl _,fun h=>by omega,fun j x hx=>by simp[nwW]at hx⟩,⟨h,by simp[nwW],fun j x hx=>by simp[nwW]at hx,by simp[nwW]⟩⟩
 | i+1=>by
  obtain⟨h1,h2⟩:=nwW_ok h i
  have a1:=nwPt_ok (m:=m) h1
  have a2:=nwSt_ok (k:=(nwPt l m i (nwW l m k0 i).1 (nwW l m k0 i).2.1).1) ⟨a1.src,h2.len,h2.at_,h2.nd⟩
  exact⟨⟨a2.src,a1.len,a1.one,a1.at_⟩,a2⟩
def SgX (l:List Int) (m j k:Nat) (x:Sgm×Nat×Nat) (k':Nat):Prop:=j < 15→x.1.1.nm=[103,97+(m+j)]∧((x.1.1.fr=(x.2.1:Int)∧x.1.1.to=(x.2.2:Int))∨(x.1.1.fr=(x.2.2:Int)∧x.1.1.to=(x.2.1:Int)))∧(x.2.1 < x.2.2∧x.2.2≤m)∧PipeOk x.1∧x.1.1.cp≤1000∧
  FnOk Tryz.prog 21 [.pt 0 [] 0,.t (.int (m:Int))] [(0,srcB l k)] (.t (.int (x.2.1:Int))) [(0,srcB l (nextK l k))]∧
  FnOk Tryz.prog 8 [.pt 0 [] 0,.t (.int ((x.2.1:Int)+1)),.t (.int (m:Int))] [(0,srcB l (nextK l k))] (.t (.int (x.2.2:Int))) [(0,srcB l (nextK l (nextK l k)))]∧
  FnOk Tryz.prog 34 [.pt 0 [] 0,.t (.int ((m+j:Nat):Int)),.t (.int (x.2.1:Int)),.t (.int (x.2.2:Int))] [(0,srcB l (nextK l (nextK l k)))] (.t (encSg x.1)) [(0,srcB l k')]
theorem sgx_ex (l:List Int) (m k0:Nat) (hm:1≤m∧m≤5) (h:SrcOk l k0):∃ (K:Nat→Nat) (X:Nat→Sgm×Nat×Nat),K 0=k0∧∀ j,SrcOk l (K j)∧SgX l m j (K j) (X j) (K (j+1)):=
 choices (SgX l m) (SrcOk l) k0 h fun j k hk=>by
  by_cases hj:j < 15
  ·have n1:=n_fn l k m hk (by omega)
   have n2:=nV_range (l:=l) (k:=k) (n:=m) (by omega)
   obtain⟨a,ha⟩:∃ a:Nat,nV l k m=(a:Int):=⟨(nV l k m).toNat,by omega⟩
   rw[ha]at n1 n2
   have r1:=range_fn l (nextK l k) ((a:Int)+1) m hk.next (by omega) (by omega) (by omega)
   have r2:=rangeV_range (l:=l) (k:=nextK l k) (lo:=(a:Int)+1) (hi:=m) (by omega)
   obtain⟨t,ht⟩:∃ t:Nat,rangeV l (nextK l k) ((a:Int)+1) m=(t:Int):=⟨(rangeV l (nextK l k) ((a:Int)+1) m).toNat,by omega⟩
   rw[ht]at r1 r2
   obtain⟨s,k',h1,h2,h3,h4,h5,h6⟩:=seg_ex l _ hk.next.next (m+j) (by omega) a t (by omega) (by omega) (by omega)
   exact⟨(s,a,t),k',h1,fun _=>⟨h2,h3,by dsimp only;omega,h4,h5,n1,r1,h6⟩⟩
  ·exact⟨((⟨[],0,0,0,0,0⟩,[]),0,0),k,hk,fun h=>absurd h hj⟩
def nwS (m:Nat) (S:Nat→Sgm) (X:Nat→Sgm×Nat×Nat) (i:Nat):Sgm:=if i < m then S i else (X (i - m)).1
def nwD (m e:Nat) (S:Nat→Sgm) (X:Nat→Sgm×Nat×Nat) (P:List Prt) (Z:List Stn) (v st:Int):NetD:=⟨(List.range (m+1)).map fun i=>[110,97+i],(List.range (m+e)).map (nwS m S X),P,Z,v,st⟩
theorem nwS_ok {l:List Int} {m e:Nat} {S:Nat→Sgm} {X:Nat→Sgm×Nat×Nat} {K1 K2:Nat→Nat} (hm:1≤m∧m≤5) (he:e≤3) (h1:∀ j,SrcOk l (K1 j)∧SgC l j (K1 j) (S j) (K1 (j+1))) (h2:∀ j,SrcOk l (K2 j)∧SgX l m j (K2 j) (X j) (K2 (j+1))) (i:Nat) (hi:i < m+e) :
  (nwS m S X i).1.nm=[103,97+i]∧PipeOk (nwS m S X i)∧(nwS m S X i).1.cp≤1000∧(0≤(nwS m S X i).1.fr∧(nwS m S X i).1.fr≤m)∧0≤(nwS m S X i).1.to∧(nwS m S X i).1.to≤m:=by
 unfold nwS
 split
 ·obtain⟨a1,a2,a3,a4,_⟩:=(h1 i).2 (by omega)
  refine⟨a1,a3,a4,?_⟩
  omega
 ·obtain⟨a1,a2,a5,a3,a4,_⟩:=(h2 (i - m)).2 (by omega)
  refine⟨by rw[a1];congr 2;omega,a3,a4,?_⟩
  omega
theorem nodup_names {c:Nat} {L:List (List Nat)} (h:∀ (j:Nat) x,L[j]? = some x→x=[c,97+j]):L.Nodup:=by
 refine List.pairwise_iff_getElem.2 fun i j hi hj hij e=>?_
 have h1:=h i L[i] (List.getElem?_eq_getElem hi)
 have h2:=h j L[j] (List.getElem?_eq_getElem hj)
 rw[h1,h2]at e
 simp at e
 omega
theorem nwD_ok {m e:Nat} {S:Nat→Sgm} {X:Nat→Sgm×Nat×Nat} {l:List Int} {k1 k2:Nat} {P:List Prt} {Z:List Stn} {v st:Int} (hm:1≤m∧m≤5) (he:e≤3)
  (hS:∀ i,i < m+e→(nwS m S X i).1.nm=[103,97+i]∧PipeOk (nwS m S X i)∧(nwS m S X i).1.cp≤1000∧(0≤(nwS m S X i).1.fr∧(nwS m S X i).1.fr≤m)∧0≤(nwS m S X i).1.to∧(nwS m S X i).1.to≤m)
  (hP:NwP l (m+1) k1 P) (hZ:NwS l m (m+1) k2 Z) (hv:v∈[(-100000:Int),0,50000]) (hst:st∈[(0:Int),1,5,100]):NetOk (nwD m e S X P Z v st):=by
 have two:∀ (c i:Nat),97≤c→c≤122→i≤20→NameOk [c,97+i]:=fun c i h1 h2 h3=>name_ok _ (by simp) (by simp) (fun x hx=>by simp at hx;omega)
 have hPl:=hP.len
 have hZl:=hZ.len
 have gs:∀ s∈(List.range (m+e)).map (nwS m S X),∃ i,i < m+e∧s=nwS m S X i:=fun s hs=>by
  obtain⟨i,hi,rfl⟩:=List.mem_map.1 hs
  exact⟨i,List.mem_range.1 hi,rfl⟩
 have gp:∀ p∈P,∃ j:Nat,P[j]? = some p∧j < P.length:=fun p hp=>by
  obtain⟨j,hj,e⟩:=List.getElem_of_mem hp
  exact⟨j,by rw[←e];exact List.getElem?_eq_getElem hj,hj⟩
 have gz:∀ p∈Z,∃ j:Nat,Z[j]? = some p∧j < Z.length:=fun p hp=>by
  obtain⟨j,hj,e⟩:=List.getElem_of_mem hp
  exact⟨j,by rw[←e];exact List.getElem?_eq_getElem hj,hj⟩
 simp at hv hst
 refine⟨by simp[nwD],by simp[nwD];omega,by simp[nwD];omega,by show P.length≤24;omega,by show Z.length≤12;omega,?_,?_,?_,?_,?_,?_,?_,?_,hZ.nd,?_,?_,?_,?_,?_,?_,by show -100000≤v∧v≤100000000;omega,by show 0≤st∧st≤100;omega⟩
 ·intro k hk
  obtain⟨i,hi,rfl⟩:=List.mem_map.1 hk
  have hi:=List.mem_range.1 hi
  exact two 110 i (by omega) (by omega) (by omega)
 ·intro s hs
  obtain⟨i,hi,rfl⟩:=gs s hs
  rw[(hS i hi).1]
  exact two 103 i (by omega) (by omega) (by omega)
 ·intro p hp
  obtain⟨j,hj,hjl⟩:=gp p hp
  rw[(hP.at_ j p hj).1]
  exact two 113 j (by omega) (by omega) (by omega)
 ·intro p hp
  obtain⟨j,hj,hjl⟩:=gz p hp
  rw[(hZ.at_ j p hj).1]
  exact two 115 j (by omega) (by omega) (by omega)
 ·exact nodup_map_range _ _ fun i j _ _ e=>by simpa using e
 ·simp only[nwD,List.map_map]
  refine nodup_map_range _ _ fun i j hi hj e=>?_
  simp only[Function.comp,(hS i hi).1,(hS j hj).1]at e
  simpa using e
 ·show (P.map fun p=>p.1).Nodup
  refine nodup_names (c:=113) fun j x hx=>?_
  obtain⟨p,hp,rfl⟩:∃ p,P[j]? = some p∧p.1=x:=by simpa using hx
  exact (hP.at_ j p hp).1
 ·show (Z.map fun p=>p.1).Nodup
  refine nodup_names (c:=115) fun j x hx=>?_
  obtain⟨p,hp,rfl⟩:∃ p,Z[j]? = some p∧p.1=x:=by simpa using hx
  exact (hZ.at_ j p hp).1
 ·intro s hs
  obtain⟨i,hi,rfl⟩:=gs s hs
  have:=hS i hi
  simp only[nwD,List.length_map,List.length_range]
  omega
 ·intro p hp
  obtain⟨j,hj,hjl⟩:=gp p hp
  have:=hP.at_ j p hj
  simp only[nwD,List.length_map,List.length_range]
  omega
 ·intro p hp
  obtain⟨j,hj,hjl⟩:=gz p hp
  have:=hZ.at_ j p hj
  simp only[nwD,List.length_map,List.length_range]
  omega
 ·intro s hs
  obtain⟨i,hi,rfl⟩:=gs s hs
  exact (hS i hi).2.1
 ·intro p hp
  obtain⟨j,hj,hjl⟩:=gp p hp
  have:=hP.at_ j p hj
  omega
 ·intro p hp
  obtain⟨j,hj,hjl⟩:=gz p hp
  have:=hZ.at_ j p hj
  omega
theorem network_ex (l:List Int) (k:Nat) (h:SrcOk l k):∃ (k':Nat) (d:NetD),SrcOk l k'∧NetOk d∧(1≤d.segs.length∧d.segs.length≤8)∧(1≤d.ports.length∧d.ports.length≤6)∧d.nn.length≤6∧d.stns.length≤6∧(∀ s∈d.segs,s.1.cp≤1000)∧
  FnOk Tryz.prog 20 [.pt 0 [] 0] [(0,srcB l k)] (.t (.agg d.l)) [(0,srcB l k')]:=by
 obtain⟨vp,hvp,cv⟩:=pick_ex h [-100000,0,50000] (by simp) (by simp)
 obtain⟨st,hst,cs⟩:=pick_ex h.next [0,1,5,100] (by simp) (by simp)
 have cr:=range_fn l _ 2 6 h.next.next (by omega) (by omega) (by omega)
 have br:=rangeV_range (l:=l) (k:=nextK l (nextK l k)) (lo:=2) (hi:=6) (by omega)
 obtain⟨m,hm⟩:∃ m:Nat,rangeV l (nextK l (nextK l k)) 2 6=((m+1:Nat):Int):=⟨(rangeV l (nextK l (nextK l k)) 2 6).toNat - 1,by omega⟩
 rw[hm]at cr br
 have hmm:1≤m∧m≤5:=by omega
 obtain⟨K1,S,hK1,hS1⟩:=segs_ex l _ h.next.next.next
 have ce:=n_fn l (K1 m) 4 (hS1 m).1 (by omega)
 have be:=nV_range (l:=l) (k:=K1 m) (n:=4) (by omega)
 obtain⟨e,he⟩:∃ e:Nat,nV l (K1 m) 4=(e:Int):=⟨(nV l (K1 m) 4).toNat,by omega⟩
 rw[he]at ce be
 obtain⟨K2,X,hK2,hX2⟩:=sgx_ex l m _ hmm (hS1 m).1.next
 have hSS:=nwS_ok hmm (by omega:e≤3) hS1 hX2
 have hW:=nwW_ok (m:=m) (hX2 e).1
 obtain⟨hP,hZ⟩:=hW (m+1)
 have hD:=nwD_ok (e:=e) hmm (by omega) hSS hP hZ hvp hst
 refine⟨_,_,hP.src,hD,by simp[nwD];omega,⟨hP.one (by omega),by have:=hP.len;show (nwW l m (K2 e) (m+1)).2.1.length≤6;omega⟩,by simp[nwD];omega,by have:=hZ.len;show (nwW l m (K2 e) (m+1)).2.2.length≤6;omega,fun s hs=>by
  obtain⟨i,hi,rfl⟩:=List.mem_map.1 hs
  exact (hSS i (List.mem_range.1 hi)).2.2.1,?_⟩
 have e1:(nwD m e S X (nwW l m (K2 e) (m+1)).2.1 (nwW l m (K2 e) (m+1)).2.2 vp st).l=[.sl 1 ((List.range (m+1)).map ndT),.sl 7 ((List.range (m+e)).map fun i=>encSg (nwS m S X i)),.sl 3 ((nwW l m (K2 e) (m+1)).2.1.map encPr),.sl 5 ((nwW l m (K2 e) (m+1)).2.2.map encSn),.int vp,.int st]:=by
  simp only[NetD.l,nwD,List.map_map]
  rfl
 rw[e1]
 obtain⟨N,hN⟩:∃ N:Nat→List T,∀ j,(List.range j).map ndT=N j:=⟨_,fun _=>rfl⟩
 have N0:N 0=[]:=by rw[←hN];rfl
 have Ns:∀ j,N (j+1)=N j++[.lit (.string (str [110,97+j]))]:=fun j=>by rw[←hN,map_range_succ,hN];rfl
 have Nl:∀ j,(N j).length=j:=fun j=>by rw[←hN];simp
 obtain⟨G,hG⟩:∃ G:Nat→List T,∀ j,((List.range j).map fun i=>encSg (nwS m S X i))=G j:=⟨_,fun _=>rfl⟩
 have G0:G 0=[]:=by rw[←hG];rfl
 have Gs:∀ j,j < m→G (j+1)=G j++[encSg (S j)]:=fun j hj=>by rw[←hG,map_range_succ,hG];simp only[nwS,if_pos hj]
 have Gx:∀ j,G (m+j+1)=G (m+j)++[encSg (X j).1]:=fun j=>by rw[←hG,map_range_succ,hG];simp only[nwS];rw[if_neg (by omega),Nat.add_sub_cancel_left]
 have Gl:∀ j,(G j).length=j:=fun j=>by rw[←hG];simp
 rw[hN,hG]
 have hk3:=h.next.next.next
 rw[←hK1]at cr
 rw[←hK2]at ce
 refine FnOk.intro fact_mixed Tryz.func20 rfl Tryz.ntmps20 (by rfl) (by simp) ?_
 repeat (first|(refine n1s rfl ?_;simp[go_sem,↓iO,iO,tN])|refine anI ?_|refine⟨dcK,?_⟩|refine iP ?_|refine iN ?_)
 refine CallK.fn (cv) [(0,0)] [] [111] (by kernel_rfl) ?_ ?_ ?_ (Or.inl rfl) ?_<;>simp[go_sem,↓iO,iO,tN]
 repeat (first|(refine n1s rfl ?_;simp[go_sem,↓iO,iO,tN])|refine anI ?_|refine⟨dcK,?_⟩|refine iP ?_|refine iN ?_)
 refine CallK.fn (cs) [(0,0)] [] [114] (by kernel_rfl) ?_ ?_ ?_ (Or.inl rfl) ?_<;>simp[go_sem,↓iO,iO,tN]
 repeat (first|(refine n1s rfl ?_;simp[go_sem,↓iO,iO,tN])|refine anI ?_|refine⟨dcK,?_⟩|refine iP ?_|refine iN ?_)
 refine cF (cr) [(0,0)] ?_ ?_ ?_ ?_<;>simp[go_sem,↓iO,iO,tN]
 repeat (first|(refine n1s rfl ?_;simp[go_sem,↓iO,iO,tN])|refine anI ?_|refine⟨dcK,?_⟩|refine iP ?_|refine iN ?_)
 refine nf1_sound' _ _ _ ?_;simp only[nf1]
 refine CW.loop (ι:=Nat) (fun j=>⟨[(0,.pt 0 [] 0),(2,.pt 502 [] 0),(3,.pt 503 [] 0),(4,.t (.int (((m+1:Nat):Int) - j)))],[(0,srcB l (K1 0)),(502,.box 33 (.t (.agg [.lit (.slice none 0 0),.lit (.slice none 0 0),.lit (.slice none 0 0),.lit (.slice none 0 0),.int 0,.int 0]))),(503,.box 33 (.ag [.own 514,.t (.lit (.slice none 0 0)),.t (.lit (.slice none 0 0)),.t (.lit (.slice none 0 0)),.t (.int vp),.t (.int st)])),(514,.list 9 1 (N j))]⟩) (fun j=>j≤m+1) (fun j=>m+1 - j) 0 [(0,some 0),(502,some 102),(503,some 103),(514,none)] (by omega) ?_ ?_
 ·simp[go_sem,↓iO,iO,tN,N0]
  simp only[wkXs]
  exact⟨rfl,rfl,wkT_refl _,rfl,wkT_refl _,rfl,wkT_refl _,rfl,wkT_refl _,rfl,wkT_refl _,rfl,trivial⟩
 intro j hj
 have nl:=Nl j
 by_cases hb:j < m+1
 ·have ns:=Ns j
  have cn:=kname_fn 110 ⟨#[110]⟩ rfl j (by omega)
  obtain⟨N1,hN1⟩:∃ X,N j=X:=⟨_,rfl⟩
  rw[hN1]at nl ns ⊢
  repeat (first|(refine n1s rfl ?_;simp[go_sem,↓iO,iO,tN,hb,nl])|refine anI ?_|refine⟨dcK,?_⟩|refine iP ?_|refine iN ?_)
  refine cF (cn) [] ?_ ?_ ?_ ?_<;>simp[go_sem,↓iO,iO,tN,nl]
  repeat (first|(refine n1s rfl ?_;simp[go_sem,↓iO,iO,tN,hb,nl])|refine anI ?_|refine⟨dcK,?_⟩|refine iP ?_|refine iN ?_)
  rw[RqN];refine⟨j+1,[(0,some 0),(502,some 502),(503,some 503),(514,some 130)],?_,?_,?_⟩
  ·omega
  ·omega
  simp[go_sem,↓iO,iO,tN,ns]
  omega
 ·obtain rfl:j=m+1:=by omega
  obtain⟨NN,hNN⟩:∃ X,N (m+1)=X:=⟨_,rfl⟩
  rw[hNN]at nl ⊢
  repeat (first|(refine n1s rfl ?_;simp[go_sem,↓iO,iO,tN,nl])|refine anI ?_|refine⟨dcK,?_⟩|refine iP ?_|refine iN ?_)
  refine nf1_sound' _ _ _ ?_;simp only[nf1]
  refine CW.loop (ι:=Nat) (fun j=>⟨[(0,.pt 0 [] 0),(2,.pt 502 [] 0),(3,.pt 503 [] 0),(5,.t (.int m)),(6,.t (.int j))],[(0,srcB l (K1 j)),(502,.box 33 (.t (.agg [.lit (.slice none 0 0),.lit (.slice none 0 0),.lit (.slice none 0 0),.lit (.slice none 0 0),.int 0,.int 0]))),(503,.box 33 (.ag [.t (.sl 1 NN),.own 522,.t (.lit (.slice none 0 0)),.t (.lit (.slice none 0 0)),.t (.int vp),.t (.int st)])),(522,.list 38 7 (G j))]⟩) (fun j=>j≤m) (fun j=>m - j) 0 [(0,some 0),(502,some 502),(503,some 503),(522,none)] (by omega) ?_ ?_
  ·simp[go_sem,↓iO,iO,tN,G0,nl]
  intro j hj
  have gl:=Gl j
  by_cases hb:j < m
  ·have gs:=Gs j hb
   obtain⟨_,_,_,_,csg⟩:=(hS1 j).2 (by omega)
   obtain⟨G1,hG1⟩:∃ X,G j=X:=⟨_,rfl⟩
   rw[hG1]at gl gs ⊢
   repeat (first|(refine n1s rfl ?_;simp[go_sem,↓iO,iO,tN,hb,gl])|refine anI ?_|refine⟨dcK,?_⟩|refine iP ?_|refine iN ?_)
   refine cF (csg) [(0,0)] ?_ ?_ ?_ ?_<;>simp[go_sem,↓iO,iO,tN,hb,gl]
   repeat (first|(refine n1s rfl ?_;simp[go_sem,↓iO,iO,tN,hb,gl])|refine anI ?_|refine⟨dcK,?_⟩|refine iP ?_|refine iN ?_)
   rw[RqN];refine⟨j+1,[(0,some 0),(502,some 502),(503,some 503),(522,some 152)],?_,?_,?_⟩
   ·omega
   ·omega
   simp[go_sem,↓iO,iO,tN,gs]
  ·obtain rfl:j=m:=by omega
   repeat (first|(refine n1s rfl ?_;simp[go_sem,↓iO,iO,tN])|refine anI ?_|refine⟨dcK,?_⟩|refine iP ?_|refine iN ?_)
   refine cF (ce) [(0,0)] ?_ ?_ ?_ ?_<;>simp[go_sem,↓iO,iO,tN]
   repeat (first|(refine n1s rfl ?_;simp[go_sem,↓iO,iO,tN])|refine anI ?_|refine⟨dcK,?_⟩|refine iP ?_|refine iN ?_)
   refine nf1_sound' _ _ _ ?_;simp only[nf1]
   refine CW.loop (ι:=Nat) (fun i=>⟨[(0,.pt 0 [] 0),(2,.pt 502 [] 0),(3,.pt 503 [] 0),(5,.t (.int j)),(7,.t (.int ((e:Int) - i)))],[(0,srcB l (K2 i)),(502,.box 33 (.t (.agg [.lit (.slice none 0 0),.lit (.slice none 0 0),.lit (.slice none 0 0),.lit (.slice none 0 0),.int 0,.int 0]))),(503,.box 33 (.ag [.t (.sl 1 NN),.own 522,.t (.lit (.slice none 0 0)),.t (.lit (.slice none 0 0)),.t (.int vp),.t (.int st)])),(522,.list 38 7 (G (j+i)))]⟩) (fun i=>i≤e) (fun i=>e - i) 0 [(0,some 0),(502,some 502),(503,some 503),(522,some 522)] (by omega) ?_ ?_
   ·simp[go_sem,↓iO,iO,tN]
   intro i hi
   have gl:=Gl (j+i)
   by_cases hb2:i < e
   ·have gs:=Gx i
    obtain⟨_,_,a5,_,_,x1,x2,x3⟩:=(hX2 i).2 (by omega)
    obtain⟨G1,hG1⟩:∃ X,G (j+i)=X:=⟨_,rfl⟩
    rw[hG1]at gl gs ⊢
    obtain⟨⟨s,a,t⟩,hXi⟩:∃ x,X i=x:=⟨_,rfl⟩
    rw[hXi]at x1 x2 x3 gs a5
    dsimp only at x1 x2 x3 gs a5
    have gl2:(G1.length:Int)=((j+i:Nat):Int):=by rw[gl]
    repeat (first|(refine n1s rfl ?_;simp[go_sem,↓iO,iO,tN,hb2])|refine anI ?_|refine⟨dcK,?_⟩|refine iP ?_|refine iN ?_)
    refine cF (x1) [(0,0)] ?_ ?_ ?_ ?_<;>simp[go_sem,↓iO,iO,tN]
    repeat (first|(refine n1s rfl ?_;simp[go_sem,↓iO,iO,tN,gl])|refine anI ?_|refine⟨dcK,?_⟩|refine iP ?_|refine iN ?_)
    refine cF (x2) [(0,0)] ?_ ?_ ?_ ?_<;>simp[go_sem,↓iO,iO,tN,gl]
    repeat (refine anI ?_)
    try (refine⟨dcK,?_⟩)
    refine cF (x3) [(0,0)] ?_ ?_ ?_ ?_<;>simp[go_sem,↓iO,iO,tN,gl]
    repeat (first|(refine n1s rfl ?_;simp[go_sem,↓iO,iO,tN,gl])|refine anI ?_|refine⟨dcK,?_⟩|refine iP ?_|refine iN ?_)
    rw[RqN];refine⟨i+1,[(0,some 0),(502,some 502),(503,some 503),(522,some 177)],?_,?_,?_⟩
    ·omega
    ·omega
    simp[go_sem,↓iO,iO,tN,gs]
    exact⟨by omega,gs⟩
   ·obtain rfl:i=e:=by omega
    obtain⟨GG,hGG⟩:∃ X,G (j+i)=X:=⟨_,rfl⟩
    rw[hGG]
    obtain⟨Wf,hWf⟩:∃ Wf:Nat→Nat×List Prt×List Stn,∀ q,nwW l j (K2 i) q=Wf q:=⟨_,fun _=>rfl⟩
    have W0:Wf 0=(K2 i,[],[]):=by rw[←hWf];rfl
    have Ws:∀ q,Wf (q+1)=((nwSt l j q (nwPt l j q (Wf q).1 (Wf q).2.1).1 (Wf q).2.2).1,(nwPt l j q (Wf q).1 (Wf q).2.1).2,(nwSt l j q (nwPt l j q (Wf q).1 (Wf q).2.1).1 (Wf q).2.2).2):=fun q=>by rw[←hWf,←hWf];rfl
    simp only[hWf]at hW ⊢
    clear hP hZ hD
    repeat (first|(refine n1s rfl ?_;simp[go_sem,↓iO,iO,tN])|refine anI ?_|refine⟨dcK,?_⟩|refine iP ?_|refine iN ?_)
    refine nf1_sound' _ _ _ ?_;simp only[nf1]
    refine CW.loop (ι:=Nat) (fun q=>⟨[(0,.pt 0 [] 0),(2,.pt 502 [] 0),(3,.pt 503 [] 0),(5,.t (.int j)),(9,.t (.int q))],[(0,srcB l (Wf q).1),(502,.box 33 (.t (.agg [.lit (.slice none 0 0),.lit (.slice none 0 0),.lit (.slice none 0 0),.lit (.slice none 0 0),.int 0,.int 0]))),(503,.box 33 (.ag [.t (.sl 1 NN),.t (.sl 7 GG),.own 523,.own 524,.t (.int vp),.t (.int st)])),(523,.list 28 3 ((Wf q).2.1.map encPr)),(524,.list 90 5 ((Wf q).2.2.map encSn))]⟩) (fun q=>q≤j+1) (fun q=>j+1 - q) 0 [(0,some 0),(502,some 502),(503,some 503),(523,none),(524,none)] (by omega) ?_ ?_
    ·simp[go_sem,↓iO,iO,tN,W0]
    intro q hq
    obtain⟨⟨kk,P,Z⟩,hw⟩:∃ x,Wf q=x:=⟨_,rfl⟩
    obtain⟨hP,hZ⟩:=hW q
    rw[hw]at hP hZ ⊢
    dsimp only at hP hZ ⊢
    by_cases hb3:q < j+1
    ·have hk:=hP.src
     have hPl:=hP.len
     have hZl:=hZ.len
     have cn1:=kname_fn 113 ⟨#[113]⟩ rfl P.length (by omega)
     have cn2:=kname_fn 115 ⟨#[115]⟩ rfl Z.length (by omega)
     have hPm:(P.map encPr).length=P.length:=List.length_map _
     have hZm:(Z.map encSn).length=Z.length:=List.length_map _
     obtain⟨PT,hPT⟩:∃ X,P.map encPr=X:=⟨_,rfl⟩
     obtain⟨ZT,hZT⟩:∃ X,Z.map encSn=X:=⟨_,rfl⟩
     rw[hPT]at hPm
     rw[hZT]at hZm
     have hwS:=Ws q
     rw[hw]at hwS
     dsimp only at hwS
     rw[hPT,hZT]
     by_cases h0:q=0
     ·subst h0
      have cpk:=pick_fn (l:=l) hk nwPs (by simp[nwPs]) (by simp[nwPs])
      obtain⟨pv,hpv⟩:∃ x,pickV l kk nwPs=x:=⟨_,rfl⟩
      rw[hpv,show nwPs=[300000,1000000,0,5000000] from rfl]at cpk
      have ep:nwPt l j 0 kk P=(nextK l kk,P++[([113,97+P.length],((0:Nat):Int),pv)]):=by unfold nwPt;rw[if_pos (Or.inl rfl),hpv]
      have c3:=n_fn l (nextK l kk) 3 hk.next (by omega)
      have b3:=nV_range (l:=l) (k:=(nextK l kk)) (n:=3) (by omega)
      by_cases hz:nV l (nextK l kk) 3=0
      ·rw[hz]at c3
       have csa:=pick_fn (l:=l) hk.next.next [500000,2000000,0] (by simp) (by simp)
       obtain⟨sa,hsa⟩:∃ x,pickV l (nextK l (nextK l kk)) [500000,2000000,0]=x:=⟨_,rfl⟩
       rw[hsa]at csa
       have csb:=pick_fn (l:=l) hk.next.next.next [0,200,100000] (by simp) (by simp)
       obtain⟨sb,hsb⟩:∃ x,pickV l (nextK l (nextK l (nextK l kk))) [0,200,100000]=x:=⟨_,rfl⟩
       rw[hsb]at csb
       have csc:=pick_fn (l:=l) hk.next.next.next.next [0,100000,400000] (by simp) (by simp)
       obtain⟨sc,hsc⟩:∃ x,pickV l (nextK l (nextK l (nextK l (nextK l kk)))) [0,100000,400000]=x:=⟨_,rfl⟩
       rw[hsc]at csc
       have es:nwSt l j 0 (nextK l kk) Z=((nextK l (nextK l (nextK l (nextK l (nextK l kk))))),Z++[([115,97+Z.length],((0:Nat):Int),sa,sb,sc)]):=by unfold nwSt;rw[if_pos (by omega),if_pos hz,hsa,hsb,hsc]
       rw[ep]at hwS
       dsimp only at hwS
       rw[es]at hwS
       dsimp only at hwS
       repeat (first|(refine n1s rfl ?_;simp[go_sem,↓iO,iO,tN,hb3,hPm,hZm])|refine anI ?_|refine⟨dcK,?_⟩|refine iP ?_|refine iN ?_)
       refine cF (cn1) [] ?_ ?_ ?_ ?_<;>simp[go_sem,↓iO,iO,tN,hPm,hZm]
       repeat (refine anI ?_)
       try (refine⟨dcK,?_⟩)
       refine CallK.fn (cpk) [(0,0)] [] [204] (by kernel_rfl) ?_ ?_ ?_ (Or.inl rfl) ?_<;>simp[go_sem,↓iO,iO,tN,hPm,hZm]
       repeat (first|(refine n1s rfl ?_;simp[go_sem,↓iO,iO,tN,hPm,hZm])|refine anI ?_|refine⟨dcK,?_⟩|refine iP ?_|refine iN ?_)
       refine cF (c3) [(0,0)] ?_ ?_ ?_ ?_<;>simp[go_sem,↓iO,iO,tN,hPm,hZm]
       repeat (first|(refine n1s rfl ?_;simp[go_sem,↓iO,iO,tN,hz,hPm,hZm])|refine anI ?_|refine⟨dcK,?_⟩|refine iP ?_|refine iN ?_)
       refine cF (cn2) [] ?_ ?_ ?_ ?_<;>simp[go_sem,↓iO,iO,tN,hPm,hZm]
       repeat (refine anI ?_)
       try (refine⟨dcK,?_⟩)
       refine CallK.fn (csa) [(0,0)] [] [226] (by kernel_rfl) ?_ ?_ ?_ (Or.inl rfl) ?_<;>simp[go_sem,↓iO,iO,tN,hPm,hZm]
       repeat (refine anI ?_)
       try (refine⟨dcK,?_⟩)
       refine CallK.fn (csb) [(0,0)] [] [229] (by kernel_rfl) ?_ ?_ ?_ (Or.inl rfl) ?_<;>simp[go_sem,↓iO,iO,tN,hPm,hZm]
       repeat (refine anI ?_)
       try (refine⟨dcK,?_⟩)
       refine CallK.fn (csc) [(0,0)] [] [232] (by kernel_rfl) ?_ ?_ ?_ (Or.inl rfl) ?_<;>simp[go_sem,↓iO,iO,tN,hPm,hZm]
       repeat (first|(refine n1s rfl ?_;simp[go_sem,↓iO,iO,tN,hPm,hZm])|refine anI ?_|refine⟨dcK,?_⟩|refine iP ?_|refine iN ?_)
       rw[RqN];refine⟨0+1,[(0,some 0),(502,some 502),(503,some 503),(523,some 208),(524,some 236)],?_,?_,?_⟩
       ·omega
       ·omega
       simp[go_sem,↓iO,iO,tN,hwS]
       exact⟨hPT,hZT⟩
      ·obtain⟨z3,hz3⟩:∃ x,nV l (nextK l kk) 3=x:=⟨_,rfl⟩
       rw[hz3]at c3 b3
       have hz4:¬ z3=0:=by rw[←hz3];exact hz
       have es:nwSt l j 0 (nextK l kk) Z=((nextK l (nextK l kk)),Z):=by unfold nwSt;rw[if_pos (by omega),if_neg hz]
       rw[ep]at hwS
       dsimp only at hwS
       rw[es]at hwS
       dsimp only at hwS
       repeat (first|(refine n1s rfl ?_;simp[go_sem,↓iO,iO,tN,hb3,hPm,hZm])|refine anI ?_|refine⟨dcK,?_⟩|refine iP ?_|refine iN ?_)
       refine cF (cn1) [] ?_ ?_ ?_ ?_<;>simp[go_sem,↓iO,iO,tN,hPm,hZm]
       repeat (refine anI ?_)
       try (refine⟨dcK,?_⟩)
       refine CallK.fn (cpk) [(0,0)] [] [204] (by kernel_rfl) ?_ ?_ ?_ (Or.inl rfl) ?_<;>simp[go_sem,↓iO,iO,tN,hPm,hZm]
       repeat (first|(refine n1s rfl ?_;simp[go_sem,↓iO,iO,tN,hPm,hZm])|refine anI ?_|refine⟨dcK,?_⟩|refine iP ?_|refine iN ?_)
       refine cF (c3) [(0,0)] ?_ ?_ ?_ ?_<;>simp[go_sem,↓iO,iO,tN,hPm,hZm]
       repeat (first|(refine n1s rfl ?_;simp[go_sem,↓iO,iO,tN,hz,hPm,hZm])|refine anI ?_|refine⟨dcK,?_⟩|refine iP ?_|refine iN ?_)
       rw[RqN];refine⟨0+1,[(0,some 0),(502,some 502),(503,some 503),(523,some 208),(524,some 524)],?_,?_,?_⟩
       ·omega
       ·omega
       simp[go_sem,↓iO,iO,tN,hwS]
       exact⟨hPT,hZT⟩
     ·by_cases hm2:q=j
      ·subst hm2
       have cpk:=pick_fn (l:=l) hk nwPs (by simp[nwPs]) (by simp[nwPs])
       obtain⟨pv,hpv⟩:∃ x,pickV l kk nwPs=x:=⟨_,rfl⟩
       rw[hpv,show nwPs=[300000,1000000,0,5000000] from rfl]at cpk
       have ep:nwPt l q q kk P=(nextK l kk,P++[([113,97+P.length],(q:Int),pv)]):=by unfold nwPt;rw[if_pos (Or.inr rfl),hpv]
       have es:nwSt l q q (nextK l kk) Z=((nextK l kk),Z):=by unfold nwSt;rw[if_neg (by omega)]
       rw[ep]at hwS
       dsimp only at hwS
       rw[es]at hwS
       dsimp only at hwS
       repeat (first|(refine n1s rfl ?_;simp[go_sem,↓iO,iO,tN,hb3,hPm,hZm])|refine anI ?_|refine⟨dcK,?_⟩|refine iP ?_|refine iN ?_)
       refine cF (cn1) [] ?_ ?_ ?_ ?_<;>simp[go_sem,↓iO,iO,tN,hPm,hZm]
       repeat (refine anI ?_)
       try (refine⟨dcK,?_⟩)
       refine CallK.fn (cpk) [(0,0)] [] [204] (by kernel_rfl) ?_ ?_ ?_ (Or.inl rfl) ?_<;>simp[go_sem,↓iO,iO,tN,hPm,hZm]
       repeat (first|(refine n1s rfl ?_;simp[go_sem,↓iO,iO,tN,hPm,hZm])|refine anI ?_|refine⟨dcK,?_⟩|refine iP ?_|refine iN ?_)
       rw[RqN];refine⟨q+1,[(0,some 0),(502,some 502),(503,some 503),(523,some 208),(524,some 524)],?_,?_,?_⟩
       ·omega
       ·omega
       simp[go_sem,↓iO,iO,tN,hwS]
       exact⟨hPT,hZT⟩
      ·have c2:=n_fn l kk 2 hk (by omega)
       have b2:=nV_range (l:=l) (k:=kk) (n:=2) (by omega)
       have hor:¬ (q=0∨q=j):=fun x=>x.elim h0 hm2
       by_cases hv2:nV l kk 2=0
       ·rw[hv2]at c2
        have cpk:=pick_fn (l:=l) hk.next nwPs (by simp[nwPs]) (by simp[nwPs])
        obtain⟨pv,hpv⟩:∃ x,pickV l (nextK l kk) nwPs=x:=⟨_,rfl⟩
        rw[hpv,show nwPs=[300000,1000000,0,5000000] from rfl]at cpk
        have ep:nwPt l j q kk P=(nextK l (nextK l kk),P++[([113,97+P.length],(q:Int),pv)]):=by unfold nwPt;rw[if_neg hor,if_pos hv2,hpv]
        have c3:=n_fn l (nextK l (nextK l kk)) 3 hk.next.next (by omega)
        have b3:=nV_range (l:=l) (k:=(nextK l (nextK l kk))) (n:=3) (by omega)
        by_cases hz:nV l (nextK l (nextK l kk)) 3=0
        ·rw[hz]at c3
         have csa:=pick_fn (l:=l) hk.next.next.next [500000,2000000,0] (by simp) (by simp)
         obtain⟨sa,hsa⟩:∃ x,pickV l (nextK l (nextK l (nextK l kk))) [500000,2000000,0]=x:=⟨_,rfl⟩
         rw[hsa]at csa
         have csb:=pick_fn (l:=l) hk.next.next.next.next [0,200,100000] (by simp) (by simp)
         obtain⟨sb,hsb⟩:∃ x,pickV l (nextK l (nextK l (nextK l (nextK l kk)))) [0,200,100000]=x:=⟨_,rfl⟩
         rw[hsb]at csb
         have csc:=pick_fn (l:=l) hk.next.next.next.next.next [0,100000,400000] (by simp) (by simp)
         obtain⟨sc,hsc⟩:∃ x,pickV l (nextK l (nextK l (nextK l (nextK l (nextK l kk))))) [0,100000,400000]=x:=⟨_,rfl⟩
         rw[hsc]at csc
         have es:nwSt l j q (nextK l (nextK l kk)) Z=((nextK l (nextK l (nextK l (nextK l (nextK l (nextK l kk)))))),Z++[([115,97+Z.length],(q:Int),sa,sb,sc)]):=by unfold nwSt;rw[if_pos (by omega),if_pos hz,hsa,hsb,hsc]
         rw[ep]at hwS
         dsimp only at hwS
         rw[es]at hwS
         dsimp only at hwS
         repeat (first|(refine n1s rfl ?_;simp[go_sem,↓iO,iO,tN,hb3,hPm,hZm])|refine anI ?_|refine⟨dcK,?_⟩|refine iP ?_|refine iN ?_)
         refine cF (c2) [(0,0)] ?_ ?_ ?_ ?_<;>simp[go_sem,↓iO,iO,tN]
         repeat (first|(refine n1s rfl ?_;simp[go_sem,↓iO,iO,tN,hv2,hPm,hZm])|refine anI ?_|refine⟨dcK,?_⟩|refine iP ?_|refine iN ?_)
         refine cF (cn1) [] ?_ ?_ ?_ ?_<;>simp[go_sem,↓iO,iO,tN,hPm,hZm]
         repeat (refine anI ?_)
         try (refine⟨dcK,?_⟩)
         refine CallK.fn (cpk) [(0,0)] [] [204] (by kernel_rfl) ?_ ?_ ?_ (Or.inl rfl) ?_<;>simp[go_sem,↓iO,iO,tN,hPm,hZm]
         repeat (first|(refine n1s rfl ?_;simp[go_sem,↓iO,iO,tN,hPm,hZm])|refine anI ?_|refine⟨dcK,?_⟩|refine iP ?_|refine iN ?_)
         refine cF (c3) [(0,0)] ?_ ?_ ?_ ?_<;>simp[go_sem,↓iO,iO,tN,hPm,hZm]
         repeat (first|(refine n1s rfl ?_;simp[go_sem,↓iO,iO,tN,hz,hPm,hZm])|refine anI ?_|refine⟨dcK,?_⟩|refine iP ?_|refine iN ?_)
         refine cF (cn2) [] ?_ ?_ ?_ ?_<;>simp[go_sem,↓iO,iO,tN,hPm,hZm]
         repeat (refine anI ?_)
         try (refine⟨dcK,?_⟩)
         refine CallK.fn (csa) [(0,0)] [] [226] (by kernel_rfl) ?_ ?_ ?_ (Or.inl rfl) ?_<;>simp[go_sem,↓iO,iO,tN,hPm,hZm]
         repeat (refine anI ?_)
         try (refine⟨dcK,?_⟩)
         refine CallK.fn (csb) [(0,0)] [] [229] (by kernel_rfl) ?_ ?_ ?_ (Or.inl rfl) ?_<;>simp[go_sem,↓iO,iO,tN,hPm,hZm]
         repeat (refine anI ?_)
         try (refine⟨dcK,?_⟩)
         refine CallK.fn (csc) [(0,0)] [] [232] (by kernel_rfl) ?_ ?_ ?_ (Or.inl rfl) ?_<;>simp[go_sem,↓iO,iO,tN,hPm,hZm]
         repeat (first|(refine n1s rfl ?_;simp[go_sem,↓iO,iO,tN,hPm,hZm])|refine anI ?_|refine⟨dcK,?_⟩|refine iP ?_|refine iN ?_)
         rw[RqN];refine⟨q+1,[(0,some 0),(502,some 502),(503,some 503),(523,some 208),(524,some 236)],?_,?_,?_⟩
         ·omega
         ·omega
         simp[go_sem,↓iO,iO,tN,hwS]
         exact⟨hPT,hZT⟩
        ·obtain⟨z3,hz3⟩:∃ x,nV l (nextK l (nextK l kk)) 3=x:=⟨_,rfl⟩
         rw[hz3]at c3 b3
         have hz4:¬ z3=0:=by rw[←hz3];exact hz
         have es:nwSt l j q (nextK l (nextK l kk)) Z=((nextK l (nextK l (nextK l kk))),Z):=by unfold nwSt;rw[if_pos (by omega),if_neg hz]
         rw[ep]at hwS
         dsimp only at hwS
         rw[es]at hwS
         dsimp only at hwS
         repeat (first|(refine n1s rfl ?_;simp[go_sem,↓iO,iO,tN,hb3,hPm,hZm])|refine anI ?_|refine⟨dcK,?_⟩|refine iP ?_|refine iN ?_)
         refine cF (c2) [(0,0)] ?_ ?_ ?_ ?_<;>simp[go_sem,↓iO,iO,tN]
         repeat (first|(refine n1s rfl ?_;simp[go_sem,↓iO,iO,tN,hv2,hPm,hZm])|refine anI ?_|refine⟨dcK,?_⟩|refine iP ?_|refine iN ?_)
         refine cF (cn1) [] ?_ ?_ ?_ ?_<;>simp[go_sem,↓iO,iO,tN,hPm,hZm]
         repeat (refine anI ?_)
         try (refine⟨dcK,?_⟩)
         refine CallK.fn (cpk) [(0,0)] [] [204] (by kernel_rfl) ?_ ?_ ?_ (Or.inl rfl) ?_<;>simp[go_sem,↓iO,iO,tN,hPm,hZm]
         repeat (first|(refine n1s rfl ?_;simp[go_sem,↓iO,iO,tN,hPm,hZm])|refine anI ?_|refine⟨dcK,?_⟩|refine iP ?_|refine iN ?_)
         refine cF (c3) [(0,0)] ?_ ?_ ?_ ?_<;>simp[go_sem,↓iO,iO,tN,hPm,hZm]
         repeat (first|(refine n1s rfl ?_;simp[go_sem,↓iO,iO,tN,hz,hPm,hZm])|refine anI ?_|refine⟨dcK,?_⟩|refine iP ?_|refine iN ?_)
         rw[RqN];refine⟨q+1,[(0,some 0),(502,some 502),(503,some 503),(523,some 208),(524,some 524)],?_,?_,?_⟩
         ·omega
         ·omega
         simp[go_sem,↓iO,iO,tN,hwS]
         exact⟨hPT,hZT⟩
       ·have ep:nwPt l j q kk P=(nextK l kk,P):=by unfold nwPt;rw[if_neg hor,if_neg hv2]
        obtain⟨v2,hv3⟩:∃ x,nV l kk 2=x:=⟨_,rfl⟩
        rw[hv3]at c2 b2 hv2
        have c3:=n_fn l (nextK l kk) 3 hk.next (by omega)
        have b3:=nV_range (l:=l) (k:=(nextK l kk)) (n:=3) (by omega)
        by_cases hz:nV l (nextK l kk) 3=0
        ·rw[hz]at c3
         have csa:=pick_fn (l:=l) hk.next.next [500000,2000000,0] (by simp) (by simp)
         obtain⟨sa,hsa⟩:∃ x,pickV l (nextK l (nextK l kk)) [500000,2000000,0]=x:=⟨_,rfl⟩
         rw[hsa]at csa
         have csb:=pick_fn (l:=l) hk.next.next.next [0,200,100000] (by simp) (by simp)
         obtain⟨sb,hsb⟩:∃ x,pickV l (nextK l (nextK l (nextK l kk))) [0,200,100000]=x:=⟨_,rfl⟩
         rw[hsb]at csb
         have csc:=pick_fn (l:=l) hk.next.next.next.next [0,100000,400000] (by simp) (by simp)
         obtain⟨sc,hsc⟩:∃ x,pickV l (nextK l (nextK l (nextK l (nextK l kk)))) [0,100000,400000]=x:=⟨_,rfl⟩
         rw[hsc]at csc
         have es:nwSt l j q (nextK l kk) Z=((nextK l (nextK l (nextK l (nextK l (nextK l kk))))),Z++[([115,97+Z.length],(q:Int),sa,sb,sc)]):=by unfold nwSt;rw[if_pos (by omega),if_pos hz,hsa,hsb,hsc]
         rw[ep]at hwS
         dsimp only at hwS
         rw[es]at hwS
         dsimp only at hwS
         repeat (first|(refine n1s rfl ?_;simp[go_sem,↓iO,iO,tN,hb3,hPm,hZm])|refine anI ?_|refine⟨dcK,?_⟩|refine iP ?_|refine iN ?_)
         refine cF (c2) [(0,0)] ?_ ?_ ?_ ?_<;>simp[go_sem,↓iO,iO,tN]
         repeat (first|(refine n1s rfl ?_;simp[go_sem,↓iO,iO,tN,hv2,hPm,hZm])|refine anI ?_|refine⟨dcK,?_⟩|refine iP ?_|refine iN ?_)
         refine cF (c3) [(0,0)] ?_ ?_ ?_ ?_<;>simp[go_sem,↓iO,iO,tN,hPm,hZm]
         repeat (first|(refine n1s rfl ?_;simp[go_sem,↓iO,iO,tN,hz,hPm,hZm])|refine anI ?_|refine⟨dcK,?_⟩|refine iP ?_|refine iN ?_)
         refine cF (cn2) [] ?_ ?_ ?_ ?_<;>simp[go_sem,↓iO,iO,tN,hPm,hZm]
         repeat (refine anI ?_)
         try (refine⟨dcK,?_⟩)
         refine CallK.fn (csa) [(0,0)] [] [226] (by kernel_rfl) ?_ ?_ ?_ (Or.inl rfl) ?_<;>simp[go_sem,↓iO,iO,tN,hPm,hZm]
         repeat (refine anI ?_)
         try (refine⟨dcK,?_⟩)
         refine CallK.fn (csb) [(0,0)] [] [229] (by kernel_rfl) ?_ ?_ ?_ (Or.inl rfl) ?_<;>simp[go_sem,↓iO,iO,tN,hPm,hZm]
         repeat (refine anI ?_)
         try (refine⟨dcK,?_⟩)
         refine CallK.fn (csc) [(0,0)] [] [232] (by kernel_rfl) ?_ ?_ ?_ (Or.inl rfl) ?_<;>simp[go_sem,↓iO,iO,tN,hPm,hZm]
         repeat (first|(refine n1s rfl ?_;simp[go_sem,↓iO,iO,tN,hPm,hZm])|refine anI ?_|refine⟨dcK,?_⟩|refine iP ?_|refine iN ?_)
         rw[RqN];refine⟨q+1,[(0,some 0),(502,some 502),(503,some 503),(523,some 523),(524,some 236)],?_,?_,?_⟩
         ·omega
         ·omega
         simp[go_sem,↓iO,iO,tN,hwS]
         exact⟨hPT,hZT⟩
        ·obtain⟨z3,hz3⟩:∃ x,nV l (nextK l kk) 3=x:=⟨_,rfl⟩
         rw[hz3]at c3 b3
         have hz4:¬ z3=0:=by rw[←hz3];exact hz
         have es:nwSt l j q (nextK l kk) Z=((nextK l (nextK l kk)),Z):=by unfold nwSt;rw[if_pos (by omega),if_neg hz]
         rw[ep]at hwS
         dsimp only at hwS
         rw[es]at hwS
         dsimp only at hwS
         repeat (first|(refine n1s rfl ?_;simp[go_sem,↓iO,iO,tN,hb3,hPm,hZm])|refine anI ?_|refine⟨dcK,?_⟩|refine iP ?_|refine iN ?_)
         refine cF (c2) [(0,0)] ?_ ?_ ?_ ?_<;>simp[go_sem,↓iO,iO,tN]
         repeat (first|(refine n1s rfl ?_;simp[go_sem,↓iO,iO,tN,hv2,hPm,hZm])|refine anI ?_|refine⟨dcK,?_⟩|refine iP ?_|refine iN ?_)
         refine cF (c3) [(0,0)] ?_ ?_ ?_ ?_<;>simp[go_sem,↓iO,iO,tN,hPm,hZm]
         repeat (first|(refine n1s rfl ?_;simp[go_sem,↓iO,iO,tN,hz,hPm,hZm])|refine anI ?_|refine⟨dcK,?_⟩|refine iP ?_|refine iN ?_)
         rw[RqN];refine⟨q+1,[(0,some 0),(502,some 502),(503,some 503),(523,some 523),(524,some 524)],?_,?_,?_⟩
         ·omega
         ·omega
         simp[go_sem,↓iO,iO,tN,hwS]
         exact⟨hPT,hZT⟩
    ·obtain rfl:q=j+1:=by omega
     rw[hw]
     repeat (first|(refine n1s rfl ?_;simp[go_sem,↓iO,iO,tN])|refine anI ?_|refine⟨dcK,?_⟩|refine iP ?_|refine iN ?_)
     first|rw[TqR]|rw[TqN]
     refine⟨[(0,some 0)],?_⟩
     simp[go_sem,↓iO,iO,tN]
def nxK (l:List Int) (k:Nat):Nat→Nat
 | 0=>k
 | j+1=>nextK l (nxK l k j)
theorem nxK_ok {l:List Int} {k:Nat} (h:SrcOk l k):∀ j,SrcOk l (nxK l k j)
 | 0=>h
 | j+1=>(nxK_ok h j).next
def fdV (l:List Int) (k:Nat) (b:Int) (n:Nat):List Int:=(List.range n).map fun j=>nV l (nxK l k j) b
theorem feeds_fn (l:List Int) (k:Nat) (h:SrcOk l k) (d:NetD) (hp:d.ports.length≤1000) (b:Int) (hb:1≤b∧b≤1000) :
  FnOk Tryz.prog 23 [.pt 0 [] 0,.t (.agg d.l),.t (.int b)] [(0,srcB l k)] (.t (.sl 1 ((fdV l k b d.ports.length).map encI))) [(0,srcB l (nxK l k d.ports.length))]:=by
 obtain⟨G,hG⟩:∃ G:Nat→List T,∀ j,(fdV l k b j).map encI=G j:=⟨_,fun _=>rfl⟩
 have G0:G 0=[]:=by rw[←hG];rfl
 have Gs:∀ j,G (j+1)=G j++[.int (nV l (nxK l k j) b)]:=fun j=>by rw[←hG,←hG];unfold fdV;rw[map_range_succ,List.map_append];rfl
 have Gl:∀ j,(G j).length=j:=fun j=>by rw[←hG];simp[fdV]
 rw[hG]
 refine FnOk.intro fact_mixed Tryz.func23 rfl Tryz.ntmps23 (by rfl) (by simp) ?_
 repeat (first|(refine n1s rfl ?_;simp[go_sem,↓iO,iO,tN])|refine anI ?_|refine⟨dcK,?_⟩|refine iP ?_|refine iN ?_)
 refine nf1_sound' _ _ _ ?_;simp only[nf1]
 refine CW.loop (ι:=Nat) (fun j=>⟨[(0,.pt 0 [] 0),(2,.t (.int b)),(4,.pt 504 [] 0),(7,.own 507),(8,.t (.int j))],[(0,srcB l (nxK l k j)),(504,.box 33 (.t (.agg d.l))),(507,.list 3 1 (G j))]⟩) (fun j=>j≤d.ports.length) (fun j=>d.ports.length - j) 0 [(0,some 0),(504,some 104),(507,none)] (by omega) ?_ ?_
 ·simp[go_sem,↓iO,iO,tN,G0,nxK]
 intro j hj
 have gl:=Gl j
 by_cases hb2:j < d.ports.length
 ·have c:=n_fn l (nxK l k j) b (nxK_ok h j) (by omega)
  have gs:=Gs j
  obtain⟨G1,hG1⟩:∃ X,G j=X:=⟨_,rfl⟩
  rw[hG1]at gl gs ⊢
  repeat (first|(refine n1s rfl ?_;simp[go_sem,↓iO,iO,tN,hb2,gl])|refine anI ?_|refine⟨dcK,?_⟩|refine iP ?_|refine iN ?_)
  refine cF (c) [(0,0)] ?_ ?_ ?_ ?_<;>simp[go_sem,↓iO,iO,tN,hb2,gl]
  repeat (first|(refine n1s rfl ?_;simp[go_sem,↓iO,iO,tN,hb2,gl])|refine anI ?_|refine⟨dcK,?_⟩|refine iP ?_|refine iN ?_)
  rw[RqN];refine⟨j+1,[(0,some 0),(504,some 504),(507,some 121)],?_,?_,?_⟩
  ·omega
  ·omega
  simp[go_sem,↓iO,iO,tN,gs,nxK]
 ·obtain rfl:j=d.ports.length:=by omega
  repeat (first|(refine n1s rfl ?_;simp[go_sem,↓iO,iO,tN])|refine anI ?_|refine⟨dcK,?_⟩|refine iP ?_|refine iN ?_)
  first|rw[TqR]|rw[TqN]
  refine⟨[(0,some 0)],?_⟩
  simp[go_sem,↓iO,iO,tN]
end Go.Proofs.YtdjmklobfjigoaaGreatDoor
