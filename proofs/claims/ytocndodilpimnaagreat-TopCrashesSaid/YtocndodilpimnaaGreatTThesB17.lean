/- Several texts of this proof, one behind the other. No condition. -/
import Derived.Test.YtocndodilpimnaaGreatTThesB16
import Derived.Test.YtocndodilpimnaaGreatTThesB13
import Derived.Test.YtocndodilpimnaaGreatTThesB15
import Derived.Test.YtocndodilpimnaaGreatTThesB11
import Derived.Test.YtocndodilpimnaaGreatTThesB12
set_option maxRecDepth 100000
set_option maxHeartbeats 16000000
set_option linter.unusedVariables false
set_option linter.unusedSimpArgs false
namespace Go.Proofs.YtocndodilpimnaaGreat
open Go.RowKit Sy
open Go.IntWalk renaming iteOmega → iO, toNatUp → tN
structure Dp (d:aB) (rates prates:List Int) (pl:List T):Prop where
 pln:k9 d rates prates
 cap:∀ (k:Nat) s r,d.segs[k]? = some s→rates[k]? = some r→-s.1.cp≤r∧r≤s.1.cp
 pum:pl.length=d.stns.length
 bal:(gL (cg d.segs rates++eP d.ports prates)).1=(gL (cg d.segs rates++eP d.ports prates)).2
 acy:(kf (cg d.segs rates) d.nn.length d.nn.length []).length=d.nn.length
theorem oR (l:fR) (h:∀ x∈l,-1000≤x.2.2∧x.2.2≤1000):(gL l).1.length=24∧(gL l).2.length=24:=⟨(mJ l _ _ mu h).l1,(mJ l _ _ mu h).l2⟩
theorem kJ (d:aB) (h:eE d) (rates prates:List Int) (pl:List T) (hf:Dp d rates prates pl) :
  aj Tryz.prog 113 [.t (.agg d.l),.t (.agg (Aq rates prates (.sl 1 pl)))] [] (.t (.int 0)) []:=by
 have hp:=hf.pln
 have h0:=h.n0
 have h1:=h.n1
 have h3:=h.s1
 have h4:=h.p1
 have h5:=h.t1
 have q1:=hp.l1
 have q2:=hp.l2
 have q3:=hf.pum
 have c1:=iW d h
 have c2:=La prates (by omega) (fun p hq=>CS p (hp.b2 p hq))
 have c3:=FW d h rates prates (.sl 1 pl) rfl hp
 have c4:=K6 d h rates prates (.sl 1 pl) rfl hp
 obtain⟨O,hO⟩:∃ O,kf (cg d.segs rates) d.nn.length d.nn.length []=O:=⟨_,rfl⟩
 rw[hO]at c4
 have q4:=hf.acy
 rw[hO]at q4
 obtain⟨A,hA⟩:∃ A,(gL (cg d.segs rates++eP d.ports prates)).1=A:=⟨_,rfl⟩
 have hA2:=hf.bal
 rw[hA]at hA2
 have hl:A.length=24:=by
  rw[hA2]
  refine (oR _ fun x hx=>?_).2
  rcases List.mem_append.1 hx with hx|hx
  ·obtain⟨y,hy,rfl⟩:=List.mem_map.1 hx
   exact hp.b1 _ (List.of_mem_zip hy).2
  ·obtain⟨y,hy,rfl⟩:=List.mem_map.1 hx
   exact hp.b2 _ (List.of_mem_zip hy).2
 simp only[Nb,←hA2,hA]at c3
 have hq:vr Tryz.prog 3 (A.map aC) (A.map aC)=some true:=Fy A
 refine nI Tryz.func113 rfl Tryz.ntmps113 ?_
 refine ah ?_
 refine ax c1 [] ?_
 refine fg q1 q2 q3 ?_
 refine oP ?_
 refine lP (ι:=Nat) (fun k=>⟨[(2,.pt 502 [] 0),(3,.pt 503 [] 0),(40,.t (.sl 7 (d.segs.map bA))),(41,.t (.int d.segs.length)),(42,.t (.int k))],[(502,.box 32 (.t (.agg d.l))),(503,.box 37 (.t (.agg (Aq rates prates (.sl 1 pl)))))]⟩) (fun k=>k≤d.segs.length) (fun k=>d.segs.length - k) 0 [(502,some 102),(503,some 103)] (by omega) ?_
 intro k hk
 by_cases hb:k < d.segs.length
 ·obtain⟨s,hs⟩:=aa hb
  obtain⟨r,hr⟩:∃ r,rates[k]? = some r:=aa (by omega)
  have e1:=hf.cap k s r hs hr
  have e2:=hp.b1 r (au hr)
  have e3:=(h.pipe s (au hs)).cap
  obtain⟨⟨nm,fr,to,cp,rs,wv⟩,pts⟩:=s
  dsimp only at e1 e3
  obtain⟨m,hm⟩:∃ m,min 1000 cp=m:=⟨_,rfl⟩
  have c5:=wA r m (by omega) (by omega)
  refine fg hs hr hm ?_
  refine Fu hs hr hm c5 [] ?_
  refine ah ?_
  exact nY (k+1) [(502,some 502),(503,some 503)]
 ·obtain rfl:k=d.segs.length:=by omega
  refine ah ?_
  refine ax c2 [] ?_
  refine ah ?_
  refine dr hl c3 [] ?_
  repeat (first|(refine af rfl ?_;simp[go_sem,↓iO,iO,tN,hl,Q5,Rl,Rm,Rk,hq])|refine ba ?_|refine⟨aZ,?_⟩|refine iP ?_|refine iN ?_)
  refine ax c4 [] ?_
  refine aJ q4 ?_
  exact aF []
abbrev BM (l:List Bool):T:=.sl 1 (l.map dj)
def fO (d:aB) (p:Pn) (k:Int):Int:=(gL (cg d.segs p.rs++eP d.ports p.ps)).1.getD k.toNat 0
abbrev jE (d:aB) (p:Pn):Prop:=Dp d p.rs p.ps (p.pm.map dj)
def nZ (v:Vv):Bool:=decide (v.op=v.tr) && v.wa
def jo (p:Pn):List Bool:=mZ p.rs++mZ p.ps
def Ig (d:aB) (p:Pn):Prop:=∀ (i:Nat) (s:vx),d.stns[i]? = some s→p.pm[i]? = some true→fO d p s.2.1≠0
structure gT (d:aB) (k:Dk):Prop where
 ln:k.vs.length=d.segs.length+d.ports.length
 vo:∀ v∈k.vs,jJ v
 fl:jE d k.pl
 rd:∀ (i:Nat) (v:Vv),k.vs[i]? = some v→(jo k.pl)[i]? = some true→v.op=v.tr∧v.wa=true
 fd:Ig d k.pl
structure bq (d:aB):Prop where
 ok:eE d
 s:d.segs.length≤8
 p1:1≤d.ports.length
 p:d.ports.length≤6
 n:d.nn.length≤6
 t:d.stns.length≤6
theorem jE.sz {d:aB} (hd:bq d) {p:Pn} (h:jE d p):QR p:=
 ⟨by rw[h.pln.l1];have:=hd.s;omega,by rw[h.pln.l2];have:=hd.p;omega,by have:=h.pum;have:=hd.t;simp at *;omega⟩
theorem gT.sz {d:aB} (hd:bq d) {k:Dk} (h:gT d k):Px k:=
 ⟨by rw[h.ln];have:=hd.s;have:=hd.p;omega,h.fl.sz hd⟩
theorem Ak (d:aB) (h:bq d):aj Tryz.prog 56 [.t (.agg d.l)] [] (.t (.int (d.segs.length+d.ports.length))) []:=by
 have h1:=h.s
 have h2:=h.p
 refine nI Tryz.func56 rfl Tryz.ntmps56 ?_
 refine ah ?_
 exact aF []
theorem BV (v:Vv) (h:jJ v):aj Tryz.prog 114 [.t (bL v)] [] (.t (.bool (nZ v))) []:=by
 have c1:=JO v h
 obtain⟨t,o,w,s⟩:=v
 by_cases e:o=t
 ·refine nI Tryz.func114 rfl Tryz.ntmps114 ?_
  refine ah ?_
  refine ax c1 [] ?_
  refine aJ e ?_
  first|rw[av]|rw[ae]
  refine⟨[],?_⟩
  simp[go_sem,↓iO,iO,tN,nZ,e]
 ·refine nI Tryz.func114 rfl Tryz.ntmps114 ?_
  refine ah ?_
  refine ax c1 [] ?_
  refine aJ e ?_
  first|rw[av]|rw[ae]
  refine⟨[],?_⟩
  simp[go_sem,↓iO,iO,tN,nZ,e]
theorem EN (d:aB) (hd:bq d) (p:Pn) (h:jE d p):aj Tryz.prog 60 [.t (.agg d.l),.t (bW p)] [] (.tup [.t (.agg [BM (mZ p.rs),BM (mZ p.ps)]),.t (.int 0)]) []:=by
 have c1:=iW d hd.ok
 have c2:=kJ d hd.ok p.rs p.ps _ h
 obtain⟨a,b,c⟩:=h.sz hd
 have c3:=AQ p.rs a
 have c4:=AQ p.ps b
 obtain⟨r,q,m⟩:=p
 dsimp only at a b c c2 c3 c4 ⊢
 refine nI Tryz.func60 rfl Tryz.ntmps60 ?_
 refine ah ?_
 refine ax c1 [] ?_
 refine ah ?_
 refine ax c2 [] ?_
 refine ah ?_
 refine ax c3 [] ?_
 refine ax c4 [] ?_
 refine ah ?_
 exact aF []
theorem Cr (d:aB) (hd:bq d) (p:Pn) (h:jE d p) (k:Int) (hk:0≤k∧k < d.nn.length):aj Tryz.prog 202 [.t (.agg d.l),.t (bW p),.t (.int k)] [] (.tup [.t (.int (fO d p k)),.t (.int 0)]) []:=by
 have c2:=kJ d hd.ok p.rs p.ps _ h
 have c3:=FW d hd.ok p.rs p.ps (.sl 1 (p.pm.map dj)) rfl h.pln
 have hl:(gL (cg d.segs p.rs++eP d.ports p.ps)).1.length=24:=by
  refine (oR _ ?_).1
  intro x hx
  simp only[cg,eP,List.mem_append,List.mem_map]at hx
  rcases hx with ⟨y,hy,rfl⟩|⟨y,hy,rfl⟩
  ·exact h.pln.b1 _ (List.of_mem_zip hy).2
  ·exact h.pln.b2 _ (List.of_mem_zip hy).2
 have hn:=hd.n
 obtain⟨j,rfl⟩:∃ j:Nat,k=(j:Int):=⟨k.toNat,by omega⟩
 obtain⟨x,hx⟩:=aa (l:=(gL (cg d.segs p.rs++eP d.ports p.ps)).1) (k:=j) (by omega)
 have hv:fO d p j=x:=by unfold fO;rw[Int.toNat_natCast,List.getD_eq_getElem?_getD,hx];rfl
 rw[hv]
 obtain⟨S,hS⟩:∃ S,gL (cg d.segs p.rs++eP d.ports p.ps)=S:=⟨_,rfl⟩
 rw[hS]at c3 hl hx
 obtain⟨r,q,m⟩:=p
 dsimp only at c2 c3 ⊢
 refine nI Tryz.func202 rfl Tryz.ntmps202 ?_
 refine ah ?_
 refine ax c2 [] ?_
 refine ah ?_
 refine dr hx c3 [] ?_
 refine aJ hx ?_
 exact aF []
theorem xF (d:aB) (hd:bq d) (p:Pn) (h:jE d p) (i:Nat) (s:vx) (hs:d.stns[i]? = some s):aj Tryz.prog 130 [.t (.agg d.l),.t (bW p),.t (.int i)] [] (.t (.bool (decide (fO d p s.2.1≠0)))) []:=by
 have hk:=hd.ok.knT s (au hs)
 have c1:=Cr d hd p h s.2.1 hk
 obtain⟨a,b,e,f,g⟩:=s
 have hi:=(List.getElem?_eq_some_iff.1 hs).1
 have hn:=hd.t
 obtain⟨x,hx⟩:∃ x,fO d p b=x:=⟨_,rfl⟩
 dsimp only at c1 hk ⊢
 rw[hx]at c1 ⊢
 obtain⟨r,q,m⟩:=p
 refine nI Tryz.func130 rfl Tryz.ntmps130 ?_
 refine aJ hs ?_
 refine dr hs c1 [] ?_
 refine ah ?_
 exact aF []
theorem Bo (d:aB) (hd:bq d) (p:Pn) (h:jE d p) (hf:Ig d p):aj Tryz.prog 115 [.t (.agg d.l),.t (bW p)] [] (.t (.bool false)) []:=by
 have hc:∀ (i:Nat) (s:vx),d.stns[i]? = some s→p.pm[i]? = some true→aj Tryz.prog 130 [.t (.agg d.l),.t (bW p),.t (.int i)] [] (.t (.bool true)) []:=by
  intro i s hs hp
  have:=xF d hd p h i s hs
  rwa [decide_eq_true (hf i s hs hp)]at this
 have hl:=h.pum
 have hn:=hd.t
 obtain⟨r,q,m⟩:=p
 simp only[List.length_map]at hl
 dsimp only at hc ⊢
 refine nI Tryz.func115 rfl Tryz.ntmps115 ?_
 refine ah ?_
 refine oP ?_
 refine lP (ι:=Nat) (fun k=>⟨[(2,.pt 502 [] 0),(3,.pt 503 [] 0),(8,.t (BM m)),(9,.t (.int m.length)),(10,.t (.int k))],[(502,.box 32 (.t (.agg d.l))),(503,.box 37 (.t (bW ⟨r,q,m⟩)))]⟩) (fun k=>k≤m.length) (fun k=>m.length - k) 0 [(502,some 102),(503,some 103)] (by omega) ?_
 intro k hk
 by_cases hb:k < m.length
 ·obtain⟨x,hx⟩:=aa hb
  obtain⟨s,hs⟩:=aa (l:=d.stns) (k:=k) (by omega)
  cases x
  ·refine aJ hx ?_
   exact nY (k+1) [(502,some 502),(503,some 503)]
  ·have c1:=hc k s hs hx
   refine aJ hx ?_
   refine dr hx c1 [] ?_
   refine aJ hx ?_
   exact nY (k+1) [(502,some 502),(503,some 503)]
 ·obtain rfl:k=m.length:=by omega
  refine ah ?_
  exact aF []
theorem Mt (v:Vv) (h:jJ v):aj Tryz.prog 112 [.t (bL v)] [] (.t (.bool false)) []:=by
 have c1:=j9 v h
 obtain⟨t,o,w,s⟩:=v
 refine nI Tryz.func112 rfl Tryz.ntmps112 ?_
 refine ah ?_
 refine ax c1 [] ?_
 refine ah ?_
 exact aF []
theorem M6 (l:List Vv) (hl:l.length≤1000) (h:∀ v∈l,jJ v):aj Tryz.prog 176 [.t (.sl 4 (l.map bL)),.fn 112 []] [] (.t (.int (-1))) []:=by
 refine nI Tryz.func176 rfl Tryz.ntmps176 ?_
 refine ah ?_
 refine oP ?_
 refine lP (ι:=Nat) (fun k=>⟨[(0,.t (.sl 4 (l.map bL))),(1,.fn 112 []),(7,.t (.int l.length)),(8,.t (.int k))],[]⟩) (fun k=>k≤l.length) (fun k=>l.length - k) 0 [] (by omega) ?_
 intro k hk
 by_cases hb:k < l.length
 ·obtain⟨x,hx⟩:=aa hb
  have c:=Mt x (h x (au hx))
  refine aJ hx ?_
  refine dr hx c [] ?_
  refine ah ?_
  exact nY (k+1) []
 ·obtain rfl:k=l.length:=by omega
  refine ah ?_
  exact aF []
theorem Kg (l:List Vv) (hl:l.length≤1000) (h:∀ v∈l,jJ v):aj Tryz.prog 111 [.t (.sl 4 (l.map bL)),.fn 112 []] [] (.t (.bool false)) []:=by
 have c:=M6 l hl h
 refine nI Tryz.func111 rfl Tryz.ntmps111 ?_
 refine ah ?_
 refine ax c [] ?_
 refine ah ?_
 exact aF []
theorem xD (d:aB) (hd:bq d) (k:Dk) (h:gT d k):aj Tryz.prog 50 [.t (.agg d.l),.t (db k)] [] (.t (.int 0)) []:=by
 have hsz:=h.sz hd
 have c1:=iW d hd.ok
 have c2:=Ak d hd
 have hv1:=hsz.v
 have c3:=Kg k.vs (by omega) h.vo
 have c4:=kJ d hd.ok k.pl.rs k.pl.ps _ h.fl
 have c5:=EN d hd k.pl h.fl
 have hl:=h.ln
 have l1:=eW k.pl.rs
 have l2:=eW k.pl.ps
 have f1:=h.fl.pln.l1
 have f2:=h.fl.pln.l2
 have c6:=tK (mZ k.pl.rs) (mZ k.pl.ps) (by omega) (by omega)
 have c7:=Bo d hd k.pl h.fl h.fd
 have hrd:=h.rd
 have hvo:=h.vo
 obtain⟨vs,r,q,m⟩:=k
 unfold jo at hrd
 dsimp only at *
 obtain⟨N,hN⟩:∃ N,mZ r++mZ q=N:=⟨_,rfl⟩
 have hNl:N.length=vs.length:=by rw[←hN,List.length_append];omega
 rw[hN]at c6 hrd
 refine nI Tryz.func50 rfl Tryz.ntmps50 ?_
 refine ah ?_
 refine ax c1 [] ?_
 refine ah ?_
 refine dr hl c2 [] ?_
 refine dr hl c3 [] ?_
 refine aJ hl ?_
 refine ax c4 [] ?_
 refine ah ?_
 refine ax c5 [] ?_
 refine ah ?_
 refine ax c6 [] ?_
 refine ah ?_
 refine oP ?_
 refine lP (ι:=Nat) (fun k=>⟨[(2,.pt 502 [] 0),(3,.pt 503 [] 0),(45,.t (BM N)),(46,.t (.int N.length)),(47,.t (.int k))],[(502,.box 32 (.t (.agg d.l))),(503,.box 39 (.t (db ⟨vs,r,q,m⟩)))]⟩) (fun k=>k≤N.length) (fun k=>N.length - k) 0 [(502,some 102),(503,some 103)] (by omega) ?_
 intro k hk
 by_cases hb:k < N.length
 ·obtain⟨x,hx⟩:=aa hb
  obtain⟨v,hv⟩:=aa (l:=vs) (k:=k) (by omega)
  cases x
  ·refine c9 hx hv ?_
   exact nY (k+1) [(502,some 502),(503,some 503)]
  ·obtain⟨e1,e2⟩:=hrd k v hv hx
   have c8:=BV v (hvo v (au hv))
   rw[show nZ v=true by simp[nZ,e1,e2]]at c8
   refine c9 hx hv ?_
   refine lf hx hv c8 [] ?_
   refine aJ hx ?_
   exact nY (k+1) [(502,some 502),(503,some 503)]
 ·obtain rfl:k=N.length:=by omega
  refine ah ?_
  refine ax c7 [] ?_
  refine ah ?_
  exact aF []
theorem Gq (l:List (Int×Int)) (h:Pc.Vd l):aj Tryz.prog 217 [.t (aU l)] [] (.t (.int (Pc.bN l))) []:=by
 have hlen:=h.len
 refine nI Tryz.func217 rfl Tryz.ntmps217 ?_
 refine ah ?_
 refine ax (fC l (by omega) true (Pc.iq h)) [] ?_
 refine ah ?_
 refine ax (o7 l h.sane) [] ?_
 refine ah ?_
 exact aF []
theorem CQ (f:List (Int×Int)) (h:Pc.Vd f):aj Tryz.prog 215 [.t (aU f)] [] (.t (.bool false)) []:=by
 have hlen:=h.len
 have c:=fC f (by omega) true (Pc.iq h)
 refine nI Tryz.func215 rfl Tryz.ntmps215 ?_
 refine ah ?_
 refine ax c [] ?_
 refine ah ?_
 exact aF []
theorem GX (b:Int) (h:0≤b∧b < 1000):aj Tryz.prog 143 [.t (.int b)] [] (.t (.bool false)) []:=by
 obtain⟨h1,h2⟩:=h
 refine nI Tryz.func143 rfl Tryz.ntmps143 ?_
 refine c9 h1 h2 ?_
 exact BJ h1 h2 []
def Lx (d:fk):Prop:=aj Tryz.prog 53 [.t (.agg d.net)] [] (.t (.int 0)) []
structure yT (d:fk) (fills:List (List (Int×Int))):Prop where
 len:fills.length=d.segs.length
 vd:∀ f∈fills,Pc.Vd f
 cap:∀ (i:Nat) f s,fills[i]? = some f→d.segs[i]? = some s→Pc.bN f=s.1.cp
theorem GQ (d:fk) (hd:ml d) (hn:Lx d) (fills:List (List (Int×Int))) (hf:yT d fills):aj Tryz.prog 141 [.t (.agg d.net),.t (.sl 1 (fills.map aU))] [] (.t (.int 0)) []:=by
 have w1:=hd.w1
 have w2:=hd.w2
 have w3:=hd.w3
 have w4:=hd.w4
 have hmS:=hd.maxS
 obtain⟨f1,f2,f3⟩:=hf
 have c2:=IA fills (by omega) (fun p hp=>CQ p (f2 p hp))
 unfold Lx at hn
 refine nI Tryz.func141 rfl Tryz.ntmps141 ?_
 refine lO w1 w2 w3 w4 ?_
 refine aY.fn (hn) [] [] [] (by kernel_rfl) ?_ ?_ ?_ (Or.inl rfl) ?_<;>simp[go_sem,↓iO,iO,tN,w1,w2,w3,w4]
 repeat (first|(refine af rfl ?_;simp[go_sem,↓iO,iO,tN,w1,w2,w3,w4,f1])|refine ba ?_|refine⟨aZ,?_⟩|refine iP ?_|refine iN ?_)
 refine aY.fn (c2) [] [] [] (by kernel_rfl) ?_ ?_ ?_ (Or.inl rfl) ?_<;>simp[go_sem,↓iO,iO,tN,w1,w2,w3,w4,f1]
 repeat (first|(refine af rfl ?_;simp[go_sem,↓iO,iO,tN,w1,w2,w3,w4,f1])|refine ba ?_|refine⟨aZ,?_⟩|refine iP ?_|refine iN ?_)
 refine oP ?_
 refine CW.loop (ι:=Nat) (fun k=>⟨[(2,.pt 102 [] 0),(23,.t (.sl 1 (fills.map aU))),(24,.t (.int fills.length)),(25,.t (.int k))],[(102,.box 32 (.t (.agg d.net)))]⟩) (fun k=>k≤fills.length) (fun k=>fills.length - k) 0 [(102,some 102)] (by omega) ?_ ?_
 ·simp[go_sem,↓iO,iO,tN,f1]
 intro k hk
 by_cases hb:k < fills.length
 ·obtain⟨f,hp⟩:=aa hb
  obtain⟨s,hs⟩:∃ s,d.segs[k]? = some s:=aa (by omega)
  have hv:=f3 k f s hp hs
  have cv:=Gq f (f2 f (au hp))
  rw[hv]at cv
  obtain⟨⟨nm,fr,to,cp,rs,wv⟩,pts⟩:=s
  dsimp only at cv
  have hp2:fills[k]=f:=(List.getElem?_eq_some_iff.1 hp).2
  have hs2:d.segs[k]=(⟨nm,fr,to,cp,rs,wv⟩,pts):=(List.getElem?_eq_some_iff.1 hs).2
  have hb2:k < d.segs.length:=by omega
  repeat (first|(refine af rfl ?_;simp[go_sem,↓iO,iO,tN,hp,hp2,hs,hs2,hb,hb2,w1,w2,w3,w4])|refine ba ?_|refine⟨aZ,?_⟩|refine iP ?_|refine iN ?_)
  refine aY.fn (cv) [] [] [] (by kernel_rfl) ?_ ?_ ?_ (Or.inl rfl) ?_<;>simp[go_sem,↓iO,iO,tN,hp,hp2,hs,hs2,hb,hb2,w1,w2,w3,w4]
  repeat (first|(refine af rfl ?_;simp[go_sem,↓iO,iO,tN,hp,hp2,hs,hs2,hb,hb2,w1,w2,w3,w4])|refine ba ?_|refine⟨aZ,?_⟩|refine iP ?_|refine iN ?_)
  exact nY (k+1) [(102,some 102)]
 ·obtain rfl:k=fills.length:=by omega
  refine ah ?_
  exact aF []
theorem map_some (l:List (List (Int×Int))):(l.map some).map xt=l.map aU:=by rw[List.map_map];rfl
theorem HZ (d:fk) (hd:ml d) (hn:Lx d) (fills:List (List (Int×Int))) (hf:yT d fills) (ord:List Int) (ho:aj Tryz.prog 142 [.t (.agg d.net),.t (.agg d.plan)] [] (.tup [.t (.sl 1 (ord.map aC)),.t (.int 0)]) [])
  (hfd:∀ b∈d.feeds,0≤b∧b < 1000) :
  aj Tryz.prog 72 [.t (.agg d.net),.t (.sl 1 (fills.map aU)),.t (.agg d.plan),.t (.sl 1 (d.feeds.map aC))] []
   (.tup [.pt 1000 [] 0,.t (.int 0)]) [(1000,.box 164 (.ag [.t (.agg d.net),.t (.agg d.plan),.t (.sl 1 (d.feeds.map aC)),.t (.sl 1 (ord.map aC)),.own 1001,.t (.lit (.slice none 0 0)),.t (.lit (.slice none 0 0))])),(1001,aT (fills.map some))]:=by
 have w1:=hd.w1
 have w2:=hd.w2
 have w3:=hd.w3
 have w4:=hd.w4
 have w5:=hd.w5
 have hmS:=hd.maxS
 have hmP:=hd.maxP
 have hlF:=hd.lenF
 have f1:=hf.len
 have c1:=GQ d hd hn fills hf
 have c2:=Kc d.feeds (by omega) (fun p hp=>GX p (hfd p hp))
 refine nI Tryz.func72 rfl Tryz.ntmps72 ?_
 refine yB w1 w2 w3 w4 w5 ?_
 refine aY.fn (c1) [] [] [] (by kernel_rfl) ?_ ?_ ?_ (Or.inl rfl) ?_<;>simp[go_sem,↓iO,iO,tN,w1,w2,w3,w4,w5]
 repeat (refine ba ?_)
 try (refine⟨aZ,?_⟩)
 refine yB w1 w2 w3 w4 w5 ?_
 refine aY.fn (ho) [] [] [] (by kernel_rfl) ?_ ?_ ?_ (Or.inl rfl) ?_<;>simp[go_sem,↓iO,iO,tN,w1,w2,w3,w4,w5]
 repeat (refine ba ?_)
 try (refine⟨aZ,?_⟩)
 refine JM w1 w2 w3 w4 w5 hlF ?_
 refine aY.fn (c2) [] [] [] (by kernel_rfl) ?_ ?_ ?_ (Or.inl rfl) ?_<;>simp[go_sem,↓iO,iO,tN,w1,w2,w3,w4,w5,hlF]
 repeat (refine ba ?_)
 try (refine⟨aZ,?_⟩)
 refine JM w1 w2 w3 w4 w5 hlF ?_
 refine oP ?_
 refine CW.loop (ι:=Nat) (fun k=>⟨[(13,.pt 146 [] 0),(47,.t (.sl 1 (fills.map aU))),(48,.t (.int fills.length)),(49,.t (.int k))],[(146,.box 164 (.ag [.t (.agg d.net),.t (.agg d.plan),.t (.sl 1 (d.feeds.map aC)),.t (.sl 1 (ord.map aC)),.own 500,.t (.lit (.slice none 0 0)),.t (.lit (.slice none 0 0))])),(500,.list 89 1 ((fills.take k).map aU))]⟩) (fun k=>k≤fills.length) (fun k=>fills.length - k) 0 [(146,some 146),(500,none)] (by omega) ?_ ?_
 ·simp[go_sem,↓iO,iO,tN]
  simp only[bZ]
  exact⟨bx _,rfl,bx _,rfl,bx _,rfl,bx _,rfl,rfl,rfl,bx _,rfl,bx _,rfl,trivial⟩
 intro k hk
 by_cases hb:k < fills.length
 ·obtain⟨f,hp⟩:=aa hb
  have hfl:=(hf.vd f (au hp)).len
  have hp2:fills[k]=f:=(List.getElem?_eq_some_iff.1 hp).2
  have cc:=j8 f (by omega)
  have e1:(fills.take k).map aU++[aU f]=(fills.take (k+1)).map aU:=by
   rw[List.take_succ_eq_append_getElem hb,hp2];simp
  simp only[aU]at e1
  repeat (first|(refine af rfl ?_;simp[go_sem,↓iO,iO,tN,hp,hp2,hb,w1,w2,w3,w4,w5])|refine ba ?_|refine⟨aZ,?_⟩|refine iP ?_|refine iN ?_)
  refine aY.fn (cc) [(1000,600)] [] [] (by kernel_rfl) ?_ ?_ ?_ (Or.inl rfl) ?_<;>simp[go_sem,↓iO,iO,tN,hp,hp2,hb,w1,w2,w3,w4,w5]
  repeat (first|(refine af rfl ?_;simp[go_sem,↓iO,iO,tN,hp,hp2,hb,w1,w2,w3,w4,w5])|refine ba ?_|refine⟨aZ,?_⟩|refine iP ?_|refine iN ?_)
  refine nX (k+1) [(146,some 146),(500,some 161)] ?_ ?_ ?_
  ·omega
  ·omega
  have e2:=e1
  simp only[List.map_take]at e2
  simp[go_sem,↓iO,iO,tN,e2.symm]
 ·obtain rfl:k=fills.length:=by omega
  rw[List.take_length]
  refine ah ?_
  first|rw[av]|rw[ae]
  refine⟨[(1000,some 146),(1001,some 500)],?_⟩
  simp[go_sem,↓iO,iO,tN,map_some]
end Go.Proofs.YtocndodilpimnaaGreat
namespace Go.Proofs.YtocndodilpimnaaGreat.Sy
open Go.RowKit
def y7 (P:Program) (l:Nat) (assign body:Code) (us:List Value) (w:World) (R:Ending→World→Prop):Prop:=
 ∀ r,w.heap[l]? = some (Obj.loop r)→assign.wpIn (Fence.wide.inRound l) 7 P (Exit.then (fun a1 w1=>KA l w w1∧w1.heap[l]? = w.heap[l]?∧∀ o':Obj,o'.isCells=false→body.wpIn (Fence.wide.inRound l) 7 P (fun e _ w'=>KA l w w'∧w'.heap[l]? = some o'∧match e with
   | .ret=>R (.returned (.bool false)) (w'.putObj l (.loop r))
   | _=>False) a1 (w1.putObj l o')) (fun _ _ _=>False)) {tmps:=us.toArray,defers:=[]} w
theorem y7.mono {P:Program} {l:Nat} {assign body:Code} (us:List Value) (w:World) (R R':Ending→World→Prop) (h:y7 P l assign body us w R) (hR:∀ e w',R e w'→R' e w'):y7 P l assign body us w R':=by
 intro r hr
 refine wpIn_mono (h r hr) ?_
 rintro e a1 w1 hp
 cases e with
 | normal=>
  refine⟨hp.1,hp.2.1,fun o' ho=>wpIn_mono (hp.2.2 o' ho) ?_⟩
  rintro e a2 w2 ⟨h1,h3,h2⟩
  refine⟨h1,h3,?_⟩
  cases e with
  | ret=>exact hR _ _ h2
  | _=>exact h2
 | _=>exact hp
end Go.Proofs.YtocndodilpimnaaGreat.Sy
namespace Go.Proofs.YtocndodilpimnaaGreat
open Go.RowKit Sy Dl
def dt:Nat→(Nat→Int)→Int
 | 0,_=>0
 | n+1,f=>dt n f+f n
theorem gw {f g:Nat→Int}:∀ {n:Nat},(∀ i,i < n→f i=g i)→dt n f=dt n g
 | 0,_=>rfl
 | n+1,h=>by
  have:=gw (n:=n) fun i hi=>h i (by omega)
  simp only[dt,this,h n (by omega)]
theorem oX (f g:Nat→Int):∀ n,dt n (fun i=>f i+g i)=dt n f+dt n g
 | 0=>rfl
 | n+1=>by simp only[dt,oX f g n];omega
theorem wL:∀ n,dt n (fun _=>0)=0
 | 0=>rfl
 | n+1=>by simp only[dt,wL n];rfl
theorem qb (f:Nat→Int):∀ n,dt (n+1) f=f 0+dt n fun i=>f (i+1)
 | 0=>by simp[dt]
 | n+1=>by
  have:=qb f n
  simp only[dt]at this ⊢
  omega
theorem ob {f g:Nat→Int} {i:Nat} {x:Int}:∀ {n:Nat},i < n→g i=f i+x→(∀ j,j < n→j≠i→g j=f j)→dt n g=dt n f+x
 | 0,h,_,_=>by omega
 | n+1,h,h1,h2=>by
  simp only[dt]
  by_cases e:i=n
  ·subst e
   rw[gw (f:=g) (g:=f) fun j hj=>h2 j (by omega) (by omega),h1];omega
  ·rw[ob (f:=f) (g:=g) (n:=n) (by omega) h1 fun j hj hne=>h2 j (by omega) hne,h2 n (by omega) (fun q=>e q.symm)];omega
def fk.ps (d:fk):List vO:=d.segs.map (·.1)
theorem JD {α:Type} {l:List α} (h:l.Nodup) {i j:Nat} {x:α} (hi:l[i]? = some x) (hj:l[j]? = some x):i=j:=by
 obtain⟨hil,ei⟩:=List.getElem?_eq_some_iff.1 hi
 obtain⟨hjl,ej⟩:=List.getElem?_eq_some_iff.1 hj
 by_cases e:i=j
 ·exact e
 ·exfalso
  have hp:=List.pairwise_iff_getElem.1 h
  rcases Nat.lt_or_gt_of_ne e with hlt|hlt
  ·exact hp i j hil hjl hlt (by rw[ei,ej])
  ·exact hp j i hjl hil hlt (by rw[ei,ej])
theorem Kl {α:Type} {l:List α} {x:α} {k:Nat} (h:x∈l.take k):∃ i,i < k∧l[i]? = some x:=by
 obtain⟨i,hi,e⟩:=List.getElem_of_mem h
 rw[List.length_take]at hi
 refine⟨i,by omega,?_⟩
 rw[List.getElem_take]at e
 rw[←e];exact List.getElem?_eq_getElem (by omega)
theorem lk {f:Nat→Int} {n:Nat} (h:∀ i,i < n→f i=0):dt n f=0:=by rw[gw (g:=fun _=>0) h];exact wL n
theorem gB {l:List Int} {k:Nat} (h:aV l k) (n:Int) (h1:1≤n) (h2:n≤9223372036854775807):∃ v,(0≤v∧v < n)∧aj Tryz.prog 13 [.pt 0 [] 0,.t (.int n)] [(0,bu l k)] (.t (.int v)) [(0,bu l (ai l k))]:=
 ⟨_,bD h1,kv l k n h h2⟩
def cU (l:List Int) (k:Nat) (xs:List Int):Int:=xs.getD (nV l k xs.length).toNat 0
theorem dV {l:List Int} {k:Nat} {xs:List Int} (h:1≤xs.length):cU l k xs∈xs:=by
 have h1:=bD (l:=l) (k:=k) (n:=xs.length) (by omega)
 obtain⟨v,hv⟩:=aa (show (nV l k xs.length).toNat < xs.length by omega)
 unfold cU
 rw[List.getD_eq_getElem?_getD,hv]
 exact au hv
theorem dC {l:List Int} {k:Nat} (h:aV l k) (xs:List Int) (h1:1≤xs.length) (h2:xs.length≤1000000) :
  aj Tryz.prog 26 [.pt 0 [] 0,.t (bB xs)] [(0,bu l k)] (.t (.int (cU l k xs))) [(0,bu l (ai l k))]:=by
 have hn:=bD (l:=l) (k:=k) (n:=xs.length) (by omega)
 have hc:=kv l k xs.length h (by omega)
 have hp:cU l k xs=xs.getD (nV l k xs.length).toNat 0:=rfl
 obtain⟨n,hnn⟩:∃ n,nV l k xs.length=n:=⟨_,rfl⟩
 rw[hnn]at hn hc hp
 obtain⟨m,rfl⟩:∃ m:Nat,n=(m:Int):=⟨n.toNat,by omega⟩
 obtain⟨v,hv⟩:=aa (show m < xs.length by omega)
 rw[Int.toNat_natCast,List.getD_eq_getElem?_getD,hv]at hp
 rw[hp]
 refine nI Tryz.func26 rfl Tryz.ntmps26 ?_
 refine ah ?_
 refine dr hv hc [(0,0)] ?_
 refine aJ hv ?_
 exact aF [(0,some 0)]
theorem gO {l:List Int} {k:Nat} (h:aV l k) (xs:List Int) (h1:1≤xs.length) (h2:xs.length≤1000000) :
  ∃ v,v∈xs∧aj Tryz.prog 26 [.pt 0 [] 0,.t (bB xs)] [(0,bu l k)] (.t (.int v)) [(0,bu l (ai l k))]:=
 ⟨_,dV h1,dC h xs h1 h2⟩
open Go.IntWalk renaming iteOmega → iO, toNatUp → tN
def da (l:List Int) (k:Nat) (lo hi:Int):Int:=lo+nV l k (hi - lo+1)
theorem bG {l:List Int} {k:Nat} {lo hi:Int} (h:lo≤hi):lo≤da l k lo hi∧da l k lo hi≤hi:=by
 have:=bD (l:=l) (k:=k) (n:=hi - lo+1) (by omega)
 unfold da;omega
theorem fT (l:List Int) (k:Nat) (lo hi:Int) (h:aV l k) (h1:-1000000000000000000≤lo) (h2:lo≤hi) (h3:hi≤1000000000000000000) :
  aj Tryz.prog 27 [.pt 0 [] 0,.t (.int lo),.t (.int hi)] [(0,bu l k)] (.t (.int (da l k lo hi))) [(0,bu l (ai l k))]:=by
 have h4:=bD (l:=l) (k:=k) (n:=hi - lo+1) (by omega)
 refine nI Tryz.func27 rfl Tryz.ntmps27 ?_
 refine ah ?_
 refine ax (kv l k (hi - lo+1) h (by omega)) [(0,0)] ?_
 refine ah ?_
 first|rw[av]|rw[ae]
 refine⟨[(0,some 0)],?_⟩
 simp[go_sem,↓iO,iO,tN,da]
theorem M5 (a b:List Nat):str a++str b=str (a++b):=by
 apply ByteArray.ext
 simp[str]
theorem o9 (c:Nat) (fst:ByteArray) (hf:fst=str [c]) (k:Nat) (hk:k < 26):aj Tryz.prog 28 [.t (.lit (.string fst)),.t (.int (k:Int))] [] (.t (.lit (.string (str [c,97+k])))) []:=by
 subst hf
 have e:k % 26=k:=Nat.mod_eq_of_lt hk
 refine nI Tryz.func28 rfl Tryz.ntmps28 ?_
 refine ah ?_
 first|rw[av]|rw[ae]
 refine⟨[],?_⟩
 simp[go_sem,↓iO,iO,tN,M5,e]
def uZ (l:List Int) (cp lim:Int):Nat→Nat×Int×List (Int×Int×Int)→Nat×List (Int×Int×Int)
 | 0,s=>(s.1,s.2.2)
 | f+1,s=>if 0 < nV l s.1 3 then
   (
    if cp≤s.2.1+da l (ai l s.1) 1 40 then (ai l (ai l s.1),s.2.2)
    else uZ l cp lim f (ai l (ai l (ai l (ai l (ai l s.1)))),s.2.1+da l (ai l s.1) 1 40,
     s.2.2++[(s.2.1+da l (ai l s.1) 1 40,da l (ai l (ai l s.1)) (-5) 60 * cU l (ai l (ai l (ai l s.1))) [1,1,10],lim - nV l (ai l (ai l (ai l (ai l s.1)))) 3 * 1000)]))
  else (ai l s.1,s.2.2)
structure QM (P:List (Int×Int×Int)) (at':Int):Prop where
 l0:1≤P.length
 l1:P.length≤7
 pts:∀ (k:Nat) (p:Int×Int×Int),P[k]? = some p→((-500:Int)≤p.2.1∧p.2.1≤5000)∧(0≤p.2.2∧p.2.2≤100000000)∧∀ q,0 < k→P[k - 1]? = some q→q.1 < p.1
 fst:∀ (p:Int×Int×Int),P[0]? = some p→p.1=0
 lst:∀ (p:Int×Int×Int),P[P.length - 1]? = some p→p.1=at'
theorem Fk {P:List (Int×Int×Int)} {a:Int} (h:QM P a) (x:Int×Int×Int) (h1:(-500:Int)≤x.2.1∧x.2.1≤5000) (h2:0≤x.2.2∧x.2.2≤100000000) (h3:a < x.1) :
  (∀ (k:Nat) (p:Int×Int×Int),(P++[x])[k]? = some p→((-500:Int)≤p.2.1∧p.2.1≤5000)∧(0≤p.2.2∧p.2.2≤100000000)∧∀ q,0 < k→(P++[x])[k - 1]? = some q→q.1 < p.1)∧
  (∀ (p:Int×Int×Int),(P++[x])[0]? = some p→p.1=0)∧(∀ (p:Int×Int×Int),(P++[x])[(P++[x]).length - 1]? = some p→p.1=x.1):=by
 have hl:=h.l0
 refine⟨fun k p hp=>?_,fun p hp=>?_,fun p hp=>?_⟩
 ·by_cases hk:k < P.length
  ·rw[List.getElem?_append_left hk]at hp
   obtain⟨a1,a2,a3⟩:=h.pts k p hp
   refine⟨a1,a2,fun q hq hq2=>a3 q hq ?_⟩
   rw[List.getElem?_append_left (by omega)]at hq2
   exact hq2
  ·have:k=P.length:=by
    have:=(List.getElem?_eq_some_iff.1 hp).1
    simp at this;omega
   subst this
   simp at hp
   subst hp
   refine⟨h1,h2,fun q hq hq2=>?_⟩
   rw[List.getElem?_append_left (by omega)]at hq2
   rw[h.lst q hq2];exact h3
 ·rw[List.getElem?_append_left (by omega)]at hp
  exact h.fst p hp
 ·simp at hp
  subst hp;rfl
theorem xX {h m:Int} (h1:-5≤h∧h≤60) (h2:m∈[1,1,10]):-50≤h * m∧h * m≤600:=by
 have:m=1∨m=10:=by simp at h2;omega
 rcases this with rfl|rfl<;>omega
theorem FJ {l:List Int} {cp lim:Int} (hcp:1≤cp) (hlim:1000000≤lim∧lim≤100000000):∀ (f:Nat) (s:Nat×Int×List (Int×Int×Int)),aV l s.1→QM s.2.2 s.2.1→s.2.1 < cp→s.2.2.length+f≤7→
  aV l (uZ l cp lim f s).1∧∃ a,QM (uZ l cp lim f s).2 a∧a < cp
 | 0,s,h,hp,ha,_=>⟨h,_,hp,ha⟩
 | f+1,s,h,hp,ha,hf=>by
  unfold uZ
  split
  ·split
   ·exact⟨h.next.next,_,hp,ha⟩
   ·rename_i hc
    have h1:=bG (l:=l) (k:=ai l s.1) (lo:=1) (hi:=40) (by omega)
    have h2:=bG (l:=l) (k:=ai l (ai l s.1)) (lo:=-5) (hi:=60) (by omega)
    have h3:=dV (l:=l) (k:=ai l (ai l (ai l s.1))) (xs:=[1,1,10]) (by simp)
    have h4:=bD (l:=l) (k:=ai l (ai l (ai l (ai l s.1)))) (n:=3) (by omega)
    have hm:=xX h2 h3
    obtain⟨q1,q2,q3⟩:=Fk hp (s.2.1+da l (ai l s.1) 1 40,da l (ai l (ai l s.1)) (-5) 60 * cU l (ai l (ai l (ai l s.1))) [1,1,10],lim - nV l (ai l (ai l (ai l (ai l s.1)))) 3 * 1000) (by dsimp only;omega) (by dsimp only;omega) (by dsimp only;omega)
    refine FJ hcp hlim f _ h.next.next.next.next.next ⟨?_,?_,q1,q2,q3⟩ ?_ ?_
    ·show 1≤(_++[_]).length
     simp
    ·have:=hp.l1
     show (_++[_]).length≤7
     simp only[List.length_append,List.length_cons,List.length_nil]
     omega
    ·show s.2.1+da l (ai l s.1) 1 40 < cp
     omega
    ·show (_++[_]).length+f≤7
     simp only[List.length_append,List.length_cons,List.length_nil]
     omega
  ·exact⟨h.next,_,hp,ha⟩
theorem IK (l:List Int) (j:Nat) (h:aV l j) (k:Nat) (hk:k < 26) (a b:Nat) (ha:a≤1000) (hb:b≤1000) (hab:a≠b):∃ s k',aV l k'∧s.1.nm=[103,97+k]∧((s.1.fr=(a:Int)∧s.1.to=(b:Int))∨(s.1.fr=(b:Int)∧s.1.to=(a:Int)))∧jB s∧s.1.cp≤1000∧
  aj Tryz.prog 29 [.pt 0 [] 0,.t (.int (k:Int)),.t (.int (a:Int)),.t (.int (b:Int))] [(0,bu l j)] (.t (bA s)) [(0,bu l k')]:=by
 obtain⟨z,⟨z1,z2⟩,cz⟩:=gB h 4 (by omega) (by omega)
 obtain⟨cp,cp1,ccp⟩:=gO h.next [1,2,7,20,60,200,1000] (by simp) (by simp)
 obtain⟨rs,rs1,crs⟩:=gO h.next.next [0,1,5,1000] (by simp) (by simp)
 obtain⟨wv,wv1,cwv⟩:=gO h.next.next.next [0,50,1000,100000] (by simp) (by simp)
 obtain⟨lim,lim1,clim⟩:=gO h.next.next.next.next [1000000,6000000,100000000] (by simp) (by simp)
 have chh:=fT l _ (-5) 30 h.next.next.next.next.next (by omega) (by omega) (by omega)
 have hh1:=bG (l:=l) (k:=ai l (ai l (ai l (ai l (ai l j))))) (lo:=-5) (hi:=30) (by omega)
 obtain⟨hh,hhe⟩:∃ x,da l (ai l (ai l (ai l (ai l (ai l j))))) (-5) 30=x:=⟨_,rfl⟩
 rw[hhe]at chh hh1
 have hok:=h.next.next.next.next.next.next
 obtain⟨k0,hk0⟩:∃ x,ai l (ai l (ai l (ai l (ai l (ai l j)))))=x:=⟨_,rfl⟩
 rw[hk0]at chh hok
 have cn:=o9 103 ⟨#[103]⟩ rfl k hk
 obtain⟨fin,hfin⟩:∃ fin,uZ l cp lim 6 (k0,0,[(0,hh,lim)])=fin:=⟨_,rfl⟩
 have hcp:1≤cp∧cp≤1000:=by simp at cp1;omega
 have hlim:1000000≤lim∧lim≤100000000:=by simp at lim1;omega
 obtain⟨fK,fP⟩:=fin
 have hlast:=bG (l:=l) (k:=fK) (lo:=-5) (hi:=30) (by omega)
 obtain⟨la,hla⟩:∃ x,da l fK (-5) 30=x:=⟨_,rfl⟩
 rw[hla]at hlast
 have hp0:QM [((0:Int),hh,lim)] 0:=by
  refine⟨by simp,by simp,fun k p hp=>?_,fun p hp=>?_,fun p hp=>?_⟩
  ·have:k=0:=by
    have:=(List.getElem?_eq_some_iff.1 hp).1
    simp at this;omega
   subst this
   simp at hp;subst hp
   refine⟨?_,?_,fun q hq=>absurd hq (Nat.lt_irrefl 0)⟩<;>dsimp only<;>omega
  ·simp at hp;subst hp;rfl
  ·simp at hp;subst hp;rfl
 obtain⟨g1,ga,g2,g3⟩:=FJ hcp.1 hlim 6 (k0,0,[(0,hh,lim)]) hok hp0 (by dsimp only;omega) (by simp)
 rw[hfin]at g1 g2
 dsimp only at g1 g2
 obtain⟨fr,to,hft⟩:∃ fr to:Int,(z=0∧fr=b∧to=a)∨(z≠0∧fr=a∧to=b):=by
  by_cases hz:z=0
  ·exact⟨_,_,Or.inl ⟨hz,rfl,rfl⟩⟩
  ·exact⟨_,_,Or.inr ⟨hz,rfl,rfl⟩⟩
 obtain⟨q1,q2,q3⟩:=Fk g2 (cp,la,lim) (by dsimp only;omega) (by dsimp only;omega) g3
 refine⟨(⟨[103,97+k],fr,to,cp,rs,wv⟩,fP++[(cp,la,lim)]),ai l fK,g1.next,rfl,?_,⟨?_,?_,?_,?_,?_,q1,q2,q3⟩,hcp.2,?_⟩
 ·rcases hft with ⟨_,h1,h2⟩|⟨_,h1,h2⟩
  ·exact Or.inr ⟨h1,h2⟩
  ·exact Or.inl ⟨h1,h2⟩
 ·show fr≠to
  rcases hft with ⟨_,h1,h2⟩|⟨_,h1,h2⟩<;>omega
 ·show 1≤cp∧cp≤1000000
  omega
 ·show 0≤rs∧rs≤1000
  simp at rs1;omega
 ·show 0≤wv∧wv≤100000
  simp at wv1;omega
 ·have h0:=g2.l0
  have h1:=g2.l1
  show 2≤(fP++[(cp,la,lim)]).length∧(fP++[(cp,la,lim)]).length≤8
  simp only[List.length_append,List.length_cons,List.length_nil]
  omega
 have cl:=fT l fK (-5) 30 g1 (by omega) (by omega) (by omega)
 rw[hla]at cl
 have hnb:((b:Int)≤1000)∧((a:Int)≤1000):=by omega
 clear g2 g3 q1 q2 q3 hp0
 rcases hft with ⟨hz,rfl,rfl⟩|⟨hz,rfl,rfl⟩
 ·refine nI Tryz.func29 rfl Tryz.ntmps29 ?_
  refine ah ?_
  refine ax cz [(0,0)] ?_
  refine aJ hz ?_
  refine ax cn [] ?_
  refine ah ?_
  refine gj ccp [(0,0)] [] [122] ?_
  refine ah ?_
  refine gj crs [(0,0)] [] [125] ?_
  refine ah ?_
  refine gj cwv [(0,0)] [] [128] ?_
  refine ah ?_
  refine gj clim [(0,0)] [] [132] ?_
  refine ah ?_
  refine ax chh [(0,0)] ?_
  refine ah ?_
  refine oP ?_
  refine lP (ι:=Nat×Int×List (Int×Int×Int)) (fun st=>⟨[(0,.pt 0 [] 0),(8,.pt 508 [] 0),(9,.pt 509 [] 0),(10,.t (.int lim)),(11,.t (.int st.2.1))],[(0,bu l st.1),(508,.box 98 (.t (.agg [.lit (.string ByteArray.empty),.int 0,.int 0,.int 0,.int 0,.int 0,.lit (.slice none 0 0)]))),(509,.box 98 (.ag [.t (.lit (.string (str [103,97+k]))),.t (.int (b:Int)),.t (.int (a:Int)),.t (.int cp),.t (.int rs),.t (.int wv),.own 541])),(541,.list 131 3 (st.2.2.map xf))]⟩)
   (fun st=>aV l st.1∧(1≤st.2.2.length∧st.2.2.length≤7)∧(0≤st.2.1∧st.2.1 < cp)∧uZ l cp lim (7 - st.2.2.length) st=(fK,fP)) (fun st=>7 - st.2.2.length) (k0,0,[(0,hh,lim)]) [(0,some 0),(508,some 108),(509,some 109),(541,some 141)] ⟨hok,by simp,by dsimp only;omega,by simpa using hfin⟩ ?_
  rintro ⟨kk,at',P⟩ ⟨i1,⟨i2,i3⟩,⟨i4,i5⟩,i6⟩
  dsimp only at i1 i2 i3 i4 i5 i6 ⊢
  by_cases hP:P.length < 7
  ·obtain⟨f,hf⟩:∃ f,7 - P.length=f+1:=⟨6 - P.length,by omega⟩
   rw[hf]at i6
   have d1:=kv l kk 3 i1 (by omega)
   have e1:=bD (l:=l) (k:=kk) (n:=3) (by omega)
   unfold uZ at i6
   dsimp only at i6
   obtain⟨v,hv⟩:∃ v,nV l kk 3=v:=⟨_,rfl⟩
   rw[hv]at i6 d1 e1
   refine aJ hP ?_
   refine dr hP d1 [(0,0)] ?_
   by_cases hv0:0 < v
   ·rw[if_pos hv0]at i6
    have d2:=fT l (ai l kk) 1 40 i1.next (by omega) (by omega) (by omega)
    have e2:=bG (l:=l) (k:=ai l kk) (lo:=1) (hi:=40) (by omega)
    obtain⟨ra,hra⟩:∃ x,da l (ai l kk) 1 40=x:=⟨_,rfl⟩
    rw[hra]at i6 d2 e2
    refine aJ hv0 ?_
    refine dr hv0 d2 [(0,0)] ?_
    by_cases hc:cp≤at'+ra
    ·rw[if_pos hc]at i6
     simp only[Prod.mk.injEq]at i6
     obtain⟨rfl,rfl⟩:=i6
     refine aJ hc ?_
     refine ax cl [(0,0)] ?_
     refine ah ?_
     exact aF [(0,some 0)]
    ·rw[if_neg hc]at i6
     have d3:=fT l (ai l (ai l kk)) (-5) 60 i1.next.next (by omega) (by omega) (by omega)
     have e3:=bG (l:=l) (k:=ai l (ai l kk)) (lo:=-5) (hi:=60) (by omega)
     have d4:=dC (l:=l) i1.next.next.next [1,1,10] (by simp) (by simp)
     have e4:=dV (l:=l) (k:=ai l (ai l (ai l kk))) (xs:=[1,1,10]) (by simp)
     have d5:=kv l (ai l (ai l (ai l (ai l kk)))) 3 i1.next.next.next.next (by omega)
     have e5:=bD (l:=l) (k:=ai l (ai l (ai l (ai l kk)))) (n:=3) (by omega)
     obtain⟨rb,hrb⟩:∃ x,da l (ai l (ai l kk)) (-5) 60=x:=⟨_,rfl⟩
     obtain⟨pm,hpm⟩:∃ x,cU l (ai l (ai l (ai l kk))) [1,1,10]=x:=⟨_,rfl⟩
     obtain⟨nn,hnn⟩:∃ x,nV l (ai l (ai l (ai l (ai l kk)))) 3=x:=⟨_,rfl⟩
     rw[hrb]at i6 d3 e3
     rw[hpm]at i6 d4 e4
     rw[hnn]at i6 d5 e5
     have e6:=xX e3 e4
     have i1':=i1.next.next.next.next.next
     obtain⟨w,hw⟩:∃ w,rb * pm=w:=⟨_,rfl⟩
     rw[hw]at e6 i6
     obtain⟨k5,hk5⟩:∃ x,ai l (ai l (ai l (ai l (ai l kk))))=x:=⟨_,rfl⟩
     rw[hk5]at i6 d5 i1'
     refine aJ hc ?_
     refine ax d3 [(0,0)] ?_
     refine ah ?_
     refine gj d4 [(0,0)] [] [166] ?_
     refine aJ hw ?_
     refine dr hw d5 [(0,0)] ?_
     refine aJ hw ?_
     refine nX (k5,at'+ra,P++[(at'+ra,w,lim - nn * 1000)]) [(0,some 0),(508,some 508),(509,some 509),(541,some 176)] ?_ ?_ ?_
     ·refine⟨i1',?_,?_,?_⟩
      ·simp only[List.length_append,List.length_cons,List.length_nil];omega
      ·dsimp only;omega
      ·have:7 - (P++[(at'+ra,w,lim - nn * 1000)]).length=f:=by simp only[List.length_append,List.length_cons,List.length_nil];omega
       rw[this];exact i6
     ·simp only[List.length_append,List.length_cons,List.length_nil];omega
     exact dY
   ·rw[if_neg hv0]at i6
    simp only[Prod.mk.injEq]at i6
    obtain⟨rfl,rfl⟩:=i6
    refine aJ hv0 ?_
    refine ax cl [(0,0)] ?_
    refine ah ?_
    exact aF [(0,some 0)]
  ·have h7:7 - P.length=0:=by omega
   rw[h7]at i6
   unfold uZ at i6
   simp only[Prod.mk.injEq]at i6
   obtain⟨rfl,rfl⟩:=i6
   refine aJ hP ?_
   refine ax cl [(0,0)] ?_
   refine ah ?_
   exact aF [(0,some 0)]
 ·refine nI Tryz.func29 rfl Tryz.ntmps29 ?_
  refine ah ?_
  refine ax cz [(0,0)] ?_
  refine aJ hz ?_
  refine ax cn [] ?_
  refine ah ?_
  refine gj ccp [(0,0)] [] [122] ?_
  refine ah ?_
  refine gj crs [(0,0)] [] [125] ?_
  refine ah ?_
  refine gj cwv [(0,0)] [] [128] ?_
  refine ah ?_
  refine gj clim [(0,0)] [] [132] ?_
  refine ah ?_
  refine ax chh [(0,0)] ?_
  refine ah ?_
  refine oP ?_
  refine lP (ι:=Nat×Int×List (Int×Int×Int)) (fun st=>⟨[(0,.pt 0 [] 0),(8,.pt 508 [] 0),(9,.pt 509 [] 0),(10,.t (.int lim)),(11,.t (.int st.2.1))],[(0,bu l st.1),(508,.box 98 (.t (.agg [.lit (.string ByteArray.empty),.int 0,.int 0,.int 0,.int 0,.int 0,.lit (.slice none 0 0)]))),(509,.box 98 (.ag [.t (.lit (.string (str [103,97+k]))),.t (.int (a:Int)),.t (.int (b:Int)),.t (.int cp),.t (.int rs),.t (.int wv),.own 541])),(541,.list 131 3 (st.2.2.map xf))]⟩)
   (fun st=>aV l st.1∧(1≤st.2.2.length∧st.2.2.length≤7)∧(0≤st.2.1∧st.2.1 < cp)∧uZ l cp lim (7 - st.2.2.length) st=(fK,fP)) (fun st=>7 - st.2.2.length) (k0,0,[(0,hh,lim)]) [(0,some 0),(508,some 108),(509,some 109),(541,some 141)] ⟨hok,by simp,by dsimp only;omega,by simpa using hfin⟩ ?_
  rintro ⟨kk,at',P⟩ ⟨i1,⟨i2,i3⟩,⟨i4,i5⟩,i6⟩
  dsimp only at i1 i2 i3 i4 i5 i6 ⊢
  by_cases hP:P.length < 7
  ·obtain⟨f,hf⟩:∃ f,7 - P.length=f+1:=⟨6 - P.length,by omega⟩
   rw[hf]at i6
   have d1:=kv l kk 3 i1 (by omega)
   have e1:=bD (l:=l) (k:=kk) (n:=3) (by omega)
   unfold uZ at i6
   dsimp only at i6
   obtain⟨v,hv⟩:∃ v,nV l kk 3=v:=⟨_,rfl⟩
   rw[hv]at i6 d1 e1
   refine aJ hP ?_
   refine dr hP d1 [(0,0)] ?_
   by_cases hv0:0 < v
   ·rw[if_pos hv0]at i6
    have d2:=fT l (ai l kk) 1 40 i1.next (by omega) (by omega) (by omega)
    have e2:=bG (l:=l) (k:=ai l kk) (lo:=1) (hi:=40) (by omega)
    obtain⟨ra,hra⟩:∃ x,da l (ai l kk) 1 40=x:=⟨_,rfl⟩
    rw[hra]at i6 d2 e2
    refine aJ hv0 ?_
    refine dr hv0 d2 [(0,0)] ?_
    by_cases hc:cp≤at'+ra
    ·rw[if_pos hc]at i6
     simp only[Prod.mk.injEq]at i6
     obtain⟨rfl,rfl⟩:=i6
     refine aJ hc ?_
     refine ax cl [(0,0)] ?_
     refine ah ?_
     exact aF [(0,some 0)]
    ·rw[if_neg hc]at i6
     have d3:=fT l (ai l (ai l kk)) (-5) 60 i1.next.next (by omega) (by omega) (by omega)
     have e3:=bG (l:=l) (k:=ai l (ai l kk)) (lo:=-5) (hi:=60) (by omega)
     have d4:=dC (l:=l) i1.next.next.next [1,1,10] (by simp) (by simp)
     have e4:=dV (l:=l) (k:=ai l (ai l (ai l kk))) (xs:=[1,1,10]) (by simp)
     have d5:=kv l (ai l (ai l (ai l (ai l kk)))) 3 i1.next.next.next.next (by omega)
     have e5:=bD (l:=l) (k:=ai l (ai l (ai l (ai l kk)))) (n:=3) (by omega)
     obtain⟨rb,hrb⟩:∃ x,da l (ai l (ai l kk)) (-5) 60=x:=⟨_,rfl⟩
     obtain⟨pm,hpm⟩:∃ x,cU l (ai l (ai l (ai l kk))) [1,1,10]=x:=⟨_,rfl⟩
     obtain⟨nn,hnn⟩:∃ x,nV l (ai l (ai l (ai l (ai l kk)))) 3=x:=⟨_,rfl⟩
     rw[hrb]at i6 d3 e3
     rw[hpm]at i6 d4 e4
     rw[hnn]at i6 d5 e5
     have e6:=xX e3 e4
     have i1':=i1.next.next.next.next.next
     obtain⟨w,hw⟩:∃ w,rb * pm=w:=⟨_,rfl⟩
     rw[hw]at e6 i6
     obtain⟨k5,hk5⟩:∃ x,ai l (ai l (ai l (ai l (ai l kk))))=x:=⟨_,rfl⟩
     rw[hk5]at i6 d5 i1'
     refine aJ hc ?_
     refine ax d3 [(0,0)] ?_
     refine ah ?_
     refine gj d4 [(0,0)] [] [166] ?_
     refine aJ hw ?_
     refine dr hw d5 [(0,0)] ?_
     refine aJ hw ?_
     refine nX (k5,at'+ra,P++[(at'+ra,w,lim - nn * 1000)]) [(0,some 0),(508,some 508),(509,some 509),(541,some 176)] ?_ ?_ ?_
     ·refine⟨i1',?_,?_,?_⟩
      ·simp only[List.length_append,List.length_cons,List.length_nil];omega
      ·dsimp only;omega
      ·have:7 - (P++[(at'+ra,w,lim - nn * 1000)]).length=f:=by simp only[List.length_append,List.length_cons,List.length_nil];omega
       rw[this];exact i6
     ·simp only[List.length_append,List.length_cons,List.length_nil];omega
     exact dY
   ·rw[if_neg hv0]at i6
    simp only[Prod.mk.injEq]at i6
    obtain⟨rfl,rfl⟩:=i6
    refine aJ hv0 ?_
    refine ax cl [(0,0)] ?_
    refine ah ?_
    exact aF [(0,some 0)]
  ·have h7:7 - P.length=0:=by omega
   rw[h7]at i6
   unfold uZ at i6
   simp only[Prod.mk.injEq]at i6
   obtain⟨rfl,rfl⟩:=i6
   refine aJ hP ?_
   refine ax cl [(0,0)] ?_
   refine ah ?_
   exact aF [(0,some 0)]
theorem E6 {α β:Type} (P:Nat→α→β→α→Prop) (I:α→Prop) (a0:α) (h0:I a0) (h:∀ j a,I a→∃ b a',I a'∧P j a b a'):∃ (A:Nat→α) (B:Nat→β),A 0=a0∧∀ j,I (A j)∧P j (A j) (B j) (A (j+1)):=by
 have h2:∀ j (a:{a // I a}),∃ x:β×{a // I a},P j a.1 x.1 x.2.1:=fun j a=>by
  obtain⟨b,a',i,p⟩:=h j a.1 a.2
  exact⟨(b,⟨a',i⟩),p⟩
 let C:Nat→{a // I a}:=fun j=>Nat.rec ⟨a0,h0⟩ (fun j a=>(Classical.choose (h2 j a)).2) j
 exact⟨fun j=>(C j).1,fun j=>(Classical.choose (h2 j (C j))).1,rfl,fun j=>⟨(C j).2,Classical.choose_spec (h2 j (C j))⟩⟩
def Q7 (l:List Int) (j k:Nat) (s:eH) (k':Nat):Prop:=j < 20→s.1.nm=[103,97+j]∧((s.1.fr=(j:Int)∧s.1.to=((j+1:Nat):Int))∨(s.1.fr=((j+1:Nat):Int)∧s.1.to=(j:Int)))∧jB s∧s.1.cp≤1000∧
  aj Tryz.prog 29 [.pt 0 [] 0,.t (.int (j:Int)),.t (.int (j:Int)),.t (.int ((j+1:Nat):Int))] [(0,bu l k)] (.t (bA s)) [(0,bu l k')]
theorem M7 (l:List Int) (k0:Nat) (h:aV l k0):∃ (K:Nat→Nat) (S:Nat→eH),K 0=k0∧∀ j,aV l (K j)∧Q7 l j (K j) (S j) (K (j+1)):=
 E6 (Q7 l) (aV l) k0 h fun j a ha=>by
  by_cases hj:j < 20
  ·obtain⟨s,k',h1,h2,h3,h4,h5,h6⟩:=IK l a ha j (by omega) j (j+1) (by omega) (by omega) (by omega)
   exact⟨s,k',h1,fun _=>⟨h2,h3,h4,h5,h6⟩⟩
  ·exact⟨(⟨[],0,0,0,0,0⟩,[]),a,ha,fun h=>absurd h hj⟩
def QV (i:Nat):T:=.lit (.string (str [110,97+i]))
theorem eL {α:Type} (f:Nat→α) (j:Nat):(List.range (j+1)).map f=(List.range j).map f++[f j]:=by rw[List.range_succ,List.map_append];rfl
theorem kZ {α:Type} (f:Nat→α) (n:Nat) (h:∀ i j,i < n→j < n→f i=f j→i=j):((List.range n).map f).Nodup:=by
 induction n with
 | zero=>simp
 | succ n ih=>
  rw[eL,List.nodup_append]
  refine⟨ih fun i j hi hj=>h i j (by omega) (by omega),by simp,fun a ha b hb e=>?_⟩
  obtain⟨i,hi,rfl⟩:=List.mem_map.1 ha
  simp at hb
  subst hb
  have hi:=List.mem_range.1 hi
  have:=h i n (by omega) (by omega) e
  omega
end Go.Proofs.YtocndodilpimnaaGreat
