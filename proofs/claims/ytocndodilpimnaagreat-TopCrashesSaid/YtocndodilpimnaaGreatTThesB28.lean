/- Several texts of this proof, one behind the other. No condition. -/
import Derived.Test.YtocndodilpimnaaGreatTThesB27
import Derived.Test.YtocndodilpimnaaGreatTThesB25
import Derived.Test.YtocndodilpimnaaGreatTThesB26
set_option maxRecDepth 100000
set_option maxHeartbeats 16000000
set_option linter.unusedVariables false
set_option linter.unusedSimpArgs false
namespace Go.Proofs.YtocndodilpimnaaGreat
open Go.RowKit Sy
structure Fl where
 b:List Nat
 p:List Nat
 deriving DecidableEq
@[go_sem] def dX (f:Fl):T:=.agg [dI f.b,dI f.p]
structure uK (f:Fl) (n:Nat):Prop where
 b8:Bytes f.b
 p8:Bytes f.p
 bl:f.b.length≤n
 pl:f.p.length≤n
theorem sB (x:List Nat) (h:x.length≤1000000):aj Tryz.prog 96 [.t (tA [x])] [] (.own 1000) [(1000,iD x)]:=by
 have:=pJ [x] (by simp) (by simp;omega)
 simpa using this
theorem KS (x q:List Nat) (h:x.length≤1000000) (hq:x=q):aj Tryz.prog 96 [.t (tA [x])] [] (.own 1000) [(1000,iD q)]:=by
 have:=sB x h
 rw[show iD x=iD q by rw[hq]]at this
 exact this
theorem Ff (x y q:List Nat) (h1:x.length≤1000000) (h2:y.length≤1000000) (hq:x++y=q):aj Tryz.prog 96 [.t (tA [x,y])] [] (.own 1000) [(1000,iD q)]:=by
 have:=pJ [x,y] (by simp) (by simp;omega)
 rw[show [x,y].flatten=q by simp[hq]]at this
 exact this
theorem Hh (f:Fl) (h:uK f 1000000):aj Tryz.prog 94 [.t (dX f)] [] (.t (dX f)) []:=by
 have c1:=sB f.b h.bl
 have c2:=sB f.p h.pl
 obtain⟨b,p⟩:=f
 refine nI Tryz.func94 rfl Tryz.ntmps94 ?_
 refine ah ?_
 refine gj c1 [(1000,106)] [105] [] ?_
 refine gj c2 [(1000,110)] [109] [] ?_
 refine ah ?_
 exact aF []
def jL (f:Fl) (k:Int):Fl:=⟨f.b++f.p.take (max 0 (min k f.p.length)).toNat,[]⟩
theorem IX (f:Fl) (k:Int) (h:uK f 500000) (g:Fl) (hg:jL f k=g):aj Tryz.prog 97 [.t (dX f),.t (.int k)] [] (.t (dX g)) []:=by
 subst hg
 have hbl:=h.bl
 have hpl:=h.pl
 obtain⟨n,hn⟩:∃ n:Nat,max 0 (min k f.p.length)=(n:Int):=⟨(max 0 (min k f.p.length)).toNat,by omega⟩
 have hn2:min (max 0 k) f.p.length=(n:Int):=by omega
 have c1:=Ff f.b (f.p.take n) _ (by omega) (by rw[List.length_take];omega) rfl
 have e:jL f k=⟨f.b++f.p.take n,[]⟩:=by unfold jL;rw[hn];rfl
 rw[e]
 obtain⟨b,p⟩:=f
 dsimp only at hn hn2 c1 hbl hpl ⊢
 obtain⟨q,hq⟩:∃ q,b++p.take n=q:=⟨_,rfl⟩
 rw[hq]at c1 ⊢
 have hnl:n≤p.length:=by omega
 refine nI Tryz.func97 rfl Tryz.ntmps97 ?_
 refine aJ hn2 ?_
 refine gj c1 [(1000,117)] [116] [] ?_
 refine ah ?_
 exact aF []
def zV (f:Fl):Fl:=⟨f.b++f.p,[]⟩
theorem Dv (f:Fl):jL f f.p.length=zV f:=by
 unfold jL zV
 rw[show (max 0 (min (f.p.length:Int) f.p.length)).toNat=f.p.length by omega,List.take_length]
theorem M9 (f:Fl) (h:uK f 500000) (g:Fl) (hg:zV f=g):aj Tryz.prog 37 [.t (dX f)] [] (.t (dX g)) []:=by
 have c1:=IX f f.p.length h g (by rw[Dv,hg])
 obtain⟨b,p⟩:=f
 obtain⟨gb,gp⟩:=g
 dsimp only at c1
 refine nI Tryz.func37 rfl Tryz.ntmps37 ?_
 refine ah ?_
 refine ax c1 [] ?_
 refine ah ?_
 exact aF []
theorem IB {bs:List Nat}:∀ {f a:Nat},a≤bs.length→(rd bs f a).2≤bs.length
 | 0,a,h=>h
 | f+1,a,h=>by
  simp only[rd]
  split
  ·split
   ·rename_i h1 h2
    obtain⟨x,y,e,hg⟩:∃ x y e,Wire.eX bs a=(x,y,e):=⟨_,_,_,rfl⟩
    rw[hg]at h2 ⊢
    dsimp only at h2 ⊢
    obtain⟨rfl,h3,h4,h5⟩:=h2
    have:=kK h hg
    exact IB (by omega)
   ·exact h
  ·exact h
theorem Cm (f:Fl) (h:uK f 500000) (l:List (List Nat)) (n:Nat) (hr:ic f.b=(l,n)):aj Tryz.prog 44 [.t (dX f)] [] (.tup [.t (dX ⟨f.b.take n,[]⟩),.own 1000]) [(1000,xN l)]:=by
 have hbl:=h.bl
 have c1:=FP f.b (by omega) h.b8 l n hr
 have hn:n≤f.b.length:=by
  have:=IB (bs:=f.b) (f:=f.b.length+1) (a:=0) (by omega)
  unfold ic at hr
  rw[hr]at this
  exact this
 have c2:=KS (f.b.take n) _ (by rw[List.length_take];omega) rfl
 obtain⟨b,p⟩:=f
 dsimp only at c1 c2 hn hbl ⊢
 obtain⟨q,hq⟩:∃ q,b.take n=q:=⟨_,rfl⟩
 rw[show iD (b.take n)=iD q by rw[hq]]at c2
 rw[hq]
 refine nI Tryz.func44 rfl Tryz.ntmps44 ?_
 refine ah ?_
 refine ax c1 [(1000,109)] ?_
 refine ah ?_
 refine gj c2 [(1000,117)] [116] [] ?_
 refine ah ?_
 exact aF [(1000,some 109)]
def Gv (f:Fl) (b:List Nat):Fl×Int:=
 if b.length≤4000 then (if (ic f.b).2=f.b.length then (if f.b.length+f.p.length+(cX b.length++b).length≤65536 then (⟨f.b,f.p++(cX b.length++b)⟩,0) else (f,29)) else (f,21)) else (f,4)
theorem Hv (f:Fl) (b:List Nat) (h:uK f 400000) (hb:b.length≤1000000) (g:Fl) (e:Int) (hr:Gv f b=(g,e)):aj Tryz.prog 36 [.t (dX f),.t (dI b)] [] (.tup [.t (dX g),.t (.int e)]) []:=by
 have hbl:=h.bl
 have hpl:=h.pl
 have hcp:=Hh f ⟨h.b8,h.p8,by omega,by omega⟩
 obtain⟨x,fe,hf⟩:∃ x e,l8 b=(x,e):=⟨_,_,rfl⟩
 have c1:=I3 b hb x fe hf
 unfold l8 at hf
 unfold Gv at hr
 by_cases hb4:b.length≤4000
 ·rw[if_pos hb4]at hf hr
  have hp10:=Wire.eU (Wire.ij (z:=(b.length:Int)) (by omega) (by omega))
  obtain⟨hx,rfl⟩:cX b.length++b=x∧0=fe:=by simpa using hf
  rw[hx]at hr
  have hxl:x.length≤4010:=by rw[←hx,List.length_append];unfold cX;omega
  obtain⟨l,n,hrd⟩:∃ l n,ic f.b=(l,n):=⟨_,_,rfl⟩
  have c2:=FP f.b (by omega) h.b8 l n hrd
  rw[hrd]at hr
  dsimp only at hr
  by_cases hn:n=f.b.length
  ·rw[if_pos hn]at hr
   subst hn
   by_cases hfull:f.b.length+f.p.length+x.length≤65536
   ·rw[if_pos hfull]at hr
    obtain⟨rfl,rfl⟩:(⟨f.b,f.p++x⟩:Fl)=g∧0=e:=by simpa using hr
    have c3:=sB f.b (by omega)
    have c4:=Ff f.p x _ (by omega) (by omega) rfl
    obtain⟨fb,fp⟩:=f
    dsimp only at c2 c3 c4 hfull hcp ⊢
    obtain⟨q,hq⟩:∃ q,fp++x=q:=⟨_,rfl⟩
    rw[hq]at c4 ⊢
    refine nI Tryz.func36 rfl Tryz.ntmps36 ?_
    refine ah ?_
    refine ax c1 [(1000,112)] ?_
    refine ah ?_
    refine ax c2 [(1000,123)] ?_
    refine ah ?_
    refine gj c3 [(1000,149)] [148] [] ?_
    refine gj c4 [(1000,154)] [153] [] ?_
    refine ah ?_
    exact aF []
   ·rw[if_neg hfull]at hr
    obtain⟨rfl,rfl⟩:f=g∧29=e:=by simpa using hr
    obtain⟨fb,fp⟩:=f
    dsimp only at c2 hfull hcp hbl hpl ⊢
    refine nI Tryz.func36 rfl Tryz.ntmps36 ?_
    refine ah ?_
    refine ax c1 [(1000,112)] ?_
    refine ah ?_
    refine ax c2 [(1000,123)] ?_
    refine ah ?_
    refine ax hcp [] ?_
    refine ah ?_
    exact aF []
  ·rw[if_neg hn]at hr
   obtain⟨rfl,rfl⟩:f=g∧21=e:=by simpa using hr
   obtain⟨fb,fp⟩:=f
   dsimp only at c2 hn hcp hbl hpl ⊢
   refine nI Tryz.func36 rfl Tryz.ntmps36 ?_
   refine ah ?_
   refine ax c1 [(1000,112)] ?_
   refine ah ?_
   refine ax c2 [(1000,123)] ?_
   refine ah ?_
   refine ax hcp [] ?_
   refine ah ?_
   exact aF []
 ·rw[if_neg hb4]at hf hr
  obtain⟨rfl,rfl⟩:[]=x∧4=fe:=by simpa using hf
  obtain⟨rfl,rfl⟩:f=g∧4=e:=by simpa using hr
  obtain⟨fb,fp⟩:=f
  refine nI Tryz.func36 rfl Tryz.ntmps36 ?_
  refine ah ?_
  refine ax c1 [(1000,112)] ?_
  refine ah ?_
  refine ax hcp [] ?_
  refine ah ?_
  exact aF []
open Go.IntWalk renaming iteOmega → iO, toNatUp → tN
theorem Gt (z:Int) (h1:-9223372036854775808≤z) (h2:z≤9223372036854775807):aj Tryz.prog 173 [.t (.int z)] [] (.t (.lit (.int .u64 (Wire.fold z)))) []:=by
 by_cases hz:0≤z
 ·have e:((Wire.fold z:Nat):Int)=z * 2:=by unfold Wire.fold;rw[if_pos hz];omega
  rw[e]
  refine nI Tryz.func173 rfl Tryz.ntmps173 ?_
  refine ah ?_
  exact aF []
 ·have e:((Wire.fold z:Nat):Int)=(-(z+1)) * 2+1:=by unfold Wire.fold;rw[if_neg hz];omega
  rw[e]
  refine nI Tryz.func173 rfl Tryz.ntmps173 ?_
  refine ah ?_
  first|rw[av]|rw[ae]
  refine⟨[],?_⟩
  simp[go_sem,↓iO,iO,tN]
  try omega
theorem AV (u:Nat) (h:u < 18446744073709551616):aj Tryz.prog 174 [.t (.lit (.int .u64 u))] [] (.t (.int (Wire.dL u))) []:=by
 by_cases hz:u % 2=0
 ·have e:Wire.dL u=(u:Int) / 2:=by unfold Wire.dL;rw[if_pos hz];omega
  have e2:(u:Int) % 2=0:=by omega
  rw[e]
  refine nI Tryz.func174 rfl Tryz.ntmps174 ?_
  refine ah ?_
  exact aF []
 ·have e:Wire.dL u=-((u:Int) / 2) - 1:=by unfold Wire.dL;rw[if_neg hz];omega
  have e2:¬ (u:Int) % 2=0:=by omega
  rw[e]
  refine nI Tryz.func174 rfl Tryz.ntmps174 ?_
  refine ah ?_
  first|rw[av]|rw[ae]
  refine⟨[],?_⟩
  simp[go_sem,↓iO,iO,tN]
  try omega
theorem MB {u:Nat} (h:u < 18446744073709551616):∀ K:Value→Prop,qe .quo (.int .u64 (u:Int)) (.int .u64 128) K=K (.int .u64 ((u:Int) / 128)):=by
 intro K
 unfold qe
 dsimp only
 rw[if_pos (show 0≤(u:Int)∧(1:Int)≤128 by omega),if_pos (show Cc .u64 (u:Int) by simp only[Cc];omega)]
 simp
theorem MS (u:Nat):∀ K:Value→Prop,qe .add (.int .u64 ((u:Int) % 128)) (.int .u64 128) K=K (.int .u64 ((u:Int) % 128+128)):=by
 intro K
 unfold qe
 dsimp only
 unfold E4
 dsimp only
 rw[if_pos (show Cc .u64 ((u:Int) % 128+128) by simp only[Cc];omega)]
 simp
theorem Mc (bs:List Nat) (z:Int) (hb:bs.length≤1099511627776) (h1:-9223372036854775808≤z) (h2:z≤9223372036854775807) :
  aj Tryz.prog 98 [.t (dI bs),.t (.int z)] [] (.own 1000) [(1000,iD (bs++cX z))]:=by
 have hlt:=Wire.ij h1 h2
 have hp10:=Wire.eU hlt
 have hc:=Gt z h1 h2
 unfold cX
 obtain⟨F,hF⟩:∃ F,Wire.fold z=F:=⟨_,rfl⟩
 rw[hF]at hlt hp10 hc ⊢
 refine nI Tryz.func98 rfl Tryz.ntmps98 ?_
 refine ah ?_
 refine ax hc [] ?_
 refine ah ?_
 refine oP ?_
 refine lP (ι:=Nat×List Nat) (fun p=>⟨[(6,.t (.lit (.int .u64 p.1))),(5,.own 500)],[(500,iD (bs++p.2))]⟩) (fun p=>p.2++Wire.put p.1=Wire.put F∧p.1 < 18446744073709551616) (fun p=>p.1) (F,[]) [(500,some 109)] ⟨by simp,hlt⟩ ?_
 rintro ⟨u,q⟩ ⟨hq,hu⟩
 dsimp only at hq hu ⊢
 have hqs:q.length≤10:=by
  have:=congrArg List.length hq
  rw[List.length_append]at this
  have:=Wire.kE u
  omega
 by_cases hb2:128≤u
 ·rw[Wire.jy hb2]at hq
  have hqq:=MB hu
  have haa:=MS u
  repeat (first|(refine af rfl ?_;simp[go_sem,↓iO,iO,tN,↓hqq,↓haa])|refine ba ?_|refine⟨aZ,?_⟩|refine iP ?_|refine iN ?_)
  refine nX (u / 128,q++[u % 128+128]) [(500,some 120)] ?_ ?_ ?_
  ·exact⟨by simpa using hq,by dsimp only;omega⟩
  ·dsimp only
   omega
  exact dY
 ·rw[Wire.eY (by omega)]at hq
  refine ah ?_
  first|rw[av]|rw[ae]
  refine⟨[(1000,some 127)],?_⟩
  simp[go_sem,↓iO,iO,tN]
  rw[←hq]
  exact dY
theorem CZ {c u:Nat} {r:List Nat} (h:1 < c):Wire.scan (c :: r) 9 u=(0,0,3):=by
 by_cases hc:128≤c
 ·rw[Wire.jQ (by omega) hc,Wire.tU (by omega)]
 ·rw[Wire.uG (by omega) (by omega) (.inl ⟨rfl,h⟩)]
theorem P6:(2:Nat) ^ 63=9223372036854775808:=rfl
theorem LG {k u c:Nat} (hk:k < 10) (hu:u < 2 ^ (7 * k)) (hc:c < 256) (h9:k=9→c≤1) :
  (u:Int)+((c % 128:Nat):Int) * 2 ^ (7 * k) % 18446744073709551616=(((u+c % 128 * 2 ^ (7 * k)) % 18446744073709551616:Nat):Int)∧(u+c % 128 * 2 ^ (7 * k)) % 18446744073709551616 < 18446744073709551616:=by
 have hp:(2:Int) ^ (7 * k)=((2 ^ (7 * k):Nat):Int):=by simp
 rw[hp,←Int.natCast_mul]
 have hlt:u+c % 128 * 2 ^ (7 * k) < 18446744073709551616:=by
  by_cases h:k=9
  ·have h1:=h9 h
   have e:(2:Nat) ^ (7 * k)=9223372036854775808:=by rw[h]
   obtain⟨p,hp⟩:∃ p,(2:Nat) ^ (7 * k)=p:=⟨_,rfl⟩
   rw[hp]at hu e ⊢
   have h2:=Nat.mul_le_mul_right p (show c % 128≤1 by omega)
   omega
  ·have h1:2 ^ (7 * (k+1))≤2 ^ 63:=Nat.pow_le_pow_right (by omega) (by omega)
   have h2:2 ^ (7 * (k+1))=128 * 2 ^ (7 * k):=by rw[show 7 * (k+1)=7+7 * k by omega,Nat.pow_add]
   rw[h2,P6]at h1
   obtain⟨p,hp⟩:∃ p,(2:Nat) ^ (7 * k)=p:=⟨_,rfl⟩
   rw[hp]at hu h1 ⊢
   have h3:=Nat.mul_le_mul_right p (show c % 128≤127 by omega)
   omega
 obtain⟨q,hq⟩:∃ q,c % 128 * 2 ^ (7 * k)=q:=⟨_,rfl⟩
 rw[hq]at hlt ⊢
 omega
theorem L9 (bs:List Nat) (a:Nat) (hb:bs.length≤1099511627776) (h8:∀ c∈bs,c < 256) (ha:a≤bs.length) (x y e:Int) (hr:Wire.eX bs a=(x,y,e)) :
  aj Tryz.prog 99 [.t (dI bs),.t (.int a)] [] (.tup [.t (.int x),.t (.int y),.t (.int e)]) []:=by
 rw[yi ha]at hr
 obtain⟨⟨s1,s2,s3⟩,hs⟩:∃ s,Wire.scan (bs.drop a) 0 0=s:=⟨_,rfl⟩
 rw[hs]at hr
 dsimp only at hr
 refine nI Tryz.func99 rfl Tryz.ntmps99 ?_
 refine ah ?_
 refine oP ?_
 refine lP (ι:=Nat×Nat) (fun p=>⟨[(0,.t (dI bs)),(1,.t (.int a)),(8,.t (.int p.1)),(7,.t (.lit (.int .u64 p.2)))],[]⟩) (fun p=>p.1≤10∧p.2 < 18446744073709551616∧(p.1 < 10→p.2 < 2 ^ (7 * p.1))∧Wire.scan (bs.drop (a+p.1)) p.1 p.2=(s1,s2,s3)) (fun p=>10 - p.1) (0,0) [] ⟨by simp,by simp,by simp,by simpa using hs⟩ ?_
 rintro ⟨k,u⟩ ⟨hk,hu,hu7,hsc⟩
 dsimp only at hk hu hu7 hsc ⊢
 by_cases hk10:k < 10
 ·by_cases hlen:a+k < bs.length
  ·obtain⟨c,hc⟩:=aa hlen
   have hc8:=h8 c (au hc)
   have hsh:=BK hc8 hk10
   rw[eu hc]at hsc
   by_cases h91:k=9∧1 < c
   ·obtain⟨hk9,h1c⟩:=h91
    have hsc2:(0,0,3)=(s1,s2,s3):=by rw[←hsc,hk9,CZ h1c]
    obtain⟨rfl,rfl,rfl⟩:0=s1∧0=s2∧3=s3:=by simpa using hsc2
    rw[if_neg (by decide)]at hr
    obtain⟨rfl,rfl,rfl⟩:0=x∧0=y∧3=e:=by simpa using hr
    refine aJ hc ?_
    exact aF []
   ·have hadd:=LG hk10 (hu7 hk10) hc8 (fun h=>by omega)
    obtain⟨E,hE⟩:∃ E,((c % 128:Nat):Int) * 2 ^ (7 * k) % 18446744073709551616=E:=⟨_,rfl⟩
    have hst:k < 9→(u+c % 128 * 2 ^ (7 * k)) % 18446744073709551616 < 2 ^ (7 * (k+1)):=fun h=>Wire.Ft h (hu7 hk10)
    have hE0:0≤E:=by rw[←hE];omega
    simp only[hE]at hsh hadd
    by_cases hbig:128≤c
    ·rw[Wire.jQ hk10 hbig]at hsc
     obtain⟨U,hU⟩:∃ U,(u+c % 128 * 2 ^ (7 * k)) % 18446744073709551616=U:=⟨_,rfl⟩
     rw[hU]at hsc hst hadd
     obtain⟨hadd,hlt⟩:=hadd
     have hk9:k < 9:=by omega
     repeat (first|(refine af rfl ?_;simp[go_sem,↓iO,iO,tN,hc,↓hsh])|refine ba ?_|refine⟨aZ,?_⟩|refine iP ?_|refine iN ?_)
     refine nX (k+1,U) [] ?_ ?_ ?_
     ·exact⟨by dsimp only;omega,hlt,fun h=>hst (by dsimp only at h;omega),by rw[←Nat.add_assoc];exact hsc⟩
     ·dsimp only
      omega
     exact dJ hadd
    ·by_cases hbad:0 < k∧c=0
     ·rw[Wire.uG hk10 (by omega) (.inr hbad)]at hsc
      obtain⟨rfl,rfl,rfl⟩:0=s1∧0=s2∧3=s3:=by simpa using hsc
      rw[if_neg (by decide)]at hr
      obtain⟨rfl,rfl,rfl⟩:0=x∧0=y∧3=e:=by simpa using hr
      obtain⟨U,hU⟩:∃ U,(u+c % 128 * 2 ^ (7 * k)) % 18446744073709551616=U:=⟨_,rfl⟩
      rw[hU]at hadd
      obtain⟨hadd,hlt⟩:=hadd
      obtain⟨h0k,hc0⟩:=hbad
      by_cases hk9:k=9
      ·repeat (first|(refine af rfl ?_;simp[go_sem,↓iO,iO,tN,hc,↓hsh])|refine ba ?_|refine⟨aZ,?_⟩|refine iP ?_|refine iN ?_)
       exact aF []
      ·repeat (first|(refine af rfl ?_;simp[go_sem,↓iO,iO,tN,hc,↓hsh])|refine ba ?_|refine⟨aZ,?_⟩|refine iP ?_|refine iN ?_)
       exact aF []
     ·rw[Wire.pM hk10 (by omega) (by omega)]at hsc
      obtain⟨U,hU⟩:∃ U,(u+c % 128 * 2 ^ (7 * k)) % 18446744073709551616=U:=⟨_,rfl⟩
      rw[hU]at hadd hsc
      obtain⟨hadd,hlt⟩:=hadd
      obtain⟨rfl,rfl,rfl⟩:Wire.dL U=s1∧k+1=s2∧0=s3:=by simpa using hsc
      rw[if_pos rfl]at hr
      obtain⟨rfl,rfl,rfl⟩:Wire.dL U=x∧(a:Int)+(k+1:Nat)=y∧0=e:=by simpa using hr
      have cu:=AV U hlt
      by_cases hc0:c=0
      ·have hk0:k=0:=by omega
       repeat (first|(refine af rfl ?_;simp[go_sem,↓iO,iO,tN,hc,↓hsh,hadd])|refine ba ?_|refine⟨aZ,?_⟩|refine iP ?_|refine iN ?_)
       refine ax cu [] ?_
       refine ah ?_
       first|rw[av]|rw[ae]
       refine⟨[],?_⟩
       simp[go_sem,↓iO,iO,tN]
       omega
      ·by_cases hk9:k=9
       ·repeat (first|(refine af rfl ?_;simp[go_sem,↓iO,iO,tN,hc,↓hsh,hadd])|refine ba ?_|refine⟨aZ,?_⟩|refine iP ?_|refine iN ?_)
        refine ax cu [] ?_
        refine ah ?_
        first|rw[av]|rw[ae]
        refine⟨[],?_⟩
        simp[go_sem,↓iO,iO,tN]
        omega
       ·by_cases hk0:k=0
        ·repeat (first|(refine af rfl ?_;simp[go_sem,↓iO,iO,tN,hc,↓hsh,hadd])|refine ba ?_|refine⟨aZ,?_⟩|refine iP ?_|refine iN ?_)
         refine ax cu [] ?_
         refine ah ?_
         first|rw[av]|rw[ae]
         refine⟨[],?_⟩
         simp[go_sem,↓iO,iO,tN]
         omega
        ·repeat (first|(refine af rfl ?_;simp[go_sem,↓iO,iO,tN,hc,↓hsh,hadd])|refine ba ?_|refine⟨aZ,?_⟩|refine iP ?_|refine iN ?_)
         refine ax cu [] ?_
         refine ah ?_
         first|rw[av]|rw[ae]
         refine⟨[],?_⟩
         simp[go_sem,↓iO,iO,tN]
         omega
  ·rw[List.drop_eq_nil_of_le (by omega)]at hsc
   unfold Wire.scan at hsc
   rw[if_pos hk10]at hsc
   obtain⟨rfl,rfl,rfl⟩:0=s1∧0=s2∧2=s3:=by simpa using hsc
   rw[if_neg (by decide)]at hr
   obtain⟨rfl,rfl,rfl⟩:0=x∧0=y∧2=e:=by simpa using hr
   refine ah ?_
   exact aF []
 ·rw[Wire.tU hk10]at hsc
  obtain⟨rfl,rfl,rfl⟩:0=s1∧0=s2∧3=s3:=by simpa using hsc
  rw[if_neg (by decide)]at hr
  obtain⟨rfl,rfl,rfl⟩:0=x∧0=y∧3=e:=by simpa using hr
  refine ah ?_
  exact aF []
theorem MR (bs:List Nat) (a:Int) (hb:bs.length≤1099511627776) (h8:∀ c∈bs,c < 256) (x y e:Int) (hr:Wire.eX bs a=(x,y,e)) :
  aj Tryz.prog 99 [.t (dI bs),.t (.int a)] [] (.tup [.t (.int x),.t (.int y),.t (.int e)]) []:=by
 by_cases h0:a < 0
 ·rw[rX (.inl h0)]at hr
  obtain⟨rfl,rfl,rfl⟩:0=x∧0=y∧1=e:=by simpa using hr
  refine nI Tryz.func99 rfl Tryz.ntmps99 ?_
  refine ah ?_
  exact aF []
 ·by_cases h1:(bs.length:Int) < a
  ·rw[rX (.inr h1)]at hr
   obtain⟨rfl,rfl,rfl⟩:0=x∧0=y∧1=e:=by simpa using hr
   refine nI Tryz.func99 rfl Tryz.ntmps99 ?_
   refine ah ?_
   exact aF []
  ·obtain⟨n,rfl⟩:∃ n:Nat,a=(n:Int):=⟨a.toNat,by omega⟩
   exact L9 bs n hb h8 (by omega) x y e hr
theorem Hc (b:List Nat) (hb:b.length≤1000000) (x:List Nat) (e:Int) (hr:l8 b=(x,e)):aj Tryz.prog 40 [.t (dI b)] [] (.tup [.own 1000,.t (.int e)]) [(1000,iD x)]:=by
 unfold l8 at hr
 by_cases h:b.length≤4000
 ·rw[if_pos h]at hr
  obtain⟨rfl,rfl⟩:cX b.length++b=x∧0=e:=by simpa using hr
  have c1:=Mc [] b.length (by simp) (by omega) (by omega)
  have hp10:=Wire.eU (Wire.ij (z:=(b.length:Int)) (by omega) (by omega))
  unfold cX at c1 ⊢
  obtain⟨p,hp⟩:∃ p,Wire.put (Wire.fold b.length)=p:=⟨_,rfl⟩
  rw[hp]at c1 hp10 ⊢
  rw[List.nil_append]at c1
  refine nI Tryz.func40 rfl Tryz.ntmps40 ?_
  refine ah ?_
  refine ax c1 [(1000,109)] ?_
  refine ah ?_
  exact aF [(1000,some 111)]
 ·rw[if_neg h]at hr
  obtain⟨rfl,rfl⟩:[]=x∧4=e:=by simpa using hr
  refine nI Tryz.func40 rfl Tryz.ntmps40 ?_
  refine ah ?_
  exact aF [(1000,none)]
theorem Ka (bs:List Nat) (hb:bs.length≤1000000) (h8:Bytes bs) (l:List (List Nat)) (n:Nat) (hr:ic bs=(l,n)):aj Tryz.prog 41 [.t (dI bs)] [] (.tup [.own 1000,.t (.int n)]) [(1000,xN l)]:=by
 unfold ic at hr
 refine nI Tryz.func41 rfl Tryz.ntmps41 ?_
 refine ah ?_
 refine oP ?_
 refine lP (ι:=Nat×Nat×List (List Nat)) (fun p=>⟨[(0,.t (dI bs)),(4,.own 500),(5,.t (.int p.2.1))],[(500,xN p.2.2)]⟩) (fun p=>p.2.1≤bs.length∧bs.length < p.2.1+p.1∧p.2.2.length≤p.2.1∧p.2.2++(rd bs p.1 p.2.1).1=l∧(rd bs p.1 p.2.1).2=n) (fun p=>bs.length - p.2.1) (bs.length+1,0,[]) [(500,none)] ⟨by simp,by simp,by simp,by simp[hr],by simp[hr]⟩ ?_
 rintro ⟨f,a,out⟩ ⟨ha,hf,hol,h1,h2⟩
 dsimp only at ha hf hol h1 h2 ⊢
 by_cases hlt:a < bs.length
 ·obtain⟨f,rfl⟩:∃ g,f=g+1:=⟨f - 1,by omega⟩
  obtain⟨x,y,e,hg⟩:∃ x y e,Wire.eX bs a=(x,y,e):=⟨_,_,_,rfl⟩
  have c1:=MR bs a (by omega) h8 x y e hg
  by_cases he:e=0
  ·subst he
   have hrg:=kK ha hg
   obtain⟨m,rfl⟩:∃ m:Nat,y=(m:Int):=⟨y.toNat,by omega⟩
   by_cases hx0:0≤x
   ·obtain⟨k,rfl⟩:∃ m:Nat,x=(m:Int):=⟨x.toNat,by omega⟩
    by_cases hx1:k≤4000
    ·by_cases hx2:m+k≤bs.length
     ·rw[AY hlt hg rfl hx1 hx2]at h1 h2
      dsimp only at h1 h2
      refine ah ?_
      refine ax c1 [] ?_
      refine ah ?_
      refine nX (f,m+k,out++[(bs.take (m+k)).drop m]) [(500,some 148)] ?_ ?_ ?_
      ·exact⟨by dsimp only;omega,by dsimp only;omega,by simp;omega,by simpa using h1,h2⟩
      ·dsimp only
       omega
      exact dY
     ·rw[fU hlt hg (by omega)]at h1 h2
      obtain rfl:out=l:=by simpa using h1
      obtain rfl:a=n:=h2
      refine ah ?_
      refine ax c1 [] ?_
      refine ah ?_
      exact aF [(1000,some 500)]
    ·rw[fU hlt hg (by omega)]at h1 h2
     obtain rfl:out=l:=by simpa using h1
     obtain rfl:a=n:=h2
     refine ah ?_
     refine ax c1 [] ?_
     refine ah ?_
     exact aF [(1000,some 500)]
   ·rw[fU hlt hg (by omega)]at h1 h2
    obtain rfl:out=l:=by simpa using h1
    obtain rfl:a=n:=h2
    refine ah ?_
    refine ax c1 [] ?_
    refine ah ?_
    exact aF [(1000,some 500)]
  ·rw[fU hlt hg (by omega)]at h1 h2
   obtain rfl:out=l:=by simpa using h1
   obtain rfl:a=n:=h2
   refine ah ?_
   refine ax c1 [] ?_
   refine ah ?_
   exact aF [(1000,some 500)]
 ·rw[m9 hlt]at h1 h2
  obtain rfl:out=l:=by simpa using h1
  obtain rfl:a=n:=h2
  refine ah ?_
  exact aF [(1000,some 500)]
theorem Hi (f:Fl) (k:Int) (h:uK f 500000) (g:Fl) (hg:jL f k=g):aj Tryz.prog 15 [.t (dX f),.t (.int k)] [] (.t (dX g)) []:=by
 subst hg
 have hbl:=h.bl
 have hpl:=h.pl
 obtain⟨n,hn⟩:∃ n:Nat,max 0 (min k f.p.length)=(n:Int):=⟨(max 0 (min k f.p.length)).toNat,by omega⟩
 have e:jL f k=⟨f.b++f.p.take n,[]⟩:=by unfold jL;rw[hn];rfl
 rw[e]
 obtain⟨b,p⟩:=f
 dsimp only at hn hbl hpl ⊢
 have hnl:n≤p.length:=by omega
 refine nI Tryz.func15 rfl Tryz.ntmps15 ?_
 refine aJ hn ?_
 exact aF []
theorem CT (f:Fl) (b:List Nat) (h:uK f 400000) (hb:b.length≤1000000) (g:Fl) (e:Int) (hr:Gv f b=(g,e)):aj Tryz.prog 12 [.t (dX f),.t (dI b)] [] (.tup [.t (dX g),.t (.int e)]) []:=by
 have hbl:=h.bl
 have hpl:=h.pl
 obtain⟨x,fe,hf⟩:∃ x e,l8 b=(x,e):=⟨_,_,rfl⟩
 have c1:=Hc b hb x fe hf
 unfold l8 at hf
 unfold Gv at hr
 by_cases hb4:b.length≤4000
 ·rw[if_pos hb4]at hf hr
  have hp10:=Wire.eU (Wire.ij (z:=(b.length:Int)) (by omega) (by omega))
  obtain⟨hx,rfl⟩:cX b.length++b=x∧0=fe:=by simpa using hf
  rw[hx]at hr
  have hxl:x.length≤4010:=by rw[←hx,List.length_append];unfold cX;omega
  obtain⟨l,n,hrd⟩:∃ l n,ic f.b=(l,n):=⟨_,_,rfl⟩
  have c2:=Ka f.b (by omega) h.b8 l n hrd
  rw[hrd]at hr
  dsimp only at hr
  by_cases hn:n=f.b.length
  ·rw[if_pos hn]at hr
   subst hn
   by_cases hfull:f.b.length+f.p.length+x.length≤65536
   ·rw[if_pos hfull]at hr
    obtain⟨rfl,rfl⟩:(⟨f.b,f.p++x⟩:Fl)=g∧0=e:=by simpa using hr
    obtain⟨fb,fp⟩:=f
    dsimp only at c2 hfull hbl hpl ⊢
    refine nI Tryz.func12 rfl Tryz.ntmps12 ?_
    refine ah ?_
    refine ax c1 [(1000,112)] ?_
    refine ah ?_
    refine ax c2 [(1000,122)] ?_
    refine ah ?_
    exact aF []
   ·rw[if_neg hfull]at hr
    obtain⟨rfl,rfl⟩:f=g∧29=e:=by simpa using hr
    obtain⟨fb,fp⟩:=f
    dsimp only at c2 hfull hbl hpl ⊢
    refine nI Tryz.func12 rfl Tryz.ntmps12 ?_
    refine ah ?_
    refine ax c1 [(1000,112)] ?_
    refine ah ?_
    refine ax c2 [(1000,122)] ?_
    refine ah ?_
    exact aF []
  ·rw[if_neg hn]at hr
   obtain⟨rfl,rfl⟩:f=g∧21=e:=by simpa using hr
   obtain⟨fb,fp⟩:=f
   dsimp only at c2 hn hbl hpl ⊢
   refine nI Tryz.func12 rfl Tryz.ntmps12 ?_
   refine ah ?_
   refine ax c1 [(1000,112)] ?_
   refine ah ?_
   refine ax c2 [(1000,122)] ?_
   refine ah ?_
   exact aF []
 ·rw[if_neg hb4]at hf hr
  obtain⟨rfl,rfl⟩:[]=x∧4=fe:=by simpa using hf
  obtain⟨rfl,rfl⟩:f=g∧4=e:=by simpa using hr
  obtain⟨fb,fp⟩:=f
  refine nI Tryz.func12 rfl Tryz.ntmps12 ?_
  refine ah ?_
  refine ax c1 [(1000,112)] ?_
  refine ah ?_
  exact aF []
theorem ML (f:Fl):aj Tryz.prog 18 [.t (dX f),.t (dX f)] [] (.t (.bool true)) []:=by
 obtain⟨b,p⟩:=f
 refine nI Tryz.func18 rfl Tryz.ntmps18 ?_
 refine ah ?_
 exact aF []
def fr (b:List Nat):List Nat:=cX b.length++b
def ee (l:List (List Nat)):List Nat:=(l.map fr).flatten
theorem oM (b:List Nat) (l:List (List Nat)):ee (b :: l)=fr b++ee l:=by simp[ee]
theorem J8 (b:List Nat):1≤(fr b).length:=by
 have:=Wire.kE (Wire.fold (b.length:Int))
 unfold fr cX
 rw[List.length_append]
 omega
theorem Gc (l:List (List Nat)):l.length≤(ee l).length:=by
 induction l with
 | nil=>simp[ee]
 | cons b r ih=>
  have:=J8 b
  rw[oM,List.length_append,List.length_cons]
  omega
theorem yH {bs:List Nat}:∀ {f g a:Nat},bs.length < a+f→bs.length < a+g→rd bs f a=rd bs g a
 | 0,g,a,hf,hg=>by
  rw[m9 (by omega),m9 (by omega)]
 | f+1,0,a,hf,hg=>by
  rw[m9 (by omega),m9 (by omega)]
 | f+1,g+1,a,hf,hg=>by
  by_cases h:a < bs.length
  ·obtain⟨x,y,e,hgi⟩:∃ x y e,Wire.eX bs a=(x,y,e):=⟨_,_,_,rfl⟩
   by_cases hc:e=0∧0≤x∧x≤4000∧x≤bs.length - y
   ·obtain⟨rfl,h1,h2,h3⟩:=hc
    have hr:=kK (by omega) hgi
    obtain⟨n,rfl⟩:∃ n:Nat,x=(n:Int):=⟨x.toNat,by omega⟩
    obtain⟨m,rfl⟩:∃ n:Nat,y=(n:Int):=⟨y.toNat,by omega⟩
    rw[AY h hgi rfl (by omega) (by omega),AY h hgi rfl (by omega) (by omega),yH (f:=f) (g:=g) (a:=m+n) (by omega) (by omega)]
   ·rw[fU h hgi hc,fU h hgi hc]
  ·rw[m9 h,m9 h]
theorem Lc {pre more b:List Nat} {f:Nat} (hb:b.length≤4000) :
  rd (pre++(fr b++more)) (f+1) pre.length=(b :: (rd (pre++(fr b++more)) f (pre++fr b).length).1,(rd (pre++(fr b++more)) f (pre++fr b).length).2):=by
 have hg:=Wire.s6 pre (b++more) (b.length:Int) (by omega) (by omega)
 have e:pre++Wire.put (Wire.fold b.length)++(b++more)=pre++(fr b++more):=by unfold fr cX;simp
 rw[e]at hg
 have hl:(fr b).length=(Wire.put (Wire.fold b.length)).length+b.length:=by unfold fr cX;rw[List.length_append]
 have hp:=J8 b
 obtain⟨m,hm⟩:∃ m,pre.length+(Wire.put (Wire.fold b.length)).length=m:=⟨_,rfl⟩
 have hg2:Wire.eX (pre++(fr b++more)) pre.length=((b.length:Int),(m:Int),0):=by rw[hg,←hm];simp
 rw[AY (by simp only[List.length_append];omega) hg2 rfl hb (by simp only[List.length_append];omega)]
 have e2:(pre++fr b).length=m+b.length:=by rw[List.length_append];omega
 have e3:((pre++(fr b++more)).take (m+b.length)).drop m=b:=by
  rw[←e2,←List.append_assoc,List.take_left]
  have e4:pre++fr b=(pre++Wire.put (Wire.fold b.length))++b:=by unfold fr cX;simp
  rw[e4,←hm,←List.length_append,List.drop_left]
 rw[e3,e2]
theorem wI {more:List Nat}:∀ {l:List (List Nat)} {pre:List Nat} {f:Nat},(∀ b∈l,b.length≤4000)→
  rd (pre++(ee l++more)) (l.length+f) pre.length=(l++(rd (pre++(ee l++more)) f (pre++ee l).length).1,(rd (pre++(ee l++more)) f (pre++ee l).length).2)
 | [],pre,f,h=>by simp[ee]
 | b :: r,pre,f,h=>by
  have e0:pre++(ee (b :: r)++more)=pre++(fr b++(ee r++more)):=by rw[oM];simp
  rw[e0,List.length_cons,show r.length+1+f=r.length+f+1 by omega,Lc (h b (List.mem_cons_self))]
  have ih:=wI (more:=more) (l:=r) (pre:=pre++fr b) (f:=f) (fun c hc=>h c (List.mem_cons_of_mem _ hc))
  have e1:pre++fr b++(ee r++more)=pre++(fr b++(ee r++more)):=by simp
  have e2:pre++fr b++ee r=pre++ee (b :: r):=by rw[oM];simp
  rw[e1,e2]at ih
  rw[ih]
  simp
theorem qG {l:List (List Nat)} (more:List Nat) (h:∀ b∈l,b.length≤4000) :
  ic (ee l++more)=(l++(rd (ee l++more) (more.length+1) (ee l).length).1,(rd (ee l++more) (more.length+1) (ee l).length).2):=by
 have hc:=Gc l
 unfold ic
 rw[yH (f:=(ee l++more).length+1) (g:=l.length+((ee l++more).length+1)) (a:=0) (by omega) (by omega)]
 have:=wI (more:=more) (l:=l) (pre:=[]) (f:=(ee l++more).length+1) h
 simp only[List.nil_append,List.length_nil]at this
 rw[this,yH (f:=(ee l++more).length+1) (g:=more.length+1) (a:=(ee l).length) (by rw[List.length_append];omega) (by rw[List.length_append];omega)]
theorem nJ {l:List (List Nat)} (h:∀ b∈l,b.length≤4000):ic (ee l)=(l,(ee l).length):=by
 have:=qG [] h
 rw[List.append_nil]at this
 rw[this,m9 (by omega)]
 simp
theorem H8 {l:List (List Nat)} {b:List Nat} {m:Nat} (h:∀ c∈l,c.length≤4000) (hb:b.length≤4000) (hm:m < (fr b).length):ic (ee l++(fr b).take m)=(l,(ee l).length):=by
 rw[qG _ h]
 suffices hs:rd (ee l++(fr b).take m) (((fr b).take m).length+1) (ee l).length=([],(ee l).length) by rw[hs];simp
 by_cases h0:m=0
 ·subst h0
  rw[m9 (by simp)]
 ·have hml:((fr b).take m).length=m:=by rw[List.length_take];omega
  obtain⟨x,y,e,hg⟩:∃ x y e,Wire.eX (ee l++(fr b).take m) (ee l).length=(x,y,e):=⟨_,_,_,rfl⟩
  refine fU (by rw[List.length_append,hml];omega) hg ?_
  intro ⟨he,_,_,hx⟩
  obtain⟨p,hp⟩:∃ p,Wire.put (Wire.fold b.length)=p:=⟨_,rfl⟩
  have hfb:fr b=p++b:=by unfold fr cX;rw[hp]
  by_cases hmp:m < p.length
  ·have hsh:=Wire.Dr (ee l) (b.length:Int) m (by omega) (by omega) (by rw[hp];exact hmp)
   have e1:(fr b).take m=p.take m:=by rw[hfb,List.take_append_of_le_length (by omega)]
   rw[hp]at hsh
   rw[e1,hsh]at hg
   obtain⟨_,_,rfl⟩:0=x∧0=y∧2=e:=by simpa using hg
   exact absurd he (by decide)
  ·have e1:(fr b).take m=p++b.take (m - p.length):=by rw[hfb,List.take_append];rw[List.take_of_length_le (by omega)]
   have hpu:=Wire.s6 (ee l) (b.take (m - p.length)) (b.length:Int) (by omega) (by omega)
   rw[hp,List.append_assoc,←e1,hg]at hpu
   simp only[Prod.mk.injEq]at hpu
   obtain⟨rfl,rfl,_⟩:=hpu
   rw[List.length_append,hml]at hx
   rw[hfb,List.length_append]at hm
   omega
theorem OJ:∀ a∈oa,a.length≤12∧∀ c∈a,c < 256:=by decide +kernel
theorem AR.wr {d:aB} (hd:bq d) {c c':Ce} {r:Rc} (hc:nS d c) (h:AR d c r c'):QU r:=by
 have z:i64 0:=by decide
 have z1:i64 1:=by decide
 have z2:i64 2:=by decide
 have z3:i64 3:=by decide
 have z4:i64 4:=by decide
 have z5:i64 5:=by decide
 have z6:i64 6:=by decide
 have s1:=hd.s
 have s2:=hd.p
 have s3:=hd.t
 cases h with
 | tele t l ht hv hl=>
  have:=ht.st
  have:=ht.ep
  have:=ht.sq
  have:=ht.tm
  have:=ht.kd
  refine⟨z1,⟨by simp[jK];omega,fun v hm=>?_⟩,z,z,z,z,z,⟨by simp[gX,jN],by simp[gX,jN]⟩,z,z,z,by simp[oG]⟩
  simp only[jK,List.mem_cons]at hm
  rcases hm with rfl|rfl|rfl|rfl|rfl|hm
  ·exact⟨by omega,by omega⟩
  ·exact⟨by omega,by omega⟩
  ·exact⟨by omega,by omega⟩
  ·exact⟨by omega,by omega⟩
  ·exact⟨by omega,by omega⟩
  ·exact ht.vs v hm
 | entry e l he hl=>
  have h1:=he.kd
  have h2:=he.vl
  exact⟨z3,by simp,z,z,z,z,z,⟨by simp[gX,jN],by simp[gX,jN]⟩,z,⟨by dsimp only;omega,by dsimp only;omega⟩,⟨by dsimp only;omega,by dsimp only;omega⟩,OJ _ he.sh⟩
 | step s k hs=>
  have hl:=hc.dk.ln
  cases hs with
  | open_ i v hv=>
   have:=(List.getElem?_eq_some_iff.1 hv).1
   exact⟨z2,by simp,z1,⟨by dsimp only;omega,by dsimp only;omega⟩,z,z,z,⟨by simp[jN],by simp[jN]⟩,z,z,z,by simp[oG]⟩
  | close i v hv hn=>
   have:=(List.getElem?_eq_some_iff.1 hv).1
   exact⟨z2,by simp,z2,⟨by dsimp only;omega,by dsimp only;omega⟩,z,z,z,⟨by simp[jN],by simp[jN]⟩,z,z,z,by simp[oG]⟩
  | start i hi hf=>exact⟨z2,by simp,z3,⟨by dsimp only;omega,by dsimp only;omega⟩,z,z,z,⟨by simp[jN],by simp[jN]⟩,z,z,z,by simp[oG]⟩
  | stop i hi=>exact⟨z2,by simp,z4,⟨by dsimp only;omega,by dsimp only;omega⟩,z,z,z,⟨by simp[jN],by simp[jN]⟩,z,z,z,by simp[oG]⟩
  | wait n h1 h2=>exact⟨z2,by simp,z6,z,⟨by dsimp only;omega,by dsimp only;omega⟩,z,z,⟨by simp[jN],by simp[jN]⟩,z,z,z,by simp[oG]⟩
  | flow x v hr hf=>
   have h1:=hf.p.i
   have h2:=hf.p.o
   have h3:=hf.b
   have h4:=hf.p.hl
   have h5:=kP hf.p.w
   dsimp only at h1 h2 h4 h5
   refine⟨z2,by simp,z5,z,⟨by dsimp only;omega,by dsimp only;omega⟩,⟨by dsimp only;omega,by dsimp only;omega⟩,⟨by dsimp only;omega,by dsimp only;omega⟩,⟨h4,fun h hh=>?_⟩,by dsimp only;rw[hr];exact z,z,z,by simp[oG]⟩
   have:=h5 h hh
   exact⟨by omega,by omega⟩
def q8 (l:List (List Nat)):Fl:=⟨ee l,[]⟩
structure vH (l:List (List Nat)):Prop where
 n:l.length≤10
 b:∀ x∈l,x.length≤1200∧Bytes x
theorem uy {x:List Nat} (h:x.length≤1200∧Bytes x):(fr x).length≤1210∧Bytes (fr x):=by
 have h1:i64 (x.length:Int):=⟨by omega,by omega⟩
 refine⟨?_,fun c hc=>?_⟩
 ·have:=sZ _ h1
  unfold fr
  rw[List.length_append];omega
 ·unfold fr at hc
  rcases List.mem_append.1 hc with hc|hc
  ·exact JK _ h1 c hc
  ·exact h.2 c hc
theorem jA:∀ {l:List (List Nat)},(∀ x∈l,x.length≤1200∧Bytes x)→(ee l).length≤1210 * l.length∧Bytes (ee l)
 | [],_=>⟨by simp[ee],fun c hc=>by simp[ee]at hc⟩
 | x :: r,h=>by
  obtain⟨a,b⟩:=jA (l:=r) fun y hy=>h y (by simp[hy])
  obtain⟨a1,b1⟩:=uy (h x (by simp))
  rw[oM]
  refine⟨by rw[List.length_append,List.length_cons];omega,fun c hc=>?_⟩
  rcases List.mem_append.1 hc with hc|hc
  ·exact b1 c hc
  ·exact b c hc
theorem BS (l:List (List Nat)) (x:List Nat):ee (l++[x])=ee l++fr x:=by simp[ee]
theorem Fe {l:List (List Nat)} (h:vH l) {x:List Nat} (hx:x.length≤1200):Gv (q8 l) x=(⟨ee l,fr x⟩,0):=by
 have h1:=(jA h.b).1
 have h2:=h.n
 have h4:(fr x).length≤1210:=by
  have:=sZ (x.length:Int) ⟨by omega,by omega⟩
  unfold fr
  rw[List.length_append];omega
 have h3:=nJ (l:=l) fun c hc=>by have:=(h.b c hc).1;omega
 have hf:cX x.length++x=fr x:=rfl
 unfold Gv q8
 dsimp only
 rw[if_pos (by omega),h3,if_pos rfl,hf,if_pos (by simp;omega)]
 simp
theorem DX {l:List (List Nat)} (h:vH l) (n:Nat) (hn:13000≤n):uK (q8 l) n:=by
 obtain⟨a,b⟩:=jA h.b
 have:=h.n
 exact⟨b,fun c hc=>by simp[q8]at hc,by simp only[q8];omega,by simp[q8]⟩
theorem Jf (d:aB) (hd:bq d) (c:Ce) (h:nS d c) (hn:c.n≤9) (r:Rc) (c':Ce) (hr:AR d c r c') (l:List (List Nat)) (hl:vH (l++[dg r])) :
  aj Tryz.prog 10 [.t (.agg d.l),.t (dX (q8 l)),.t (bw c),.t (dH r)] [] (.tup [.t (dX (q8 (l++[dg r]))),.t (bw c'),.t (.int 0)]) []:=by
 have hw:=hr.wr hd h
 have hb:=hl.b (dg r) (by simp)
 have hl0:vH l:=⟨by have:=hl.n;simp at this;omega,fun x hx=>hl.b x (by simp[hx])⟩
 have cA:=xK d hd c h hn r c' hr
 have cE:=xm r hw
 have c1:=Hv (q8 l) (dg r) (DX hl0 _ (by omega)) (by omega) _ _ (Fe hl0 hb.1)
 have c2:=M9 ⟨ee l,fr (dg r)⟩ ⟨(jA hl0.b).2,(uy hb).2,by have:=(jA hl0.b).1;have:=hl0.n;dsimp only;omega,by have:=(uy hb).1;dsimp only;omega⟩ _ rfl
 have hs:zV ⟨ee l,fr (dg r)⟩=q8 (l++[dg r]):=by unfold zV q8;rw[BS]
 rw[hs]at c2
 have l0:=(jA hl0.b).1
 have l1:=hl0.n
 have e1:=gI (ee l) (by omega)
 have e2:=gI [] (by simp)
 unfold q8 at c1 c2 ⊢
 generalize ee (l++[dg r])=Y at c2 ⊢
 generalize fr (dg r)=Z at c1 c2
 generalize ee l=X at c1 c2 e1 ⊢
 generalize dg r=E at cE c1
 clear hl hb hl0 hs l0 hw hr h
 obtain⟨⟨vs,rs,ps,pm⟩,ts,ac,cn⟩:=c
 obtain⟨⟨vs',rs',ps',pm'⟩,ts',ac',cn'⟩:=c'
 obtain⟨kd,rv,⟨sk,si,sv,i,o,hs,pr⟩,sh,ek,ev⟩:=r
 refine nI Tryz.func10 rfl Tryz.ntmps10 ?_
 refine ah ?_
 refine ax e1 [(1000,150)] ?_
 refine ax e2 [(1000,151)] ?_
 refine ah ?_
 refine ax cA [] ?_
 refine ah ?_
 refine ax cE [] ?_
 refine ah ?_
 refine ax c1 [] ?_
 refine ah ?_
 refine ax c2 [] ?_
 refine ah ?_
 first|rw[av]|rw[ae]
 refine⟨[],?_⟩
 simp[go_sem,↓iO,iO,tN,bZ]
theorem uq (d:aB) (hd:bq d) (h1:1≤d.segs.length) (rs:List Rc) (C:Nat→Ce) (hC:vw d rs C) (hl:rs.length≤10) (f:Fl) (hf:uK f 500000) (m:Nat) (hr:ic f.b=(rs.map dg,m)) :
  aj Tryz.prog 14 [.t (.agg d.l),.t (.int 2),.t (dX f)] [] (.tup [.t (dX ⟨f.b.take m,[]⟩),.t (bw (C rs.length)),.t (.int 0)]) []:=by
 have cR:=Cm f hf _ m hr
 have cN:=Fw d hd
 have hb:=hf.bl
 have hp:=hf.pl
 have e1:=gI f.b (by omega)
 have e2:=gI f.p (by omega)
 have ok:=hC.ok hd h1 hl
 obtain⟨C0,hC⟩:=hC
 obtain⟨L,hL⟩:∃ L,rs.map dg=L:=⟨_,rfl⟩
 have hLl:rs.length=L.length:=by rw[←hL,List.length_map]
 have hdec:∀ i,i < L.length→∃ E r,L[i]? = some E∧aj Tryz.prog 45 [.t (dI E)] [] (.tup [.t (dH r),.t (.int 0)]) []∧aj Tryz.prog 34 [.t (.agg d.l),.t (bw (C i)),.t (dH r)] [] (.tup [.t (bw (C (i+1))),.t (.int 0)]) []:=fun i hi=>by
  rw[←hLl]at hi
  obtain⟨r,hr⟩:=aa hi
  obtain⟨a,b⟩:=ok i (by omega)
  exact⟨dg r,r,by rw[←hL,List.getElem?_map,hr];rfl,Hf r ((hC i r hr).wr hd a),xK d hd _ a (by omega) r _ (hC i r hr)⟩
 rw[hL]at cR
 rw[hLl]at hl ⊢
 clear hLl hL
 clear ok hC hr hf rs
 obtain⟨fb,fp⟩:=f
 dsimp only at cR e1 e2 ⊢
 generalize List.take m fb=Y at cR ⊢
 refine nI Tryz.func14 rfl Tryz.ntmps14 ?_
 refine ah ?_
 refine ax e1 [(1000,150)] ?_
 refine ax e2 [(1000,151)] ?_
 refine ah ?_
 refine ax cN [] ?_
 refine ah ?_
 refine ax cR [(1000,152)] ?_
 refine ah ?_
 refine oP ?_
 refine CW.loop (ι:=Nat) (fun j=>⟨[(3,.pt 103 [] 0),(6,.pt 106 [] 0),(7,.pt 107 [] 0),(10,.pt 110 [] 0),(12,.pt 112 [] 0),(41,.own 152),(42,.t (.int L.length)),(43,.t (.int j))],[(103,.box 32 (.t (.agg d.l))),(110,.box 43 (.t (bw (C j)))),(106,.box 52 (.t (.agg [.nil,.nil]))),(107,.box 43 (.t (.agg [.agg [.nil,.agg [.nil,.nil,.nil]],.nil,.nil,.int 0]))),(112,.box 52 (.t (dX ⟨Y,[]⟩))),(152,xN (L))]⟩) (fun j=>j≤L.length) (fun j=>L.length - j) 0 [(103,some 103),(106,some 106),(107,some 107),(110,some 110),(112,some 112),(152,some 152)] (by omega) ?_ ?_
 ·exact dJ C0
 intro j hj
 by_cases hb:j < L.length
 ·obtain⟨E,r,hr2,c1,c2⟩:=hdec j hb
  obtain⟨x,hx⟩:∃ x,C j=x:=⟨_,rfl⟩
  obtain⟨y,hy⟩:∃ y,C (j+1)=y:=⟨_,rfl⟩
  rw[hx,hy]at c2
  simp only[hx]
  obtain⟨⟨vs,ra,ps,pm⟩,ts,ac,cn⟩:=x
  obtain⟨⟨vs',rs',ps',pm'⟩,ts',ac',cn'⟩:=y
  obtain⟨kd,rv,⟨sk,si,sv,i,o,hs,pr⟩,sh,ek,ev⟩:=r
  refine aJ hr2 ?_
  refine dr hr2 c1 [] ?_
  refine ah ?_
  refine ax c2 [] ?_
  refine ah ?_
  exact nX (j+1) [(103,some 103),(106,some 106),(107,some 107),(110,some 110),(112,some 112),(152,some 152)] (by omega) (by omega) (dJ hy)
 ·obtain rfl:j=L.length:=by omega
  obtain⟨x,hx⟩:∃ x,C L.length=x:=⟨_,rfl⟩
  simp only[hx]
  obtain⟨⟨vs,ra,ps,pm⟩,ts,ac,cn⟩:=x
  refine aJ hb ?_
  first|rw[av]|rw[ae]
  refine⟨[],?_⟩
  simp[go_sem,↓iO,iO,tN,bZ]
theorem GF (d:aB) (c:Ce) (h:Lo c) (hn:0≤c.n∧c.n≤10) (t:Tg) (ht:gy t) (hv:t.vs.length≤3) (hg:m5 (eV c.ts)) (hx:∃ i:Nat,c.ts[i]? = some t) (l:List (List Nat)) (hl:vH l) :
  aj Tryz.prog 10 [.t (.agg d.l),.t (dX (q8 l)),.t (bw c),.t (dH ⟨1,jK t,gX,oG⟩)] [] (.tup [.t (dX (q8 l)),.t (bw c),.t (.int 6)]) []:=by
 have cA:=C6 d c h hn t ht hv hg hx
 have cC:=zM c h
 have l0:=(jA hl.b).1
 have l1:=hl.n
 have e1:=gI (ee l) (by omega)
 have e2:=gI [] (by simp)
 unfold q8
 generalize ee l=X at e1 ⊢
 clear l0 hl h hx
 obtain⟨⟨vs,rs,ps,pm⟩,ts,ac,cn⟩:=c
 generalize (⟨1,jK t,gX,oG⟩:Rc)=r at cA ⊢
 obtain⟨kd,rv,⟨sk,si,sv,i,o,hs,pr⟩,sh,ek,ev⟩:=r
 refine nI Tryz.func10 rfl Tryz.ntmps10 ?_
 refine ah ?_
 refine ax e1 [(1000,150)] ?_
 refine ax e2 [(1000,151)] ?_
 refine ah ?_
 refine ax cA [] ?_
 refine ah ?_
 refine ax cC [(1000,152)] ?_
 refine ah ?_
 first|rw[av]|rw[ae]
 refine⟨[],?_⟩
 simp[go_sem,↓iO,iO,tN,bZ]
theorem Ol (k:Dk) (h:Px k):aj Tryz.prog 46 [.t (db k),.t (db k)] [] (.t (.bool true)) []:=by
 have c1:=Qq k.vs (by have:=h.v;omega)
 have hp:=h.p
 have c2:=I6 k.pl.rs (by have:=hp.a;omega)
 have c3:=I6 k.pl.ps (by have:=hp.b;omega)
 have c4:=Qs k.pl.pm (by have:=hp.c;omega)
 clear h hp
 obtain⟨vs,rs,ps,pm⟩:=k
 dsimp only at c1 c2 c3 c4
 have cP:aj Tryz.prog 103 [.t (.agg [.sl 1 (rs.map aC),.sl 1 (ps.map aC),.sl 1 (pm.map dj)]),.t (.agg [.sl 1 (rs.map aC),.sl 1 (ps.map aC),.sl 1 (pm.map dj)])] [] (.t (.bool true)) []:=by
  refine nI Tryz.func103 rfl Tryz.ntmps103 ?_
  refine ah ?_
  refine ax c2 [] ?_
  refine ax c3 [] ?_
  refine ax c4 [] ?_
  refine ah ?_
  exact aF []
 refine nI Tryz.func46 rfl Tryz.ntmps46 ?_
 refine ah ?_
 refine ax c1 [] ?_
 refine ax cP [] ?_
 refine ah ?_
 exact aF []
theorem Po (l:List Ac) (hl:l.length≤1000000):aj Tryz.prog 47 [.t (.sl 5 (l.map bI)),.t (.sl 5 (l.map bI))] [] (.t (.bool true)) []:=by
 refine nI Tryz.func47 rfl Tryz.ntmps47 ?_
 refine ah ?_
 refine oP ?_
 refine lP (ι:=Nat) (fun k=>⟨[(0,.t (.sl 5 (l.map bI))),(1,.t (.sl 5 (l.map bI))),(5,.t (.int k))],[]⟩) (fun k=>k≤l.length) (fun k=>l.length - k) 0 [] (by omega) ?_
 intro k hk
 by_cases hb:k < l.length
 ·obtain⟨x,hx⟩:=aa hb
  refine aJ hx ?_
  exact nY (k+1) []
 ·obtain rfl:k=l.length:=by omega
  refine ah ?_
  exact aF []
theorem Pb (t:Tg) (hl:t.vs.length≤1000000):aj Tryz.prog 48 [.t (bQ t),.t (bQ t)] [] (.t (.bool true)) []:=by
 have c1:=I6 t.vs hl
 obtain⟨t1,t2,t3,t4,t5,t6⟩:=t
 dsimp only at c1
 refine nI Tryz.func48 rfl Tryz.ntmps48 ?_
 refine ah ?_
 refine ax c1 [] ?_
 refine ah ?_
 exact aF []
theorem PI (t:Tg) (hl:t.vs.length≤1000000):aj Tryz.prog 109 [.t (bQ t),.t (bQ t)] [] (.t (.bool true)) []:=by
 have c1:=Iy t.vs hl
 obtain⟨t1,t2,t3,t4,t5,t6⟩:=t
 dsimp only at c1
 refine nI Tryz.func109 rfl Tryz.ntmps109 ?_
 refine ah ?_
 refine ax c1 [] ?_
 refine ah ?_
 exact aF []
theorem Qa (l:List Tg) (hl:l.length≤1000000) (hv:∀ t∈l,t.vs.length≤1000000):aj Tryz.prog 108 [.t (.sl 6 (l.map bQ)),.t (.sl 6 (l.map bQ)),.fn 109 []] [] (.t (.bool true)) []:=by
 refine nI Tryz.func108 rfl Tryz.ntmps108 ?_
 refine ah ?_
 refine oP ?_
 refine lP (ι:=Nat) (fun k=>⟨[(1,.t (.sl 6 (l.map bQ))),(2,.fn 109 []),(15,.t (.sl 6 (l.map bQ))),(16,.t (.int l.length)),(17,.t (.int k))],[]⟩) (fun k=>k≤l.length) (fun k=>l.length - k) 0 [] (by omega) ?_
 intro k hk
 by_cases hb:k < l.length
 ·obtain⟨x,hx⟩:=aa hb
  have c1:=PI x (hv x (au hx))
  refine aJ hx ?_
  refine dr hx c1 [] ?_
  refine ah ?_
  exact nY (k+1) []
 ·obtain rfl:k=l.length:=by omega
  refine ah ?_
  exact aF []
theorem PJ (c:Ce) (h:Lo c) (hs:Px c.dk) (ha:c.ac.length≤1000000) (hv:∀ t∈c.ts,t.vs.length≤1000000):aj Tryz.prog 16 [.t (bw c),.t (bw c)] [] (.t (.bool true)) []:=by
 have c1:=Ol c.dk hs
 have c2:=Po c.ac ha
 have ht:=h.t
 have c3:∀ (i:Nat) x,c.ts[i]? = some x→aj Tryz.prog 48 [.t (bQ x),.t (bQ x)] [] (.t (.bool true)) []:=fun i x hx=>Pb x (hv x (au hx))
 clear h hs hv
 obtain⟨⟨vs,rs,ps,pm⟩,ts,ac,cn⟩:=c
 dsimp only at c1 c2 c3 ht
 refine nI Tryz.func16 rfl Tryz.ntmps16 ?_
 refine ah ?_
 refine ax c1 [] ?_
 refine ax c2 [] ?_
 refine ah ?_
 refine oP ?_
 refine lP (ι:=Nat) (fun k=>⟨[(2,.pt 102 [] 0),(3,.pt 103 [] 0),(5,.t (.int k))],[(102,.box 43 (.t (bw ⟨⟨vs,rs,ps,pm⟩,ts,ac,cn⟩))),(103,.box 43 (.t (bw ⟨⟨vs,rs,ps,pm⟩,ts,ac,cn⟩)))]⟩) (fun k=>k≤ts.length) (fun k=>ts.length - k) 0 [(102,some 102),(103,some 103)] (by omega) ?_
 intro k hk
 by_cases hb:k < ts.length
 ·obtain⟨x,hx⟩:=aa hb
  have c4:=c3 k x hx
  refine aJ hx ?_
  refine dr hx c4 [] ?_
  refine ah ?_
  exact nY (k+1) [(102,some 102),(103,some 103)]
 ·obtain rfl:k=ts.length:=by omega
  refine ah ?_
  exact aF []
theorem Ke (c:Ce) (h:Lo c) (hs:Px c.dk) (ha:c.ac.length≤1000000) (hv:∀ t∈c.ts,t.vs.length≤1000000):aj Tryz.prog 49 [.t (bw c),.t (bw c)] [] (.t (.bool true)) []:=by
 have hp:=hs.p
 have c1:=P4 c.dk.vs (by have:=hs.v;omega)
 have c2:=Iy c.dk.pl.rs (by have:=hp.a;omega)
 have c3:=Iy c.dk.pl.ps (by have:=hp.b;omega)
 have c4:=QD c.dk.pl.pm (by have:=hp.c;omega)
 have c5:=Qa c.ts (by have:=h.t;omega) hv
 have c6:=QH c.ac ha
 clear h hs hv hp
 obtain⟨⟨vs,rs,ps,pm⟩,ts,ac,cn⟩:=c
 dsimp only at c1 c2 c3 c4 c5 c6
 refine nI Tryz.func49 rfl Tryz.ntmps49 ?_
 refine ah ?_
 refine ax c1 [] ?_
 refine ax c2 [] ?_
 refine ax c3 [] ?_
 refine ax c4 [] ?_
 refine ax c5 [] ?_
 refine ax c6 [] ?_
 refine ah ?_
 exact aF []
theorem CU (d:aB) (hd:bq d) (h1:1≤d.segs.length) (rs:List Rc) (C:Nat→Ce) (hC:vw d rs C) (hl:rs.length≤10) (hf:vH (rs.map dg)):aj Tryz.prog 17 [.t (.agg d.l),.t (.int 2),.t (dX (q8 (rs.map dg))),.t (bw (C rs.length))] [] (.tup [.t (.bool true),.t (.int 0)]) []:=by
 obtain⟨ok,_⟩:=hC.ok hd h1 hl rs.length (Nat.le_refl _)
 have cR:=uq d hd h1 rs C hC hl (q8 (rs.map dg)) (DX hf _ (by omega)) _ (nJ fun c hc=>by have:=(hf.b c hc).1;omega)
 have cS:=Ke _ (ok.sz hd) (ok.dk.sz hd) (by have:=ok.na;have:=ok.n;omega) fun t ht=>by have:=(ok.ts t ht).2;omega
 unfold q8 at cR ⊢
 dsimp only at cR
 rw[List.take_length]at cR
 generalize ee (rs.map dg)=X at cR ⊢
 clear ok hC hf
 generalize C rs.length=c at cR cS ⊢
 obtain⟨⟨vs,rs,ps,pm⟩,ts,ac,cn⟩:=c
 refine nI Tryz.func17 rfl Tryz.ntmps17 ?_
 refine ah ?_
 refine ax cR [] ?_
 refine ah ?_
 refine ax cS [] ?_
 refine ah ?_
 exact aF []
theorem IY (d:aB) (hd:bq d) (c:Ce) (h:nS d c):aj Tryz.prog 19 [.t (.agg d.l),.t (bw c)] [] (.t (.int 0)) []:=by
 have hn:=h.n
 have c1:=xD d hd c.dk h.dk
 have c2:=u6 c.ac c.n hn h.ac h.ag (by have:=h.na;omega)
 have ht:=(h.sz hd).t
 have c3:∀ (i:Nat) x,c.ts[i]? = some x→aj Tryz.prog 52 [.t (bQ x)] [] (.t (.bool true)) []:=fun i x hx=>by
  obtain⟨a,b⟩:=h.ts x (au hx)
  exact tE x (by omega) true (decide_eq_true a)
 have c4:∀ (i:Nat) x y,c.ts[i]? = some x→c.ts[i+1]? = some y→x.st < y.st:=fun i x y hx hy=>by
  have g:=h.tg
  obtain⟨g1,e1⟩:=List.getElem?_eq_some_iff.1 (show (eV c.ts)[i]? = some x.st by unfold eV;rw[List.getElem?_map,hx];rfl)
  obtain⟨g2,e2⟩:=List.getElem?_eq_some_iff.1 (show (eV c.ts)[i+1]? = some y.st by unfold eV;rw[List.getElem?_map,hy];rfl)
  have:=List.pairwise_iff_getElem.1 g i (i+1) g1 g2 (by omega)
  omega
 clear h
 obtain⟨⟨vs,rs,ps,pm⟩,ts,ac,cn⟩:=c
 dsimp only at c1 c2 c3 c4 ht hn
 have n1:¬ cn < 0:=by omega
 have n2:¬ 1000 < cn:=by omega
 refine nI Tryz.func19 rfl Tryz.ntmps19 ?_
 refine ah ?_
 refine ax c1 [] ?_
 refine ah ?_
 refine ax c2 [] ?_
 refine ah ?_
 refine oP ?_
 refine lP (ι:=Nat) (fun k=>⟨[(3,.pt 103 [] 0),(20,.t (.sl 6 (ts.map bQ))),(21,.t (.int ts.length)),(22,.t (.int k))],[(103,.box 43 (.t (bw ⟨⟨vs,rs,ps,pm⟩,ts,ac,cn⟩)))]⟩) (fun k=>k≤ts.length) (fun k=>ts.length - k) 0 [(103,some 103)] (by omega) ?_
 intro k hk
 by_cases hb:k < ts.length
 ·obtain⟨x,hx⟩:=aa hb
  have c5:=c3 k x hx
  rcases Nat.eq_zero_or_pos k with rfl|h0
  ·refine aJ hx ?_
   refine dr hx c5 [] ?_
   refine ah ?_
   exact nY (0+1) [(103,some 103)]
  ·obtain⟨j,rfl⟩:∃ j,k=j+1:=⟨k - 1,by omega⟩
   obtain⟨y,hy⟩:∃ y,ts[j]? = some y:=aa (show j < ts.length by omega)
   have hlt:=c4 j y x hy hx
   have g1:¬ x.st≤y.st:=by omega
   refine aJ hx ?_
   refine Fu hx hy g1 c5 [] ?_
   refine fg hx hy g1 ?_
   exact nY (j+1+1) [(103,some 103)]
 ·obtain rfl:k=ts.length:=by omega
  refine c9 n1 n2 ?_
  exact aF []
theorem vw.take {d:aB} {rs:List Rc} {C:Nat→Ce} (h:vw d rs C) (x:Nat):vw d (rs.take x) C:=by
 refine⟨h.1,fun i r hr=>h.2 i r ?_⟩
 rw[List.getElem?_take]at hr
 split at hr
 ·exact hr
 ·cases hr
theorem vw.fr {d:aB} (hd:bq d) (h1:1≤d.segs.length) {rs:List Rc} {C:Nat→Ce} (h:vw d rs C) (hl:rs.length≤10):vH (rs.map dg):=by
 refine⟨by rw[List.length_map];exact hl,fun x hx=>?_⟩
 obtain⟨r,hr,rfl⟩:=List.mem_map.1 hx
 obtain⟨i,hi,e⟩:=List.getElem_of_mem hr
 have hr:rs[i]? = some r:=by rw[←e];exact List.getElem?_eq_getElem hi
 exact EU r ((h.2 i r hr).wr hd (h.ok hd h1 hl i (by omega)).1)
def fE (rs:List Rc) (i:Nat):List (List Nat):=(rs.take i).map dg
theorem B7 {rs:List Rc} {i:Nat} {r:Rc} (hr:rs[i]? = some r):fE rs (i+1)=fE rs i++[dg r]:=by
 unfold fE
 rw[bC hr,List.map_append]
 rfl
theorem vw.ft {d:aB} (hd:bq d) (h1:1≤d.segs.length) {rs:List Rc} {C:Nat→Ce} (h:vw d rs C) (hl:rs.length≤10) (i:Nat):vH (fE rs i):=(h.take i).fr hd h1 (by rw[List.length_take];omega)
theorem Nf {l:List (List Nat)} (h:vH l):ic (ee l)=(l,(ee l).length):=nJ fun c hc=>by have:=(h.b c hc).1;omega
theorem uT (d:aB) (hd:bq d) (h1:1≤d.segs.length) (rs:List Rc) (C:Nat→Ce) (hC:vw d rs C) (hl:rs.length≤10) (x:Nat) (hx:x≤rs.length) (g:Fl) (hg:uK g 500000) (hr:ic g.b=(fE rs x,(ee (fE rs x)).length)) (he:g.b.take (ee (fE rs x)).length=ee (fE rs x)) :
  aj Tryz.prog 14 [.t (.agg d.l),.t (.int 2),.t (dX g)] [] (.tup [.t (dX (q8 (fE rs x))),.t (bw (C x)),.t (.int 0)]) []:=by
 have hx':(rs.take x).length=x:=by rw[List.length_take];omega
 have c2:=uq d hd h1 (rs.take x) C (hC.take x) (by omega) g hg _ hr
 rw[hx',he]at c2
 exact c2
theorem KM (d:aB) (hd:bq d) (h1:1≤d.segs.length) (rs:List Rc) (C:Nat→Ce) (hC:vw d rs C) (hl:rs.length≤10) (i:Nat) (r:Rc) (hr:rs[i]? = some r) (v:Nat) (hv:v≤(fr (dg r)).length) :
  ∃ (x:Nat) (g:Fl),(x=i∨x=i+1)∧(v=(fr (dg r)).length→x=i+1)∧
   aj Tryz.prog 15 [.t (dX ⟨ee (fE rs i),fr (dg r)⟩),.t (.int v)] [] (.t (dX g)) []∧
   aj Tryz.prog 14 [.t (.agg d.l),.t (.int 2),.t (dX g)] [] (.tup [.t (dX (q8 (fE rs x))),.t (bw (C x)),.t (.int 0)]) []:=by
 have hi:=(List.getElem?_eq_some_iff.1 hr).1
 have hE:=hC.ft hd h1 hl i
 have hE1:=hC.ft hd h1 hl (i+1)
 have es:=B7 hr
 have hb:=hE1.b (dg r) (by rw[es];simp)
 have l0:=(jA hE.b).1
 have l1:=hE.n
 have l2:=(uy hb).1
 have hcr:jL ⟨ee (fE rs i),fr (dg r)⟩ (v:Int)=⟨ee (fE rs i)++(fr (dg r)).take v,[]⟩:=by
  unfold jL
  dsimp only
  rw[show (max 0 (min (v:Int) ((fr (dg r)).length:Int))).toNat=v by omega]
 have c1:=Hi ⟨ee (fE rs i),fr (dg r)⟩ (v:Int) ⟨(jA hE.b).2,(uy hb).2,by dsimp only;omega,by dsimp only;omega⟩ _ hcr
 have hg:uK ⟨ee (fE rs i)++(fr (dg r)).take v,[]⟩ 500000:=by
  refine⟨fun c hc=>?_,fun c hc=>by simp at hc,?_,by simp⟩
  ·rcases List.mem_append.1 hc with hc|hc
   ·exact (jA hE.b).2 c hc
   ·exact (uy hb).2 c (List.mem_of_mem_take hc)
  ·dsimp only
   rw[List.length_append,List.length_take];omega
 by_cases h:v=(fr (dg r)).length
 ·have e:ee (fE rs i)++(fr (dg r)).take v=ee (fE rs (i+1)):=by rw[es,BS,List.take_of_length_le (by omega)]
  refine⟨i+1,_,.inr rfl,fun _=>rfl,c1,uT d hd h1 rs C hC hl (i+1) (by omega) _ hg ?_ ?_⟩
  ·dsimp only
   rw[e];exact Nf hE1
  ·dsimp only
   rw[e,List.take_length]
 ·refine⟨i,_,.inl rfl,fun hh=>absurd hh h,c1,uT d hd h1 rs C hC hl i (by omega) _ hg ?_ ?_⟩
  ·exact H8 (fun c hc=>by have:=(hE.b c hc).1;omega) (by omega) (by omega)
  ·exact List.take_left
theorem JJ (d:aB) (hd:bq d) (c c':Ce) (r:Rc) (hR:AR d c r c') (hc:nS d c') (l:List (List Nat)) (hl:vH l):r.kd≠1∨(r.kd=1∧
  aj Tryz.prog 10 [.t (.agg d.l),.t (dX (q8 l)),.t (bw c'),.t (dH r)] [] (.tup [.t (dX (q8 l)),.t (bw c'),.t (.int 6)]) []):=by
 cases hR with
 | tele t l' ht hv hs=>exact .inr ⟨rfl,GF d _ (hc.sz hd) hc.n t ht hv hc.tg hs.has l hl⟩
 | step s k hs=>exact .inl (by simp)
 | entry e l' he hs=>exact .inl (by simp)
theorem vw.sce {d:aB} (hd:bq d) (h1:1≤d.segs.length) {rs:List Rc} {C:Nat→Ce} (h:vw d rs C) (hl:rs.length≤10) (i:Nat) (hi:i≤rs.length):aj Tryz.prog 16 [.t (bw (C i)),.t (bw (C i))] [] (.t (.bool true)) []:=by
 obtain⟨ok,_⟩:=h.ok hd h1 hl i hi
 exact PJ _ (ok.sz hd) (ok.dk.sz hd) (by have:=ok.na;have:=ok.n;omega) fun t ht=>by have:=(ok.ts t ht).2;omega
end Go.Proofs.YtocndodilpimnaaGreat
