import Derived.Test.YtdjmklobfjigoaaGreatDoorTCvesB11
import Derived.Test.YtdjmklobfjigoaaGreatDoorTCvesB10
import Derived.Test.YtdjmklobfjigoaaGreatDoorTCvesB8
set_option maxRecDepth 100000
set_option maxHeartbeats 16000000
set_option linter.unusedVariables false
set_option linter.unusedSimpArgs false
namespace Go.Proofs.YtdjmklobfjigoaaGreatDoor
open Go.RowKit Sy
open Go.IntWalk renaming iteOmega → iO, toNatUp → tN
namespace Dl
def tot:List Int→Int
 | []=>0
 | x :: r=>x+tot r
theorem tot_app:∀ a b:List Int,tot (a++b)=tot a+tot b
 | [],b=>by simp[tot]
 | x :: r,b=>by simp[tot,tot_app r b];omega
theorem tot_snoc {l:List Int} {k:Nat} {x:Int} (h:l[k]? = some x):tot (l.take (k+1))=tot (l.take k)+x:=by
 rw[take_snoc h,tot_app];simp[tot]
theorem tot_nn:∀ {l:List Int},(∀ x∈l,0≤x)→0≤tot l
 | [],_=>by simp[tot]
 | x :: r,h=>by
  have:=tot_nn (l:=r) (fun y hy=>h y (by simp[hy]))
  have:=h x (by simp)
  simp only[tot];omega
theorem tot_le {M:Int}:∀ {l:List Int},(∀ x∈l,x≤M)→tot l≤M * l.length
 | [],_=>by simp[tot]
 | x :: r,h=>by
  have h1:=tot_le (l:=r) (fun y hy=>h y (by simp[hy]))
  have h2:=h x (by simp)
  simp only[tot,List.length_cons]
  rw[show ((r.length+1:Nat):Int)=r.length+1 by omega,Int.mul_add,Int.mul_one]
  omega
theorem tot_set:∀ {l:List Int} {i:Nat} {x:Int},l[i]? = some x→∀ y,tot (l.set i y)=tot l - x+y
 | [],i,x,h,y=>by simp at h
 | a :: r,0,x,h,y=>by simp at h;subst h;simp[tot];omega
 | a :: r,i+1,x,h,y=>by
  have:=tot_set (l:=r) (i:=i) (x:=x) (by simpa using h) y
  simp[tot,this];omega
def chk (r:List Int) (k:Int):Int:=
 if 64 < r.length then 4 else if ¬ ∀ x∈r,0≤x∧x≤1000 then 1 else if tot r=0 then 9 else if k < 0∨tot r < k then 1 else 0
def bump (C:List Int) (i:Int):List Int:=C.set i.toNat (rt C i.toNat+1)
def cs (r:List Int):Nat→List Int
 | 0=>List.replicate r.length 0
 | k+1=>bump (cs r k) (nx r (cs r k) r.length)
theorem cs_len (r:List Int):∀ k,(cs r k).length=r.length
 | 0=>by simp[cs]
 | k+1=>by simp[cs,bump,cs_len r k]
theorem cs_bd (r:List Int):∀ k,∀ x∈cs r k,0≤x∧x≤k
 | 0,x,h=>by simp[cs]at h;omega
 | k+1,x,h=>by
  have ih:=cs_bd r k
  unfold cs bump at h
  rcases List.mem_or_eq_of_mem_set h with h|h
  ·have:=ih x h;omega
  ·subst h
   unfold rt
   rw[List.getD_eq_getElem?_getD]
   cases hz:(cs r k)[(nx r (cs r k) r.length).toNat]? with
   | none=>simp;omega
   | some z=>have:=ih z (List.mem_of_getElem? hz);simp;omega
structure Rates (r:List Int):Prop where
 len:r.length≤64
 each:∀ x∈r,0≤x∧x≤1000
 pos:0 < tot r
theorem Rates.nn {r:List Int} (h:Rates r):∀ x∈r,0≤x:=fun x hx=>(h.each x hx).1
theorem Rates.tot_le {r:List Int} (h:Rates r):tot r≤64000:=by
 have h1:=Dl.tot_le (M:=1000) (l:=r) (fun x hx=>(h.each x hx).2)
 have:=h.len
 omega
theorem pos_mem:∀ {l:List Int},(∀ x∈l,0≤x)→0 < tot l→∃ (i:Nat) (x:Int),l[i]? = some x∧0 < x
 | [],_,h=>by simp[tot]at h
 | a :: r,hn,h=>by
  by_cases ha:0 < a
  ·exact⟨0,a,rfl,ha⟩
  ·have h2:=hn a (by simp)
   obtain⟨i,x,h3,h4⟩:=pos_mem (l:=r) (fun y hy=>hn y (by simp[hy])) (by simp only[tot]at h;omega)
   exact⟨i+1,x,by simpa using h3,h4⟩
theorem nx_pos {R C:List Int} {i:Nat} (hi:0 < rt R i):∀ {k:Nat},i < k→0≤nx R C k
 | 0,h=>by omega
 | k+1,h=>by
  unfold nx
  split
  ·omega
  ·rename_i hn
   by_cases e:i=k
   ·subst e
    have:=nx_range R C i
    by_cases h0:nx R C i < 0
    ·exact (hn ⟨hi,.inl h0⟩).elim
    ·omega
   ·exact nx_pos hi (by omega)
theorem Rates.nx {r:List Int} (h:Rates r) (C:List Int):∃ j:Nat,Dl.nx r C r.length=(j:Int)∧j < r.length:=by
 obtain⟨i,x,h1,h2⟩:=pos_mem h.nn h.pos
 have h3:=nx_range r C r.length
 have h4:=nx_pos (R:=r) (C:=C) (i:=i) (by rw[rt_get h1];exact h2) (k:=r.length) (List.getElem?_eq_some_iff.1 h1).1
 exact⟨(Dl.nx r C r.length).toNat,by omega,by omega⟩
theorem chk_ok {r:List Int} {k:Int} (h:chk r k=0):Rates r∧0≤k∧k≤tot r:=by
 unfold chk at h
 by_cases h1:64 < r.length
 ·rw[if_pos h1]at h;omega
 rw[if_neg h1]at h
 by_cases h2:∀ x∈r,0≤x∧x≤1000
 ·rw[if_neg (fun hn=>hn h2)]at h
  by_cases h3:tot r=0
  ·rw[if_pos h3]at h;omega
  rw[if_neg h3]at h
  by_cases h4:k < 0∨tot r < k
  ·rw[if_pos h4]at h;omega
  have:=tot_nn (l:=r) (fun x hx=>(h2 x hx).1)
  exact⟨⟨by omega,h2,by omega⟩,by omega,by omega⟩
 ·rw[if_pos h2]at h;omega
theorem chk_of {r:List Int} {k:Int} (h:Rates r) (h1:0≤k) (h2:k≤tot r):chk r k=0:=by
 have:=h.pos
 have:=h.len
 unfold chk
 rw[if_neg (by omega),if_neg (fun hn=>hn h.each),if_neg (by omega),if_neg (by omega)]
end Dl
open Dl
theorem check_fn (r:List Int) (k:Int) (hl:r.length≤9223372036854775807) (e:Int) (he:chk r k=e):FnOk Tryz.prog 100 [.t (encIs r),.t (.int k)] [] (.t (.int e)) []:=by
 unfold chk at he
 by_cases h1:64 < r.length
 ·rw[if_pos h1]at he
  subst he
  refine FnOk.intro fact_mixed Tryz.func100 rfl Tryz.ntmps100 (by rfl) (by simp) ?_
  repeat (first|(refine n1s rfl ?_;simp[go_sem,↓iO,iO,tN])|refine anI ?_|refine⟨dcK,?_⟩|refine iP ?_|refine iN ?_)
  first|rw[TqR]|rw[TqN]
  refine⟨[],?_⟩
  simp[go_sem,↓iO,iO,tN]
 rw[if_neg h1]at he
 refine FnOk.intro fact_mixed Tryz.func100 rfl Tryz.ntmps100 (by rfl) (by simp) ?_
 repeat (first|(refine n1s rfl ?_;simp[go_sem,↓iO,iO,tN])|refine anI ?_|refine⟨dcK,?_⟩|refine iP ?_|refine iN ?_)
 refine nf1_sound' _ _ _ ?_;simp only[nf1]
 refine CW.loop (ι:=Nat) (fun i=>⟨[(1,.t (.int k)),(5,.t (.int (tot (r.take i)))),(11,.t (encIs r)),(12,.t (.int r.length)),(13,.t (.int i))],[]⟩) (fun i=>i≤r.length∧∀ x∈r.take i,0≤x∧x≤1000) (fun i=>r.length - i) 0 [] ⟨by omega,by simp⟩ ?_ ?_
 ·simp[go_sem,↓iO,iO,tN,tot]
 rintro i ⟨hi,hall⟩
 by_cases hb:i < r.length
 ·obtain⟨x,hx⟩:=has_get hb
  have hm:=mem_get hx
  by_cases h2:0≤x
  ·by_cases h3:x≤1000
   ·have ha2:∀ y∈r.take (i+1),0≤y∧y≤1000:=by
     rw[take_snoc hx]
     intro y hy
     rcases List.mem_append.1 hy with hy|hy
     ·exact hall y hy
     ·simp only[List.mem_singleton]at hy;subst hy;exact⟨h2,h3⟩
    have hs:=tot_snoc hx
    have b1:=tot_nn (l:=r.take i) (fun y hy=>(hall y hy).1)
    have b2:=tot_le (M:=1000) (l:=r.take i) (fun y hy=>(hall y hy).2)
    rw[List.length_take]at b2
    obtain⟨T,hT⟩:∃ T,tot (r.take i)=T:=⟨_,rfl⟩
    rw[hT]at hs b1 b2 ⊢
    repeat (first|(refine n1s rfl ?_;simp[go_sem,↓iO,iO,tN,hx])|refine anI ?_|refine⟨dcK,?_⟩|refine iP ?_|refine iN ?_)
    rw[RqN];refine⟨i+1,[],?_,?_,?_⟩
    ·exact⟨by omega,ha2⟩
    ·omega
    simp[go_sem,↓iO,iO,tN,hs]
   ·rw[if_pos (fun h=>h3 (h x hm).2)]at he
    subst he
    repeat (first|(refine n1s rfl ?_;simp[go_sem,↓iO,iO,tN,hx])|refine anI ?_|refine⟨dcK,?_⟩|refine iP ?_|refine iN ?_)
    first|rw[TqR]|rw[TqN]
    refine⟨[],?_⟩
    simp[go_sem,↓iO,iO,tN]
  ·rw[if_pos (fun h=>h2 (h x hm).1)]at he
   subst he
   repeat (first|(refine n1s rfl ?_;simp[go_sem,↓iO,iO,tN,hx])|refine anI ?_|refine⟨dcK,?_⟩|refine iP ?_|refine iN ?_)
   first|rw[TqR]|rw[TqN]
   refine⟨[],?_⟩
   simp[go_sem,↓iO,iO,tN]
 ·obtain rfl:i=r.length:=by omega
  rw[List.take_length]at hall ⊢
  rw[if_neg (fun hn=>hn hall)]at he
  have b1:=tot_nn (l:=r) (fun y hy=>(hall y hy).1)
  obtain⟨T,hT⟩:∃ T,tot r=T:=⟨_,rfl⟩
  rw[hT]at he b1 ⊢
  by_cases h4:T=0
  ·rw[if_pos h4]at he
   subst he
   repeat (first|(refine n1s rfl ?_;simp[go_sem,↓iO,iO,tN,h4])|refine anI ?_|refine⟨dcK,?_⟩|refine iP ?_|refine iN ?_)
   first|rw[TqR]|rw[TqN]
   refine⟨[],?_⟩
   simp[go_sem,↓iO,iO,tN]
  ·rw[if_neg h4]at he
   by_cases h5:k < 0
   ·rw[if_pos (.inl h5)]at he
    subst he
    repeat (first|(refine n1s rfl ?_;simp[go_sem,↓iO,iO,tN,h4])|refine anI ?_|refine⟨dcK,?_⟩|refine iP ?_|refine iN ?_)
    first|rw[TqR]|rw[TqN]
    refine⟨[],?_⟩
    simp[go_sem,↓iO,iO,tN]
   ·by_cases h6:T < k
    ·rw[if_pos (.inr h6)]at he
     subst he
     repeat (first|(refine n1s rfl ?_;simp[go_sem,↓iO,iO,tN,h4])|refine anI ?_|refine⟨dcK,?_⟩|refine iP ?_|refine iN ?_)
     first|rw[TqR]|rw[TqN]
     refine⟨[],?_⟩
     simp[go_sem,↓iO,iO,tN]
    ·rw[if_neg (by omega)]at he
     subst he
     repeat (first|(refine n1s rfl ?_;simp[go_sem,↓iO,iO,tN,h4])|refine anI ?_|refine⟨dcK,?_⟩|refine iP ?_|refine iN ?_)
     first|rw[TqR]|rw[TqN]
     refine⟨[],?_⟩
     simp[go_sem,↓iO,iO,tN]
def pad (r:List Int):List Int:=r++List.replicate (64 - r.length) 0
theorem pad_len {r:List Int} (h:r.length≤64):(pad r).length=64:=by simp[pad];omega
theorem start_fn (r:List Int) (hl:r.length≤64) (R Z:List Int) (hR:pad r=R) (hZ:List.replicate 64 0=Z):FnOk Tryz.prog 101 [.t (encIs r)] [] (.t (tblT r.length R Z)) []:=by
 have hmin:min r.length 64=r.length:=by omega
 have hz:List.replicate 64 (T.lit (.int .i64 0))=Z.map encI:=by rw[←hZ,List.map_replicate];rfl
 have hzl:Z.length=64:=by rw[←hZ,List.length_replicate]
 have hp:List.take r.length (r.map encI)++List.drop r.length (Z.map encI)=R.map encI:=by
  rw[←hR,pad,List.map_append,←hZ,←List.map_drop,List.drop_replicate,List.take_of_length_le (by simp)]
 have hRl:R.length=64:=by rw[←hR];exact pad_len hl
 refine FnOk.intro fact_mixed Tryz.func101 rfl Tryz.ntmps101 (by rfl) (by simp) ?_
 repeat (first|(refine n1s rfl ?_;simp[go_sem,↓iO,iO,tN,↓hz,hmin,hp,hzl,hRl])|refine anI ?_|refine⟨dcK,?_⟩|refine iP ?_|refine iN ?_)
 first|rw[TqR]|rw[TqN]
 refine⟨[],?_⟩
 simp[go_sem,↓iO,iO,tN,hz,hp]
 omega
theorem pad_set {c:List Int} {j:Nat} (h:j < c.length) (x:Int):(pad c).set j x=pad (c.set j x):=by
 unfold pad
 rw[List.set_append_left _ _ h,List.length_set]
theorem rt_pad {c:List Int} {i:Nat} (h:i < c.length):rt (pad c) i=rt c i:=rt_app h
theorem nx_pad {r c:List Int} (h:c.length=r.length):nx (pad r) (pad c) r.length=nx r c r.length:=nx_app (by omega) (by omega)
theorem pad_mem {c:List Int} {x:Int} (h:x∈pad c):x∈c∨x=0:=by
 unfold pad at h
 rcases List.mem_append.1 h with h|h
 ·exact .inl h
 ·exact .inr (List.eq_of_mem_replicate h)
theorem tbl_ex {r:List Int} (h:Rates r) (M:Nat) (hM:M≤1000000):∃ (R:List Int) (Y:Nat→List Int) (j:Nat→Nat),pad r=R∧(∀ k,Y k=pad (cs r k))∧Y 0=List.replicate 64 0∧(∀ k,k≤M→TblOk r.length R (Y k))∧
  (∀ k,nx R (Y k) r.length=(j k:Int))∧(∀ k,j k < r.length)∧∀ k,(Y k).set (j k) (rt (Y k) (j k)+1)=Y (k+1):=by
 have hj:∀ k,∃ j:Nat,nx r (cs r k) r.length=(j:Int)∧j < r.length:=fun k=>h.nx _
 refine⟨pad r,fun k=>pad (cs r k),fun k=>(nx r (cs r k) r.length).toNat,rfl,fun _=>rfl,?_,?_,?_,?_,?_⟩
 ·have:=h.len
  simp only[cs,pad,List.length_replicate]
  rw[List.replicate_append_replicate];congr 1;omega
 ·intro k hk
  refine⟨pad_len h.len,pad_len (by rw[cs_len];exact h.len),h.len,fun x hx=>?_,fun x hx=>?_⟩
  ·rcases pad_mem hx with hx|rfl
   ·exact h.each x hx
   ·omega
  ·rcases pad_mem hx with hx|rfl
   ·have:=cs_bd r k x hx;omega
   ·omega
 ·intro k
  obtain⟨j,h1,h2⟩:=hj k
  show nx (pad r) (pad (cs r k)) r.length=_
  rw[nx_pad (cs_len r k)]
  show _=(((nx r (cs r k) r.length).toNat:Nat):Int)
  rw[h1,Int.toNat_natCast]
 ·intro k
  obtain⟨j,h1,h2⟩:=hj k
  show (nx r (cs r k) r.length).toNat < r.length
  rw[h1];exact h2
 ·intro k
  obtain⟨j,h1,h2⟩:=hj k
  show (pad (cs r k)).set (nx r (cs r k) r.length).toNat (rt (pad (cs r k)) (nx r (cs r k) r.length).toNat+1)=pad (cs r (k+1))
  have h3:(nx r (cs r k) r.length).toNat < (cs r k).length:=by rw[cs_len,h1];exact h2
  rw[pad_set h3,rt_pad h3];rfl
end Go.Proofs.YtdjmklobfjigoaaGreatDoor
namespace Go.Proofs.YtdjmklobfjigoaaGreatDoor
open Go.RowKit Sy
namespace Dl
theorem bump_ge {C:List Int} {j i:Nat}:rt C i≤rt (bump C (j:Int)) i∧rt (bump C (j:Int)) i≤rt C i+1:=by
 unfold bump
 rw[Int.toNat_natCast]
 unfold rt
 simp only[List.getD_eq_getElem?_getD,List.getElem?_set]
 by_cases e:j=i
 ·subst e
  rw[if_pos rfl]
  split
  ·simp;omega
  ·rename_i h
   rw[List.getElem?_eq_none (by omega)];simp
 ·rw[if_neg e];omega
theorem cs_mono1 (r:List Int) (k i:Nat):rt (cs r k) i≤rt (cs r (k+1)) i∧rt (cs r (k+1)) i≤rt (cs r k) i+1:=by
 by_cases h:nx r (cs r k) r.length < 0
 ·have:(nx r (cs r k) r.length).toNat=0:=by omega
  have h2:=bump_ge (C:=cs r k) (j:=0) (i:=i)
  simp only[cs,bump,this]
  simpa [bump] using h2
 ·obtain⟨j,hj⟩:∃ j:Nat,nx r (cs r k) r.length=(j:Int):=⟨(nx r (cs r k) r.length).toNat,by omega⟩
  simp only[cs,hj]
  exact bump_ge
theorem cs_mono (r:List Int) (k i:Nat):∀ d,rt (cs r k) i≤rt (cs r (k+d)) i∧rt (cs r (k+d)) i≤rt (cs r k) i+d
 | 0=>by simp
 | d+1=>by
  have h1:=cs_mono r k i d
  have h2:=cs_mono1 r (k+d) i
  rw[show k+(d+1)=k+d+1 by omega]
  omega
theorem rt_bd (r:List Int) (k i:Nat):0≤rt (cs r k) i∧rt (cs r k) i≤k:=by
 unfold rt
 rw[List.getD_eq_getElem?_getD]
 cases hz:(cs r k)[i]? with
 | none=>simp
 | some z=>have:=cs_bd r k z (List.mem_of_getElem? hz);simp;omega
def strm (r:List Int) (i:Nat):List (Int×Int)→Nat→List (Int×Int)
 | [],_=>[]
 | p :: t,a=>(p.1,rt (cs r (a+p.2.toNat)) i - rt (cs r a) i) :: strm r i t (a+p.2.toNat)
def volN (l:List (Int×Int)):Nat:=(Pc.vol l).toNat
theorem volN_cons {p:Int×Int} {t:List (Int×Int)} (hp:0≤p.2) (ht:∀ q∈t,0≤q.2):volN (p :: t)=p.2.toNat+volN t:=by
 have h1:=Pc.litres_length t ht
 unfold volN
 simp only[Pc.vol]
 omega
theorem strm_app (r:List Int) (i:Nat):∀ (a b:List (Int×Int)) (n:Nat),(∀ p∈a,0≤p.2)→strm r i (a++b) n=strm r i a n++strm r i b (n+volN a)
 | [],b,n,_=>by simp[strm,volN,Pc.vol]
 | p :: t,b,n,h=>by
  have h1:=h p (by simp)
  have h2:∀ q∈t,0≤q.2:=fun q hq=>h q (by simp[hq])
  simp only[List.cons_append,strm]
  rw[strm_app r i t b _ h2,volN_cons h1 h2,Nat.add_assoc]
theorem strm_len (r:List Int) (i:Nat):∀ (l:List (Int×Int)) (n:Nat),(strm r i l n).length=l.length
 | [],_=>rfl
 | p :: t,n=>by simp[strm,strm_len r i t]
theorem strm_each (r:List Int) (i:Nat):∀ (l:List (Int×Int)) (n:Nat),(∀ p∈l,(0≤p.1∧p.1 < 1000)∧0≤p.2∧p.2≤1000000)→∀ q∈strm r i l n,(0≤q.1∧q.1 < 1000)∧0≤q.2∧q.2≤1000000
 | [],_,_,q,hq=>by simp[strm]at hq
 | p :: t,n,h,q,hq=>by
  simp only[strm,List.mem_cons]at hq
  have hp:=h p (by simp)
  rcases hq with rfl|hq
  ·have:=cs_mono r n i p.2.toNat
   exact⟨hp.1,by simp only;omega,by simp only;omega⟩
  ·exact strm_each r i t _ (fun x hx=>h x (by simp[hx])) q hq
def dealt (r:List Int) (l:List (Int×Int)):List (List (Int×Int)):=(List.range r.length).map fun i=>Pc.join (strm r i l 0)
noncomputable def dealV (l:List (Int×Int)) (r:List Int):List (List (Int×Int))×Int:=
 let m:=Pc.merge l
 if (m=[]∧l≠[])∨200 < m.length then ([],9) else if chk r (Pc.vol m)≠0 then ([],chk r (Pc.vol m)) else (dealt r m,0)
theorem rows_ex (e:TypeId) (n:Nat) (Z:Nat→Nat→List (Int×Int)):∃ W:Nat→Nat→List U,(∀ k i,(W k i).length=n)∧(∀ k i,i < n→(W k i)[i]? = some (.ow e 2 ((Z k i).map encP)))∧
  (∀ k i,i < n→(W k i).set i (.ow e 2 ((Z (k+1) i).map encP))=W k (i+1))∧(∀ k,W k n=W (k+1) 0)∧((∀ q,Z 0 q=[])→W 0 0=List.replicate n (.ow e 2 []))∧(∀ k,(W k 0).map U.toT=(List.range n).map fun q=>encPs (Z k q))∧∀ k,W k 0=(List.range n).map fun q=> .ow e 2 ((Z k q).map encP):=by
 refine⟨fun k i=>(List.range n).map fun q=> .ow e 2 ((if q < i then Z (k+1) q else Z k q).map encP),?_,?_,?_,?_,?_,?_,fun k=>by simp⟩
 ·intro k i;simp
 ·intro k i hi
  rw[List.getElem?_map,List.getElem?_range hi]
  simp
 ·intro k i hi
  apply List.ext_getElem?
  intro q
  rw[List.getElem?_set,List.getElem?_map,List.getElem?_map]
  by_cases hq:q < n
  ·rw[List.getElem?_range hq]
   by_cases e1:i=q
   ·subst e1
    rw[if_pos rfl,if_pos (by simpa using hq)]
    simp
   ·rw[if_neg e1]
    simp only[Option.map_some]
    by_cases h1:q < i
    ·rw[if_pos h1,if_pos (by omega)]
    ·rw[if_neg h1,if_neg (by omega)]
  ·rw[List.getElem?_eq_none (l:=List.range n) (by simpa using Nat.le_of_not_lt hq)]
   split
   ·rename_i e1;subst e1;omega
   ·rfl
 ·intro k
  apply List.map_congr_left
  intro q hq
  rw[List.mem_range]at hq
  rw[if_pos hq,if_neg (by omega)]
 ·intro hz
  apply List.ext_getElem?
  intro q
  rw[List.getElem?_map,List.getElem?_replicate]
  by_cases hq:q < n
  ·rw[List.getElem?_range hq,if_pos hq]
   simp[hz]
  ·rw[List.getElem?_eq_none (l:=List.range n) (by simpa using Nat.le_of_not_lt hq),if_neg hq]
   rfl
 ·intro k
  rw[List.map_map]
  apply List.map_congr_left
  intro q _
  simp[U.toT,encPs]
theorem strm_ex (r:List Int) (m:List (Int×Int)) (hm:∀ p∈m,(0≤p.1∧p.1 < 1000)∧0≤p.2∧p.2≤1000000) (h64:Pc.vol m≤64000):∃ (A:Nat→Nat) (Z:Nat→Nat→List (Int×Int)),A 0=0∧(∀ k,k≤m.length→A k≤64000)∧(∀ i,Z 0 i=[])∧(∀ k i,Z k i=strm r i (m.take k) 0)∧
  ∀ k p,m[k]? = some p→A (k+1)=A k+p.2.toNat∧∀ i,Z (k+1) i=Z k i++[(p.1,rt (cs r (A (k+1))) i - rt (cs r (A k)) i)]:=by
 have hn:∀ k,∀ p∈m.take k,0≤p.2:=fun k p hp=>(hm p (List.mem_of_mem_take hp)).2.1
 have hstep:∀ k p,m[k]? = some p→volN (m.take (k+1))=volN (m.take k)+p.2.toNat:=by
  intro k p hp
  have h1:=Pc.vol_snoc hp
  have h2:=Pc.litres_length (m.take k) (hn k)
  have h3:=(hm p (mem_get hp)).2.1
  unfold volN
  omega
 refine⟨fun k=>volN (m.take k),fun k i=>strm r i (m.take k) 0,by simp[volN,Pc.vol],?_,by simp[strm],fun _ _=>rfl,?_⟩
 ·intro k hk
  have h1:Pc.vol (m.take k)+Pc.vol (m.drop k)=Pc.vol m:=by rw[←Pc.vol_append,List.take_append_drop]
  have h2:=Pc.litres_length (m.drop k) (fun p hp=>(hm p (List.mem_of_mem_drop hp)).2.1)
  have h3:=Pc.litres_length (m.take k) (hn k)
  show volN _≤_
  unfold volN
  omega
 ·intro k p hp
  refine⟨hstep k p hp,fun i=>?_⟩
  show strm r i (m.take (k+1)) 0=strm r i (m.take k) 0++_
  rw[take_snoc hp,strm_app r i _ _ _ (hn k),Nat.zero_add]
  simp only[strm]
  rw[hstep k p hp]
end Dl
end Go.Proofs.YtdjmklobfjigoaaGreatDoor
namespace Go.Proofs.YtdjmklobfjigoaaGreatDoor
open Go.RowKit Sy
open Go.IntWalk renaming iteOmega → iO, toNatUp → tN
theorem unlit_fn (p:Int×Int):FnOk Tryz.prog 30 [.t (encP p)] [] (.t (.bool (!decide (Lit p)))) []:=by
 refine FnOk.intro fact_mixed Tryz.func30 rfl Tryz.ntmps30 (by rfl) (by simp) ?_
 repeat (first|(refine n1s rfl ?_;simp[go_sem,↓iO,iO,tN])|refine anI ?_|refine⟨dcK,?_⟩|refine iP ?_|refine iN ?_)
 refine cF (litre_fn p) [] ?_ ?_ ?_ ?_<;>simp[go_sem,↓iO,iO,tN]
 repeat (first|(refine n1s rfl ?_;simp[go_sem,↓iO,iO,tN])|refine anI ?_|refine⟨dcK,?_⟩|refine iP ?_|refine iN ?_)
 first|rw[TqR]|rw[TqN]
 refine⟨[],?_⟩
 simp[go_sem,↓iO,iO,tN]
theorem first_bad:∀ {l:List (Int×Int)},¬ (∀ p∈l,Lit p)→∃ (j:Nat) (p:Int×Int),l[j]? = some p∧¬ Lit p∧∀ (i:Nat) (q:Int×Int),i < j→l[i]? = some q→Lit q
 | [],h=>absurd (by simp) h
 | p :: r,h=>by
  by_cases hp:Lit p
  ·obtain⟨j,q,h1,h2,h3⟩:=first_bad (l:=r) (fun hr=>h (by
    intro q hq
    rcases List.mem_cons.1 hq with rfl|hq
    ·exact hp
    ·exact hr q hq))
   refine⟨j+1,q,by simpa using h1,h2,?_⟩
   intro i x hi hx
   cases i with
   | zero=>simp at hx;subst hx;exact hp
   | succ i=>exact h3 i x (by omega) (by simpa using hx)
  ·exact⟨0,p,rfl,hp,fun i q hi=>by omega⟩
theorem index_all (l:List (Int×Int)) (hlen:l.length≤1000000) (hall:∀ p∈l,Lit p):FnOk Tryz.prog 52 [.t (encPs l),.fn 30 []] [] (.t (.int (-1))) []:=by
 refine FnOk.intro fact_mixed Tryz.func52 rfl Tryz.ntmps52 (by rfl) (by simp) ?_
 repeat (first|(refine n1s rfl ?_;simp[go_sem,↓iO,iO,tN])|refine anI ?_|refine⟨dcK,?_⟩|refine iP ?_|refine iN ?_)
 refine nf1_sound' _ _ _ ?_;simp only[nf1]
 refine CW.loop (ι:=Nat) (fun k=>⟨[(0,.t (encPs l)),(1,.fn 30 []),(7,.t (.int l.length)),(8,.t (.int k))],[]⟩) (fun k=>k≤l.length) (fun k=>l.length - k) 0 [] (by omega) ?_ ?_
 ·simp[go_sem,↓iO,iO,tN]
 intro k hk
 by_cases hb:k < l.length
 ·obtain⟨p,hp⟩:=has_get hb
  have hl:=hall p (mem_get hp)
  have hu:=unlit_fn p
  rw[decide_eq_true hl]at hu
  repeat (first|(refine n1s rfl ?_;simp[go_sem,↓iO,iO,tN,hp])|refine anI ?_|refine⟨dcK,?_⟩|refine iP ?_|refine iN ?_)
  refine cF (hu) [] ?_ ?_ ?_ ?_<;>simp[go_sem,↓iO,iO,tN]
  repeat (first|(refine n1s rfl ?_;simp[go_sem,↓iO,iO,tN])|refine anI ?_|refine⟨dcK,?_⟩|refine iP ?_|refine iN ?_)
  rw[RqN];refine⟨k+1,[],?_,?_,?_⟩
  ·omega
  ·omega
  simp[go_sem,↓iO,iO,tN]
 ·obtain rfl:k=l.length:=by omega
  repeat (first|(refine n1s rfl ?_;simp[go_sem,↓iO,iO,tN])|refine anI ?_|refine⟨dcK,?_⟩|refine iP ?_|refine iN ?_)
  first|rw[TqR]|rw[TqN]
  refine⟨[],?_⟩
  simp[go_sem,↓iO,iO,tN]
theorem index_bad (l:List (Int×Int)) (hlen:l.length≤1000000) {j:Nat} {p:Int×Int} (hj:l[j]? = some p) (hn:¬ Lit p) (hf:∀ (i:Nat) (q:Int×Int),i < j→l[i]? = some q→Lit q):FnOk Tryz.prog 52 [.t (encPs l),.fn 30 []] [] (.t (.int j)) []:=by
 have hjl:j < l.length:=(List.getElem?_eq_some_iff.1 hj).1
 refine FnOk.intro fact_mixed Tryz.func52 rfl Tryz.ntmps52 (by rfl) (by simp) ?_
 repeat (first|(refine n1s rfl ?_;simp[go_sem,↓iO,iO,tN])|refine anI ?_|refine⟨dcK,?_⟩|refine iP ?_|refine iN ?_)
 refine nf1_sound' _ _ _ ?_;simp only[nf1]
 refine CW.loop (ι:=Nat) (fun k=>⟨[(0,.t (encPs l)),(1,.fn 30 []),(7,.t (.int l.length)),(8,.t (.int k))],[]⟩) (fun k=>k≤j) (fun k=>l.length - k) 0 [] (by omega) ?_ ?_
 ·simp[go_sem,↓iO,iO,tN]
 intro k hk
 by_cases hb:k < j
 ·obtain⟨q,hq⟩:=has_get (show k < l.length by omega)
  have hl:=hf k q hb hq
  have hu:=unlit_fn q
  rw[decide_eq_true hl]at hu
  repeat (first|(refine n1s rfl ?_;simp[go_sem,↓iO,iO,tN,hq])|refine anI ?_|refine⟨dcK,?_⟩|refine iP ?_|refine iN ?_)
  refine cF (hu) [] ?_ ?_ ?_ ?_<;>simp[go_sem,↓iO,iO,tN]
  repeat (first|(refine n1s rfl ?_;simp[go_sem,↓iO,iO,tN])|refine anI ?_|refine⟨dcK,?_⟩|refine iP ?_|refine iN ?_)
  rw[RqN];refine⟨k+1,[],?_,?_,?_⟩
  ·omega
  ·omega
  simp[go_sem,↓iO,iO,tN]
 ·obtain rfl:k=j:=by omega
  have hu:=unlit_fn p
  rw[decide_eq_false hn]at hu
  repeat (first|(refine n1s rfl ?_;simp[go_sem,↓iO,iO,tN,hj])|refine anI ?_|refine⟨dcK,?_⟩|refine iP ?_|refine iN ?_)
  refine cF (hu) [] ?_ ?_ ?_ ?_<;>simp[go_sem,↓iO,iO,tN]
  repeat (first|(refine n1s rfl ?_;simp[go_sem,↓iO,iO,tN])|refine anI ?_|refine⟨dcK,?_⟩|refine iP ?_|refine iN ?_)
  first|rw[TqR]|rw[TqN]
  refine⟨[],?_⟩
  simp[go_sem,↓iO,iO,tN]
theorem contains_fn (l:List (Int×Int)) (hlen:l.length≤1000000) (b:Bool) (h:b=true↔¬ ∀ p∈l,Lit p):FnOk Tryz.prog 29 [.t (encPs l),.fn 30 []] [] (.t (.bool b)) []:=by
 by_cases hall:∀ p∈l,Lit p
 ·obtain rfl:b=false:=by
   cases b with
   | false=>rfl
   | true=>exact absurd hall (h.1 rfl)
  refine FnOk.intro fact_mixed Tryz.func29 rfl Tryz.ntmps29 (by rfl) (by simp) ?_
  repeat (first|(refine n1s rfl ?_;simp[go_sem,↓iO,iO,tN])|refine anI ?_|refine⟨dcK,?_⟩|refine iP ?_|refine iN ?_)
  refine cF (index_all l hlen hall) [] ?_ ?_ ?_ ?_<;>simp[go_sem,↓iO,iO,tN]
  repeat (first|(refine n1s rfl ?_;simp[go_sem,↓iO,iO,tN])|refine anI ?_|refine⟨dcK,?_⟩|refine iP ?_|refine iN ?_)
  first|rw[TqR]|rw[TqN]
  refine⟨[],?_⟩
  simp[go_sem,↓iO,iO,tN]
 ·obtain rfl:=h.2 hall
  obtain⟨j,p,h1,h2,h3⟩:=first_bad hall
  have hjl:j < l.length:=(List.getElem?_eq_some_iff.1 h1).1
  refine FnOk.intro fact_mixed Tryz.func29 rfl Tryz.ntmps29 (by rfl) (by simp) ?_
  repeat (first|(refine n1s rfl ?_;simp[go_sem,↓iO,iO,tN])|refine anI ?_|refine⟨dcK,?_⟩|refine iP ?_|refine iN ?_)
  refine cF (index_bad l hlen h1 h2 h3) [] ?_ ?_ ?_ ?_<;>simp[go_sem,↓iO,iO,tN]
  repeat (first|(refine n1s rfl ?_;simp[go_sem,↓iO,iO,tN])|refine anI ?_|refine⟨dcK,?_⟩|refine iP ?_|refine iN ?_)
  first|rw[TqR]|rw[TqN]
  refine⟨[],?_⟩
  simp[go_sem,↓iO,iO,tN]
theorem proper_sane {l:List (Int×Int)} (h:Pc.Proper l):Pc.Sane l:=⟨by have:=h.1;omega,fun p hp=>(h.2 p hp).2⟩
theorem merge_good {l:List (Int×Int)} (h:Pc.Proper l):Pc.merge l=Pc.join l:=by unfold Pc.merge;rw[if_pos h]
theorem merge_bad {l:List (Int×Int)} (h:¬ Pc.Proper l):Pc.merge l=[]:=by unfold Pc.merge;rw[if_neg h]
theorem merge_fn (l:List (Int×Int)) (hlen:l.length≤1000000):FnOk Tryz.prog 11 [.t (encPs l)] [] (.own 1000) [(1000,blkP (Pc.merge l))]:=by
 by_cases hL:l.length≤400
 ·by_cases hall:∀ p∈l,Lit p
  ·have hp:Pc.Proper l:=⟨hL,hall⟩
   rw[merge_good hp]
   refine FnOk.intro fact_mixed Tryz.func11 rfl Tryz.ntmps11 (by rfl) (by simp) ?_
   repeat (first|(refine n1s rfl ?_;simp[go_sem,↓iO,iO,tN])|refine anI ?_|refine⟨dcK,?_⟩|refine iP ?_|refine iN ?_)
   refine cF (contains_fn l hlen false ⟨fun h=>(by cases h),fun h=>absurd hall h⟩) [] ?_ ?_ ?_ ?_<;>simp[go_sem,↓iO,iO,tN]
   repeat (first|(refine n1s rfl ?_;simp[go_sem,↓iO,iO,tN])|refine anI ?_|refine⟨dcK,?_⟩|refine iP ?_|refine iN ?_)
   refine cF (merged_fn l (proper_sane hp)) [(1000,601)] ?_ ?_ ?_ ?_<;>simp[go_sem,↓iO,iO,tN]
   repeat (first|(refine n1s rfl ?_;simp[go_sem,↓iO,iO,tN])|refine anI ?_|refine⟨dcK,?_⟩|refine iP ?_|refine iN ?_)
   first|rw[TqR]|rw[TqN]
   refine⟨[(1000,some 601)],?_⟩
   simp[go_sem,↓iO,iO,tN]
  ·rw[merge_bad (fun h=>hall h.2)]
   refine FnOk.intro fact_mixed Tryz.func11 rfl Tryz.ntmps11 (by rfl) (by simp) ?_
   repeat (first|(refine n1s rfl ?_;simp[go_sem,↓iO,iO,tN])|refine anI ?_|refine⟨dcK,?_⟩|refine iP ?_|refine iN ?_)
   refine cF (contains_fn l hlen true ⟨fun _=>hall,fun _=>rfl⟩) [] ?_ ?_ ?_ ?_<;>simp[go_sem,↓iO,iO,tN]
   repeat (first|(refine n1s rfl ?_;simp[go_sem,↓iO,iO,tN])|refine anI ?_|refine⟨dcK,?_⟩|refine iP ?_|refine iN ?_)
   first|rw[TqR]|rw[TqN]
   refine⟨[(1000,none)],?_⟩
   simp[go_sem,↓iO,iO,tN]
 ·rw[merge_bad (fun h=>hL h.1)]
  refine FnOk.intro fact_mixed Tryz.func11 rfl Tryz.ntmps11 (by rfl) (by simp) ?_
  repeat (first|(refine n1s rfl ?_;simp[go_sem,↓iO,iO,tN])|refine anI ?_|refine⟨dcK,?_⟩|refine iP ?_|refine iN ?_)
  try rw[if_pos (by omega)]
  repeat (first|(refine n1s rfl ?_;simp[go_sem,↓iO,iO,tN])|refine anI ?_|refine⟨dcK,?_⟩|refine iP ?_|refine iN ?_)
  first|rw[TqR]|rw[TqN]
  refine⟨[(1000,none)],?_⟩
  simp[go_sem,↓iO,iO,tN]
end Go.Proofs.YtdjmklobfjigoaaGreatDoor
namespace Go.Proofs.YtdjmklobfjigoaaGreatDoor
open Go.RowKit Sy Dl
open Go.IntWalk renaming iteOmega → iO, toNatUp → tN
theorem merge_small (l:List (Int×Int)):(Pc.merge l).length≤400∧(∀ p∈Pc.merge l,0≤p.1∧p.1 < 1000)∧∀ p∈Pc.merge l,0≤p.2:=by
 by_cases h:Pc.Proper l
 ·rw[merge_good h]
  have h1:=Pc.join_length l
  have h2:=Pc.join_canon (ps:=l) (fun p hp=>(h.2 p hp).2.1)
  refine⟨by have:=h.1;omega,?_,fun p hp=>by have:=h2.pos p hp;omega⟩
  have key:∀ (ps out:List (Int×Int)),(∀ p∈ps,0≤p.1∧p.1 < 1000)→(∀ p∈out,0≤p.1∧p.1 < 1000)→∀ p∈ps.foldl Pc.jstep out,0≤p.1∧p.1 < 1000:=by
   intro ps
   induction ps with
   | nil=>intro out _ ho;exact ho
   | cons q r ih=>
    intro out hp ho
    refine ih (Pc.jstep out q) (fun x hx=>hp x (by simp[hx])) ?_
    intro x hx
    unfold Pc.jstep at hx
    split at hx
    ·exact ho x hx
    ·split at hx
     ·split at hx
      ·rcases List.mem_append.1 hx with hx|hx
       ·exact ho x ((List.dropLast_sublist _).subset hx)
       ·simp only[List.mem_singleton]at hx;subst hx
        rename_i y hy e
        exact ho y (List.mem_of_getLast? hy)
      ·rcases List.mem_append.1 hx with hx|hx
       ·exact ho x hx
       ·simp only[List.mem_singleton]at hx;subst hx;exact hp _ (by simp)
     ·rcases List.mem_append.1 hx with hx|hx
      ·exact ho x hx
      ·simp only[List.mem_singleton]at hx;subst hx;exact hp _ (by simp)
  exact key l [] (fun p hp=>(h.2 p hp).1) (by simp)
 ·rw[merge_bad h];simp
theorem vol_pre {m:List (Int×Int)} (h:∀ p∈m,0≤p.2) (k:Nat):0≤Pc.vol (m.take k)∧Pc.vol (m.take k)≤Pc.vol m:=by
 have h1:Pc.vol (m.take k)+Pc.vol (m.drop k)=Pc.vol m:=by rw[←Pc.vol_append,List.take_append_drop]
 have h2:=Pc.litres_length (m.drop k) (fun p hp=>h p (List.mem_of_mem_drop hp))
 have h3:=Pc.litres_length (m.take k) (fun p hp=>h p (List.mem_of_mem_take hp))
 omega
theorem vol_elem {m:List (Int×Int)} (h:∀ p∈m,0≤p.2) {k:Nat} {p:Int×Int} (hp:m[k]? = some p):p.2≤Pc.vol m:=by
 have h1:=vol_pre h (k+1)
 have h2:=vol_pre h k
 rw[Pc.vol_snoc hp]at h1
 omega
theorem merge_vol (l:List (Int×Int)):Pc.vol (Pc.merge l)≤400000000:=by
 by_cases h:Pc.Proper l
 ·rw[merge_good h,Pc.join_vol (fun p hp=>(h.2 p hp).2.1)]
  have:=(Pc.vol_bound l (fun p hp=>(h.2 p hp).2)).2
  have:=h.1
  omega
 ·rw[merge_bad h];simp[Pc.vol]
theorem pad_rt {r:List Int} {R:List Int} {k i:Nat} (h:i < r.length) (hR:R=pad (cs r k)):rt R i=rt (cs r k) i:=by
 rw[hR,rt_pad (by rw[cs_len];exact h)]
theorem deal_fn (l:List (Int×Int)) (r:List Int) (hll:l.length≤1000000) (hl:r.length≤9223372036854775807) (x:List (List (Int×Int))) (e:Int) (hx:dealV l r=(x,e)) :
  FnOk Tryz.prog 70 [.t (encPs l),.t (encIs r)] [] (.tup [.t (.sl 1 (x.map encPs)),.t (.int e)]) []:=by
 have cm:=merge_fn l hll
 obtain⟨h400,hm1,hm2⟩:=merge_small l
 have hV:=merge_vol l
 unfold dealV at hx
 obtain⟨m,hm⟩:∃ m,Pc.merge l=m:=⟨_,rfl⟩
 rw[hm]at cm h400 hm1 hm2 hV hx
 simp only at hx
 by_cases hbad:(m=[]∧l≠[])∨200 < m.length
 ·rw[if_pos hbad]at hx
  obtain⟨rfl,rfl⟩:x=[]∧e=9:=by simp only[Prod.mk.injEq]at hx;exact⟨hx.1.symm,hx.2.symm⟩
  by_cases h1:m.length=0
  ·have h2:0 < l.length:=by
    rcases hbad with ⟨_,hn⟩|hn
    ·exact List.length_pos_iff.2 hn
    ·omega
   refine FnOk.intro fact_mixed Tryz.func70 rfl Tryz.ntmps70 (by rfl) (by simp) ?_
   repeat (first|(refine n1s rfl ?_;simp[go_sem,↓iO,iO,tN])|refine anI ?_|refine⟨dcK,?_⟩|refine iP ?_|refine iN ?_)
   refine cF (cm) [(1000,601)] ?_ ?_ ?_ ?_<;>simp[go_sem,↓iO,iO,tN]
   repeat (first|(refine n1s rfl ?_;simp[go_sem,↓iO,iO,tN,h1,h2])|refine anI ?_|refine⟨dcK,?_⟩|refine iP ?_|refine iN ?_)
   first|rw[TqR]|rw[TqN]
   refine⟨[],?_⟩
   simp[go_sem,↓iO,iO,tN]
  ·have h2:200 < m.length:=by
    rcases hbad with ⟨hn,_⟩|hn
    ·rw[hn]at h1;simp at h1
    ·exact hn
   refine FnOk.intro fact_mixed Tryz.func70 rfl Tryz.ntmps70 (by rfl) (by simp) ?_
   repeat (first|(refine n1s rfl ?_;simp[go_sem,↓iO,iO,tN])|refine anI ?_|refine⟨dcK,?_⟩|refine iP ?_|refine iN ?_)
   refine cF (cm) [(1000,601)] ?_ ?_ ?_ ?_<;>simp[go_sem,↓iO,iO,tN]
   repeat (first|(refine n1s rfl ?_;simp[go_sem,↓iO,iO,tN,h1,h2])|refine anI ?_|refine⟨dcK,?_⟩|refine iP ?_|refine iN ?_)
   first|rw[TqR]|rw[TqN]
   refine⟨[],?_⟩
   simp[go_sem,↓iO,iO,tN]
 rw[if_neg hbad]at hx
 have h200:¬ 200 < m.length:=fun h=>hbad (.inr h)
 have hmty:m.length=0→l.length=0:=fun h=>by
  rcases Nat.eq_zero_or_pos l.length with h2|h2
  ·exact h2
  ·exact (hbad (.inl ⟨List.length_eq_zero_iff.1 h,List.length_pos_iff.1 h2⟩)).elim
 have hvp:=vol_pre hm2
 have c1:=fun (e:Int) (he:chk r (Pc.vol m)=e)=>check_fn r (Pc.vol m) hl e he
 by_cases h0:chk r (Pc.vol m)=0
 ·rw[if_neg (fun h=>h h0)]at hx
  obtain⟨rfl,rfl⟩:x=dealt r m∧e=0:=by simp only[Prod.mk.injEq]at hx;exact⟨hx.1.symm,hx.2.symm⟩
  obtain⟨h,hk0,hk1⟩:=chk_ok h0
  have hkt:=h.tot_le
  have hlen:=h.len
  have hmall:∀ p∈m,(0≤p.1∧p.1 < 1000)∧0≤p.2∧p.2≤1000000:=fun p hp=>by
   obtain⟨i,hi⟩:=List.getElem?_of_mem hp
   have:=vol_elem hm2 hi
   exact⟨hm1 p hp,hm2 p hp,by omega⟩
  obtain⟨R,Y,j,hR,yc,y0,yk,yn,yj,ys⟩:=tbl_ex h 64000 (by omega)
  obtain⟨A,Z,a0,ak,z0,zc,zs⟩:=strm_ex r m hmall (by omega)
  obtain⟨W,wl,wg,ws,wn,w0,wt,wf⟩:=rows_ex 40 r.length Z
  have cst:=start_fn r h.len R (Y 0) hR y0.symm
  have hRl0:=(yk 0 (by omega)).r
  have hYl0:=(yk 0 (by omega)).c
  have c0:=c1 0 h0
  obtain⟨V,hVV⟩:∃ V,Pc.vol m=V:=⟨_,rfl⟩
  refine FnOk.intro fact_mixed Tryz.func70 rfl Tryz.ntmps70 (by rfl) (by simp) ?_
  repeat (first|(refine n1s rfl ?_;simp[go_sem,↓iO,iO,tN])|refine anI ?_|refine⟨dcK,?_⟩|refine iP ?_|refine iN ?_)
  refine cF (cm) [(1000,601)] ?_ ?_ ?_ ?_<;>simp[go_sem,↓iO,iO,tN]
  repeat (refine anI ?_)
  try (refine⟨dcK,?_⟩)
  refine CW.cut (ι:=Unit) (fun _=>⟨[(0,.t (encPs l)),(1,.t (encIs r)),(6,.t (encPs m))],[]⟩) (fun _=>True) ?_ ?_
  ·by_cases h1:m.length=0
   ·have h3:=hmty h1
    repeat (first|(refine n1s rfl ?_;simp[go_sem,↓iO,iO,tN,h1,h3])|refine anI ?_|refine⟨dcK,?_⟩|refine iP ?_|refine iN ?_)
    rw[CutQ_normal];refine⟨(),[],?_,?_⟩
    ·trivial
    simp[go_sem,↓iO,iO,tN]
   ·repeat (first|(refine n1s rfl ?_;simp[go_sem,↓iO,iO,tN,h1,h200])|refine anI ?_|refine⟨dcK,?_⟩|refine iP ?_|refine iN ?_)
    rw[CutQ_normal];refine⟨(),[],?_,?_⟩
    ·trivial
    simp[go_sem,↓iO,iO,tN]
  rintro _ _
  repeat (first|(refine n1s rfl ?_;simp[go_sem,↓iO,iO,tN])|refine anI ?_|refine⟨dcK,?_⟩|refine iP ?_|refine iN ?_)
  refine nf1_sound' _ _ _ ?_;simp only[nf1]
  refine CW.loop (ι:=Nat) (fun k=>⟨[(0,.t (encPs l)),(1,.t (encIs r)),(6,.t (encPs m)),(7,.t (.int (Pc.vol (m.take k)))),(33,.t (encPs m)),(34,.t (.int m.length)),(35,.t (.int k))],[]⟩) (fun k=>k≤m.length) (fun k=>m.length - k) 0 [] (by omega) ?_ ?_
  ·simp[go_sem,↓iO,iO,tN,Pc.vol]
  intro k hk
  have hvk:=hvp k
  by_cases hb:k < m.length
  ·obtain⟨p,hp⟩:=has_get hb
   have hvs:=Pc.vol_snoc hp
   have hvk2:=hvp (k+1)
   obtain⟨v,hv⟩:∃ v,Pc.vol (m.take k)=v:=⟨_,rfl⟩
   rw[hv]at hvs hvk ⊢
   rw[hvs]at hvk2
   repeat (first|(refine n1s rfl ?_;simp[go_sem,↓iO,iO,tN,hp])|refine anI ?_|refine⟨dcK,?_⟩|refine iP ?_|refine iN ?_)
   rw[RqN];refine⟨k+1,[],?_,?_,?_⟩
   ·omega
   ·omega
   simp[go_sem,↓iO,iO,tN,hvs]
  obtain rfl:k=m.length:=by omega
  rw[List.take_length]
  rw[hVV]at c0 ⊢
  repeat (first|(refine n1s rfl ?_;simp[go_sem,↓iO,iO,tN])|refine anI ?_|refine⟨dcK,?_⟩|refine iP ?_|refine iN ?_)
  refine cF (c0) [] ?_ ?_ ?_ ?_<;>simp[go_sem,↓iO,iO,tN]
  repeat (first|(refine n1s rfl ?_;simp[go_sem,↓iO,iO,tN])|refine anI ?_|refine⟨dcK,?_⟩|refine iP ?_|refine iN ?_)
  refine cF (cst) [] ?_ ?_ ?_ ?_<;>simp[go_sem,↓iO,iO,tN,hRl0,hYl0]
  repeat (first|(refine n1s rfl ?_;simp[go_sem,↓iO,iO,tN,hRl0,hYl0])|refine anI ?_|refine⟨dcK,?_⟩|refine iP ?_|refine iN ?_)
  have hW0:=w0 z0
  refine CW.toRows 152 (W 0 0) (e:=41) (s:=1) (xs:=List.replicate r.length (.lit (.slice none 0 0))) (by rfl) (by rw[wl];simp) (fun i x u h1 h2=>?_) ?_
  ·rw[hW0,List.getElem?_replicate]at h2
   rw[List.getElem?_replicate]at h1
   split at h1
   ·rename_i hi
    rw[if_pos hi]at h2
    cases h1;cases h2
    unfold relTU;trivial
   ·cases h1
  simp[go_sem,↓iO,iO,tN]
  refine nf1_sound' _ _ _ ?_;simp only[nf1]
  refine CW.loop (ι:=Nat) (fun k=>⟨[(11,.own 511),(12,.pt 507 [] 0),(55,.t (encPs m)),(56,.t (.int m.length)),(57,.t (.int k))],[(511,.rows 41 1 (W k 0) []),(507,tblB r.length R (Y (A k)))]⟩) (fun k=>k≤m.length) (fun k=>m.length - k) 0 [(511,some 152),(507,some 112)] (by omega) ?_ ?_
  ·simp[go_sem,↓iO,iO,tN,a0]
  intro k hk
  have hwl:=wl k 0
  by_cases hb:k < m.length
  ·obtain⟨p,hp⟩:=has_get hb
   obtain⟨zA,zZ⟩:=zs k p hp
   have hpb:=hmall p (mem_get hp)
   obtain⟨c,hc⟩:∃ c:Nat,p.2=(c:Int):=⟨p.2.toNat,by omega⟩
   have hA1:=ak (k+1) hb
   have hyA:=yk (A k) (by have:=ak k hk;omega)
   have hyl:=hyA.c
   rw[show p.2.toNat=c by omega]at zA
   obtain⟨p1,p2⟩:=p
   simp only at hc
   subst hc
   repeat (first|(refine n1s rfl ?_;simp[go_sem,↓iO,iO,tN,hp,hRl0,hyl])|refine anI ?_|refine⟨dcK,?_⟩|refine iP ?_|refine iN ?_)
   have hRl:=hRl0
   refine nf1_sound' _ _ _ ?_;simp only[nf1]
   refine CW.loop (ι:=Nat) (fun q=>⟨[(11,.own 511),(12,.pt 507 [] 0),(14,.pt 514 [] 0),(15,.pt 515 [] 0),(55,.t (encPs m)),(56,.t (.int m.length)),(57,.t (.int k)),(64,.t (.int c)),(65,.t (.int q))],[(511,.rows 41 1 (W k 0) []),(507,tblB r.length R (Y (A k+q))),(514,.box 40 (.t (encP (p1,(c:Int))))),(515,.box 156 (.t (.agg ((Y (A k)).map encI))))]⟩)
    (fun q=>q≤c) (fun q=>c - q) 0 [(511,some 511),(507,some 507),(514,some 114),(515,some 115)] (by omega) ?_ ?_
   ·simp[go_sem,↓iO,iO,tN]
   intro q hq
   have hy:=yk (A k+q) (by omega)
   have hyl:=hy.c
   by_cases hb2:q < c
   ·have cn:=next_fn r.length R (Y (A k+q)) hy
    have hg:=get_rt (r:=Y (A k+q)) (i:=j (A k+q)) (by have:=yj (A k+q);omega)
    have hs:=ys (A k+q)
    have hjl:=yj (A k+q)
    rw[yn (A k+q)]at cn
    have hcb:=hy.cr _ (mem_get hg)
    obtain⟨v,hv⟩:∃ v,rt (Y (A k+q)) (j (A k+q))=v:=⟨_,rfl⟩
    rw[hv]at hg hs hcb
    obtain⟨u,hu⟩:∃ u,j (A k+q)=u:=⟨_,rfl⟩
    rw[hu]at hg hs hjl cn
    rw[show A k+q+1=A k+(q+1) by omega]at hs
    obtain⟨C,hC⟩:∃ C,Y (A k+q)=C:=⟨_,rfl⟩
    rw[hC]at hg hs hyl cn ⊢
    have hs2:(C.map encI).set u (T.lit (.int .i64 (v+1)))=(Y (A k+(q+1))).map encI:=by rw[←hs,List.map_set];rfl
    have hmin:min u C.length=u:=by omega
    repeat (first|(refine n1s rfl ?_;simp[go_sem,↓iO,iO,tN,hg,hmin,hyl,hRl])|refine anI ?_|refine⟨dcK,?_⟩|refine iP ?_|refine iN ?_)
    refine cF (cn) [(0,507)] ?_ ?_ ?_ ?_<;>simp[go_sem,↓iO,iO,tN,hg,hmin,hRl,hyl]
    repeat (first|(refine n1s rfl ?_;simp[go_sem,↓iO,iO,tN,hg,hmin,hs2,hRl,hyl])|refine anI ?_|refine⟨dcK,?_⟩|refine iP ?_|refine iN ?_)
    rw[RqN];refine⟨q+1,[(511,some 511),(507,some 507),(514,some 514),(515,some 515)],?_,?_,?_⟩
    ·omega
    ·omega
    simp[go_sem,↓iO,iO,tN,hs2]
   obtain rfl:q=c:=by omega
   rw[←zA]at hy hyl ⊢
   repeat (first|(refine n1s rfl ?_;simp[go_sem,↓iO,iO,tN])|refine anI ?_|refine⟨dcK,?_⟩|refine iP ?_|refine iN ?_)
   refine nf1_sound' _ _ _ ?_;simp only[nf1]
   refine CW.loop (ι:=Nat) (fun i=>⟨[(11,.own 511),(12,.pt 507 [] 0),(14,.pt 514 [] 0),(15,.pt 515 [] 0),(55,.t (encPs m)),(56,.t (.int m.length)),(57,.t (.int k)),(76,.t (.int r.length)),(77,.t (.int i))],[(511,.rows 41 1 (W k i) []),(507,tblB r.length R (Y (A (k+1)))),(514,.box 40 (.t (encP (p1,(q:Int))))),(515,.box 156 (.t (.agg ((Y (A k)).map encI))))]⟩)
    (fun i=>i≤r.length) (fun i=>r.length - i) 0 [(511,some 511),(507,some 507),(514,some 514),(515,some 515)] (by omega) ?_ ?_
   ·simp[go_sem,↓iO,iO,tN,hwl]
   intro i hi
   have hwl:=wl k i
   by_cases hb3:i < r.length
   ·have hwg:=wg k i hb3
    have hws:=ws k i hb3
    rw[zZ i]at hws
    have hg1:=get_rt (r:=Y (A (k+1))) (i:=i) (by omega)
    have hg2:=get_rt (r:=Y (A k)) (i:=i) (by rw[hyA.c];omega)
    have hb4:=hy.cr _ (mem_get hg1)
    have hb5:=hyA.cr _ (mem_get hg2)
    rw[←pad_rt (R:=Y (A (k+1))) hb3 (yc _),←pad_rt (R:=Y (A k)) hb3 (yc _)]at hws
    obtain⟨v1,hv1⟩:∃ v,rt (Y (A (k+1))) i=v:=⟨_,rfl⟩
    obtain⟨v2,hv2⟩:∃ v,rt (Y (A k)) i=v:=⟨_,rfl⟩
    rw[hv1]at hg1 hb4 hws
    rw[hv2]at hg2 hb5 hws
    have hylA:=hyA.c
    have hzl:(Z k i).length≤400:=by rw[zc,strm_len,List.length_take];omega
    obtain⟨O,hO⟩:∃ O,Z k i=O:=⟨_,rfl⟩
    rw[hO]at hwg hws hzl
    obtain⟨C1,hC1⟩:∃ C,Y (A (k+1))=C:=⟨_,rfl⟩
    obtain⟨C2,hC2⟩:∃ C,Y (A k)=C:=⟨_,rfl⟩
    rw[hC1]at hg1 hyl ⊢
    rw[hC2]at hg2 hylA ⊢
    obtain⟨X1,hX1⟩:∃ X,W k i=X:=⟨_,rfl⟩
    rw[hX1]at hwl hwg hws ⊢
    have hm1:min i C1.length=i:=by omega
    have hm2:min i C2.length=i:=by omega
    iterate 4 (refine n1s rfl ?_;simp[go_sem,↓iO,iO,tN];(repeat (refine anI ?_));try (refine⟨dcK,?_⟩))
    refine CW.openRow 511 i 555 (us:=X1) (ex:=[]) (u:=.ow 40 2 (O.map encP)) (b:=.list 40 2 (O.map encP)) (by rfl) hwg (by rfl) (by rfl) (by kernel_rfl) (by omega) ?_
    simp[go_sem,↓iO,iO,tN]
    iterate 1 (refine n1s rfl ?_;simp[go_sem,↓iO,iO,tN,hg1,hg2,hm1,hm2,hylA,hyl,hwl,hwg];(repeat (refine anI ?_));try (refine⟨dcK,?_⟩))
    refine CW.closeRow 511 i 198 (.ow 40 2 (O.map encP++[T.agg [T.int p1,T.lit (.int .i64 (v1 - v2))]])) (us:=X1) (ex:=[(i,.own 198)]) (by rfl) (by rfl) (by simp[go_sem]) (by rfl) ?_
    have hws2:X1.set i (.ow 40 2 (O.map encP++[T.agg [T.int p1,T.lit (.int .i64 (v1 - v2))]]))=W k (i+1):=by
     rw[←hws,List.map_append];rfl
    simp[go_sem,↓iO,iO,tN,hws2]
    repeat (first|(refine n1s rfl ?_;simp[go_sem,↓iO,iO,tN])|refine anI ?_|refine⟨dcK,?_⟩|refine iP ?_|refine iN ?_)
    rw[RqN];refine⟨i+1,[(511,some 511),(507,some 507),(514,some 514),(515,some 515)],?_,?_,?_⟩
    ·omega
    ·omega
    simp[go_sem,↓iO,iO,tN]
   obtain rfl:i=r.length:=by omega
   rw[wn k]
   repeat (first|(refine n1s rfl ?_;simp[go_sem,↓iO,iO,tN])|refine anI ?_|refine⟨dcK,?_⟩|refine iP ?_|refine iN ?_)
   rw[RqN];refine⟨k+1,[(511,some 511),(507,some 507)],?_,?_,?_⟩
   ·omega
   ·omega
   simp[go_sem,↓iO,iO,tN]
  ·obtain rfl:k=m.length:=by omega
   obtain⟨W2,wl2,wg2,ws2,wn2,_,wt2,wf2⟩:=rows_ex 40 r.length (fun k i=>if k=0 then Z m.length i else Pc.join (Z m.length i))
   have hW2:W m.length 0=W2 0 0:=by rw[wf,wf2];simp
   have hfin:(W2 1 0).map U.toT=(dealt r m).map encPs:=by
    rw[wt2,dealt,List.map_map]
    apply List.map_congr_left
    intro q _
    show encPs (if (1:Nat)=0 then _ else _)=_
    rw[if_neg (by omega),zc,List.take_length];rfl
   have hPr:∀ i,Pc.Proper (Z m.length i):=fun i=>by
    rw[zc,List.take_length]
    exact⟨by rw[strm_len];omega,strm_each r i m 0 hmall⟩
   rw[hW2]
   have hwl0:=wl2 0 0
   clear zs wf wf2 ws wg wl yc ys yk
   repeat (first|(refine n1s rfl ?_;simp[go_sem,↓iO,iO,tN])|refine anI ?_|refine⟨dcK,?_⟩|refine iP ?_|refine iN ?_)
   refine nf1_sound' _ _ _ ?_;simp only[nf1]
   refine CW.loop (ι:=Nat) (fun i=>⟨[(11,.own 511),(103,.t (.int r.length)),(104,.t (.int i))],[(511,.rows 41 1 (W2 0 i) [])]⟩) (fun i=>i≤r.length) (fun i=>r.length - i) 0 [(511,some 511)] (by omega) ?_ ?_
   ·simp[go_sem,↓iO,iO,tN,hwl0]
   intro i hi
   have hwl:=wl2 0 i
   by_cases hb3:i < r.length
   ·have hwg:=wg2 0 i hb3
    have hws:=ws2 0 i hb3
    have hp:=hPr i
    rw[if_pos rfl]at hwg
    rw[if_neg (by omega)]at hws
    obtain⟨O,hO⟩:∃ O,Z m.length i=O:=⟨_,rfl⟩
    rw[hO]at hwg hws hp
    have cm2:=merge_fn O (by have:=hp.1;omega)
    rw[merge_good hp]at cm2
    obtain⟨O2,hO2⟩:∃ O2,Pc.join O=O2:=⟨_,rfl⟩
    rw[hO2]at hws cm2
    obtain⟨X1,hX1⟩:∃ X,W2 0 i=X:=⟨_,rfl⟩
    rw[hX1]at hwl hwg hws ⊢
    iterate 4 (refine n1s rfl ?_;simp[go_sem,↓iO,iO,tN];(repeat (refine anI ?_));try (refine⟨dcK,?_⟩))
    refine CW.openRow 511 i 555 (us:=X1) (ex:=[]) (u:=.ow 40 2 (O.map encP)) (b:=.list 40 2 (O.map encP)) (by rfl) hwg (by rfl) (by rfl) (by kernel_rfl) (by omega) ?_
    simp[go_sem,↓iO,iO,tN]
    iterate 1 (refine n1s rfl ?_;simp[go_sem,↓iO,iO,tN,hwl,hwg];(repeat (refine anI ?_));try (refine⟨dcK,?_⟩))
    refine CallK.fn (cm2) [(1000,602)] [] [555] (by kernel_rfl) ?_ ?_ ?_ (Or.inl rfl) ?_<;>simp[go_sem,↓iO,iO,tN,hwl,hwg]
    repeat (refine anI ?_)
    try (refine⟨dcK,?_⟩)
    refine CW.closeRow 511 i 602 (.ow 40 2 (O2.map encP)) (us:=X1) (ex:=[(i,.own 602)]) (by rfl) (by rfl) (by simp[go_sem]) (by rfl) ?_
    simp[go_sem,↓iO,iO,tN,hws]
    repeat (first|(refine n1s rfl ?_;simp[go_sem,↓iO,iO,tN])|refine anI ?_|refine⟨dcK,?_⟩|refine iP ?_|refine iN ?_)
    rw[RqN];refine⟨i+1,[(511,some 511)],?_,?_,?_⟩
    ·omega
    ·omega
    simp[go_sem,↓iO,iO,tN]
   obtain rfl:i=r.length:=by omega
   rw[wn2 0]
   repeat (first|(refine n1s rfl ?_;simp[go_sem,↓iO,iO,tN])|refine anI ?_|refine⟨dcK,?_⟩|refine iP ?_|refine iN ?_)
   first|rw[TqR]|rw[TqN]
   refine⟨[],?_⟩
   simp[go_sem,↓iO,iO,tN,hfin]
 ·rw[if_pos h0]at hx
  obtain⟨rfl,rfl⟩:x=[]∧e=chk r (Pc.vol m):=by simp only[Prod.mk.injEq]at hx;exact⟨hx.1.symm,hx.2.symm⟩
  obtain⟨e,he⟩:∃ e,chk r (Pc.vol m)=e:=⟨_,rfl⟩
  have c0:=c1 e he
  rw[he]at h0 ⊢
  obtain⟨V,hVV⟩:∃ V,Pc.vol m=V:=⟨_,rfl⟩
  refine FnOk.intro fact_mixed Tryz.func70 rfl Tryz.ntmps70 (by rfl) (by simp) ?_
  repeat (first|(refine n1s rfl ?_;simp[go_sem,↓iO,iO,tN])|refine anI ?_|refine⟨dcK,?_⟩|refine iP ?_|refine iN ?_)
  refine cF (cm) [(1000,601)] ?_ ?_ ?_ ?_<;>simp[go_sem,↓iO,iO,tN]
  repeat (refine anI ?_)
  try (refine⟨dcK,?_⟩)
  refine CW.cut (ι:=Unit) (fun _=>⟨[(0,.t (encPs l)),(1,.t (encIs r)),(6,.t (encPs m))],[]⟩) (fun _=>True) ?_ ?_
  ·by_cases h1:m.length=0
   ·have h3:=hmty h1
    repeat (first|(refine n1s rfl ?_;simp[go_sem,↓iO,iO,tN,h1,h3])|refine anI ?_|refine⟨dcK,?_⟩|refine iP ?_|refine iN ?_)
    rw[CutQ_normal];refine⟨(),[],?_,?_⟩
    ·trivial
    simp[go_sem,↓iO,iO,tN]
   ·repeat (first|(refine n1s rfl ?_;simp[go_sem,↓iO,iO,tN,h1,h200])|refine anI ?_|refine⟨dcK,?_⟩|refine iP ?_|refine iN ?_)
    rw[CutQ_normal];refine⟨(),[],?_,?_⟩
    ·trivial
    simp[go_sem,↓iO,iO,tN]
  rintro _ _
  repeat (first|(refine n1s rfl ?_;simp[go_sem,↓iO,iO,tN])|refine anI ?_|refine⟨dcK,?_⟩|refine iP ?_|refine iN ?_)
  refine nf1_sound' _ _ _ ?_;simp only[nf1]
  refine CW.loop (ι:=Nat) (fun k=>⟨[(0,.t (encPs l)),(1,.t (encIs r)),(6,.t (encPs m)),(7,.t (.int (Pc.vol (m.take k)))),(33,.t (encPs m)),(34,.t (.int m.length)),(35,.t (.int k))],[]⟩) (fun k=>k≤m.length) (fun k=>m.length - k) 0 [] (by omega) ?_ ?_
  ·simp[go_sem,↓iO,iO,tN,Pc.vol]
  intro k hk
  have hvk:=hvp k
  by_cases hb:k < m.length
  ·obtain⟨p,hp⟩:=has_get hb
   have hvs:=Pc.vol_snoc hp
   have hvk2:=hvp (k+1)
   obtain⟨v,hv⟩:∃ v,Pc.vol (m.take k)=v:=⟨_,rfl⟩
   rw[hv]at hvs hvk ⊢
   rw[hvs]at hvk2
   repeat (first|(refine n1s rfl ?_;simp[go_sem,↓iO,iO,tN,hp])|refine anI ?_|refine⟨dcK,?_⟩|refine iP ?_|refine iN ?_)
   rw[RqN];refine⟨k+1,[],?_,?_,?_⟩
   ·omega
   ·omega
   simp[go_sem,↓iO,iO,tN,hvs]
  obtain rfl:k=m.length:=by omega
  rw[List.take_length]
  rw[hVV]at c0 ⊢
  repeat (first|(refine n1s rfl ?_;simp[go_sem,↓iO,iO,tN])|refine anI ?_|refine⟨dcK,?_⟩|refine iP ?_|refine iN ?_)
  refine cF (c0) [] ?_ ?_ ?_ ?_<;>simp[go_sem,↓iO,iO,tN,h0]
  repeat (first|(refine n1s rfl ?_;simp[go_sem,↓iO,iO,tN,h0])|refine anI ?_|refine⟨dcK,?_⟩|refine iP ?_|refine iN ?_)
  first|rw[TqR]|rw[TqN]
  refine⟨[],?_⟩
  simp[go_sem,↓iO,iO,tN]
end Go.Proofs.YtdjmklobfjigoaaGreatDoor
namespace Go.Proofs.YtdjmklobfjigoaaGreatDoor.Sy
open Go.RowKit
def NfK (N:Nat) (P:Program) (c:Code) (Q:Exit→St→Prop) (σ:St):Prop:=nf N P [] c Q σ
def ThenK (N:Nat) (P:Program) (body:Code) (post:List (Nat×Blk)) (e:Exit) (τ:St):Prop:=match e with
 | .normal=>NfK N P body (EndQ post) τ
 | _=>False
@[go_sem] theorem ThenK_normal (N:Nat) (P:Program) (body:Code) (post:List (Nat×Blk)) (τ:St):ThenK N P body post .normal τ=NfK N P body (EndQ post) τ:=rfl
@[go_sem] def nfS (N:Nat) (P:Program):Code→(Exit→St→Prop)→St→Prop
 | .skip,Q,σ=>Q .normal σ
 | .region _ ops false,Q,σ=>opsK P ops.toList (PlainK (Q .normal)) ops.toList σ []
 | .region _ ops true,Q,σ=>opsK P ops.toList (DrawK ops.toList σ (Q .normal)) ops.toList σ []
 | .seq a b,Q,σ=>nfS N P a (SeqQ (NfK N P b Q) Q) σ
 | .cond c x y,Q,σ=>match rdS (lkS σ.g) c with
  | .t (.lit (.bool v))=>if v=true then NfK N P x Q σ else NfK N P y Q σ
  | _=>False
 | .block id c,Q,σ=>nfS N P c (BlockQ id Q) σ
 | .exit id,Q,σ=>Q (.exit id) σ
 | .ret,Q,σ=>Q .ret σ
 | c,Q,σ=>False
theorem nfS_sound {N:Nat} {P:Program}:∀ (c:Code) (Q:Exit→St→Prop) (σ:St),nfS N P c Q σ→nf N P [] c Q σ
 | .skip,Q,σ,h=>h
 | .region id ops false,Q,σ,h=>h
 | .region id ops true,Q,σ,h=>h
 | .seq x y,Q,σ,h=>by
  have hst:stops [] x=false:=by unfold stops;split<;>simp
  simp only[nf,hst]
  exact nfS_sound x _ σ h
 | .cond c x y,Q,σ,h=>h
 | .block id c,Q,σ,h=>nfS_sound c _ σ h
 | .exit id,Q,σ,h=>h
 | .ret,Q,σ,h=>h
 | .loop _,Q,σ,h=>h.elim
 | .scope _,Q,σ,h=>h.elim
 | .rangeFunc _ _ _ _,Q,σ,h=>h.elim
 | .label _,Q,σ,h=>h.elim
 | .goto _,Q,σ,h=>h.elim
 | .refuse _,Q,σ,h=>h.elim
theorem nfK1 {N:Nat} {P:Program} {c:Code} {Q:Exit→St→Prop} {σ:St} (h:nfS N P c Q σ):NfK N P c Q σ:=nfS_sound c Q σ h
theorem nfK0 {N:Nat} {P:Program} {a b:Code} {post:List (Nat×Blk)} {σ:St} (h:nfS N P a (ThenK N P b post) σ):nf N P [] a (ThenB N P b post) σ:=nfS_sound a _ σ h
attribute [irreducible] NfK
end Go.Proofs.YtdjmklobfjigoaaGreatDoor.Sy
namespace Go.Proofs.YtdjmklobfjigoaaGreatDoor
open Go.RowKit Sy Dl
open Go.IntWalk renaming iteOmega → iO, toNatUp → tN
theorem segYs_len2 (node:Int) (inn:Bool):∀ (k:Nat) (ps:List SegV) (rs:List Int),(segYs node inn k ps rs).length≤ps.length
 | k,[],rs=>by simp[segYs]
 | k,p :: ps,[]=>by simp[segYs]
 | k,p :: ps,r :: rs=>by
  have:=segYs_len2 node inn (k+1) ps rs
  simp only[segYs]
  split<;>simp<;>omega
theorem segYs_inc (node:Int) (inn:Bool):∀ (k:Nat) (ps:List SegV) (rs:List Int),(segYs node inn k ps rs).Pairwise (fun a b=>a.1 < b.1)
 | k,[],rs=>by simp[segYs]
 | k,p :: ps,[]=>by simp[segYs]
 | k,p :: ps,r :: rs=>by
  have:=segYs_inc node inn (k+1) ps rs
  simp only[segYs]
  split
  ·refine List.Pairwise.cons (fun b hb=>?_) this
   have:=(segYs_get hb).1
   dsimp only;omega
  ·exact this
def outO (oo:List (Option (List (Int×Int)))) (P:List (Nat×Int)) (x:List (List (Int×Int))):Nat→List (Option (List (Int×Int)))
 | 0=>oo
 | k+1=>(outO oo P x k).set (P.getD k (0,0)).1 (some (x.getD k []))
theorem outO_len (oo P x):∀ k,(outO oo P x k).length=oo.length
 | 0=>rfl
 | k+1=>by unfold outO;rw[List.length_set];exact outO_len oo P x k
def backAt (rates:List Int) (y:Nat×Int):Bool:=decide (rates.getD y.1 0 < 0)
def setK {α:Type} (fi:List α) (Sg:List (Nat×Int)) (v:Nat→Nat×Int→α):Nat→List α
 | 0=>fi
 | k+1=>(setK fi Sg v k).set (Sg.getD k (0,0)).1 (v k (Sg.getD k (0,0)))
theorem setK_len {α:Type} (fi:List α) (Sg:List (Nat×Int)) (v:Nat→Nat×Int→α):∀ k,(setK fi Sg v k).length=fi.length
 | 0=>rfl
 | k+1=>by unfold setK;rw[List.length_set];exact setK_len fi Sg v k
theorem setK_at {α:Type} (fi:List α) (Sg:List (Nat×Int)) (v:Nat→Nat×Int→α) (hS:Sg.Pairwise (fun a b=>a.1 < b.1)) (j:Nat) (y:Nat×Int) (hy:Sg[j]? = some y):∀ k,k≤j→(setK fi Sg v k)[y.1]? = fi[y.1]?
 | 0,_=>rfl
 | k+1,hk=>by
  unfold setK
  have h1:=setK_at fi Sg v hS j y hy k (by omega)
  obtain⟨hj,rfl⟩:=List.getElem?_eq_some_iff.1 hy
  have h2:=List.pairwise_iff_getElem.1 hS k j (by omega) hj (by omega)
  rw[List.getElem?_set_ne (by rw[List.getD_eq_getElem?_getD,List.getElem?_eq_getElem (by omega)];simp;omega),h1]
noncomputable def nodeF (rates:List Int) (fi:List (Option (List (Int×Int)))) (x:List (List (Int×Int))) (m:Nat) (k:Nat) (y:Nat×Int):Option (List (Int×Int)):=some (fillV (gvAt fi y) (x.getD (m+k) []) (backAt rates y))
noncomputable def nodeG (rates:List Int) (fi:List (Option (List (Int×Int)))) (x:List (List (Int×Int))) (m:Nat) (k:Nat) (y:Nat×Int):Option (List (Int×Int)):=some (outV (gvAt fi y) (x.getD (m+k) []) (backAt rates y))
theorem node_fn (d:LineD) (hd:LineOk d) (order:T) (w6:order.width=1) (fi gi oo:List (Option (List (Int×Int)))) (node:Int) (hg:gi.length=d.segs.length) (hfl:fi.length=d.segs.length) (hol:oo.length=d.ports.length) (hS:Pc.Sane (comesV d gi node)) (hnz:∀ z∈segYs node true 0 (d.segs.map (·.1)) d.rates,∀ p∈gvAt gi z,p.2≠0)
  (l:List (Int×Int)) (hl:Pc.join (comesV d gi node)=l) (hne:l≠[]) (hl2:l.length≤200) (P Sg:List (Nat×Int)) (hP:prtYs node false 0 d.ports d.prates=P) (hSg:segYs node false 0 (d.segs.map (·.1)) d.rates=Sg) (x:List (List (Int×Int))) (hx:dealV l (P.map (·.2)++Sg.map (·.2))=(x,0)) (hxl:x.length=P.length+Sg.length)
  (hpush:∀ (k:Nat) (y:Nat×Int),Sg[k]? = some y→(∃ f,fi[y.1]? = some (some f)∧f.length≤1000000)∧(x.getD (P.length+k) []).length≤1000000∧(outV (gvAt fi y) (x.getD (P.length+k) []) (backAt d.rates y)).length≤1000000∧pushE (gvAt fi y) (x.getD (P.length+k) []) (backAt d.rates y)=0) :
  FnOk Tryz.prog 51 [.pt 0 [] 0,.t (.int node)] [(0,lineB d.net d.plan (.sl 1 (d.feeds.map encI)) order),(1,blkG fi),(2,blkG gi),(3,blkG oo)]
   (.t (.int 0)) [(0,lineB d.net d.plan (.sl 1 (d.feeds.map encI)) order),(1,blkG (setK fi Sg (nodeF d.rates fi x P.length) Sg.length)),(2,blkG (setK gi Sg (nodeG d.rates fi x P.length) Sg.length)),(3,blkG (outO oo P x P.length))]:=by
 have s1:=stream_fn d hd order w6 fi gi oo node hg hS hnz
 rw[hl]at s1
 have P_len:∀ k,((P.take k).map (·.2)).length≤1000:=fun k=>by
  have:=prtYs_len2 node false 0 d.ports d.prates
  have:=hd.maxP
  rw[hP]at *
  simp;omega
 have S_len:∀ k,(P.map (·.2)++(Sg.take k).map (·.2)).length≤2000:=fun k=>by
  have:=prtYs_len2 node false 0 d.ports d.prates
  have:=segYs_len2 node false 0 (d.segs.map (·.1)) d.rates
  have:=hd.maxP
  have:=hd.maxS
  rw[hP]at *
  rw[hSg]at *
  simp at *;omega
 have hPl:P.length≤1000:=by
  have:=prtYs_len2 node false 0 d.ports d.prates
  have:=hd.maxP
  rw[hP]at *
  omega
 have hSl:Sg.length≤1000:=by
  have:=segYs_len2 node false 0 (d.segs.map (·.1)) d.rates
  have:=hd.maxS
  rw[hSg]at *
  simp at *;omega
 have hPg:∀ y∈P,y.1 < d.ports.length:=fun y hy=>by
  rw[←hP]at hy
  have:=(prtYs_get hy).2.1
  omega
 have hSGg:∀ y∈Sg,y.1 < d.segs.length:=fun y hy=>by
  rw[←hSg]at hy
  have:=(segYs_get hy).2.1
  simpa using this
 have hinc:Sg.Pairwise (fun a b=>a.1 < b.1):=by rw[←hSg];exact segYs_inc _ _ _ _ _
 have w1:=hd.w1
 have w2:=hd.w2
 have w3:=hd.w3
 have w4:=hd.w4
 have w5:=hd.w5
 have dl:=deal_fn l (P.map (·.2)++Sg.map (·.2)) (by omega) (by simp;omega) x 0 hx
 have hlp:0 < l.length:=List.length_pos_iff.2 hne
 refine FnOk.intro fact_mixed Tryz.func51 rfl Tryz.ntmps51 (by rfl) (by simp) ?_
 repeat (first|(refine n1s rfl ?_;simp[go_sem,↓iO,iO,tN])|refine anI ?_|refine⟨dcK,?_⟩|refine iP ?_|refine iN ?_)
 refine cF (s1) [(0,0),(1,1),(2,2),(3,3),(1000,510)] ?_ ?_ ?_ ?_<;>simp[go_sem,↓iO,iO,tN]
 repeat (first|(refine n1s rfl ?_;simp[go_sem,↓iO,iO,tN])|refine anI ?_|refine⟨dcK,?_⟩|refine iP ?_|refine iN ?_)
 refine cF (ports_fn d.net d.plan (.sl 1 (d.feeds.map encI)) order fi gi oo node false) [(0,0),(1,1),(2,2),(3,3),(1000,500),(1001,501),(1002,502)] ?_ ?_ ?_ ?_<;>simp[go_sem,↓iO,iO,tN]
 repeat (refine anI ?_)
 try (refine⟨dcK,?_⟩)
 refine nf1_sound' _ _ _ ?_;simp only[nf1]
 refine CW.rangeF (N:=87) [(0,.pt 0 [] 0),(1,.t (.int node)),(2,.pt 102 [] 0),(4,.pt 104 [] 0),(5,.own 510),(6,.pt 106 [] 0),(28,.fn 98 [.pt 500 [] 0,.pt 501 [] 0,.pt 502 [] 0])]
  (fun k=>[(0,lineB d.net d.plan (.sl 1 (d.feeds.map encI)) order),(1,blkG fi),(2,blkG gi),(3,blkG oo),(102,.box 71 (.pt 0 [] 0)),(104,.box 46 (.t (.int 0))),(510,blkP l),(106,.box 22 (.own 520)),(520,.list 3 1 (((P.take k).map (·.2)).map encI)),(500,.box 71 (.pt 0 [] 0)),(501,.box 3 (.t (.int node))),(502,.box 4 (.t (.bool false)))])
  [(0,some 0),(1,some 1),(2,some 2),(3,some 3),(102,some 102),(104,some 104),(510,some 510),(106,some 106),(520,none),(500,some 500),(501,some 501),(502,some 502)]
  (lineI 500 501 502 0 (.t (.int node)) (.t (.bool false)) 3 4 d.net d.plan [.t (.sl 1 (d.feeds.map encI)),.t order,.own 1,.own 2,.own 3]) (P.map encY)
  [(0,some 0),(1,some 1),(2,some 2),(3,some 3),(102,some 102),(104,some 104),(510,some 510),(106,some 106),(520,some 520),(500,some 500),(501,some 501),(502,some 502)]
  ?_ rfl (by kernel_rfl) (by kernel_rfl) (by kernel_rfl) (by kernel_rfl) (by kernel_rfl) (by kernel_rfl) (by kernel_rfl) ?_ ?_ ?_ rfl ?_ ?_ ?_
 ·simp[go_sem,↓iO,iO,tN]
 ·intro y hy
  obtain⟨z,_,rfl⟩:=List.mem_map.1 hy
  rfl
 ·intro y hy v hv
  obtain⟨z,_,rfl⟩:=List.mem_map.1 hy
  simp[encY]at hv
  rcases hv with rfl|rfl<;>rfl
 ·rw[←hP]
  exact ports_iter 500 501 502 0 rfl node false d.nodes (.sl 7 (d.segs.map encSg)) d.stat d.ports d.vap d.stl (.sl 1 (d.rates.map encI)) d.pumps d.prates _ hd.w1 rfl rfl hd.w2 hd.w3 hd.w4 hd.lenP hd.neP hd.maxP (fun r hr=>by have:=hd.bP r hr;omega)
 ·intro k hk
  simp[go_sem,↓iO,iO,tN,lineI]
  rfl
 ·intro k y hy
  obtain⟨z,hz,rfl⟩:∃ z,P[k]? = some z∧y=encY z:=by
   rw[List.getElem?_map]at hy
   obtain⟨z,h1,h2⟩:=Option.map_eq_some_iff.1 hy
   exact⟨z,h1,h2.symm⟩
  have hkl:k < P.length:=(List.getElem?_eq_some_iff.1 hz).1
  obtain⟨z1,z2⟩:=z
  have e1:((P.take k).map (·.2)).map encI++[.int z2]=((P.take (k+1)).map (·.2)).map encI:=by
   obtain⟨hk,e⟩:=List.getElem?_eq_some_iff.1 hz
   rw[List.take_succ_eq_append_getElem hk,e];simp[encI]
  have hlen:=P_len k
  refine⟨[(0,106),(1,520),(1000,521)],[(6,.pt 0 [] 0)],[(0,.box 22 (.own 1)),(1,.list 3 1 (((P.take k).map (·.2)).map encI))],[(0,.box 22 (.own 1000)),(1000,.list 3 1 (((P.take (k+1)).map (·.2)).map encI))],[(0,some 0),(1,some 1),(2,some 2),(3,some 3),(102,some 102),(104,some 104),(510,some 510),(106,some 106),(520,some 521),(500,some 500),(501,some 501),(502,some 502)],?_⟩
  refine⟨by kernel_rfl,?_,?_,rfl,by kernel_rfl,?_,?_⟩
  ·simp[go_sem,↓iO,iO,tN]
  ·simp[go_sem,↓iO,iO,tN,slotsR,S.ren]
  ·rw[←e1]
   obtain⟨V,hV⟩:∃ V,(P.take k).map (·.2)=V:=⟨_,rfl⟩
   rw[hV]at hlen ⊢
   simp[go_sem,↓iO,iO,tN,psS,encY]
   repeat (refine anI ?_)
   refine⟨[(0,some 0),(1000,some 134)],?_⟩
   simp[go_sem,↓iO,iO,tN]
  ·simp[go_sem,↓iO,iO,tN]
 ·have hpl:(P.map encY).length=P.length:=by simp
  rw[hpl]
  simp[go_sem,↓iO,iO,tN,List.take_length]
  repeat (first|(refine n1s rfl ?_;simp[go_sem,↓iO,iO,tN])|refine anI ?_|refine⟨dcK,?_⟩|refine iP ?_|refine iN ?_)
  refine cF (segments_fn d.net d.plan (.sl 1 (d.feeds.map encI)) order fi gi oo node false) [(0,0),(1,1),(2,2),(3,3),(1000,530),(1001,531),(1002,532)] ?_ ?_ ?_ ?_<;>simp[go_sem,↓iO,iO,tN]
  repeat (refine anI ?_)
  try (refine⟨dcK,?_⟩)
  refine nf1_sound' _ _ _ ?_;simp only[nf1]
  refine CW.rangeF (N:=87) [(0,.pt 0 [] 0),(1,.t (.int node)),(2,.pt 102 [] 0),(4,.pt 104 [] 0),(5,.own 510),(6,.pt 106 [] 0),(37,.fn 99 [.pt 530 [] 0,.pt 531 [] 0,.pt 532 [] 0])]
   (fun k=>[(0,lineB d.net d.plan (.sl 1 (d.feeds.map encI)) order),(1,blkG fi),(2,blkG gi),(3,blkG oo),(102,.box 71 (.pt 0 [] 0)),(104,.box 46 (.t (.int 0))),(510,blkP l),(106,.box 22 (.own 520)),(520,.list 3 1 ((P.map (·.2)++(Sg.take k).map (·.2)).map encI)),(530,.box 71 (.pt 0 [] 0)),(531,.box 4 (.t (.bool false))),(532,.box 3 (.t (.int node)))])
   [(0,some 0),(1,some 1),(2,some 2),(3,some 3),(102,some 102),(104,some 104),(510,some 510),(106,some 106),(520,some 520),(530,some 530),(531,some 531),(532,some 532)]
   (lineI 530 531 532 0 (.t (.bool false)) (.t (.int node)) 4 3 d.net d.plan [.t (.sl 1 (d.feeds.map encI)),.t order,.own 1,.own 2,.own 3]) (Sg.map encY)
   [(0,some 0),(1,some 1),(2,some 2),(3,some 3),(102,some 102),(104,some 104),(510,some 510),(106,some 106),(520,some 520),(530,some 530),(531,some 531),(532,some 532)]
   ?_ rfl (by kernel_rfl) (by kernel_rfl) (by kernel_rfl) (by kernel_rfl) (by kernel_rfl) (by kernel_rfl) (by kernel_rfl) ?_ ?_ ?_ rfl ?_ ?_ ?_
  ·simp[go_sem,↓iO,iO,tN]
  ·intro y hy
   obtain⟨z,_,rfl⟩:=List.mem_map.1 hy
   rfl
  ·intro y hy v hv
   obtain⟨z,_,rfl⟩:=List.mem_map.1 hy
   simp[encY]at hv
   rcases hv with rfl|rfl<;>rfl
  ·rw[←hSg]
   exact segs_iter 530 531 532 0 rfl node false d.nodes (.sl 3 (d.ports.map encPr)) d.stat d.segs d.vap d.stl (.sl 1 (d.prates.map encI)) d.pumps d.rates _ hd.w1 rfl hd.w2 hd.w3 hd.w4 hd.lenR hd.neS hd.maxS (fun r hr=>by have:=hd.bR r hr;omega)
  ·intro k hk
   simp[go_sem,↓iO,iO,tN,lineI]
   rfl
  ·intro k y hy
   obtain⟨z,hz,rfl⟩:∃ z,Sg[k]? = some z∧y=encY z:=by
    rw[List.getElem?_map]at hy
    obtain⟨z,h1,h2⟩:=Option.map_eq_some_iff.1 hy
    exact⟨z,h1,h2.symm⟩
   have hkl:k < Sg.length:=(List.getElem?_eq_some_iff.1 hz).1
   obtain⟨z1,z2⟩:=z
   have e1:(P.map (·.2)++(Sg.take k).map (·.2)).map encI++[.int z2]=(P.map (·.2)++(Sg.take (k+1)).map (·.2)).map encI:=by
    obtain⟨hk,e⟩:=List.getElem?_eq_some_iff.1 hz
    rw[List.take_succ_eq_append_getElem hk,e];simp[encI]
   have hlen:=S_len k
   refine⟨[(0,106),(1,520),(1000,521)],[(6,.pt 0 [] 0)],[(0,.box 22 (.own 1)),(1,.list 3 1 ((P.map (·.2)++(Sg.take k).map (·.2)).map encI))],[(0,.box 22 (.own 1000)),(1000,.list 3 1 ((P.map (·.2)++(Sg.take (k+1)).map (·.2)).map encI))],[(0,some 0),(1,some 1),(2,some 2),(3,some 3),(102,some 102),(104,some 104),(510,some 510),(106,some 106),(520,some 521),(530,some 530),(531,some 531),(532,some 532)],?_⟩
   refine⟨by kernel_rfl,?_,?_,rfl,by kernel_rfl,?_,?_⟩
   ·simp[go_sem,↓iO,iO,tN]
   ·simp[go_sem,↓iO,iO,tN,slotsR,S.ren]
   ·rw[←e1]
    obtain⟨V,hV⟩:∃ V,P.map (·.2)++(Sg.take k).map (·.2)=V:=⟨_,rfl⟩
    rw[hV]at hlen ⊢
    simp[go_sem,↓iO,iO,tN,psS,encY]
    repeat (refine anI ?_)
    refine⟨[(0,some 0),(1000,some 143)],?_⟩
    simp[go_sem,↓iO,iO,tN]
   ·simp[go_sem,↓iO,iO,tN]
  ·have hsl:(Sg.map encY).length=Sg.length:=by simp
   rw[hsl]
   obtain⟨R,hR⟩:∃ R,P.map (·.2)++Sg.map (·.2)=R:=⟨_,rfl⟩
   rw[hR]at dl
   simp only[List.take_length,hR]
   refine CW.weak (ρ:=[(0,some 0),(1,some 1),(2,some 2),(3,some 3),(102,some 102),(104,some 104),(106,some 106)]) (σ':=⟨[(0,.pt 0 [] 0),(1,.t (.int node)),(2,.pt 102 [] 0),(4,.pt 104 [] 0),(5,.t (encPs l)),(6,.pt 106 [] 0)],[(0,lineB d.net d.plan (.sl 1 (d.feeds.map encI)) order),(1,blkG fi),(2,blkG gi),(3,blkG oo),(102,.box 71 (.pt 0 [] 0)),(104,.box 46 (.t (.int 0))),(106,.box 22 (.t (encIs R)))]⟩) ?_ ?_
   ·simp[go_sem,↓iO,iO,tN]
   repeat (first|(refine n1s rfl ?_;simp[go_sem,↓iO,iO,tN])|refine anI ?_|refine⟨dcK,?_⟩|refine iP ?_|refine iN ?_)
   refine cF (dl) [] ?_ ?_ ?_ ?_<;>simp[go_sem,↓iO,iO,tN]
   repeat (first|(refine n1s rfl ?_;simp[go_sem,↓iO,iO,tN])|refine anI ?_|refine⟨dcK,?_⟩|refine iP ?_|refine iN ?_)
   refine cF (ports_fn d.net d.plan (.sl 1 (d.feeds.map encI)) order fi gi oo node false) [(0,0),(1,1),(2,2),(3,3),(1000,540),(1001,541),(1002,542)] ?_ ?_ ?_ ?_<;>simp[go_sem,↓iO,iO,tN]
   repeat (refine anI ?_)
   try (refine⟨dcK,?_⟩)
   refine nf1_sound' _ _ _ ?_;simp only[nf1]
   refine CW.rangeF (N:=87) [(0,.pt 0 [] 0),(1,.t (.int node)),(2,.pt 102 [] 0),(4,.pt 104 [] 0),(11,.pt 111 [] 0),(13,.pt 113 [] 0),(55,.fn 98 [.pt 540 [] 0,.pt 541 [] 0,.pt 542 [] 0])]
    (fun k=>[(0,lineB d.net d.plan (.sl 1 (d.feeds.map encI)) order),(1,blkG fi),(2,blkG gi),(3,blkG (outO oo P x k)),(102,.box 71 (.pt 0 [] 0)),(104,.box 46 (.t (.int 0))),(111,.box 42 (.t (.sl 1 (x.map encPs)))),(113,.box 3 (.t (.int k))),(540,.box 71 (.pt 0 [] 0)),(541,.box 3 (.t (.int node))),(542,.box 4 (.t (.bool false)))])
    [(0,some 0),(1,some 1),(2,some 2),(3,some 3),(102,some 102),(104,some 104),(111,some 111),(113,some 113),(540,some 540),(541,some 541),(542,some 542)]
    (lineI 540 541 542 0 (.t (.int node)) (.t (.bool false)) 3 4 d.net d.plan [.t (.sl 1 (d.feeds.map encI)),.t order,.own 1,.own 2,.own 3]) (P.map encY)
    [(0,some 0),(1,some 1),(2,some 2),(3,some 3),(102,some 102),(104,some 104),(111,some 111),(113,some 113),(540,some 540),(541,some 541),(542,some 542)]
    ?_ rfl (by kernel_rfl) (by kernel_rfl) (by kernel_rfl) (by kernel_rfl) (by kernel_rfl) (by kernel_rfl) (by kernel_rfl) ?_ ?_ ?_ rfl ?_ ?_ ?_
   ·simp[go_sem,↓iO,iO,tN,outO]
   ·intro y hy
    obtain⟨z,_,rfl⟩:=List.mem_map.1 hy
    rfl
   ·intro y hy v hv
    obtain⟨z,_,rfl⟩:=List.mem_map.1 hy
    simp[encY]at hv
    rcases hv with rfl|rfl<;>rfl
   ·rw[←hP]
    exact ports_iter 540 541 542 0 rfl node false d.nodes (.sl 7 (d.segs.map encSg)) d.stat d.ports d.vap d.stl (.sl 1 (d.rates.map encI)) d.pumps d.prates _ hd.w1 rfl rfl hd.w2 hd.w3 hd.w4 hd.lenP hd.neP hd.maxP (fun r hr=>by have:=hd.bP r hr;omega)
   ·intro k hk
    simp[go_sem,↓iO,iO,tN,lineI]
    rfl
   ·intro k y hy
    obtain⟨z,hz,rfl⟩:∃ z,P[k]? = some z∧y=encY z:=by
     rw[List.getElem?_map]at hy
     obtain⟨z,h1,h2⟩:=Option.map_eq_some_iff.1 hy
     exact⟨z,h1,h2.symm⟩
    have hkl:k < P.length:=(List.getElem?_eq_some_iff.1 hz).1
    obtain⟨z1,z2⟩:=z
    have hzl:=hPg _ (List.mem_of_getElem? hz)
    dsimp only at hzl
    have hol2:=outO_len oo P x k
    obtain⟨s,hs⟩:∃ s,x[k]? = some s:=has_get (by omega)
    have hos:outO oo P x (k+1)=(outO oo P x k).set z1 (some s):=by
     simp only[outO,List.getD_eq_getElem?_getD,hz,hs,Option.getD_some]
    refine⟨[(0,0),(1,1),(2,2),(3,3),(4,102),(5,111),(6,113)],[(2,.pt 4 [] 0),(11,.pt 5 [] 0),(13,.pt 6 [] 0)],
     [(0,lineB d.net d.plan (.sl 1 (d.feeds.map encI)) order),(1,blkG fi),(2,blkG gi),(3,blkG (outO oo P x k)),(4,.box 71 (.pt 0 [] 0)),(5,.box 42 (.t (.sl 1 (x.map encPs)))),(6,.box 3 (.t (.int k)))],
     [(0,lineB d.net d.plan (.sl 1 (d.feeds.map encI)) order),(1,blkG fi),(2,blkG gi),(3,blkG (outO oo P x (k+1))),(4,.box 71 (.pt 0 [] 0)),(5,.box 42 (.t (.sl 1 (x.map encPs)))),(6,.box 3 (.t (.int (k+1))))],
     [(0,some 0),(1,some 1),(2,some 2),(3,some 3),(102,some 102),(104,some 104),(111,some 111),(113,some 113),(540,some 540),(541,some 541),(542,some 542)],?_⟩
    refine⟨by kernel_rfl,?_,?_,rfl,by kernel_rfl,?_,?_⟩
    ·simp[go_sem,↓iO,iO,tN]
    ·simp[go_sem,↓iO,iO,tN,slotsR,S.ren]
    ·rw[hos]
     obtain⟨V,hV⟩:∃ V,outO oo P x k=V:=⟨_,rfl⟩
     rw[hV]at hol2 ⊢
     obtain⟨og,hgo⟩:∃ og,V[z1]? = some og:=has_get (by omega)
     have hvz:z1 < V.length:=by omega
     have hsx:k < x.length:=by omega
     have hs2:x[k]=s:=(List.getElem?_eq_some_iff.1 hs).2
     have hv2:V[z1]=og:=(List.getElem?_eq_some_iff.1 hgo).2
     refine nfK0 ?_;simp[go_sem,↓iO,iO,tN,psS,encY];(repeat (refine anI ?_));try (refine⟨dcK,?_⟩)
     repeat (first|(refine nfK1 ?_;simp (maxSteps:=1000000) [go_sem,↓iO,iO,tN,hs,hgo,hvz,hv2,hsx,hs2,w1,w2,w3,w4,w5,w6,widths_gv,width_gv];(repeat (refine anI ?_));try (refine⟨dcK,?_⟩))|((first|refine itePos (by omega) ?_|refine iteNeg (by omega) ?_);try simp[go_sem,↓iO,iO,tN,hs,hgo,hvz,hv2,hsx,hs2,w1,w2,w3,w4,w5,w6,widths_gv,width_gv])|(refine⟨dcK,?_⟩))
     refine⟨by cases og<;>rfl,?_⟩
     repeat (refine anI ?_)
     refine⟨dcK,?_⟩
     repeat (first|(refine nfK1 ?_;simp (maxSteps:=1000000) [go_sem,↓iO,iO,tN];(repeat (refine anI ?_));try (refine⟨dcK,?_⟩))|((first|refine itePos (by omega) ?_|refine iteNeg (by omega) ?_);try simp[go_sem,↓iO,iO,tN])|(refine⟨dcK,?_⟩))
     refine⟨[(0,some 0),(1,some 1),(2,some 2),(3,some 3),(4,some 4),(5,some 5),(6,some 6)],?_⟩
     simp[go_sem,↓iO,iO,tN,List.map_set]
    ·simp[go_sem,↓iO,iO,tN]
   ·have hpl:(P.map encY).length=P.length:=by simp
    rw[hpl]
    obtain⟨O,hO⟩:∃ O,outO oo P x P.length=O:=⟨_,rfl⟩
    rw[hO]
    repeat (first|(refine n1s rfl ?_;simp[go_sem,↓iO,iO,tN])|refine anI ?_|refine⟨dcK,?_⟩|refine iP ?_|refine iN ?_)
    refine cF (segments_fn d.net d.plan (.sl 1 (d.feeds.map encI)) order fi gi O node false) [(0,0),(1,1),(2,2),(3,3),(1000,550),(1001,551),(1002,552)] ?_ ?_ ?_ ?_<;>simp[go_sem,↓iO,iO,tN]
    repeat (refine anI ?_)
    try (refine⟨dcK,?_⟩)
    refine nf1_sound' _ _ _ ?_;simp only[nf1]
    refine CW.rangeF (N:=87) [(0,.pt 0 [] 0),(1,.t (.int node)),(2,.pt 102 [] 0),(4,.pt 104 [] 0),(11,.pt 111 [] 0),(13,.pt 113 [] 0),(72,.fn 99 [.pt 550 [] 0,.pt 551 [] 0,.pt 552 [] 0])]
     (fun k=>[(0,lineB d.net d.plan (.sl 1 (d.feeds.map encI)) order),(1,blkG (setK fi Sg (nodeF d.rates fi x P.length) k)),(2,blkG (setK gi Sg (nodeG d.rates fi x P.length) k)),(3,blkG O),(102,.box 71 (.pt 0 [] 0)),(104,.box 46 (.t (.int 0))),(111,.box 42 (.t (.sl 1 (x.map encPs)))),(113,.box 3 (.t (.int ((P.length+k:Nat):Int)))),(550,.box 71 (.pt 0 [] 0)),(551,.box 4 (.t (.bool false))),(552,.box 3 (.t (.int node)))])
     [(0,some 0),(1,some 1),(2,some 2),(3,some 3),(102,some 102),(104,some 104),(111,some 111),(113,some 113),(550,some 550),(551,some 551),(552,some 552)]
     (lineI 550 551 552 0 (.t (.bool false)) (.t (.int node)) 4 3 d.net d.plan [.t (.sl 1 (d.feeds.map encI)),.t order,.own 1,.own 2,.own 3]) (Sg.map encY)
     [(0,some 0),(1,some 1),(2,some 2),(3,some 3),(102,some 102),(104,some 104),(111,some 111),(113,some 113),(550,some 550),(551,some 551),(552,some 552)]
     ?_ rfl (by kernel_rfl) (by kernel_rfl) (by kernel_rfl) (by kernel_rfl) (by kernel_rfl) (by kernel_rfl) (by kernel_rfl) ?_ ?_ ?_ rfl ?_ ?_ ?_
    ·simp[go_sem,↓iO,iO,tN,setK]
    ·intro y hy
     obtain⟨z,_,rfl⟩:=List.mem_map.1 hy
     rfl
    ·intro y hy v hv
     obtain⟨z,_,rfl⟩:=List.mem_map.1 hy
     simp[encY]at hv
     rcases hv with rfl|rfl<;>rfl
    ·rw[←hSg]
     exact segs_iter 550 551 552 0 rfl node false d.nodes (.sl 3 (d.ports.map encPr)) d.stat d.segs d.vap d.stl (.sl 1 (d.prates.map encI)) d.pumps d.rates _ hd.w1 rfl hd.w2 hd.w3 hd.w4 hd.lenR hd.neS hd.maxS (fun r hr=>by have:=hd.bR r hr;omega)
    ·intro k hk
     simp[go_sem,↓iO,iO,tN,lineI]
     rfl
    ·intro k y hy
     obtain⟨z,hz,rfl⟩:∃ z,Sg[k]? = some z∧y=encY z:=by
      rw[List.getElem?_map]at hy
      obtain⟨z,h1,h2⟩:=Option.map_eq_some_iff.1 hy
      exact⟨z,h1,h2.symm⟩
     have hkl:k < Sg.length:=(List.getElem?_eq_some_iff.1 hz).1
     obtain⟨z1,z2⟩:=z
     have hzl:=hSGg _ (List.mem_of_getElem? hz)
     dsimp only at hzl
     obtain⟨⟨f,hf,hf6⟩,hl6,ho6,he⟩:=hpush k _ hz
     have hf0:gvAt fi (z1,z2)=f:=by unfold gvAt;rw[List.getD_eq_getElem?_getD,hf];rfl
     obtain⟨r,hr⟩:∃ r,d.rates[z1]? = some r:=has_get (by rw[hd.lenR];exact hzl)
     have hb0:backAt d.rates (z1,z2)=decide (r < 0):=by unfold backAt;rw[List.getD_eq_getElem?_getD,hr];rfl
     obtain⟨s,hs⟩:∃ s,x[P.length+k]? = some s:=has_get (by omega)
     have hs0:x.getD (P.length+k) []=s:=by rw[List.getD_eq_getElem?_getD,hs];rfl
     rw[hs0]at hl6
     rw[hf0,hs0,hb0]at ho6 he
     have hgd:Sg.getD k (0,0)=(z1,z2):=by rw[List.getD_eq_getElem?_getD,hz];rfl
     have hF1:setK fi Sg (nodeF d.rates fi x P.length) (k+1)=(setK fi Sg (nodeF d.rates fi x P.length) k).set z1 (some (fillV f s (decide (r < 0)))):=by
      rw[←hf0,←hs0,←hb0,setK,hgd];rfl
     have hG1:setK gi Sg (nodeG d.rates fi x P.length) (k+1)=(setK gi Sg (nodeG d.rates fi x P.length) k).set z1 (some (outV f s (decide (r < 0)))):=by
      rw[←hf0,←hs0,←hb0,setK,hgd];rfl
     have hfk:=setK_at fi Sg (nodeF d.rates fi x P.length) hinc k (z1,z2) hz k (Nat.le_refl _)
     dsimp only at hfk
     rw[hf]at hfk
     have hfl2:=setK_len fi Sg (nodeF d.rates fi x P.length) k
     have hgl2:=setK_len gi Sg (nodeG d.rates fi x P.length) k
     have j1:=apush_fn d hd order w6 (setK fi Sg (nodeF d.rates fi x P.length) k) (setK gi Sg (nodeG d.rates fi x P.length) k) O (by omega) (by omega) z1 r f s hr hfk hf6 hl6 ho6 he
     rw[←hF1,←hG1]at j1
     refine⟨[(0,0),(1,1),(2,2),(3,3),(4,102),(5,111),(6,113)],[(2,.pt 4 [] 0),(11,.pt 5 [] 0),(13,.pt 6 [] 0)],
      [(0,lineB d.net d.plan (.sl 1 (d.feeds.map encI)) order),(1,blkG (setK fi Sg (nodeF d.rates fi x P.length) k)),(2,blkG (setK gi Sg (nodeG d.rates fi x P.length) k)),(3,blkG O),(4,.box 71 (.pt 0 [] 0)),(5,.box 42 (.t (.sl 1 (x.map encPs)))),(6,.box 3 (.t (.int ((P.length+k:Nat):Int))))],
      [(0,lineB d.net d.plan (.sl 1 (d.feeds.map encI)) order),(1,blkG (setK fi Sg (nodeF d.rates fi x P.length) (k+1))),(2,blkG (setK gi Sg (nodeG d.rates fi x P.length) (k+1))),(3,blkG O),(4,.box 71 (.pt 0 [] 0)),(5,.box 42 (.t (.sl 1 (x.map encPs)))),(6,.box 3 (.t (.int ((P.length+(k+1):Nat):Int))))],
      [(0,some 0),(1,some 1),(2,some 2),(3,some 3),(102,some 102),(104,some 104),(111,some 111),(113,some 113),(550,some 550),(551,some 551),(552,some 552)],?_⟩
     refine⟨by kernel_rfl,?_,?_,rfl,by kernel_rfl,?_,?_⟩
     ·simp[go_sem,↓iO,iO,tN]
     ·simp[go_sem,↓iO,iO,tN,slotsR,S.ren]
     ·obtain⟨F1,hF1'⟩:∃ F1,setK fi Sg (nodeF d.rates fi x P.length) k=F1:=⟨_,rfl⟩
      obtain⟨F2,hF2'⟩:∃ F2,setK fi Sg (nodeF d.rates fi x P.length) (k+1)=F2:=⟨_,rfl⟩
      obtain⟨G1,hG1'⟩:∃ G1,setK gi Sg (nodeG d.rates fi x P.length) k=G1:=⟨_,rfl⟩
      obtain⟨G2,hG2'⟩:∃ G2,setK gi Sg (nodeG d.rates fi x P.length) (k+1)=G2:=⟨_,rfl⟩
      rw[hF1',hF2',hG1',hG2']at j1
      rw[hF1',hF2',hG1',hG2']
      have hsx:P.length+k < x.length:=by omega
      have hs2:x[P.length+k]=s:=(List.getElem?_eq_some_iff.1 hs).2
      have e3:((P.length:Int)+(k:Int)).toNat=P.length+k:=by omega
      refine nfK0 ?_;simp[go_sem,↓iO,iO,tN,psS,encY];(repeat (refine anI ?_));try (refine⟨dcK,?_⟩)
      repeat (first|(refine nfK1 ?_;simp (maxSteps:=1000000) [go_sem,↓iO,iO,tN,hs,e3,hsx,hs2,w1,w2,w3,w4,w5,w6,widths_gv,width_gv];(repeat (refine anI ?_));try (refine⟨dcK,?_⟩))|((first|refine itePos (by omega) ?_|refine iteNeg (by omega) ?_);try simp[go_sem,↓iO,iO,tN,hs,e3,hsx,hs2,w1,w2,w3,w4,w5,w6,widths_gv,width_gv])|(refine⟨dcK,?_⟩))
      refine cF (j1) [(0,0),(1,1),(2,2),(3,3)] ?_ ?_ ?_ ?_<;>simp[go_sem,↓iO,iO,tN,hs,e3,hsx,hs2,w1,w2,w3,w4,w5,w6,widths_gv,width_gv]
      repeat (first|(refine nfK1 ?_;simp (maxSteps:=1000000) [go_sem,↓iO,iO,tN,e3];(repeat (refine anI ?_));try (refine⟨dcK,?_⟩))|((first|refine itePos (by omega) ?_|refine iteNeg (by omega) ?_);try simp[go_sem,↓iO,iO,tN,e3])|(refine⟨dcK,?_⟩))
      refine⟨[(0,some 0),(1,some 1),(2,some 2),(3,some 3),(4,some 4),(5,some 5),(6,some 6)],?_⟩
      simp[go_sem,↓iO,iO,tN]
      omega
     ·simp[go_sem,↓iO,iO,tN]
    ·have hsl:(Sg.map encY).length=Sg.length:=by simp
     rw[hsl]
     obtain⟨F1,hF1'⟩:∃ F1,setK fi Sg (nodeF d.rates fi x P.length) Sg.length=F1:=⟨_,rfl⟩
     obtain⟨G1,hG1'⟩:∃ G1,setK gi Sg (nodeG d.rates fi x P.length) Sg.length=G1:=⟨_,rfl⟩
     rw[hF1',hG1']
     repeat (first|(refine n1s rfl ?_;simp[go_sem,↓iO,iO,tN])|refine anI ?_|refine⟨dcK,?_⟩|refine iP ?_|refine iN ?_)
     first|rw[TqR]|rw[TqN]
     refine⟨[(0,some 0),(1,some 1),(2,some 2),(3,some 3)],?_⟩
     simp[go_sem,↓iO,iO,tN]
end Go.Proofs.YtdjmklobfjigoaaGreatDoor
