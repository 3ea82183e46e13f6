/- Several texts of this proof, one behind the other. No condition. -/
import Derived.Test.YtocndodilpimnaaGreatTThesB11
import Derived.Test.YtocndodilpimnaaGreatTThesB10
set_option maxRecDepth 100000
set_option maxHeartbeats 16000000
set_option linter.unusedVariables false
set_option linter.unusedSimpArgs false
namespace Go.Proofs.YtocndodilpimnaaGreat
open Go.RowKit Sy
attribute [local go_sem] Oper.semAt_some
structure vO where
 nm:List Nat
 fr:Int
 to:Int
 cp:Int
 rs:Int
 wv:Int
def E7 (inn:Bool) (a b r:Int):Int:=if inn then vU a b r else vT a b r
def bz (node:Int) (inn:Bool):Nat→List vO→List Int→List (Nat×Int)
 | k,p :: ps,r :: rs=>if r≠0∧E7 inn p.fr p.to r=node then (k,gn r) :: bz node inn (k+1) ps rs else bz node inn (k+1) ps rs
 | _,_,_=>[]
def oE (pb po:Nat) (segs:List vO) (A:World):Prop:=∀ i p,segs[i]? = some p→A.cell? ⟨pb,po+i * 7,none⟩=some (.string (str p.nm))∧A.cell? ⟨pb,po+i * 7+1,none⟩=some (.int .i64 p.fr)∧A.cell? ⟨pb,po+i * 7+2,none⟩=some (.int .i64 p.to)∧
 A.cell? ⟨pb,po+i * 7+3,none⟩=some (.int .i64 p.cp)∧A.cell? ⟨pb,po+i * 7+4,none⟩=some (.int .i64 p.rs)∧A.cell? ⟨pb,po+i * 7+5,none⟩=some (.int .i64 p.wv)∧∃ x n c,A.cell? ⟨pb,po+i * 7+6,none⟩=some (.slice x n c)
theorem aR {A B:World} {b o:Nat} {v:Value} (h:A.cell? ⟨b,o,none⟩=some v) (hb:Below A.heap.size A B):B.cell? ⟨b,o,none⟩=some v:=by
 rw[bj (hb.block b ?_)]
 ·exact h
 ·obtain⟨oo,h1,_⟩:=cells_of_cell h
  exact (Array.getElem?_eq_some_iff.1 h1).1
theorem oE.bel {pb po:Nat} {segs:List vO} {A B:World} (h:oE pb po segs A) (hb:Below A.heap.size A B):oE pb po segs B:=fun i p hp=>by
 obtain⟨h1,h2,h3,h4,h5,h6,x7,n7,c7,h8⟩:=h i p hp
 exact⟨aR h1 hb,aR h2 hb,aR h3 hb,aR h4 hb,aR h5 hb,aR h6 hb,x7,n7,c7,aR h8 hb⟩
theorem oE.keep {pb po:Nat} {segs:List vO} {A B:World} (h:oE pb po segs A) {F0:Nat→Prop} (hF:F0 pb) (hk:∀ b o,F0 b→B.cell? ⟨b,o,none⟩=A.cell? ⟨b,o,none⟩):oE pb po segs B:=fun i p hp=>by
 obtain⟨h1,h2,h3,h4,h5,h6,x7,n7,c7,h8⟩:=h i p hp
 exact⟨(hk pb _ hF).trans h1,(hk pb _ hF).trans h2,(hk pb _ hF).trans h3,(hk pb _ hF).trans h4,(hk pb _ hF).trans h5,(hk pb _ hF).trans h6,x7,n7,c7,(hk pb _ hF).trans h8⟩
structure P2 (b1 b2 b3:Nat) (node:Int) (inn:Bool) (rates:List Int) (A:World) (xb:Nat) (rb ro rc:Nat):Prop where
 c1:A.cell? ⟨b1,0,none⟩=some (.pointer (some ⟨xb,0,none⟩))
 c2:A.cell? ⟨b2,0,none⟩=some (.bool inn)
 c3:A.cell? ⟨b3,0,none⟩=some (.int .i64 node)
 c7:A.cell? ⟨xb,6,none⟩=some (.slice (some ⟨rb,ro,none⟩) rates.length rc)
 le:rates.length≤rc
 rs:∀ i r,rates[i]? = some r→A.cell? ⟨rb,ro+i,none⟩=some (.int .i64 r)
theorem Kq (l:Nat) (b1 b2 b3:Nat) (node:Int) (inn:Bool) (segs:List vO) (rates:List Int) (hlen:rates.length=segs.length) (hl2:segs.length≤1000) (hrate:∀ r∈rates,-1000000000≤r∧r≤1000000000) (F0:Nat→Prop)
  (J:Nat→World→Prop) (Jx:World→Prop) (W:World) (hJ:∀ k A B,J k A→Below A.heap.size A B→J k B) (hJx:∀ A B,Jx A→Below A.heap.size A B→Jx B)
  (hRd:∀ k A,J k A→∃ xb rb ro rc,P2 b1 b2 b3 node inn rates A xb rb ro rc)
  (hY:∀ k y A,(bz node inn 0 segs rates)[k]? = some y→J k A→YieldAt Fence.wide 7 Tryz.prog l (dF y).toArray A fun e B=>(∀ b o,F0 b→B.cell? ⟨b,o,none⟩=A.cell? ⟨b,o,none⟩)∧((e = .returned (.bool true)∧J (k+1) B)∨(e = .returned (.bool false)∧Jx B)))
  (h0:J 0 W) (xb pb po pc:Nat) (g1:W.cell? ⟨b1,0,none⟩=some (.pointer (some ⟨xb,0,none⟩))) (g2:W.cell? ⟨xb,1,none⟩=some (.slice (some ⟨pb,po,none⟩) segs.length pc)) (g3:segs.length≤pc) (g4:F0 pb)
  (g5:oE pb po segs W) :
  CallsIn Fence.wide 8 Tryz.prog 265 #[.func (.yield l) #[] #[],.pointer (some ⟨b1,0,none⟩),.pointer (some ⟨b2,0,none⟩),.pointer (some ⟨b3,0,none⟩)] W fun e B=>(∃ v,e = .returned v)∧(J (bz node inn 0 segs rates).length B∨Jx B):=by
 obtain⟨ys,hys⟩:∃ ys,bz node inn 0 segs rates=ys:=⟨_,rfl⟩
 rw[hys]at hY ⊢
 refine callsIn_of_wp Tryz.func265 rfl trivial ?_ rfl
 simp only[Tryz.ntmps265,List.size_toArray,List.length_cons,List.length_nil,Nat.reduceAdd,Nat.reduceSub,Array.replicate_succ,Array.replicate_zero,List.push_toArray,List.append_toArray,List.nil_append,List.cons_append]
 gi_wp2
 gi_loopw [16] (fun i wr=>∃ (k kk:Nat),k≤segs.length∧i = .int .i64 k∧ys.drop kk=bz node inn k (segs.drop k) (rates.drop k)∧kk≤ys.length∧J kk wr∧oE pb po segs wr)
  (fun i _=>segs.length - (intOf i).toNat)
 case atStart=>exact⟨0,0,Nat.zero_le _,rfl,by simpa using hys.symm,Nat.zero_le _,h0,g5⟩
 case round=>
  obtain⟨k,kk,hk,rfl,hdr,hkk,hJk,hF⟩:=hrel
  obtain⟨xb',rb,ro,rc,R⟩:=hRd kk wr hJk
  have c1:=R.c1
  have c2:=R.c2
  have c3:=R.c3
  have c7:=R.c7
  have hle:=R.le
  by_cases hlt:k < segs.length
  ·obtain⟨⟨nm,fr,to,cp,rs,wv⟩,hp⟩:=aa hlt
   obtain⟨r,hr⟩:∃ r,rates[k]? = some r:=aa (by omega)
   have q1:=R.rs k r hr
   obtain⟨p1,p2,p3,p4,p5,p6,x7,n7,k7,p7⟩:=hF k _ hp
   dsimp only at p1 p2 p3 p4 p5 p6 p7
   have hd1:segs.drop k=⟨nm,fr,to,cp,rs,wv⟩ :: segs.drop (k+1):=eu hp
   have hd2:rates.drop k=r :: rates.drop (k+1):=eu hr
   rw[hd1,hd2]at hdr
   obtain⟨o2,ho2⟩:∃ o2:Obj,o2 = .cells #[.string (str nm),.int .i64 fr,.int .i64 to,.int .i64 cp,.int .i64 rs,.int .i64 wv,.slice x7 n7 k7] 98:=⟨_,rfl⟩
   have hb2:Below wr.heap.size wr (wr.alloc o2):=(Below.refl _ wr).alloc (Nat.le_refl _) _
   have nb:=World.alloc_heap_new wr o2
   have a1:=aR c1 hb2
   have a2:=aR c2 hb2
   have a3:=aR c3 hb2
   have a7:=aR c7 hb2
   have aq:=aR q1 hb2
   have hF2:=hF.bel hb2
   have hJ2:=hJ kk _ _ hJk hb2
   rw[ho2]at a1 a2 a3 a7 aq hF2 hJ2 nb
   obtain⟨ea,hea⟩:∃ ea,vT fr to r=ea:=⟨_,rfl⟩
   obtain⟨eb,heb⟩:∃ eb,vU fr to r=eb:=⟨_,rfl⟩
   have hcall:=HT (.string (str nm)) (.slice x7 n7 k7) rfl rfl fr to cp rs wv r
   rw[hea,heb]at hcall
   have hrb:=hrate r (List.mem_of_getElem? hr)
   have hng:IntKind.i64.wrap (0 - r)=- r:=by rw[IntKind.wrap_i64];omega
   have hng2:IntKind.i64.wrap (-r)=- r:=by rw[IntKind.wrap_i64];omega
   by_cases hr0:r=0
   ·subst hr0
    gi_wp2_with (refine⟨trivial,?_⟩;gi_at_call 254;refine (callsIn_wide.2 (hcall _)).mono ?_;rintro e w3 ⟨rfl,hbel⟩;have a1:=aR a1 hbel;have a2:=aR a2 hbel;have a3:=aR a3 hbel;have hF3:=hF2.bel hbel;have hJ3:=hJ kk _ _ hJ2 hbel)
    go_roundw
    case rel=>exact⟨k+1,kk,by omega,by simp,by rw[hdr];simp only[bz];rw[if_neg (by simp[E7,hea,heb])],hkk,hJ3,hF3⟩
    case measure=>simp[intOf];omega
   ·by_cases hsg:0 < r
    ·have hx1:¬ r < -r:=by omega
     cases inn with
     | true=>
      by_cases hnd:eb=node
      ·subst hnd
       have hab:gn r=r:=by unfold gn;omega
       have hdr2:ys.drop kk=(k,r) :: bz eb true (k+1) (segs.drop (k+1)) (rates.drop (k+1)):=by rw[hdr];simp only[bz];rw[if_pos (by simp[E7,hea,heb,hr0]),hab]
       have hyk:ys[kk]? = some (k,r):=by
        have:=congrArg (fun l=>l[0]?) hdr2
        simpa using this
       have hkl:kk < ys.length:=(List.getElem?_eq_some_iff.1 hyk).1
       gi_wp2_with (refine⟨trivial,?_⟩;gi_at_call 254;refine (callsIn_wide.2 (hcall _)).mono ?_;rintro e w3 ⟨rfl,hbel⟩;have a1:=aR a1 hbel;have a2:=aR a2 hbel;have a3:=aR a3 hbel;have hF3:=hF2.bel hbel;have hJ3:=hJ kk _ _ hJ2 hbel;obtain⟨fn,tmps,assign,body,hy,hR⟩:=hY kk _ _ hyk hJ3;unfold dF at hy;dsimp only at hy)
       refine hR.mono ?_
       rintro e W3 ⟨hk3,⟨rfl,hJ4⟩|⟨rfl,hJx3⟩⟩
       ·gi_wp2
        go_roundw
        case rel=>exact⟨k+1,kk+1,by omega,by simp,by rw[←List.drop_drop,hdr2];rfl,hkl,hJ4,hF3.keep g4 hk3⟩
        case measure=>simp[intOf];omega
       ·gi_wp2
        refine bodyPost_ret (results_none rfl _ _ _) rfl ?_
        exact⟨⟨_,rfl⟩,.inr hJx3⟩
      ·have hnx:(eb != node)=true:=by simp[hnd]
       gi_wp2_with (refine⟨trivial,?_⟩;gi_at_call 254;refine (callsIn_wide.2 (hcall _)).mono ?_;rintro e w3 ⟨rfl,hbel⟩;have a1:=aR a1 hbel;have a2:=aR a2 hbel;have a3:=aR a3 hbel;have hF3:=hF2.bel hbel;have hJ3:=hJ kk _ _ hJ2 hbel)
       go_roundw
       case rel=>exact⟨k+1,kk,by omega,by simp,by rw[hdr];simp only[bz];rw[if_neg (by simp[E7,hea,heb,hnd])],hkk,hJ3,hF3⟩
       case measure=>simp[intOf];omega
     | false=>
      by_cases hnd:ea=node
      ·subst hnd
       have hab:gn r=r:=by unfold gn;omega
       have hdr2:ys.drop kk=(k,r) :: bz ea false (k+1) (segs.drop (k+1)) (rates.drop (k+1)):=by rw[hdr];simp only[bz];rw[if_pos (by simp[E7,hea,heb,hr0]),hab]
       have hyk:ys[kk]? = some (k,r):=by
        have:=congrArg (fun l=>l[0]?) hdr2
        simpa using this
       have hkl:kk < ys.length:=(List.getElem?_eq_some_iff.1 hyk).1
       gi_wp2_with (refine⟨trivial,?_⟩;gi_at_call 254;refine (callsIn_wide.2 (hcall _)).mono ?_;rintro e w3 ⟨rfl,hbel⟩;have a1:=aR a1 hbel;have a2:=aR a2 hbel;have a3:=aR a3 hbel;have hF3:=hF2.bel hbel;have hJ3:=hJ kk _ _ hJ2 hbel;obtain⟨fn,tmps,assign,body,hy,hR⟩:=hY kk _ _ hyk hJ3;unfold dF at hy;dsimp only at hy)
       refine hR.mono ?_
       rintro e W3 ⟨hk3,⟨rfl,hJ4⟩|⟨rfl,hJx3⟩⟩
       ·gi_wp2
        go_roundw
        case rel=>exact⟨k+1,kk+1,by omega,by simp,by rw[←List.drop_drop,hdr2];rfl,hkl,hJ4,hF3.keep g4 hk3⟩
        case measure=>simp[intOf];omega
       ·gi_wp2
        refine bodyPost_ret (results_none rfl _ _ _) rfl ?_
        exact⟨⟨_,rfl⟩,.inr hJx3⟩
      ·have hnx:(ea != node)=true:=by simp[hnd]
       gi_wp2_with (refine⟨trivial,?_⟩;gi_at_call 254;refine (callsIn_wide.2 (hcall _)).mono ?_;rintro e w3 ⟨rfl,hbel⟩;have a1:=aR a1 hbel;have a2:=aR a2 hbel;have a3:=aR a3 hbel;have hF3:=hF2.bel hbel;have hJ3:=hJ kk _ _ hJ2 hbel)
       go_roundw
       case rel=>exact⟨k+1,kk,by omega,by simp,by rw[hdr];simp only[bz];rw[if_neg (by simp[E7,hea,heb,hnd])],hkk,hJ3,hF3⟩
       case measure=>simp[intOf];omega
    ·have hx1:r < -r:=by omega
     cases inn with
     | true=>
      by_cases hnd:eb=node
      ·subst hnd
       have hab:gn r=(-r):=by unfold gn;omega
       have hdr2:ys.drop kk=(k,(-r)) :: bz eb true (k+1) (segs.drop (k+1)) (rates.drop (k+1)):=by rw[hdr];simp only[bz];rw[if_pos (by simp[E7,hea,heb,hr0]),hab]
       have hyk:ys[kk]? = some (k,(-r)):=by
        have:=congrArg (fun l=>l[0]?) hdr2
        simpa using this
       have hkl:kk < ys.length:=(List.getElem?_eq_some_iff.1 hyk).1
       gi_wp2_with (refine⟨trivial,?_⟩;gi_at_call 254;refine (callsIn_wide.2 (hcall _)).mono ?_;rintro e w3 ⟨rfl,hbel⟩;have a1:=aR a1 hbel;have a2:=aR a2 hbel;have a3:=aR a3 hbel;have hF3:=hF2.bel hbel;have hJ3:=hJ kk _ _ hJ2 hbel;obtain⟨fn,tmps,assign,body,hy,hR⟩:=hY kk _ _ hyk hJ3;unfold dF at hy;dsimp only at hy)
       refine hR.mono ?_
       rintro e W3 ⟨hk3,⟨rfl,hJ4⟩|⟨rfl,hJx3⟩⟩
       ·gi_wp2
        go_roundw
        case rel=>exact⟨k+1,kk+1,by omega,by simp,by rw[←List.drop_drop,hdr2];rfl,hkl,hJ4,hF3.keep g4 hk3⟩
        case measure=>simp[intOf];omega
       ·gi_wp2
        refine bodyPost_ret (results_none rfl _ _ _) rfl ?_
        exact⟨⟨_,rfl⟩,.inr hJx3⟩
      ·have hnx:(eb != node)=true:=by simp[hnd]
       gi_wp2_with (refine⟨trivial,?_⟩;gi_at_call 254;refine (callsIn_wide.2 (hcall _)).mono ?_;rintro e w3 ⟨rfl,hbel⟩;have a1:=aR a1 hbel;have a2:=aR a2 hbel;have a3:=aR a3 hbel;have hF3:=hF2.bel hbel;have hJ3:=hJ kk _ _ hJ2 hbel)
       go_roundw
       case rel=>exact⟨k+1,kk,by omega,by simp,by rw[hdr];simp only[bz];rw[if_neg (by simp[E7,hea,heb,hnd])],hkk,hJ3,hF3⟩
       case measure=>simp[intOf];omega
     | false=>
      by_cases hnd:ea=node
      ·subst hnd
       have hab:gn r=(-r):=by unfold gn;omega
       have hdr2:ys.drop kk=(k,(-r)) :: bz ea false (k+1) (segs.drop (k+1)) (rates.drop (k+1)):=by rw[hdr];simp only[bz];rw[if_pos (by simp[E7,hea,heb,hr0]),hab]
       have hyk:ys[kk]? = some (k,(-r)):=by
        have:=congrArg (fun l=>l[0]?) hdr2
        simpa using this
       have hkl:kk < ys.length:=(List.getElem?_eq_some_iff.1 hyk).1
       gi_wp2_with (refine⟨trivial,?_⟩;gi_at_call 254;refine (callsIn_wide.2 (hcall _)).mono ?_;rintro e w3 ⟨rfl,hbel⟩;have a1:=aR a1 hbel;have a2:=aR a2 hbel;have a3:=aR a3 hbel;have hF3:=hF2.bel hbel;have hJ3:=hJ kk _ _ hJ2 hbel;obtain⟨fn,tmps,assign,body,hy,hR⟩:=hY kk _ _ hyk hJ3;unfold dF at hy;dsimp only at hy)
       refine hR.mono ?_
       rintro e W3 ⟨hk3,⟨rfl,hJ4⟩|⟨rfl,hJx3⟩⟩
       ·gi_wp2
        go_roundw
        case rel=>exact⟨k+1,kk+1,by omega,by simp,by rw[←List.drop_drop,hdr2];rfl,hkl,hJ4,hF3.keep g4 hk3⟩
        case measure=>simp[intOf];omega
       ·gi_wp2
        refine bodyPost_ret (results_none rfl _ _ _) rfl ?_
        exact⟨⟨_,rfl⟩,.inr hJx3⟩
      ·have hnx:(ea != node)=true:=by simp[hnd]
       gi_wp2_with (refine⟨trivial,?_⟩;gi_at_call 254;refine (callsIn_wide.2 (hcall _)).mono ?_;rintro e w3 ⟨rfl,hbel⟩;have a1:=aR a1 hbel;have a2:=aR a2 hbel;have a3:=aR a3 hbel;have hF3:=hF2.bel hbel;have hJ3:=hJ kk _ _ hJ2 hbel)
       go_roundw
       case rel=>exact⟨k+1,kk,by omega,by simp,by rw[hdr];simp only[bz];rw[if_neg (by simp[E7,hea,heb,hnd])],hkk,hJ3,hF3⟩
       case measure=>simp[intOf];omega
  ·obtain rfl:k=segs.length:=by omega
   have hkl:kk=ys.length:=by
    rw[List.drop_length]at hdr
    have:=congrArg List.length hdr
    simp[bz]at this
    omega
   gi_wp2
   go_end0
   exact⟨⟨_,rfl⟩,.inl (by rw[←hkl];exact hJk)⟩
def vG (x n:Int):Int:=if n < 1 then 0 else x % n
theorem CM {x n:Int} (h:1≤n):0≤vG x n∧vG x n < n:=by
 unfold vG;rw[if_neg (by omega)]
 exact⟨Int.emod_nonneg _ (by omega),Int.emod_lt_of_pos _ (by omega)⟩
theorem I4 {x n:Int} (h:1≤n):vG x n=x % n:=by unfold vG;rw[if_neg (by omega)]
theorem tmod_neg {x n:Int} (h1:1≤n) (h:x.tmod n < 0):x.tmod n+n=x % n:=by
 have h2:=Int.tmod_def x n
 have h3:=Int.emod_def x n
 rw[Int.tmod_eq_emod]at *
 split at h
 ·have:=Int.emod_nonneg x (show n≠0 by omega);omega
 ·rename_i hh
  rw[if_neg hh]
  have:((n.natAbs:Nat):Int)=n:=by omega
  omega
theorem Jg {x n:Int} (h1:1≤n) (h:0≤x.tmod n):x.tmod n=x % n:=by
 rw[Int.tmod_eq_emod]at *
 split
 ·omega
 ·rename_i hh
  rw[if_neg hh]at h
  have h3:((n.natAbs:Nat):Int)=n:=by omega
  have:=Int.emod_lt_of_pos x (show 0 < n by omega)
  omega
theorem Pj (x n:Int) (h2:n≤9223372036854775807):aj Tryz.prog 42 [.t (.int x),.t (.int n)] [] (.t (.int (vG x n))) []:=by
 refine nI Tryz.func42 rfl Tryz.ntmps42 ?_
 by_cases h1:n < 1
 ·have R:vG x n=0:=by unfold vG;rw[if_pos h1]
  refine aJ R ?_
  exact l9 R []
 ·have R:vG x n=x % n:=I4 (by omega)
  have h5:=Int.emod_nonneg x (show n≠0 by omega)
  have h6:=Int.emod_lt_of_pos x (show 0 < n by omega)
  by_cases h3:0≤x
  ·refine aJ R ?_
   exact l9 R []
  ·obtain⟨t,ht⟩:∃ t,t=x.tmod n:=⟨_,rfl⟩
   obtain⟨m,hm⟩:∃ m,m=x % n:=⟨_,rfl⟩
   have h7:t < 0→t+n=m:=by rw[ht,hm];exact tmod_neg (by omega)
   have h8:0≤t→t=m:=by rw[ht,hm];exact Jg (by omega)
   rw[←hm]at h5 h6 R
   have ht':=ht.symm
   clear hm ht
   by_cases h4:t < 0
   ·have h9:=h7 h4
    clear h7 h8
    refine c9 R ht' ?_
    exact BJ R h9 []
   ·have h9:=h8 (by omega)
    clear h7 h8
    refine c9 R ht' ?_
    exact BJ R h9 []
open Go.IntWalk renaming iteOmega → iO, toNatUp → tN
@[go_sem] def aC (n:Int):T:=.int n
@[go_sem] def bB (l:List Int):T:=.sl 1 (l.map aC)
@[go_sem] def Rg (l:List Int) (k:Nat):S:=.t (.agg [bB l,.int k])
@[go_sem] def bu (l:List Int) (k:Nat):aA:=.box 92 (Rg l k)
structure aV (l:List Int) (k:Nat):Prop where
 len:l.length≤2000
 le:k≤l.length
 wf:∀ z∈l,-9223372036854775808≤z∧z≤9223372036854775807
def Dz (l:List Int) (k:Nat):Int:=l.getD k 0
def ai (l:List Int) (k:Nat):Nat:=if k < l.length then k+1 else k
theorem aV.next {l:List Int} {k:Nat} (h:aV l k):aV l (ai l k):=by
 refine⟨h.len,?_,h.wf⟩
 have:=h.le
 unfold ai;split<;>omega
theorem PC (l:List Int) (k:Nat) (h:aV l k):aj Tryz.prog 43 [.pt 0 [] 0] [(0,bu l k)] (.t (.int (Dz l k))) [(0,bu l (ai l k))]:=by
 have h1:=h.len
 have h2:=h.le
 refine nI Tryz.func43 rfl Tryz.ntmps43 ?_
 by_cases hk:k < l.length
 ·obtain⟨z,hz⟩:=aa hk
  have R:Dz l k=z:=by unfold Dz;simp[List.getD,hz]
  have R2:ai l k=k+1:=by unfold ai;rw[if_pos hk]
  refine fg R R2 hz ?_
  exact aF [(0,some 0)]
 ·have R:Dz l k=0:=by unfold Dz;simp[List.getD,List.getElem?_eq_none (show l.length≤k by omega)]
  have R2:ai l k=k:=by unfold ai;rw[if_neg hk]
  refine c9 R R2 ?_
  exact aF [(0,some 0)]
def nV (l:List Int) (k:Nat) (n:Int):Int:=vG (Dz l k) n
theorem bD {l:List Int} {k:Nat} {n:Int} (h:1≤n):0≤nV l k n∧nV l k n < n:=CM h
theorem kv (l:List Int) (k:Nat) (n:Int) (h:aV l k) (hn:n≤9223372036854775807):aj Tryz.prog 13 [.pt 0 [] 0,.t (.int n)] [(0,bu l k)] (.t (.int (nV l k n))) [(0,bu l (ai l k))]:=by
 refine nI Tryz.func13 rfl Tryz.ntmps13 ?_
 refine ah ?_
 refine ax (PC l k h) [(0,0)] ?_
 refine ax (Pj (Dz l k) n hn) [] ?_
 refine ah ?_
 first|rw[av]|rw[ae]
 refine⟨[(0,some 0)],?_⟩
 simp[go_sem,↓iO,iO,tN,nV]
@[go_sem] def xf (p:Int×Int×Int):T:=.agg [.int p.1,.int p.2.1,.int p.2.2]
abbrev eH:=vO×List (Int×Int×Int)
@[go_sem] def bA (s:eH):T:=.agg [.lit (.string (str s.1.nm)),.int s.1.fr,.int s.1.to,.int s.1.cp,.int s.1.rs,.int s.1.wv,.sl 3 (s.2.map xf)]
@[go_sem] def dO (p:jz):T:=.agg [.lit (.string (str p.1)),.int p.2.1,.int p.2.2]
theorem Aw (x:T):x.at []=some (0,x):=by cases x<;>simp[T.at]
theorem qj {F:Nat→Prop} {W:World} {s:Nat} {xs:List T} {v:Value} (h:aO F W (.sl s xs) v) (hne:xs≠[]) :
  ∃ b o c,v = .slice (some ⟨b,o,none⟩) xs.length c∧xs.length≤c∧F b∧∀ i x,xs[i]? = some x→∃ u,aO F W x u∧∀ j y,u.cells.toList[j]? = some y→W.cell? ⟨b,o+(i * s+j),none⟩=some y:=by
 unfold aO at h
 obtain⟨x,cap,cells,rfl,h2,h3,h4⟩:=h
 rcases h4.cells with h5|⟨b,o,rfl,hF,h5⟩
 ·exact (hne (List.length_eq_zero_iff.1 h5)).elim
 ·refine⟨b,o,cap,rfl,h4.le,hF,fun i x hx=>?_⟩
  obtain⟨u,hu,h6,_⟩:=ay.get h2 hx
  refine⟨u,hu,fun j y hj=>?_⟩
  have h7:=h6 j y hj
  rw[aG h3 (Nat.le_of_lt (List.getElem?_eq_some_iff.1 hx).1)]at h7
  exact h5 _ _ h7
theorem MJ {F:Nat→Prop} {W:World} {n:Int} {u:Value} (h:aO F W (.int n) u):u = .int .i64 n:=by unfold aO at h;exact h.1
theorem yE {G:Gh} {W:World} {l:Nat} {u:Value} (h:ar G W (.pt l [] 0) u):∃ b,aW (G.β l)=some b∧u = .pointer (some ⟨b,0,none⟩):=by unfold ar at h;exact h
theorem o8 {G:Gh} {W:World} {h:Nat→Option aA} (hh:bn G W h) {l:Nat} {blk:aA} (hl:h l=some blk) {b:Nat} (hb:aW (G.β l)=some b) {p:List Nat} {off:Nat} {y:S} (ha:blk.at p=some (off,y)) :
  ∃ v,ar G W y v∧v.cells.size=y.width∧(∀ c∈v.cells.toList,c.oneCell'=true)∧∀ j c,v.cells.toList[j]? = some c→W.cell? ⟨b,off+j,none⟩=some c:=bH.at_spec (hh.rep l blk hl) (hh.inn l blk hl) ha hb
theorem tb {v:Value} {b off:Nat} {W:World} (h:∀ j c,v.cells.toList[j]? = some c→W.cell? ⟨b,off+j,none⟩=some c) (hv:v.oneCell'=true):W.cell? ⟨b,off,none⟩=some v:=h 0 v (by rw[dR hv];rfl)
def eJ (l1 l2 l3 lx:Nat) (c2 c3:S) (e2 e3:TypeId) (net plan:List T) (rest:List S):List (Nat×aA):=
 [(l1,.box 159 (.pt lx [] 0)),(l2,.box e2 c2),(l3,.box e3 c3),(lx,.box 164 (.ag (.t (.agg net) :: .t (.agg plan) :: rest)))]
theorem mK {l1 l2 l3 lx:Nat} {c2 c3:T} {e2 e3:TypeId} {net plan:List T} {rest:List S} {lb:List Value} {F:Nat→Prop} {W:World} (hd:di [l1,l2,l3,lx]=true)
  (h:OR (eJ l1 l2 l3 lx (.t c2) (.t c3) e2 e3 net plan rest) [.pt l1 [] 0,.pt l2 [] 0,.pt l3 [] 0] lb F W):∃ (b1 b2 b3 xb:Nat) (v2 v3:Value) (G:Gh),G.F=F∧lb=[.pointer (some ⟨b1,0,none⟩),.pointer (some ⟨b2,0,none⟩),.pointer (some ⟨b3,0,none⟩)]∧
   W.cell? ⟨b1,0,none⟩=some (.pointer (some ⟨xb,0,none⟩))∧aO F W c2 v2∧(v2.oneCell'=true→W.cell? ⟨b2,0,none⟩=some v2)∧aO F W c3 v3∧(v3.oneCell'=true→W.cell? ⟨b3,0,none⟩=some v3)∧
   (∀ p off y,(aA.box 164 (.ag (.t (.agg net) :: .t (.agg plan) :: rest))).at p=some (off,.t y)→∃ v,aO F W y v∧∀ j c,v.cells.toList[j]? = some c→W.cell? ⟨xb,off+j,none⟩=some c):=by
 obtain⟨G,hF,hh,hc⟩:=h
 simp only[di,List.contains_cons,List.contains_nil,Bool.or_false,Bool.and_true,Bool.not_false,Bool.and_eq_true,Bool.not_eq_true',Bool.or_eq_false_iff,beq_eq_false_iff_ne]at hd
 obtain⟨⟨d1,d2,d3⟩,⟨d4,d5⟩,d6⟩:=hd
 have k1:bc (eJ l1 l2 l3 lx (.t c2) (.t c3) e2 e3 net plan rest) l1=some (.box 159 (.pt lx [] 0)):=by simp[eJ,bc]
 have k2:bc (eJ l1 l2 l3 lx (.t c2) (.t c3) e2 e3 net plan rest) l2=some (.box e2 (.t c2)):=by simp[eJ,bc,Ne.symm d1]
 have k3:bc (eJ l1 l2 l3 lx (.t c2) (.t c3) e2 e3 net plan rest) l3=some (.box e3 (.t c3)):=by simp[eJ,bc,Ne.symm d2,Ne.symm d4]
 have k4:bc (eJ l1 l2 l3 lx (.t c2) (.t c3) e2 e3 net plan rest) lx=some (.box 164 (.ag (.t (.agg net) :: .t (.agg plan) :: rest))):=by simp[eJ,bc,Ne.symm d3,Ne.symm d5,Ne.symm d6]
 unfold aD at hc
 obtain⟨u1,r1,rfl,m1,hc⟩:=hc
 unfold aD at hc
 obtain⟨u2,r2,rfl,m2,hc⟩:=hc
 unfold aD at hc
 obtain⟨u3,r3,rfl,m3,hc⟩:=hc
 unfold aD at hc
 subst hc
 obtain⟨b1,n1,rfl⟩:=yE m1
 obtain⟨b2,n2,rfl⟩:=yE m2
 obtain⟨b3,n3,rfl⟩:=yE m3
 obtain⟨w1,q1,_,q2,q3⟩:=o8 hh k1 n1 (p:=[]) (off:=0) (y:=.pt lx [] 0) (by simp[aA.at,S.at])
 obtain⟨xb,n4,rfl⟩:=yE q1
 obtain⟨v2,t1,_,t2,t3⟩:=o8 hh k2 n2 (p:=[]) (off:=0) (y:=.t c2) (by simp[aA.at,S.at,Aw])
 obtain⟨v3,s1,_,s2,s3⟩:=o8 hh k3 n3 (p:=[]) (off:=0) (y:=.t c3) (by simp[aA.at,S.at,Aw])
 unfold ar at t1 s1
 rw[hF]at t1 s1
 refine⟨b1,b2,b3,xb,v2,v3,G,hF,rfl,tb q3 rfl,t1,fun h=>tb t3 h,s1,fun h=>tb s3 h,fun p off y ha=>?_⟩
 obtain⟨v,z1,_,_,z2⟩:=o8 hh k4 n4 ha
 unfold ar at z1
 rw[hF]at z1
 exact⟨v,z1,z2⟩
theorem Ok {F:Nat→Prop} {W:World} {b o:Nat} {ports:List jz} (h:∀ i x,(ports.map dO)[i]? = some x→∃ u,aO F W x u∧∀ j y,u.cells.toList[j]? = some y→W.cell? ⟨b,o+(i * 3+j),none⟩=some y):oY b o ports W:=by
 intro i p hp
 obtain⟨u,hu,hc⟩:=h i (dO p) (by rw[List.getElem?_map,hp];rfl)
 unfold dO aO at hu
 obtain⟨cells,rfl,hu⟩:=hu
 unfold ay at hu
 obtain⟨v1,c1,rfl,h1,hu⟩:=hu
 unfold ay at hu
 obtain⟨v2,c2,rfl,h2,hu⟩:=hu
 unfold ay at hu
 obtain⟨v3,c3,rfl,h3,hu⟩:=hu
 unfold ay at hu
 subst hu
 unfold aO at h1 h2 h3
 obtain⟨rfl,_⟩:=h1
 obtain⟨rfl,_⟩:=h2
 obtain⟨rfl,_⟩:=h3
 refine⟨?_,?_,?_⟩
 ·have:=hc 0 _ rfl;simpa [Nat.add_assoc] using this
 ·have:=hc 1 _ rfl;simpa [Nat.add_assoc] using this
 ·have:=hc 2 _ rfl;simpa [Nat.add_assoc] using this
theorem OG {F:Nat→Prop} {W:World} {b o:Nat} {segs:List eH} (h:∀ i x,(segs.map bA)[i]? = some x→∃ u,aO F W x u∧∀ j y,u.cells.toList[j]? = some y→W.cell? ⟨b,o+(i * 7+j),none⟩=some y):oE b o (segs.map (·.1)) W:=by
 intro i p hp
 rw[List.getElem?_map]at hp
 obtain⟨⟨p',pts⟩,hp1,rfl⟩:=Option.map_eq_some_iff.1 hp
 obtain⟨u,hu,hc⟩:=h i (bA (p',pts)) (by rw[List.getElem?_map,hp1];rfl)
 unfold bA aO at hu
 obtain⟨cells,rfl,hu⟩:=hu
 unfold ay at hu
 obtain⟨v1,c1,rfl,h1,hu⟩:=hu
 unfold ay at hu
 obtain⟨v2,c2,rfl,h2,hu⟩:=hu
 unfold ay at hu
 obtain⟨v3,c3,rfl,h3,hu⟩:=hu
 unfold ay at hu
 obtain⟨v4,c4,rfl,h4,hu⟩:=hu
 unfold ay at hu
 obtain⟨v5,c5,rfl,h5,hu⟩:=hu
 unfold ay at hu
 obtain⟨v6,c6,rfl,h6,hu⟩:=hu
 unfold ay at hu
 obtain⟨v7,c7,rfl,h7,hu⟩:=hu
 unfold ay at hu
 subst hu
 unfold aO at h1 h2 h3 h4 h5 h6 h7
 obtain⟨rfl,_⟩:=h1
 obtain⟨rfl,_⟩:=h2
 obtain⟨rfl,_⟩:=h3
 obtain⟨rfl,_⟩:=h4
 obtain⟨rfl,_⟩:=h5
 obtain⟨rfl,_⟩:=h6
 obtain⟨x7,cap7,cs7,rfl,_⟩:=h7
 refine⟨?_,?_,?_,?_,?_,?_,x7,(pts.map xf).length,cap7,?_⟩
 ·have:=hc 0 _ rfl;simpa [Nat.add_assoc] using this
 ·have:=hc 1 _ rfl;simpa [Nat.add_assoc] using this
 ·have:=hc 2 _ rfl;simpa [Nat.add_assoc] using this
 ·have:=hc 3 _ rfl;simpa [Nat.add_assoc] using this
 ·have:=hc 4 _ rfl;simpa [Nat.add_assoc] using this
 ·have:=hc 5 _ rfl;simpa [Nat.add_assoc] using this
 ·have:=hc 6 _ rfl;simpa [Nat.add_assoc] using this
theorem BR {F:Nat→Prop} {W:World} {v:Value} {rates:List Int} (h:aO F W (.sl 1 (rates.map aC)) v) (hne:rates≠[]):∃ rb ro rc,v = .slice (some ⟨rb,ro,none⟩) rates.length rc∧rates.length≤rc∧∀ i r,rates[i]? = some r→W.cell? ⟨rb,ro+i,none⟩=some (.int .i64 r):=by
 obtain⟨b,o,c,rfl,h1,_,h2⟩:=qj h (by simpa using hne)
 refine⟨b,o,c,by simp,by simpa using h1,fun i r hr=>?_⟩
 obtain⟨u,hu,h3⟩:=h2 i (aC r) (by rw[List.getElem?_map,hr];rfl)
 unfold aC at hu
 obtain rfl:=MJ hu
 have:=h3 0 _ rfl
 simpa using this
theorem nM (l1 l2 l3 lx:Nat) (hd:di [l1,l2,l3,lx]=true) (node:Int) (inn:Bool) (nodes segsT statT:T) (ports:List jz) (vap stl:T) (ratesT pumpsT:T) (rates:List Int) (rest:List S) (hw1:nodes.width=1) (hw2:segsT.width=1) (hw3:ratesT.width=1) (hw4:statT.width=1) (hw5:vap.width=1) (hw6:stl.width=1)
  (hlen:rates.length=ports.length) (hne:ports≠[]) (hl2:ports.length≤1000) (hrate:∀ r∈rates,-1000000000≤r∧r≤1000000000) :
  D1 Tryz.prog 264 [.pt l1 [] 0,.pt l2 [] 0,.pt l3 [] 0] (eJ l1 l2 l3 lx (.t (.int node)) (.t (.bool inn)) 3 4 [nodes,segsT,.sl 3 (ports.map dO),statT,vap,stl] [ratesT,.sl 1 (rates.map aC),pumpsT] rest)
   ((cd node inn 0 ports rates).map dF):=by
 intro lb F0 l J Jx W hR0 hJ hJx hRd hY h0
 have hrne:rates≠[]:=by
  intro e;rw[e]at hlen;exact hne (List.length_eq_zero_iff.1 hlen.symm)
 obtain⟨b1,b2,b3,xb,v2,v3,G,_,rfl,c1,c2,c2',c3,c3',cx⟩:=mK hd hR0
 obtain⟨v,k1,k2⟩:=cx [0,2] 2 (.sl 3 (ports.map dO)) (by simp[aA.at,S.at,T.at,S.widths,S.width,T.width,T.widths,hw1,hw2])
 obtain⟨pb,po,pc,rfl,k3,k4,k5⟩:=qj k1 (by simpa using hne)
 have hcp:=k2 0 _ rfl
 simp only[List.length_map]at hcp k3
 have hlb:([Value.pointer (some ⟨b1,0,none⟩),.pointer (some ⟨b2,0,none⟩),.pointer (some ⟨b3,0,none⟩)]:List Value).toArray=#[.pointer (some ⟨b1,0,none⟩),.pointer (some ⟨b2,0,none⟩),.pointer (some ⟨b3,0,none⟩)]:=rfl
 rw[hlb]
 have:=G3 l b1 b2 b3 node inn ports rates hlen hl2 hrate F0 J Jx W hJ hJx ?_ ?_ h0 xb pb po pc c1 hcp k3 k4 (Ok k5)
 ·rw[List.length_map];exact this
 ·intro k A hA
  obtain⟨F,hF⟩:=hRd k A hA
  obtain⟨b1',b2',b3',xb',v2',v3',G',_,e,d1,d2,d2',d3,d3',dx⟩:=mK hd hF
  simp only[List.cons.injEq,Value.pointer.injEq,Option.some.injEq,Addr.mk.injEq,and_true]at e
  obtain⟨rfl,rfl,rfl⟩:=e
  obtain⟨v,j1,j2⟩:=dx [1,1] 7 (.sl 1 (rates.map aC)) (by simp[aA.at,S.at,T.at,S.widths,S.width,T.width,T.widths,hw1,hw2,hw3,hw4,hw5,hw6])
  obtain⟨rb,ro,rc,rfl,j3,j4⟩:=BR j1 hrne
  unfold aO at d2 d3
  obtain⟨rfl,_⟩:=d2
  obtain⟨rfl,_⟩:=d3
  exact⟨xb',rb,ro,rc,d1,d2' rfl,d3' rfl,j2 0 _ rfl,j3,j4⟩
 ·intro k y A hy hA
  exact hY k (dF y) A (by rw[List.getElem?_map,hy];rfl) hA
theorem qx (l1 l2 l3 lx:Nat) (hd:di [l1,l2,l3,lx]=true) (node:Int) (inn:Bool) (nodes portsT statT:T) (segs:List eH) (vap stl:T) (pratesT pumpsT:T) (rates:List Int) (rest:List S) (hw1:nodes.width=1) (hw2:portsT.width=1) (hw4:statT.width=1) (hw5:vap.width=1) (hw6:stl.width=1)
  (hlen:rates.length=segs.length) (hne:segs≠[]) (hl2:segs.length≤1000) (hrate:∀ r∈rates,-1000000000≤r∧r≤1000000000) :
  D1 Tryz.prog 265 [.pt l1 [] 0,.pt l2 [] 0,.pt l3 [] 0] (eJ l1 l2 l3 lx (.t (.bool inn)) (.t (.int node)) 4 3 [nodes,.sl 7 (segs.map bA),portsT,statT,vap,stl] [.sl 1 (rates.map aC),pratesT,pumpsT] rest)
   ((bz node inn 0 (segs.map (·.1)) rates).map dF):=by
 intro lb F0 l J Jx W hR0 hJ hJx hRd hY h0
 have hrne:rates≠[]:=by
  intro e;rw[e]at hlen;exact hne (List.length_eq_zero_iff.1 hlen.symm)
 obtain⟨b1,b2,b3,xb,v2,v3,G,_,rfl,c1,c2,c2',c3,c3',cx⟩:=mK hd hR0
 obtain⟨v,k1,k2⟩:=cx [0,1] 1 (.sl 7 (segs.map bA)) (by simp[aA.at,S.at,T.at,S.widths,S.width,T.width,T.widths,hw1])
 obtain⟨pb,po,pc,rfl,k3,k4,k5⟩:=qj k1 (by simpa using hne)
 have hcp:=k2 0 _ rfl
 simp only[List.length_map]at hcp k3
 have hlb:([Value.pointer (some ⟨b1,0,none⟩),.pointer (some ⟨b2,0,none⟩),.pointer (some ⟨b3,0,none⟩)]:List Value).toArray=#[.pointer (some ⟨b1,0,none⟩),.pointer (some ⟨b2,0,none⟩),.pointer (some ⟨b3,0,none⟩)]:=rfl
 rw[hlb]
 have:=Kq l b1 b2 b3 node inn (segs.map (·.1)) rates (by simpa using hlen) (by simpa using hl2) hrate F0 J Jx W hJ hJx ?_ ?_ h0 xb pb po pc c1 (by simpa using hcp) (by simpa using k3) k4 (OG k5)
 ·rw[List.length_map];exact this
 ·intro k A hA
  obtain⟨F,hF⟩:=hRd k A hA
  obtain⟨b1',b2',b3',xb',v2',v3',G',_,e,d1,d2,d2',d3,d3',dx⟩:=mK hd hF
  simp only[List.cons.injEq,Value.pointer.injEq,Option.some.injEq,Addr.mk.injEq,and_true]at e
  obtain⟨rfl,rfl,rfl⟩:=e
  obtain⟨v,j1,j2⟩:=dx [1,0] 6 (.sl 1 (rates.map aC)) (by simp[aA.at,S.at,T.at,S.widths,S.width,T.width,T.widths,hw1,hw2,hw4,hw5,hw6])
  obtain⟨rb,ro,rc,rfl,j3,j4⟩:=BR j1 hrne
  unfold aO at d2 d3
  obtain⟨rfl,_⟩:=d2
  obtain⟨rfl,_⟩:=d3
  exact⟨xb',rb,ro,rc,d1,d2' rfl,d3' rfl,j2 0 _ rfl,j3,j4⟩
 ·intro k y A hy hA
  exact hY k (dF y) A (by rw[List.getElem?_map,hy];rfl) hA
end Go.Proofs.YtocndodilpimnaaGreat
namespace Go.Proofs.YtocndodilpimnaaGreat.Pc
def bN:List (Int×Int)→Int
 | []=>0
 | p :: r=>p.2+bN r
theorem eR (a b:List (Int×Int)):bN (a++b)=bN a+bN b:=by
 induction a with
 | nil=>simp[bN]
 | cons p r ih=>simp[bN,ih];omega
theorem lT {l:List (Int×Int)} {k:Nat} {p:Int×Int} (h:l[k]? = some p):bN (l.take (k+1))=bN (l.take k)+p.2:=by
 obtain⟨hk,rfl⟩:=List.getElem?_eq_some_iff.1 h
 rw[List.take_succ_eq_append_getElem hk,eR];simp[bN]
structure jd (ps:List (Int×Int)):Prop where
 len:ps.length≤100000
 each:∀ p∈ps,0≤p.2∧p.2≤1000000
theorem wC (ps:List (Int×Int)) (h:∀ p∈ps,0≤p.2∧p.2≤1000000):0≤bN ps∧bN ps≤1000000 * (ps.length:Int):=by
 induction ps with
 | nil=>simp[bN]
 | cons p r ih=>
  have h1:=ih fun q hq=>h q (List.mem_cons_of_mem _ hq)
  have h2:=h p (List.mem_cons_self)
  simp only[bN,List.length_cons]
  omega
theorem jd.bN {ps:List (Int×Int)} (h:jd ps):0≤bN ps∧bN ps≤100000000000:=by
 have h1:=wC ps h.each
 have h2:=h.len
 omega
theorem jd.take {ps:List (Int×Int)} (h:jd ps) (k:Nat):jd (ps.take k):=
 ⟨by rw[List.length_take];have:=h.len;omega,fun p hp=>h.each p (List.mem_of_mem_take hp)⟩
def aQ (ps:List (Int×Int)):List Int:=ps.flatMap fun p=>List.replicate p.2.toNat p.1
theorem DG:aQ []=[]:=rfl
theorem dA (p:Int×Int) (r:List (Int×Int)):aQ (p :: r)=List.replicate p.2.toNat p.1++aQ r:=rfl
theorem ey (a b:List (Int×Int)):aQ (a++b)=aQ a++aQ b:=by simp[aQ]
theorem dE (ps:List (Int×Int)) (h:∀ p∈ps,0≤p.2):((aQ ps).length:Int)=bN ps:=by
 induction ps with
 | nil=>rfl
 | cons p r ih=>
  have h1:=ih fun q hq=>h q (List.mem_cons_of_mem _ hq)
  have h2:=h p (List.mem_cons_self)
  rw[dA,List.length_append,List.length_replicate,bN]
  omega
def Canon:List (Int×Int)→Prop
 | []=>True
 | p :: r=>0 < p.2∧(∀ q,r.head? = some q→p.1≠q.1)∧Canon r
theorem Canon.pos {ps:List (Int×Int)} (h:Canon ps):∀ p∈ps,0 < p.2:=by
 induction ps with
 | nil=>simp
 | cons p r ih=>
  intro q hq
  rcases List.mem_cons.1 hq with rfl|hq
  ·exact h.1
  ·exact ih h.2.2 q hq
theorem kR (a:List (Int×Int)) (p:Int×Int):Canon (a++[p])↔Canon a∧0 < p.2∧∀ q,a.getLast? = some q→q.1≠p.1:=by
 induction a with
 | nil=>simp[Canon]
 | cons x r ih=>
  rw[List.cons_append]
  cases r with
  | nil=>
   simp[Canon]
   intro _
   exact And.comm
  | cons y s=>
   have e:(x :: y :: s).getLast? = (y :: s).getLast?:=by simp[List.getLast?_cons_cons]
   rw[e]
   simp only[Canon]at ih ⊢
   rw[show (y :: s++[p]).head? = some y by simp]
   constructor
   ·rintro ⟨h1,h2,h3⟩
    have:=ih.1 h3
    exact⟨⟨h1,by simpa using h2,this.1⟩,this.2⟩
   ·rintro ⟨⟨h1,h2,h3⟩,h4⟩
    exact⟨h1,by simpa using h2,ih.2 ⟨h3,h4⟩⟩
theorem fL {ps:List (Int×Int)} (h:Canon ps):(aQ ps).head? = ps.head?.map Prod.fst:=by
 cases ps with
 | nil=>rfl
 | cons p r=>
  have:=h.1
  obtain⟨n,hn⟩:∃ n,p.2.toNat=n+1:=⟨p.2.toNat - 1,by omega⟩
  rw[dA,hn,List.replicate_succ]
  simp
theorem O6 {b:Int} {l m:List Int} (hl:∀ x,l.head? = some x→x≠b) (hm:∀ x,m.head? = some x→x≠b):∀ {u v:Nat},List.replicate u b++l=List.replicate v b++m→u=v∧l=m:=by
 intro u
 induction u with
 | zero=>
  intro v h
  cases v with
  | zero=>simpa using h
  | succ v=>
   rw[List.replicate_succ]at h
   simp at h
   exact absurd rfl (hl b (by rw[h];rfl))
 | succ u ih=>
  intro v h
  cases v with
  | zero=>
   rw[List.replicate_succ]at h
   simp at h
   exact absurd rfl (hm b (by rw[←h];rfl))
  | succ v=>
   rw[List.replicate_succ,List.replicate_succ]at h
   simp only[List.cons_append,List.cons.injEq,true_and]at h
   have:=ih h
   exact⟨by omega,this.2⟩
theorem yh:∀ {a b:List (Int×Int)},Canon a→Canon b→aQ a=aQ b→a=b:=by
 intro a
 induction a with
 | nil=>
  intro b _ hb h
  cases b with
  | nil=>rfl
  | cons q s=>
   have:=fL hb
   rw[←h]at this
   simp[aQ]at this
 | cons p r ih=>
  intro b ha hb h
  cases b with
  | nil=>
   have:=fL ha
   rw[h]at this
   simp[aQ]at this
  | cons q s=>
   have h1:=fL ha
   have h2:=fL hb
   rw[h,h2]at h1
   simp at h1
   rw[dA,dA,h1]at h
   have k1:∀ x,(aQ r).head? = some x→x≠p.1:=by
    intro x hx
    rw[fL ha.2.2]at hx
    obtain⟨q',hq',rfl⟩:=Option.map_eq_some_iff.1 hx
    exact fun e=>ha.2.1 q' hq' e.symm
   have k2:∀ x,(aQ s).head? = some x→x≠p.1:=by
    intro x hx
    rw[fL hb.2.2]at hx
    obtain⟨q',hq',rfl⟩:=Option.map_eq_some_iff.1 hx
    exact fun e=>hb.2.1 q' hq' (by rw[h1];exact e.symm)
   have:=O6 k1 k2 h
   have e:=ih ha.2.2 hb.2.2 this.2
   have hp:=ha.1
   have hq:=hb.1
   have:p=q:=Prod.ext h1.symm (by omega)
   rw[this,e]
def ff (out:List (Int×Int)) (p:Int×Int):List (Int×Int):=
 if p.2=0 then out else
  match out.getLast? with
  | some q=>if q.1=p.1 then out.dropLast++[(q.1,q.2+p.2)] else out++[p]
  | none=>out++[p]
def join (ps:List (Int×Int)):List (Int×Int):=ps.foldl ff []
theorem Gz {ps:List (Int×Int)} {k:Nat} {p:Int×Int} (h:ps[k]? = some p):join (ps.take (k+1))=ff (join (ps.take k)) p:=by
 obtain⟨hk,rfl⟩:=List.getElem?_eq_some_iff.1 h
 unfold join
 rw[List.take_succ_eq_append_getElem hk,List.foldl_append]
 rfl
theorem sX {out:List (Int×Int)} {p:Int×Int} (h:p.2=0):ff out p=out:=by unfold ff;rw[if_pos h]
theorem nE {out:List (Int×Int)} {p q:Int×Int} (h:p.2≠0) (hq:out.getLast? = some q) (e:q.1=p.1):ff out p=out.dropLast++[(q.1,q.2+p.2)]:=by unfold ff;rw[if_neg h,hq];simp[e]
theorem iu {out:List (Int×Int)} {p:Int×Int} (h:p.2≠0) (hq:∀ q,out.getLast? = some q→q.1≠p.1):ff out p=out++[p]:=by
 unfold ff
 rw[if_neg h]
 cases hl:out.getLast? with
 | none=>rfl
 | some q=>simp[hq q hl]
theorem yF {out:List (Int×Int)} {p:Int×Int}:(ff out p).length≤out.length+1:=by
 unfold ff
 split
 ·omega
 ·cases hl:out.getLast? with
  | none=>simp
  | some q=>
   have:out≠[]:=by intro e;rw[e]at hl;cases hl
   have:=List.length_pos_iff.2 this
   dsimp only
   split<;>simp<;>omega
theorem xQ (ps:List (Int×Int)):∀ out,(ps.foldl ff out).length≤out.length+ps.length:=by
 induction ps with
 | nil=>simp
 | cons p r ih=>
  intro out
  have:=ih (ff out p)
  have:=@yF out p
  simp only[List.foldl_cons,List.length_cons]
  omega
theorem fG (ps:List (Int×Int)):(join ps).length≤ps.length:=by
 have:=xQ ps []
 simpa [join] using this
theorem CV {out:List (Int×Int)} {q:Int×Int} (h:out.getLast? = some q):out=out.dropLast++[q]:=by
 have hne:out≠[]:=by intro e;rw[e]at h;cases h
 have h2:=List.dropLast_concat_getLast hne
 rw[List.getLast?_eq_some_getLast hne]at h
 cases h
 exact h2.symm
theorem BQ {out:List (Int×Int)} {p:Int×Int} (h:Canon out) (hp:0≤p.2):Canon (ff out p)∧aQ (ff out p)=aQ out++List.replicate p.2.toNat p.1∧bN (ff out p)=bN out+p.2:=by
 by_cases h0:p.2=0
 ·rw[sX h0,h0];simp[h]
 ·cases hl:out.getLast? with
  | none=>
   rw[iu h0 (by rw[hl];intro q hq;cases hq)]
   refine⟨(kR _ _).2 ⟨h,by omega,by rw[hl];intro q hq;cases hq⟩,?_,?_⟩
   ·rw[ey];simp[aQ]
   ·rw[eR];simp[bN]
  | some q=>
   by_cases e:q.1=p.1
   ·rw[nE h0 hl e]
    have hs:=CV hl
    have hc:Canon (out.dropLast++[q]):=by rw[←hs];exact h
    have hc2:=(kR _ _).1 hc
    refine⟨(kR _ _).2 ⟨hc2.1,by have:=hc2.2.1;simp;omega,hc2.2.2⟩,?_,?_⟩
    ·conv=>rhs;rw[hs]
     rw[ey,ey,List.append_assoc]
     congr 1
     have:=hc2.2.1
     simp only[aQ,List.flatMap_cons,List.flatMap_nil,List.append_nil]
     rw[←e,List.replicate_append_replicate]
     congr 1
     omega
    ·conv=>rhs;rw[hs]
     rw[eR,eR]
     simp[bN];omega
   ·rw[iu h0 (by rw[hl];intro q' hq';cases hq';exact e)]
    refine⟨(kR _ _).2 ⟨h,by omega,by rw[hl];intro q' hq';cases hq';exact e⟩,?_,?_⟩
    ·rw[ey];simp[aQ]
    ·rw[eR];simp[bN]
theorem mc (ps:List (Int×Int)) (hp:∀ p∈ps,0≤p.2):∀ out,Canon out→Canon (ps.foldl ff out)∧aQ (ps.foldl ff out)=aQ out++aQ ps∧bN (ps.foldl ff out)=bN out+bN ps:=by
 induction ps with
 | nil=>intro out h;simp[aQ,bN,h]
 | cons p r ih=>
  intro out h
  have h1:=BQ h (hp p (List.mem_cons_self))
  have h2:=ih (fun q hq=>hp q (List.mem_cons_of_mem _ hq)) _ h1.1
  refine⟨h2.1,?_,?_⟩
  ·rw[List.foldl_cons,h2.2.1,h1.2.1,dA,List.append_assoc]
  ·rw[List.foldl_cons,h2.2.2,h1.2.2,bN];omega
theorem iB {ps:List (Int×Int)} (hp:∀ p∈ps,0≤p.2):Canon (join ps):=(mc ps hp [] trivial).1
theorem lj {ps:List (Int×Int)} (hp:∀ p∈ps,0≤p.2):aQ (join ps)=aQ ps:=by have:=(mc ps hp [] trivial).2.1;rwa [DG,List.nil_append]at this
theorem zF {ps:List (Int×Int)} (hp:∀ p∈ps,0≤p.2):bN (join ps)=bN ps:=by have:=(mc ps hp [] trivial).2.2;rwa [bN,Int.zero_add]at this
theorem join_self {ps:List (Int×Int)} (h:Canon ps):join ps=ps:=by
 have hp:∀ p∈ps,0≤p.2:=fun p hp=>by have:=h.pos p hp;omega
 exact yh (iB hp) h (lj hp)
def dp:List (Int×Int)→Int→List (Int×Int)
 | [],_=>[]
 | p :: r,k=>(p.1,min p.2 k) :: dp r (k - min p.2 k)
def dq:List (Int×Int)→Int→List (Int×Int)
 | [],_=>[]
 | p :: r,k=>(p.1,p.2 - min p.2 k) :: dq r (k - min p.2 k)
def rest:List (Int×Int)→Int→Int
 | [],k=>k
 | p :: r,k=>rest r (k - min p.2 k)
theorem kU (ps:List (Int×Int)):∀ k,(dp ps k).length=ps.length:=by
 induction ps with
 | nil=>intro k;rfl
 | cons p r ih=>intro k;simp[dp,ih]
theorem kF (ps:List (Int×Int)):∀ k,(dq ps k).length=ps.length:=by
 induction ps with
 | nil=>intro k;rfl
 | cons p r ih=>intro k;simp[dq,ih]
theorem ym (a b:List (Int×Int)):∀ k,dp (a++b) k=dp a k++dp b (rest a k):=by
 induction a with
 | nil=>intro k;rfl
 | cons p r ih=>intro k;simp[dp,rest,ih]
theorem zj (a b:List (Int×Int)):∀ k,dq (a++b) k=dq a k++dq b (rest a k):=by
 induction a with
 | nil=>intro k;rfl
 | cons p r ih=>intro k;simp[dq,rest,ih]
theorem Ag (a b:List (Int×Int)):∀ k,rest (a++b) k=rest b (rest a k):=by
 induction a with
 | nil=>intro k;rfl
 | cons p r ih=>intro k;simp[rest,ih]
theorem D5 {ps:List (Int×Int)} {i:Nat} {p:Int×Int} (k:Int) (h:ps[i]? = some p):dp (ps.take (i+1)) k=dp (ps.take i) k++[(p.1,min p.2 (rest (ps.take i) k))]:=by
 obtain⟨hk,rfl⟩:=List.getElem?_eq_some_iff.1 h
 rw[List.take_succ_eq_append_getElem hk,ym];rfl
theorem Cu {ps:List (Int×Int)} {i:Nat} {p:Int×Int} (k:Int) (h:ps[i]? = some p):dq (ps.take (i+1)) k=dq (ps.take i) k++[(p.1,p.2 - min p.2 (rest (ps.take i) k))]:=by
 obtain⟨hk,rfl⟩:=List.getElem?_eq_some_iff.1 h
 rw[List.take_succ_eq_append_getElem hk,zj];rfl
theorem HD {ps:List (Int×Int)} {i:Nat} {p:Int×Int} (k:Int) (h:ps[i]? = some p):rest (ps.take (i+1)) k=rest (ps.take i) k - min p.2 (rest (ps.take i) k):=by
 obtain⟨hk,rfl⟩:=List.getElem?_eq_some_iff.1 h
 rw[List.take_succ_eq_append_getElem hk,Ag];rfl
theorem D0 (ps:List (Int×Int)) (hp:∀ p∈ps,0≤p.2):∀ k,0≤k→0≤rest ps k∧rest ps k≤k:=by
 induction ps with
 | nil=>intro k h;exact⟨h,Int.le_refl _⟩
 | cons p r ih=>
  intro k h
  have h1:=hp p (List.mem_cons_self)
  have:=ih (fun q hq=>hp q (List.mem_cons_of_mem _ hq)) (k - min p.2 k) (by omega)
  simp only[rest]
  omega
theorem DP (ps:List (Int×Int)) (hp:∀ p∈ps,0≤p.2∧p.2≤1000000):∀ k,0≤k→∀ p∈dp ps k,0≤p.2∧p.2≤1000000:=by
 induction ps with
 | nil=>intro k _ p h;cases h
 | cons q r ih=>
  intro k hk p h
  have h1:=hp q (List.mem_cons_self)
  rcases List.mem_cons.1 h with rfl|h
  ·simp only;omega
  ·exact ih (fun x hx=>hp x (List.mem_cons_of_mem _ hx)) _ (by omega) p h
theorem Dd (ps:List (Int×Int)) (hp:∀ p∈ps,0≤p.2∧p.2≤1000000):∀ k,0≤k→∀ p∈dq ps k,0≤p.2∧p.2≤1000000:=by
 induction ps with
 | nil=>intro k _ p h;cases h
 | cons q r ih=>
  intro k hk p h
  have h1:=hp q (List.mem_cons_self)
  rcases List.mem_cons.1 h with rfl|h
  ·simp only;omega
  ·exact ih (fun x hx=>hp x (List.mem_cons_of_mem _ hx)) _ (by omega) p h
theorem zb (ps:List (Int×Int)) (hp:∀ p∈ps,0≤p.2):∀ k:Nat,aQ (dp ps k)=(aQ ps).take k:=by
 induction ps with
 | nil=>intro k;simp[dp,aQ]
 | cons p r ih=>
  intro k
  have h1:=hp p (List.mem_cons_self)
  obtain⟨v,hv⟩:=Int.eq_ofNat_of_zero_le h1
  have e:(k:Int) - min p.2 (k:Int)=((k - min v k:Nat):Int):=by omega
  simp only[dp]
  rw[e,dA,dA,ih (fun q hq=>hp q (List.mem_cons_of_mem _ hq)),List.take_append,List.take_replicate,List.length_replicate]
  have e1:(min p.2 (k:Int)).toNat=min k p.2.toNat:=by omega
  have e2:k - min v k=k - p.2.toNat:=by omega
  rw[e2,←e1]
theorem x8 (ps:List (Int×Int)) (hp:∀ p∈ps,0≤p.2):∀ k:Nat,aQ (dq ps k)=(aQ ps).drop k:=by
 induction ps with
 | nil=>intro k;simp[dq,aQ]
 | cons p r ih=>
  intro k
  have h1:=hp p (List.mem_cons_self)
  obtain⟨v,hv⟩:=Int.eq_ofNat_of_zero_le h1
  have e:(k:Int) - min p.2 (k:Int)=((k - min v k:Nat):Int):=by omega
  simp only[dq]
  rw[e,dA,dA,ih (fun q hq=>hp q (List.mem_cons_of_mem _ hq)),List.drop_append,List.drop_replicate,List.length_replicate]
  have e1:(p.2 - min p.2 (k:Int)).toNat=p.2.toNat - k:=by omega
  have e2:k - min v k=k - p.2.toNat:=by omega
  rw[e2,←e1]
def vB (ps:List (Int×Int)) (i:Nat):Prop:=
 ∀ p,ps[i]? = some p→(0≤p.1∧p.1 < 1000∧1≤p.2∧p.2≤1000000)∧∀ q,0 < i→ps[i - 1]? = some q→q.1≠p.1
structure Vd (ps:List (Int×Int)):Prop where
 len:ps.length≤200
 ok:∀ i,i < ps.length→vB ps i
 bN:bN ps≤1000000
noncomputable def valid (ps:List (Int×Int)):Bool:=@decide (Vd ps) (Classical.propDecidable _)
theorem du {ps:List (Int×Int)}:valid ps=true↔Vd ps:=by unfold valid;simp
theorem iq {ps:List (Int×Int)} (h:Vd ps):valid ps=true:=du.2 h
theorem oB {ps:List (Int×Int)} (h:¬ Vd ps):valid ps=false:=by
 cases hv:valid ps with
 | false=>rfl
 | true=>exact absurd (du.1 hv) h
theorem Vd.each {ps:List (Int×Int)} (h:Vd ps):∀ p∈ps,(0≤p.1∧p.1 < 1000)∧1≤p.2∧p.2≤1000000:=by
 intro p hp
 obtain⟨i,hi⟩:=List.getElem?_of_mem hp
 have:=(h.ok i (List.getElem?_eq_some_iff.1 hi).1 p hi).1
 exact⟨⟨this.1,this.2.1⟩,this.2.2⟩
theorem Vd.sane {ps:List (Int×Int)} (h:Vd ps):jd ps:=⟨by have:=h.len;omega,fun p hp=>by have:=(h.each p hp).2;omega⟩
theorem Vd.nonneg {ps:List (Int×Int)} (h:Vd ps):∀ p∈ps,0≤p.2:=fun p hp=>by have:=(h.each p hp).2;omega
theorem BZ (ps:List (Int×Int)) (h:∀ i,i < ps.length→vB ps i):Canon ps:=by
 induction ps with
 | nil=>trivial
 | cons p r ih=>
  refine⟨?_,?_,ih fun i hi=>?_⟩
  ·have:=(h 0 (by simp) p rfl).1;omega
  ·intro q hq
   cases r with
   | nil=>cases hq
   | cons y s=>
    simp at hq;subst hq
    exact (h 1 (by simp) y rfl).2 p (by omega) rfl
  ·intro q hq
   have h1:=h (i+1) (by simp;omega) q (by simpa using hq)
   refine⟨h1.1,fun x hi hx=>h1.2 x (by omega) ?_⟩
   rw[Nat.add_sub_cancel]
   obtain⟨j,rfl⟩:∃ j,i=j+1:=⟨i - 1,by omega⟩
   simpa using hx
theorem Vd.canon {ps:List (Int×Int)} (h:Vd ps):Canon ps:=BZ ps h.ok
theorem AJ (ps:List (Int×Int)) (hc:Canon ps) (h:∀ p∈ps,(0≤p.1∧p.1 < 1000)∧p.2≤1000000):∀ i,i < ps.length→vB ps i:=by
 induction ps with
 | nil=>intro i hi;simp at hi
 | cons p r ih=>
  intro i hi
  cases i with
  | zero=>
   intro q hq
   simp at hq;subst hq
   have:=h p (List.mem_cons_self)
   have:=hc.1
   exact⟨by omega,fun _ h0=>by omega⟩
  | succ i=>
   intro q hq
   have hq':r[i]? = some q:=by simpa using hq
   have h1:=ih hc.2.2 (fun x hx=>h x (List.mem_cons_of_mem _ hx)) i (by simpa using hi) q hq'
   refine⟨h1.1,fun x _ hx=>?_⟩
   rw[Nat.add_sub_cancel]at hx
   cases i with
   | zero=>
    simp at hx;subst hx
    refine hc.2.1 q ?_
    rw[List.head?_eq_getElem?];exact hq'
   | succ j=>exact h1.2 x (by omega) (by simpa using hx)
theorem jw {ps:List (Int×Int)} (hc:Canon ps) (hb:∀ p∈ps,0≤p.1∧p.1 < 1000) (hl:ps.length≤200) (hv:Pc.bN ps≤1000000):Vd ps:=by
 refine⟨hl,AJ ps hc fun p hp=>⟨hb p hp,?_⟩,hv⟩
 have hpos:∀ q∈ps,0≤q.2:=fun q hq=>by have:=hc.pos q hq;omega
 have:∀ l:List (Int×Int),(∀ q∈l,0≤q.2)→∀ q∈l,q.2≤Pc.bN l:=by
  intro l
  induction l with
  | nil=>intro _ q hq;cases hq
  | cons x s ih=>
   intro hl q hq
   have h0:0≤Pc.bN s:=by
    clear ih hq
    have hs:∀ q∈s,0≤q.2:=fun q hq=>hl q (List.mem_cons_of_mem _ hq)
    clear hl
    induction s with
    | nil=>simp[Pc.bN]
    | cons y t ih=>have:=ih fun q hq=>hs q (List.mem_cons_of_mem _ hq);have:=hs y (List.mem_cons_self);simp only[Pc.bN];omega
   have h1:=hl x (List.mem_cons_self)
   simp only[Pc.bN]
   rcases List.mem_cons.1 hq with rfl|hq
   ·omega
   ·have:=ih (fun z hz=>hl z (List.mem_cons_of_mem _ hz)) q hq;omega
 have:=this ps hpos p hp
 omega
def Qn:List (Int×Int)→Int→Int
 | [],_=>-1
 | p :: r,k=>if k < p.2 then p.1 else Qn r (k - p.2)
noncomputable def at_ (ps:List (Int×Int)) (k:Int):Int:=if valid ps=true∧0≤k then Qn ps k else -1
def Rq:List (Int×Int)→Int→Int
 | [],_=>0
 | p :: r,b=>(if p.1=b then p.2 else 0)+Rq r b
noncomputable def batch (ps:List (Int×Int)) (b:Int):Int:=if valid ps=true then Rq ps b else 0
def lB (ps:List (Int×Int)):Prop:=ps.length≤400∧∀ p∈ps,(0≤p.1∧p.1 < 1000)∧0≤p.2∧p.2≤1000000
noncomputable def merge (ps:List (Int×Int)):List (Int×Int):=by
 classical exact if lB ps then join ps else []
def shift (f g:List (Int×Int)) (back:Bool):List (Int×Int)×List (Int×Int):=
 if back then (join (dq (f++g) (bN g)),join (dp (f++g) (bN g)))
 else (join (dp (g++f) (bN f)),join (dq (g++f) (bN f)))
noncomputable def push (f g:List (Int×Int)) (back:Bool):List (Int×Int)×List (Int×Int)×Int:=by
 classical
 exact if valid f=true∧valid g=true then
  if (shift f g back).1.length≤200∧(shift f g back).2.length≤200 then ((shift f g back).1,(shift f g back).2,0) else ([],[],4)
 else ([],[],9)
end Go.Proofs.YtocndodilpimnaaGreat.Pc
namespace Go.Proofs.YtocndodilpimnaaGreat
open Go.RowKit Sy
@[go_sem] def eI (p:Int×Int):T:=.agg [.int p.1,.int p.2]
@[go_sem] def aU (l:List (Int×Int)):T:=.sl 2 (l.map eI)
@[go_sem] def gP (l:List (Int×Int)):aA:=.list 88 2 (l.map eI)
abbrev Lit (p:Int×Int):Prop:=(0≤p.1∧p.1 < 1000)∧0≤p.2∧p.2≤1000000
@[go_sem] theorem GH:∀ l:List (Int×Int),dG (l.map eI)
 | []=>by simp[dG]
 | p :: r=>by simp[dG,jj,eI,GH r]
theorem JN:∀ {l:List (Int×Int)},(∀ q∈l,0≤q.2)→∀ q∈l,q.2≤Pc.bN l
 | [],_,q,hq=>by cases hq
 | x :: s,hl,q,hq=>by
  have h0:∀ (m:List (Int×Int)),(∀ q∈m,0≤q.2)→0≤Pc.bN m:=by
   intro m
   induction m with
   | nil=>intro _;simp[Pc.bN]
   | cons y t ih=>intro hs;have:=ih fun q hq=>hs q (List.mem_cons_of_mem _ hq);have:=hs y (List.mem_cons_self);simp only[Pc.bN];omega
  have h1:=hl x (List.mem_cons_self)
  have h2:=h0 s fun q hq=>hl q (List.mem_cons_of_mem _ hq)
  simp only[Pc.bN]
  rcases List.mem_cons.1 hq with rfl|hq
  ·omega
  ·have:=JN (fun z hz=>hl z (List.mem_cons_of_mem _ hz)) q hq;omega
theorem xn {l:List (Int×Int)} (h:Pc.jd l):∀ q∈Pc.join l,0≤q.2∧q.2≤100000000000:=by
 intro q hq
 have h1:=Pc.iB fun p hp=>(h.each p hp).1
 have h2:=fun q hq=>Int.le_of_lt (h1.pos q hq)
 have h3:=JN h2 q hq
 rw[Pc.zF fun p hp=>(h.each p hp).1]at h3
 have:=h.bN
 exact⟨h2 q hq,by omega⟩
theorem tH {l:List (Int×Int)} (h:Pc.jd l) {k:Int} (hk:0≤k):Pc.jd (Pc.dp l k):=⟨by rw[Pc.kU];exact h.len,Pc.DP l h.each k hk⟩
theorem uO {l:List (Int×Int)} (h:Pc.jd l) {k:Int} (hk:0≤k):Pc.jd (Pc.dq l k):=⟨by rw[Pc.kF];exact h.len,Pc.Dd l h.each k hk⟩
open Go.IntWalk renaming iteOmega → iO, toNatUp → tN
theorem qC (l:List (Int×Int)) (h:Pc.jd l):aj Tryz.prog 291 [.t (aU l)] [] (.own 1000) [(1000,gP (Pc.join l))]:=by
 have hlen:=h.len
 refine nI Tryz.func291 rfl Tryz.ntmps291 ?_
 refine ah ?_
 refine oP ?_
 refine CW.loop (ι:=Nat) (fun k=>⟨[(3,.own 500),(7,.t (aU l)),(8,.t (.int l.length)),(9,.t (.int k))],[(500,gP (Pc.join (l.take k)))]⟩) (fun k=>k≤l.length) (fun k=>l.length - k) 0 [(500,none)] (by omega) ?_ ?_
 ·simp[go_sem,↓iO,iO,tN,Pc.join]
 intro k hk
 by_cases hb:k < l.length
 ·obtain⟨p,hp⟩:=aa hb
  have hs:=Pc.Gz hp
  have hpv:=h.each p (au hp)
  have hjl:=Pc.fG (l.take k)
  rw[List.length_take]at hjl
  have hje:=xn (h.take k)
  obtain⟨out,hout⟩:∃ out,out=Pc.join (l.take k):=⟨_,rfl⟩
  rw[←hout]at hs hjl hje
  by_cases hz:p.2=0
  ·rw[Pc.sX hz]at hs
   repeat (first|(refine af rfl ?_;simp[go_sem,↓iO,iO,tN,hp,hz,←hout])|refine ba ?_|refine⟨aZ,?_⟩|refine iP ?_|refine iN ?_)
   refine nX (k+1) [(500,some 500)] ?_ ?_ ?_
   ·omega
   ·omega
   simp[go_sem,↓iO,iO,tN,hs,←hout]
  ·rcases List.eq_nil_or_concat out with rfl|⟨o,q,rfl⟩
   ·rw[Pc.iu hz (by simp)]at hs
    repeat (first|(refine af rfl ?_;simp[go_sem,↓iO,iO,tN,hp,hz,←hout])|refine ba ?_|refine⟨aZ,?_⟩|refine iP ?_|refine iN ?_)
    refine nX (k+1) [(500,some 118)] ?_ ?_ ?_
    ·omega
    ·omega
    simp[go_sem,↓iO,iO,tN,hs,←hout]
   ·simp only[List.concat_eq_append]at *
    simp only[List.length_append,List.length_singleton]at hjl
    have hq:=hje q (by simp)
    by_cases he:q.1=p.1
    ·rw[Pc.nE hz (by simp) he,List.dropLast_concat]at hs
     repeat (first|(refine af rfl ?_;simp[go_sem,↓iO,iO,tN,hp,hz,←hout,he])|refine ba ?_|refine⟨aZ,?_⟩|refine iP ?_|refine iN ?_)
     refine nX (k+1) [(500,some 500)] ?_ ?_ ?_
     ·omega
     ·omega
     simp[go_sem,↓iO,iO,tN,hs,←hout,he]
    ·rw[Pc.iu hz (by simpa using he)]at hs
     repeat (first|(refine af rfl ?_;simp[go_sem,↓iO,iO,tN,hp,hz,←hout,he])|refine ba ?_|refine⟨aZ,?_⟩|refine iP ?_|refine iN ?_)
     refine nX (k+1) [(500,some 118)] ?_ ?_ ?_
     ·omega
     ·omega
     simp[go_sem,↓iO,iO,tN,hs,←hout,he]
 ·obtain rfl:k=l.length:=by omega
  refine ah ?_
  first|rw[av]|rw[ae]
  refine⟨[(1000,some 500)],?_⟩
  simp[go_sem,↓iO,iO,tN,List.take_length]
theorem yD (l0 m:List (Int×Int)) (h:Pc.jd (l0++m)) (hz:∀ p∈m,p.2≠0):aj Tryz.prog 74 [.own 0,.t (aU m)] [(0,gP (Pc.join l0))] (.own 1000) [(1000,gP (Pc.join (l0++m)))]:=by
 have hlen:=h.len
 rw[List.length_append]at hlen
 have jsn:∀ (k:Nat) (p:Int×Int),m[k]? = some p→Pc.join (l0++m.take (k+1))=Pc.ff (Pc.join (l0++m.take k)) p:=by
  intro k p hp
  obtain⟨hk,rfl⟩:=List.getElem?_eq_some_iff.1 hp
  unfold Pc.join
  rw[List.take_succ_eq_append_getElem hk,←List.append_assoc,List.foldl_append]
  rfl
 have tk:∀ k,l0++m.take k=(l0++m).take (l0.length+k):=by
  intro k
  rw[List.take_append,Nat.add_sub_cancel_left,List.take_of_length_le (l:=l0) (by omega)]
 refine nI Tryz.func74 rfl Tryz.ntmps74 ?_
 refine ah ?_
 refine oP ?_
 refine lP (ι:=Nat) (fun k=>⟨[(0,.own 500),(8,.t (aU m)),(9,.t (.int m.length)),(10,.t (.int k))],[(500,gP (Pc.join (l0++m.take k)))]⟩) (fun k=>k≤m.length) (fun k=>m.length - k) 0 [(500,some 0)] (by omega) ?_
 intro k hk
 by_cases hb:k < m.length
 ·obtain⟨p,hp⟩:=aa hb
  have hs:=jsn k p hp
  have hpv:=h.each p (List.mem_append_right _ (au hp))
  have hz:=hz p (au hp)
  have hjl:=Pc.fG (l0++m.take k)
  rw[List.length_append,List.length_take]at hjl
  have hje:=xn (l:=l0++m.take k) (by rw[tk];exact h.take _)
  obtain⟨out,hout⟩:∃ out,out=Pc.join (l0++m.take k):=⟨_,rfl⟩
  rw[←hout]at hs hjl hje
  rcases List.eq_nil_or_concat out with rfl|⟨o,q,rfl⟩
  ·rw[Pc.iu hz (by simp)]at hs
   repeat (first|(refine af rfl ?_;simp[go_sem,↓iO,iO,tN,hp,hz,←hout])|refine ba ?_|refine⟨aZ,?_⟩|refine iP ?_|refine iN ?_)
   refine nX (k+1) [(500,some 143)] ?_ ?_ ?_
   ·omega
   ·omega
   simp[go_sem,↓iO,iO,tN,hs,←hout]
  ·simp only[List.concat_eq_append]at *
   simp only[List.length_append,List.length_singleton]at hjl
   have hq:=hje q (by simp)
   by_cases he:q.1=p.1
   ·rw[Pc.nE hz (by simp) he,List.dropLast_concat]at hs
    repeat (first|(refine af rfl ?_;simp[go_sem,↓iO,iO,tN,hp,hz,←hout,he])|refine ba ?_|refine⟨aZ,?_⟩|refine iP ?_|refine iN ?_)
    refine nX (k+1) [(500,some 500)] ?_ ?_ ?_
    ·omega
    ·omega
    simp[go_sem,↓iO,iO,tN,hs,←hout,he]
   ·rw[Pc.iu hz (by simpa using he)]at hs
    repeat (first|(refine af rfl ?_;simp[go_sem,↓iO,iO,tN,hp,hz,←hout,he])|refine ba ?_|refine⟨aZ,?_⟩|refine iP ?_|refine iN ?_)
    refine nX (k+1) [(500,some 143)] ?_ ?_ ?_
    ·omega
    ·omega
    simp[go_sem,↓iO,iO,tN,hs,←hout,he]
 ·obtain rfl:k=m.length:=by omega
  refine ah ?_
  first|rw[av]|rw[ae]
  refine⟨[(1000,some 500)],?_⟩
  simp[go_sem,↓iO,iO,tN,List.take_length]
@[go_sem] def xt (o:Option (List (Int×Int))):T:=match o with
 | some l=> .sl 2 (l.map eI)
 | none=> .lit (.slice none 0 0)
theorem cH (o:Option (List (Int×Int))):(xt o).width=1:=by cases o<;>rfl
theorem bK:∀ l:List (Option (List (Int×Int))),T.widths (l.map xt)=l.length
 | []=>rfl
 | x :: r=>by simp only[List.map_cons,T.widths,bK r,cH,List.length_cons];omega
@[go_sem] def aT (l:List (Option (List (Int×Int)))):aA:=.list 89 1 (l.map xt)
@[go_sem] def dB (net plan:List T) (feeds order:T):aA:=.box 164 (.ag [.t (.agg net),.t (.agg plan),.t feeds,.t order,.own 1,.own 2,.own 3])
theorem ta (net plan:List T) (feeds order:T) (fi gi oo:List (Option (List (Int×Int)))) (node:Int) (inn:Bool):aj Tryz.prog 219 [.pt 0 [] 0,.t (.int node),.t (.bool inn)] [(0,dB net plan feeds order),(1,aT fi),(2,aT gi),(3,aT oo)] (.fn 264 [.pt 1000 [] 0,.pt 1001 [] 0,.pt 1002 [] 0])
  [(0,dB net plan feeds order),(1,aT fi),(2,aT gi),(3,aT oo),(1000,.box 159 (.pt 0 [] 0)),(1001,.box 3 (.t (.int node))),(1002,.box 4 (.t (.bool inn)))]:=by
 refine nI Tryz.func219 rfl Tryz.ntmps219 ?_
 refine ah ?_
 exact aF [(0,some 0),(1,some 1),(2,some 2),(3,some 3),(1000,some 103),(1001,some 104),(1002,some 105)]
theorem lZ (net plan:List T) (feeds order:T) (fi gi oo:List (Option (List (Int×Int)))) (node:Int) (inn:Bool):aj Tryz.prog 220 [.pt 0 [] 0,.t (.int node),.t (.bool inn)] [(0,dB net plan feeds order),(1,aT fi),(2,aT gi),(3,aT oo)] (.fn 265 [.pt 1000 [] 0,.pt 1001 [] 0,.pt 1002 [] 0])
  [(0,dB net plan feeds order),(1,aT fi),(2,aT gi),(3,aT oo),(1000,.box 159 (.pt 0 [] 0)),(1001,.box 4 (.t (.bool inn))),(1002,.box 3 (.t (.int node)))]:=by
 refine nI Tryz.func220 rfl Tryz.ntmps220 ?_
 refine ah ?_
 exact aF [(0,some 0),(1,some 1),(2,some 2),(3,some 3),(1000,some 103),(1001,some 105),(1002,some 104)]
end Go.Proofs.YtocndodilpimnaaGreat
