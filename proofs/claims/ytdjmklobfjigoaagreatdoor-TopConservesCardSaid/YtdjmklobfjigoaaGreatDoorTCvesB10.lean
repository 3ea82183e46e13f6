import Derived.Test.YtdjmklobfjigoaaGreatDoorTCvesB9
set_option maxRecDepth 100000
set_option maxHeartbeats 16000000
set_option linter.unusedVariables false
set_option linter.unusedSimpArgs false
namespace Go.Proofs.YtdjmklobfjigoaaGreatDoor
open Go.RowKit Sy
attribute [local go_sem] Oper.semAt_some
structure SegV where
 nm:List Nat
 fr:Int
 to:Int
 cp:Int
 rs:Int
 wv:Int
def tgt (inn:Bool) (a b r:Int):Int:=if inn then endB a b r else endA a b r
def segYs (node:Int) (inn:Bool):Nat→List SegV→List Int→List (Nat×Int)
 | k,p :: ps,r :: rs=>if r≠0∧tgt inn p.fr p.to r=node then (k,absI r) :: segYs node inn (k+1) ps rs else segYs node inn (k+1) ps rs
 | _,_,_=>[]
def SegAt (pb po:Nat) (segs:List SegV) (A:World):Prop:=∀ i p,segs[i]? = some p→A.cell? ⟨pb,po+i * 7,none⟩=some (.string (str p.nm))∧A.cell? ⟨pb,po+i * 7+1,none⟩=some (.int .i64 p.fr)∧A.cell? ⟨pb,po+i * 7+2,none⟩=some (.int .i64 p.to)∧
 A.cell? ⟨pb,po+i * 7+3,none⟩=some (.int .i64 p.cp)∧A.cell? ⟨pb,po+i * 7+4,none⟩=some (.int .i64 p.rs)∧A.cell? ⟨pb,po+i * 7+5,none⟩=some (.int .i64 p.wv)∧∃ x n c,A.cell? ⟨pb,po+i * 7+6,none⟩=some (.slice x n c)
theorem cell_bel {A B:World} {b o:Nat} {v:Value} (h:A.cell? ⟨b,o,none⟩=some v) (hb:Below A.heap.size A B):B.cell? ⟨b,o,none⟩=some v:=by
 rw[cell_block (hb.block b ?_)]
 ·exact h
 ·obtain⟨oo,h1,_⟩:=cells_of_cell h
  exact (Array.getElem?_eq_some_iff.1 h1).1
theorem SegAt.bel {pb po:Nat} {segs:List SegV} {A B:World} (h:SegAt pb po segs A) (hb:Below A.heap.size A B):SegAt pb po segs B:=fun i p hp=>by
 obtain⟨h1,h2,h3,h4,h5,h6,x7,n7,c7,h8⟩:=h i p hp
 exact⟨cell_bel h1 hb,cell_bel h2 hb,cell_bel h3 hb,cell_bel h4 hb,cell_bel h5 hb,cell_bel h6 hb,x7,n7,c7,cell_bel h8 hb⟩
theorem SegAt.keep {pb po:Nat} {segs:List SegV} {A B:World} (h:SegAt pb po segs A) {F0:Nat→Prop} (hF:F0 pb) (hk:∀ b o,F0 b→B.cell? ⟨b,o,none⟩=A.cell? ⟨b,o,none⟩):SegAt pb po segs B:=fun i p hp=>by
 obtain⟨h1,h2,h3,h4,h5,h6,x7,n7,c7,h8⟩:=h i p hp
 exact⟨(hk pb _ hF).trans h1,(hk pb _ hF).trans h2,(hk pb _ hF).trans h3,(hk pb _ hF).trans h4,(hk pb _ hF).trans h5,(hk pb _ hF).trans h6,x7,n7,c7,(hk pb _ hF).trans h8⟩
structure SegRd (b1 b2 b3:Nat) (node:Int) (inn:Bool) (rates:List Int) (A:World) (xb:Nat) (rb ro rc:Nat):Prop where
 c1:A.cell? ⟨b1,0,none⟩=some (.pointer (some ⟨xb,0,none⟩))
 c2:A.cell? ⟨b2,0,none⟩=some (.bool inn)
 c3:A.cell? ⟨b3,0,none⟩=some (.int .i64 node)
 c7:A.cell? ⟨xb,6,none⟩=some (.slice (some ⟨rb,ro,none⟩) rates.length rc)
 le:rates.length≤rc
 rs:∀ i r,rates[i]? = some r→A.cell? ⟨rb,ro+i,none⟩=some (.int .i64 r)
theorem segs1_in (l:Nat) (b1 b2 b3:Nat) (node:Int) (inn:Bool) (segs:List SegV) (rates:List Int) (hlen:rates.length=segs.length) (hl2:segs.length≤1000) (hrate:∀ r∈rates,-1000000000≤r∧r≤1000000000) (F0:Nat→Prop)
  (J:Nat→World→Prop) (Jx:World→Prop) (W:World) (hJ:∀ k A B,J k A→Below A.heap.size A B→J k B) (hJx:∀ A B,Jx A→Below A.heap.size A B→Jx B)
  (hRd:∀ k A,J k A→∃ xb rb ro rc,SegRd b1 b2 b3 node inn rates A xb rb ro rc)
  (hY:∀ k y A,(segYs node inn 0 segs rates)[k]? = some y→J k A→YieldAt Fence.wide 7 Tryz.prog l (encY y).toArray A fun e B=>(∀ b o,F0 b→B.cell? ⟨b,o,none⟩=A.cell? ⟨b,o,none⟩)∧((e = .returned (.bool true)∧J (k+1) B)∨(e = .returned (.bool false)∧Jx B)))
  (h0:J 0 W) (xb pb po pc:Nat) (g1:W.cell? ⟨b1,0,none⟩=some (.pointer (some ⟨xb,0,none⟩))) (g2:W.cell? ⟨xb,1,none⟩=some (.slice (some ⟨pb,po,none⟩) segs.length pc)) (g3:segs.length≤pc) (g4:F0 pb)
  (g5:SegAt pb po segs W) :
  CallsIn Fence.wide 8 Tryz.prog 99 #[.func (.yield l) #[] #[],.pointer (some ⟨b1,0,none⟩),.pointer (some ⟨b2,0,none⟩),.pointer (some ⟨b3,0,none⟩)] W fun e B=>(∃ v,e = .returned v)∧(J (segYs node inn 0 segs rates).length B∨Jx B):=by
 obtain⟨ys,hys⟩:∃ ys,segYs node inn 0 segs rates=ys:=⟨_,rfl⟩
 rw[hys]at hY ⊢
 refine callsIn_of_wp Tryz.func99 rfl trivial ?_ rfl
 simp only[Tryz.ntmps99,List.size_toArray,List.length_cons,List.length_nil,Nat.reduceAdd,Nat.reduceSub,Array.replicate_succ,Array.replicate_zero,List.push_toArray,List.append_toArray,List.nil_append,List.cons_append]
 gi_wp2
 gi_loopw [16] (fun i wr=>∃ (k kk:Nat),k≤segs.length∧i = .int .i64 k∧ys.drop kk=segYs node inn k (segs.drop k) (rates.drop k)∧kk≤ys.length∧J kk wr∧SegAt pb po segs wr)
  (fun i _=>segs.length - (intOf i).toNat)
 case atStart=>exact⟨0,0,Nat.zero_le _,rfl,by simpa using hys.symm,Nat.zero_le _,h0,g5⟩
 case round=>
  obtain⟨k,kk,hk,rfl,hdr,hkk,hJk,hF⟩:=hrel
  obtain⟨xb',rb,ro,rc,R⟩:=hRd kk wr hJk
  have c1:=R.c1
  have c2:=R.c2
  have c3:=R.c3
  have c7:=R.c7
  have hle:=R.le
  by_cases hlt:k < segs.length
  ·obtain⟨⟨nm,fr,to,cp,rs,wv⟩,hp⟩:=has_get hlt
   obtain⟨r,hr⟩:∃ r,rates[k]? = some r:=has_get (by omega)
   have q1:=R.rs k r hr
   obtain⟨p1,p2,p3,p4,p5,p6,x7,n7,k7,p7⟩:=hF k _ hp
   dsimp only at p1 p2 p3 p4 p5 p6 p7
   have hd1:segs.drop k=⟨nm,fr,to,cp,rs,wv⟩ :: segs.drop (k+1):=drop_get hp
   have hd2:rates.drop k=r :: rates.drop (k+1):=drop_get hr
   rw[hd1,hd2]at hdr
   obtain⟨o2,ho2⟩:∃ o2:Obj,o2 = .cells #[.string (str nm),.int .i64 fr,.int .i64 to,.int .i64 cp,.int .i64 rs,.int .i64 wv,.slice x7 n7 k7] 38:=⟨_,rfl⟩
   have hb2:Below wr.heap.size wr (wr.alloc o2):=(Below.refl _ wr).alloc (Nat.le_refl _) _
   have nb:=World.alloc_heap_new wr o2
   have a1:=cell_bel c1 hb2
   have a2:=cell_bel c2 hb2
   have a3:=cell_bel c3 hb2
   have a7:=cell_bel c7 hb2
   have aq:=cell_bel q1 hb2
   have hF2:=hF.bel hb2
   have hJ2:=hJ kk _ _ hJk hb2
   rw[ho2]at a1 a2 a3 a7 aq hF2 hJ2 nb
   obtain⟨ea,hea⟩:∃ ea,endA fr to r=ea:=⟨_,rfl⟩
   obtain⟨eb,heb⟩:∃ eb,endB fr to r=eb:=⟨_,rfl⟩
   have hcall:=ends_call (.string (str nm)) (.slice x7 n7 k7) rfl rfl fr to cp rs wv r
   rw[hea,heb]at hcall
   have hrb:=hrate r (List.mem_of_getElem? hr)
   have hng:IntKind.i64.wrap (0 - r)=- r:=by rw[IntKind.wrap_i64];omega
   have hng2:IntKind.i64.wrap (-r)=- r:=by rw[IntKind.wrap_i64];omega
   by_cases hr0:r=0
   ·subst hr0
    gi_wp2_with (refine⟨trivial,?_⟩;gi_at_call 97;refine (callsIn_wide.2 (hcall _)).mono ?_;rintro e w3 ⟨rfl,hbel⟩;have a1:=cell_bel a1 hbel;have a2:=cell_bel a2 hbel;have a3:=cell_bel a3 hbel;have hF3:=hF2.bel hbel;have hJ3:=hJ kk _ _ hJ2 hbel)
    go_roundw
    case rel=>exact⟨k+1,kk,by omega,by simp,by rw[hdr];simp only[segYs];rw[if_neg (by simp[tgt,hea,heb])],hkk,hJ3,hF3⟩
    case measure=>simp[intOf];omega
   ·by_cases hsg:0 < r
    ·have hx1:¬ r < -r:=by omega
     cases inn with
     | true=>
      by_cases hnd:eb=node
      ·subst hnd
       have hab:absI r=r:=by unfold absI;omega
       have hdr2:ys.drop kk=(k,r) :: segYs eb true (k+1) (segs.drop (k+1)) (rates.drop (k+1)):=by rw[hdr];simp only[segYs];rw[if_pos (by simp[tgt,hea,heb,hr0]),hab]
       have hyk:ys[kk]? = some (k,r):=by
        have:=congrArg (fun l=>l[0]?) hdr2
        simpa using this
       have hkl:kk < ys.length:=(List.getElem?_eq_some_iff.1 hyk).1
       gi_wp2_with (refine⟨trivial,?_⟩;gi_at_call 97;refine (callsIn_wide.2 (hcall _)).mono ?_;rintro e w3 ⟨rfl,hbel⟩;have a1:=cell_bel a1 hbel;have a2:=cell_bel a2 hbel;have a3:=cell_bel a3 hbel;have hF3:=hF2.bel hbel;have hJ3:=hJ kk _ _ hJ2 hbel;obtain⟨fn,tmps,assign,body,hy,hR⟩:=hY kk _ _ hyk hJ3;unfold encY at hy;dsimp only at hy)
       refine hR.mono ?_
       rintro e W3 ⟨hk3,⟨rfl,hJ4⟩|⟨rfl,hJx3⟩⟩
       ·gi_wp2
        go_roundw
        case rel=>exact⟨k+1,kk+1,by omega,by simp,by rw[←List.drop_drop,hdr2];rfl,hkl,hJ4,hF3.keep g4 hk3⟩
        case measure=>simp[intOf];omega
       ·gi_wp2
        refine bodyPost_ret (results_none rfl _ _ _) rfl ?_
        exact⟨⟨_,rfl⟩,.inr hJx3⟩
      ·have hnx:(eb != node)=true:=by simp[hnd]
       gi_wp2_with (refine⟨trivial,?_⟩;gi_at_call 97;refine (callsIn_wide.2 (hcall _)).mono ?_;rintro e w3 ⟨rfl,hbel⟩;have a1:=cell_bel a1 hbel;have a2:=cell_bel a2 hbel;have a3:=cell_bel a3 hbel;have hF3:=hF2.bel hbel;have hJ3:=hJ kk _ _ hJ2 hbel)
       go_roundw
       case rel=>exact⟨k+1,kk,by omega,by simp,by rw[hdr];simp only[segYs];rw[if_neg (by simp[tgt,hea,heb,hnd])],hkk,hJ3,hF3⟩
       case measure=>simp[intOf];omega
     | false=>
      by_cases hnd:ea=node
      ·subst hnd
       have hab:absI r=r:=by unfold absI;omega
       have hdr2:ys.drop kk=(k,r) :: segYs ea false (k+1) (segs.drop (k+1)) (rates.drop (k+1)):=by rw[hdr];simp only[segYs];rw[if_pos (by simp[tgt,hea,heb,hr0]),hab]
       have hyk:ys[kk]? = some (k,r):=by
        have:=congrArg (fun l=>l[0]?) hdr2
        simpa using this
       have hkl:kk < ys.length:=(List.getElem?_eq_some_iff.1 hyk).1
       gi_wp2_with (refine⟨trivial,?_⟩;gi_at_call 97;refine (callsIn_wide.2 (hcall _)).mono ?_;rintro e w3 ⟨rfl,hbel⟩;have a1:=cell_bel a1 hbel;have a2:=cell_bel a2 hbel;have a3:=cell_bel a3 hbel;have hF3:=hF2.bel hbel;have hJ3:=hJ kk _ _ hJ2 hbel;obtain⟨fn,tmps,assign,body,hy,hR⟩:=hY kk _ _ hyk hJ3;unfold encY at hy;dsimp only at hy)
       refine hR.mono ?_
       rintro e W3 ⟨hk3,⟨rfl,hJ4⟩|⟨rfl,hJx3⟩⟩
       ·gi_wp2
        go_roundw
        case rel=>exact⟨k+1,kk+1,by omega,by simp,by rw[←List.drop_drop,hdr2];rfl,hkl,hJ4,hF3.keep g4 hk3⟩
        case measure=>simp[intOf];omega
       ·gi_wp2
        refine bodyPost_ret (results_none rfl _ _ _) rfl ?_
        exact⟨⟨_,rfl⟩,.inr hJx3⟩
      ·have hnx:(ea != node)=true:=by simp[hnd]
       gi_wp2_with (refine⟨trivial,?_⟩;gi_at_call 97;refine (callsIn_wide.2 (hcall _)).mono ?_;rintro e w3 ⟨rfl,hbel⟩;have a1:=cell_bel a1 hbel;have a2:=cell_bel a2 hbel;have a3:=cell_bel a3 hbel;have hF3:=hF2.bel hbel;have hJ3:=hJ kk _ _ hJ2 hbel)
       go_roundw
       case rel=>exact⟨k+1,kk,by omega,by simp,by rw[hdr];simp only[segYs];rw[if_neg (by simp[tgt,hea,heb,hnd])],hkk,hJ3,hF3⟩
       case measure=>simp[intOf];omega
    ·have hx1:r < -r:=by omega
     cases inn with
     | true=>
      by_cases hnd:eb=node
      ·subst hnd
       have hab:absI r=(-r):=by unfold absI;omega
       have hdr2:ys.drop kk=(k,(-r)) :: segYs eb true (k+1) (segs.drop (k+1)) (rates.drop (k+1)):=by rw[hdr];simp only[segYs];rw[if_pos (by simp[tgt,hea,heb,hr0]),hab]
       have hyk:ys[kk]? = some (k,(-r)):=by
        have:=congrArg (fun l=>l[0]?) hdr2
        simpa using this
       have hkl:kk < ys.length:=(List.getElem?_eq_some_iff.1 hyk).1
       gi_wp2_with (refine⟨trivial,?_⟩;gi_at_call 97;refine (callsIn_wide.2 (hcall _)).mono ?_;rintro e w3 ⟨rfl,hbel⟩;have a1:=cell_bel a1 hbel;have a2:=cell_bel a2 hbel;have a3:=cell_bel a3 hbel;have hF3:=hF2.bel hbel;have hJ3:=hJ kk _ _ hJ2 hbel;obtain⟨fn,tmps,assign,body,hy,hR⟩:=hY kk _ _ hyk hJ3;unfold encY at hy;dsimp only at hy)
       refine hR.mono ?_
       rintro e W3 ⟨hk3,⟨rfl,hJ4⟩|⟨rfl,hJx3⟩⟩
       ·gi_wp2
        go_roundw
        case rel=>exact⟨k+1,kk+1,by omega,by simp,by rw[←List.drop_drop,hdr2];rfl,hkl,hJ4,hF3.keep g4 hk3⟩
        case measure=>simp[intOf];omega
       ·gi_wp2
        refine bodyPost_ret (results_none rfl _ _ _) rfl ?_
        exact⟨⟨_,rfl⟩,.inr hJx3⟩
      ·have hnx:(eb != node)=true:=by simp[hnd]
       gi_wp2_with (refine⟨trivial,?_⟩;gi_at_call 97;refine (callsIn_wide.2 (hcall _)).mono ?_;rintro e w3 ⟨rfl,hbel⟩;have a1:=cell_bel a1 hbel;have a2:=cell_bel a2 hbel;have a3:=cell_bel a3 hbel;have hF3:=hF2.bel hbel;have hJ3:=hJ kk _ _ hJ2 hbel)
       go_roundw
       case rel=>exact⟨k+1,kk,by omega,by simp,by rw[hdr];simp only[segYs];rw[if_neg (by simp[tgt,hea,heb,hnd])],hkk,hJ3,hF3⟩
       case measure=>simp[intOf];omega
     | false=>
      by_cases hnd:ea=node
      ·subst hnd
       have hab:absI r=(-r):=by unfold absI;omega
       have hdr2:ys.drop kk=(k,(-r)) :: segYs ea false (k+1) (segs.drop (k+1)) (rates.drop (k+1)):=by rw[hdr];simp only[segYs];rw[if_pos (by simp[tgt,hea,heb,hr0]),hab]
       have hyk:ys[kk]? = some (k,(-r)):=by
        have:=congrArg (fun l=>l[0]?) hdr2
        simpa using this
       have hkl:kk < ys.length:=(List.getElem?_eq_some_iff.1 hyk).1
       gi_wp2_with (refine⟨trivial,?_⟩;gi_at_call 97;refine (callsIn_wide.2 (hcall _)).mono ?_;rintro e w3 ⟨rfl,hbel⟩;have a1:=cell_bel a1 hbel;have a2:=cell_bel a2 hbel;have a3:=cell_bel a3 hbel;have hF3:=hF2.bel hbel;have hJ3:=hJ kk _ _ hJ2 hbel;obtain⟨fn,tmps,assign,body,hy,hR⟩:=hY kk _ _ hyk hJ3;unfold encY at hy;dsimp only at hy)
       refine hR.mono ?_
       rintro e W3 ⟨hk3,⟨rfl,hJ4⟩|⟨rfl,hJx3⟩⟩
       ·gi_wp2
        go_roundw
        case rel=>exact⟨k+1,kk+1,by omega,by simp,by rw[←List.drop_drop,hdr2];rfl,hkl,hJ4,hF3.keep g4 hk3⟩
        case measure=>simp[intOf];omega
       ·gi_wp2
        refine bodyPost_ret (results_none rfl _ _ _) rfl ?_
        exact⟨⟨_,rfl⟩,.inr hJx3⟩
      ·have hnx:(ea != node)=true:=by simp[hnd]
       gi_wp2_with (refine⟨trivial,?_⟩;gi_at_call 97;refine (callsIn_wide.2 (hcall _)).mono ?_;rintro e w3 ⟨rfl,hbel⟩;have a1:=cell_bel a1 hbel;have a2:=cell_bel a2 hbel;have a3:=cell_bel a3 hbel;have hF3:=hF2.bel hbel;have hJ3:=hJ kk _ _ hJ2 hbel)
       go_roundw
       case rel=>exact⟨k+1,kk,by omega,by simp,by rw[hdr];simp only[segYs];rw[if_neg (by simp[tgt,hea,heb,hnd])],hkk,hJ3,hF3⟩
       case measure=>simp[intOf];omega
  ·obtain rfl:k=segs.length:=by omega
   have hkl:kk=ys.length:=by
    rw[List.drop_length]at hdr
    have:=congrArg List.length hdr
    simp[segYs]at this
    omega
   gi_wp2
   go_end0
   exact⟨⟨_,rfl⟩,.inl (by rw[←hkl];exact hJk)⟩
end Go.Proofs.YtdjmklobfjigoaaGreatDoor
namespace Go.Proofs.YtdjmklobfjigoaaGreatDoor
open Go.RowKit Sy
open Go.IntWalk renaming iteOmega → iO, toNatUp → tN
def modN (x n:Int):Int:=if n < 1 then 0 else x % n
theorem modN_range {x n:Int} (h:1≤n):0≤modN x n∧modN x n < n:=by
 unfold modN;rw[if_neg (by omega)]
 exact⟨Int.emod_nonneg _ (by omega),Int.emod_lt_of_pos _ (by omega)⟩
theorem modN_pos {x n:Int} (h:1≤n):modN x n=x % n:=by unfold modN;rw[if_neg (by omega)]
theorem tmod_neg {x n:Int} (h1:1≤n) (h:x.tmod n < 0):x.tmod n+n=x % n:=by
 have h2:=Int.tmod_def x n
 have h3:=Int.emod_def x n
 rw[Int.tmod_eq_emod]at *
 split at h
 ·have:=Int.emod_nonneg x (show n≠0 by omega);omega
 ·rename_i hh
  rw[if_neg hh]
  have:((n.natAbs:Nat):Int)=n:=by omega
  omega
theorem tmod_pos {x n:Int} (h1:1≤n) (h:0≤x.tmod n):x.tmod n=x % n:=by
 rw[Int.tmod_eq_emod]at *
 split
 ·omega
 ·rename_i hh
  rw[if_neg hh]at h
  have h3:((n.natAbs:Nat):Int)=n:=by omega
  have:=Int.emod_lt_of_pos x (show 0 < n by omega)
  omega
theorem mod_fn (x n:Int) (h2:n≤9223372036854775807):FnOk Tryz.prog 41 [.t (.int x),.t (.int n)] [] (.t (.int (modN x n))) []:=by
 refine FnOk.intro fact_mixed Tryz.func41 rfl Tryz.ntmps41 (by rfl) (by simp) ?_
 by_cases h1:n < 1
 ·have R:modN x n=0:=by unfold modN;rw[if_pos h1]
  repeat (first|(refine n1s rfl ?_;simp[go_sem,↓iO,iO,tN,R])|refine anI ?_|refine⟨dcK,?_⟩|refine iP ?_|refine iN ?_)
  first|rw[TqR]|rw[TqN]
  refine⟨[],?_⟩
  simp[go_sem,↓iO,iO,tN,R]
 ·have R:modN x n=x % n:=modN_pos (by omega)
  have h5:=Int.emod_nonneg x (show n≠0 by omega)
  have h6:=Int.emod_lt_of_pos x (show 0 < n by omega)
  by_cases h3:0≤x
  ·repeat (first|(refine n1s rfl ?_;simp[go_sem,↓iO,iO,tN,R])|refine anI ?_|refine⟨dcK,?_⟩|refine iP ?_|refine iN ?_)
   first|rw[TqR]|rw[TqN]
   refine⟨[],?_⟩
   simp[go_sem,↓iO,iO,tN,R]
  ·obtain⟨t,ht⟩:∃ t,t=x.tmod n:=⟨_,rfl⟩
   obtain⟨m,hm⟩:∃ m,m=x % n:=⟨_,rfl⟩
   have h7:t < 0→t+n=m:=by rw[ht,hm];exact tmod_neg (by omega)
   have h8:0≤t→t=m:=by rw[ht,hm];exact tmod_pos (by omega)
   rw[←hm]at h5 h6 R
   have ht':=ht.symm
   clear hm ht
   by_cases h4:t < 0
   ·have h9:=h7 h4
    clear h7 h8
    repeat (first|(refine n1s rfl ?_;simp[go_sem,↓iO,iO,tN,R,ht'])|refine anI ?_|refine⟨dcK,?_⟩|refine iP ?_|refine iN ?_)
    first|rw[TqR]|rw[TqN]
    refine⟨[],?_⟩
    simp[go_sem,↓iO,iO,tN,R,h9]
   ·have h9:=h8 (by omega)
    clear h7 h8
    repeat (first|(refine n1s rfl ?_;simp[go_sem,↓iO,iO,tN,R,ht'])|refine anI ?_|refine⟨dcK,?_⟩|refine iP ?_|refine iN ?_)
    first|rw[TqR]|rw[TqN]
    refine⟨[],?_⟩
    simp[go_sem,↓iO,iO,tN,R,h9]
@[go_sem] def encI (n:Int):T:=.int n
@[go_sem] def encIs (l:List Int):T:=.sl 1 (l.map encI)
@[go_sem] def srcC (l:List Int) (k:Nat):S:=.t (.agg [encIs l,.int k])
@[go_sem] def srcB (l:List Int) (k:Nat):Blk:=.box 70 (srcC l k)
structure SrcOk (l:List Int) (k:Nat):Prop where
 len:l.length≤2000
 le:k≤l.length
 wf:∀ z∈l,-9223372036854775808≤z∧z≤9223372036854775807
def rawV (l:List Int) (k:Nat):Int:=l.getD k 0
def nextK (l:List Int) (k:Nat):Nat:=if k < l.length then k+1 else k
theorem SrcOk.next {l:List Int} {k:Nat} (h:SrcOk l k):SrcOk l (nextK l k):=by
 refine⟨h.len,?_,h.wf⟩
 have:=h.le
 unfold nextK;split<;>omega
theorem raw_fn (l:List Int) (k:Nat) (h:SrcOk l k):FnOk Tryz.prog 42 [.pt 0 [] 0] [(0,srcB l k)] (.t (.int (rawV l k))) [(0,srcB l (nextK l k))]:=by
 have h1:=h.len
 have h2:=h.le
 refine FnOk.intro fact_mixed Tryz.func42 rfl Tryz.ntmps42 (by rfl) (by simp) ?_
 by_cases hk:k < l.length
 ·obtain⟨z,hz⟩:=has_get hk
  have R:rawV l k=z:=by unfold rawV;simp[List.getD,hz]
  have R2:nextK l k=k+1:=by unfold nextK;rw[if_pos hk]
  repeat (first|(refine n1s rfl ?_;simp[go_sem,↓iO,iO,tN,R,R2,hz])|refine anI ?_|refine⟨dcK,?_⟩|refine iP ?_|refine iN ?_)
  first|rw[TqR]|rw[TqN]
  refine⟨[(0,some 0)],?_⟩
  simp[go_sem,↓iO,iO,tN]
 ·have R:rawV l k=0:=by unfold rawV;simp[List.getD,List.getElem?_eq_none (show l.length≤k by omega)]
  have R2:nextK l k=k:=by unfold nextK;rw[if_neg hk]
  repeat (first|(refine n1s rfl ?_;simp[go_sem,↓iO,iO,tN,R,R2])|refine anI ?_|refine⟨dcK,?_⟩|refine iP ?_|refine iN ?_)
  first|rw[TqR]|rw[TqN]
  refine⟨[(0,some 0)],?_⟩
  simp[go_sem,↓iO,iO,tN]
def nV (l:List Int) (k:Nat) (n:Int):Int:=modN (rawV l k) n
theorem nV_range {l:List Int} {k:Nat} {n:Int} (h:1≤n):0≤nV l k n∧nV l k n < n:=modN_range h
theorem n_fn (l:List Int) (k:Nat) (n:Int) (h:SrcOk l k) (hn:n≤9223372036854775807):FnOk Tryz.prog 21 [.pt 0 [] 0,.t (.int n)] [(0,srcB l k)] (.t (.int (nV l k n))) [(0,srcB l (nextK l k))]:=by
 refine FnOk.intro fact_mixed Tryz.func21 rfl Tryz.ntmps21 (by rfl) (by simp) ?_
 repeat (first|(refine n1s rfl ?_;simp[go_sem,↓iO,iO,tN])|refine anI ?_|refine⟨dcK,?_⟩|refine iP ?_|refine iN ?_)
 refine cF (raw_fn l k h) [(0,0)] ?_ ?_ ?_ ?_<;>simp[go_sem,↓iO,iO,tN]
 repeat (refine anI ?_)
 try (refine⟨dcK,?_⟩)
 refine cF (mod_fn (rawV l k) n hn) [] ?_ ?_ ?_ ?_<;>simp[go_sem,↓iO,iO,tN]
 repeat (first|(refine n1s rfl ?_;simp[go_sem,↓iO,iO,tN])|refine anI ?_|refine⟨dcK,?_⟩|refine iP ?_|refine iN ?_)
 first|rw[TqR]|rw[TqN]
 refine⟨[(0,some 0)],?_⟩
 simp[go_sem,↓iO,iO,tN,nV]
def newL2 (l:List Int):List Int:=l.take 2000
theorem new_fn (l:List Int) (hl:l.length≤9223372036854775807):FnOk Tryz.prog 7 [.t (encIs l)] [] (.pt 1000 [] 0) [(1000,srcB (newL2 l) 0)]:=by
 have hmin:(min (l.length:Int) 2000).toNat=min l.length 2000:=by omega
 have h0:0≤min (l.length:Int) 2000∧min (l.length:Int) 2000≤l.length:=by omega
 refine FnOk.intro fact_mixed Tryz.func7 rfl Tryz.ntmps7 (by rfl) (by simp) ?_
 repeat (first|(refine n1s rfl ?_;simp[go_sem,↓iO,iO,tN,hmin,h0.1,h0.2])|refine anI ?_|refine⟨dcK,?_⟩|refine iP ?_|refine iN ?_)
 first|rw[TqR]|rw[TqN]
 refine⟨[(1000,some 109)],?_⟩
 simp[go_sem,↓iO,iO,tN,newL2]
 omega
theorem new_ok {l:List Int} (wf:∀ z∈l,-9223372036854775808≤z∧z≤9223372036854775807):SrcOk (newL2 l) 0:=
 ⟨by unfold newL2;simp;omega,Nat.zero_le _,fun z hz=>wf z (List.mem_of_mem_take hz)⟩
end Go.Proofs.YtdjmklobfjigoaaGreatDoor
namespace Go.Proofs.YtdjmklobfjigoaaGreatDoor
open Go.RowKit Sy
@[go_sem] def encPt (p:Int×Int×Int):T:=.agg [.int p.1,.int p.2.1,.int p.2.2]
abbrev Sgm:=SegV×List (Int×Int×Int)
@[go_sem] def encSg (s:Sgm):T:=.agg [.lit (.string (str s.1.nm)),.int s.1.fr,.int s.1.to,.int s.1.cp,.int s.1.rs,.int s.1.wv,.sl 3 (s.2.map encPt)]
@[go_sem] def encPr (p:Prt):T:=.agg [.lit (.string (str p.1)),.int p.2.1,.int p.2.2]
theorem t_at_nil (x:T):x.at []=some (0,x):=by cases x<;>simp[T.at]
theorem rep_slice {F:Nat→Prop} {W:World} {s:Nat} {xs:List T} {v:Value} (h:Rep F W (.sl s xs) v) (hne:xs≠[]) :
  ∃ b o c,v = .slice (some ⟨b,o,none⟩) xs.length c∧xs.length≤c∧F b∧∀ i x,xs[i]? = some x→∃ u,Rep F W x u∧∀ j y,u.cells.toList[j]? = some y→W.cell? ⟨b,o+(i * s+j),none⟩=some y:=by
 unfold Rep at h
 obtain⟨x,cap,cells,rfl,h2,h3,h4⟩:=h
 rcases h4.cells with h5|⟨b,o,rfl,hF,h5⟩
 ·exact (hne (List.length_eq_zero_iff.1 h5)).elim
 ·refine⟨b,o,cap,rfl,h4.le,hF,fun i x hx=>?_⟩
  obtain⟨u,hu,h6,_⟩:=Reps.get h2 hx
  refine⟨u,hu,fun j y hj=>?_⟩
  have h7:=h6 j y hj
  rw[widths_take_const h3 (Nat.le_of_lt (List.getElem?_eq_some_iff.1 hx).1)]at h7
  exact h5 _ _ h7
theorem rep_int {F:Nat→Prop} {W:World} {n:Int} {u:Value} (h:Rep F W (.int n) u):u = .int .i64 n:=by unfold Rep at h;exact h.1
theorem rep_pt {G:Gh} {W:World} {l:Nat} {u:Value} (h:RepS G W (.pt l [] 0) u):∃ b,hblk (G.β l)=some b∧u = .pointer (some ⟨b,0,none⟩):=by unfold RepS at h;exact h
theorem box_cell {G:Gh} {W:World} {h:Nat→Option Blk} (hh:HeapOk G W h) {l:Nat} {blk:Blk} (hl:h l=some blk) {b:Nat} (hb:hblk (G.β l)=some b) {p:List Nat} {off:Nat} {y:S} (ha:blk.at p=some (off,y)) :
  ∃ v,RepS G W y v∧v.cells.size=y.width∧(∀ c∈v.cells.toList,c.oneCell'=true)∧∀ j c,v.cells.toList[j]? = some c→W.cell? ⟨b,off+j,none⟩=some c:=RepB.at_spec (hh.rep l blk hl) (hh.inn l blk hl) ha hb
theorem one_cell {v:Value} {b off:Nat} {W:World} (h:∀ j c,v.cells.toList[j]? = some c→W.cell? ⟨b,off+j,none⟩=some c) (hv:v.oneCell'=true):W.cell? ⟨b,off,none⟩=some v:=h 0 v (by rw[cells_one hv];rfl)
def lineI (l1 l2 l3 lx:Nat) (c2 c3:S) (e2 e3:TypeId) (net plan:List T) (rest:List S):List (Nat×Blk):=
 [(l1,.box 71 (.pt lx [] 0)),(l2,.box e2 c2),(l3,.box e3 c3),(lx,.box 76 (.ag (.t (.agg net) :: .t (.agg plan) :: rest)))]
theorem line_read {l1 l2 l3 lx:Nat} {c2 c3:T} {e2 e3:TypeId} {net plan:List T} {rest:List S} {lb:List Value} {F:Nat→Prop} {W:World} (hd:nodupB [l1,l2,l3,lx]=true)
  (h:RdI (lineI l1 l2 l3 lx (.t c2) (.t c3) e2 e3 net plan rest) [.pt l1 [] 0,.pt l2 [] 0,.pt l3 [] 0] lb F W):∃ (b1 b2 b3 xb:Nat) (v2 v3:Value) (G:Gh),G.F=F∧lb=[.pointer (some ⟨b1,0,none⟩),.pointer (some ⟨b2,0,none⟩),.pointer (some ⟨b3,0,none⟩)]∧
   W.cell? ⟨b1,0,none⟩=some (.pointer (some ⟨xb,0,none⟩))∧Rep F W c2 v2∧(v2.oneCell'=true→W.cell? ⟨b2,0,none⟩=some v2)∧Rep F W c3 v3∧(v3.oneCell'=true→W.cell? ⟨b3,0,none⟩=some v3)∧
   (∀ p off y,(Blk.box 76 (.ag (.t (.agg net) :: .t (.agg plan) :: rest))).at p=some (off,.t y)→∃ v,Rep F W y v∧∀ j c,v.cells.toList[j]? = some c→W.cell? ⟨xb,off+j,none⟩=some c):=by
 obtain⟨G,hF,hh,hc⟩:=h
 simp only[nodupB,List.contains_cons,List.contains_nil,Bool.or_false,Bool.and_true,Bool.not_false,Bool.and_eq_true,Bool.not_eq_true',Bool.or_eq_false_iff,beq_eq_false_iff_ne]at hd
 obtain⟨⟨d1,d2,d3⟩,⟨d4,d5⟩,d6⟩:=hd
 have k1:lkB (lineI l1 l2 l3 lx (.t c2) (.t c3) e2 e3 net plan rest) l1=some (.box 71 (.pt lx [] 0)):=by simp[lineI,lkB]
 have k2:lkB (lineI l1 l2 l3 lx (.t c2) (.t c3) e2 e3 net plan rest) l2=some (.box e2 (.t c2)):=by simp[lineI,lkB,Ne.symm d1]
 have k3:lkB (lineI l1 l2 l3 lx (.t c2) (.t c3) e2 e3 net plan rest) l3=some (.box e3 (.t c3)):=by simp[lineI,lkB,Ne.symm d2,Ne.symm d4]
 have k4:lkB (lineI l1 l2 l3 lx (.t c2) (.t c3) e2 e3 net plan rest) lx=some (.box 76 (.ag (.t (.agg net) :: .t (.agg plan) :: rest))):=by simp[lineI,lkB,Ne.symm d3,Ne.symm d5,Ne.symm d6]
 unfold RepPs at hc
 obtain⟨u1,r1,rfl,m1,hc⟩:=hc
 unfold RepPs at hc
 obtain⟨u2,r2,rfl,m2,hc⟩:=hc
 unfold RepPs at hc
 obtain⟨u3,r3,rfl,m3,hc⟩:=hc
 unfold RepPs at hc
 subst hc
 obtain⟨b1,n1,rfl⟩:=rep_pt m1
 obtain⟨b2,n2,rfl⟩:=rep_pt m2
 obtain⟨b3,n3,rfl⟩:=rep_pt m3
 obtain⟨w1,q1,_,q2,q3⟩:=box_cell hh k1 n1 (p:=[]) (off:=0) (y:=.pt lx [] 0) (by simp[Blk.at,S.at])
 obtain⟨xb,n4,rfl⟩:=rep_pt q1
 obtain⟨v2,t1,_,t2,t3⟩:=box_cell hh k2 n2 (p:=[]) (off:=0) (y:=.t c2) (by simp[Blk.at,S.at,t_at_nil])
 obtain⟨v3,s1,_,s2,s3⟩:=box_cell hh k3 n3 (p:=[]) (off:=0) (y:=.t c3) (by simp[Blk.at,S.at,t_at_nil])
 unfold RepS at t1 s1
 rw[hF]at t1 s1
 refine⟨b1,b2,b3,xb,v2,v3,G,hF,rfl,one_cell q3 rfl,t1,fun h=>one_cell t3 h,s1,fun h=>one_cell s3 h,fun p off y ha=>?_⟩
 obtain⟨v,z1,_,_,z2⟩:=box_cell hh k4 n4 ha
 unfold RepS at z1
 rw[hF]at z1
 exact⟨v,z1,z2⟩
theorem prt_at {F:Nat→Prop} {W:World} {b o:Nat} {ports:List Prt} (h:∀ i x,(ports.map encPr)[i]? = some x→∃ u,Rep F W x u∧∀ j y,u.cells.toList[j]? = some y→W.cell? ⟨b,o+(i * 3+j),none⟩=some y):PrtAt b o ports W:=by
 intro i p hp
 obtain⟨u,hu,hc⟩:=h i (encPr p) (by rw[List.getElem?_map,hp];rfl)
 unfold encPr Rep at hu
 obtain⟨cells,rfl,hu⟩:=hu
 unfold Reps at hu
 obtain⟨v1,c1,rfl,h1,hu⟩:=hu
 unfold Reps at hu
 obtain⟨v2,c2,rfl,h2,hu⟩:=hu
 unfold Reps at hu
 obtain⟨v3,c3,rfl,h3,hu⟩:=hu
 unfold Reps at hu
 subst hu
 unfold Rep at h1 h2 h3
 obtain⟨rfl,_⟩:=h1
 obtain⟨rfl,_⟩:=h2
 obtain⟨rfl,_⟩:=h3
 refine⟨?_,?_,?_⟩
 ·have:=hc 0 _ rfl;simpa [Nat.add_assoc] using this
 ·have:=hc 1 _ rfl;simpa [Nat.add_assoc] using this
 ·have:=hc 2 _ rfl;simpa [Nat.add_assoc] using this
theorem seg_at {F:Nat→Prop} {W:World} {b o:Nat} {segs:List Sgm} (h:∀ i x,(segs.map encSg)[i]? = some x→∃ u,Rep F W x u∧∀ j y,u.cells.toList[j]? = some y→W.cell? ⟨b,o+(i * 7+j),none⟩=some y):SegAt b o (segs.map (·.1)) W:=by
 intro i p hp
 rw[List.getElem?_map]at hp
 obtain⟨⟨p',pts⟩,hp1,rfl⟩:=Option.map_eq_some_iff.1 hp
 obtain⟨u,hu,hc⟩:=h i (encSg (p',pts)) (by rw[List.getElem?_map,hp1];rfl)
 unfold encSg Rep at hu
 obtain⟨cells,rfl,hu⟩:=hu
 unfold Reps at hu
 obtain⟨v1,c1,rfl,h1,hu⟩:=hu
 unfold Reps at hu
 obtain⟨v2,c2,rfl,h2,hu⟩:=hu
 unfold Reps at hu
 obtain⟨v3,c3,rfl,h3,hu⟩:=hu
 unfold Reps at hu
 obtain⟨v4,c4,rfl,h4,hu⟩:=hu
 unfold Reps at hu
 obtain⟨v5,c5,rfl,h5,hu⟩:=hu
 unfold Reps at hu
 obtain⟨v6,c6,rfl,h6,hu⟩:=hu
 unfold Reps at hu
 obtain⟨v7,c7,rfl,h7,hu⟩:=hu
 unfold Reps at hu
 subst hu
 unfold Rep at h1 h2 h3 h4 h5 h6 h7
 obtain⟨rfl,_⟩:=h1
 obtain⟨rfl,_⟩:=h2
 obtain⟨rfl,_⟩:=h3
 obtain⟨rfl,_⟩:=h4
 obtain⟨rfl,_⟩:=h5
 obtain⟨rfl,_⟩:=h6
 obtain⟨x7,cap7,cs7,rfl,_⟩:=h7
 refine⟨?_,?_,?_,?_,?_,?_,x7,(pts.map encPt).length,cap7,?_⟩
 ·have:=hc 0 _ rfl;simpa [Nat.add_assoc] using this
 ·have:=hc 1 _ rfl;simpa [Nat.add_assoc] using this
 ·have:=hc 2 _ rfl;simpa [Nat.add_assoc] using this
 ·have:=hc 3 _ rfl;simpa [Nat.add_assoc] using this
 ·have:=hc 4 _ rfl;simpa [Nat.add_assoc] using this
 ·have:=hc 5 _ rfl;simpa [Nat.add_assoc] using this
 ·have:=hc 6 _ rfl;simpa [Nat.add_assoc] using this
theorem rates_at {F:Nat→Prop} {W:World} {v:Value} {rates:List Int} (h:Rep F W (.sl 1 (rates.map encI)) v) (hne:rates≠[]):∃ rb ro rc,v = .slice (some ⟨rb,ro,none⟩) rates.length rc∧rates.length≤rc∧∀ i r,rates[i]? = some r→W.cell? ⟨rb,ro+i,none⟩=some (.int .i64 r):=by
 obtain⟨b,o,c,rfl,h1,_,h2⟩:=rep_slice h (by simpa using hne)
 refine⟨b,o,c,by simp,by simpa using h1,fun i r hr=>?_⟩
 obtain⟨u,hu,h3⟩:=h2 i (encI r) (by rw[List.getElem?_map,hr];rfl)
 unfold encI at hu
 obtain rfl:=rep_int hu
 have:=h3 0 _ rfl
 simpa using this
theorem ports_iter (l1 l2 l3 lx:Nat) (hd:nodupB [l1,l2,l3,lx]=true) (node:Int) (inn:Bool) (nodes segsT statT:T) (ports:List Prt) (vap stl:T) (ratesT pumpsT:T) (rates:List Int) (rest:List S) (hw1:nodes.width=1) (hw2:segsT.width=1) (hw3:ratesT.width=1) (hw4:statT.width=1) (hw5:vap.width=1) (hw6:stl.width=1)
  (hlen:rates.length=ports.length) (hne:ports≠[]) (hl2:ports.length≤1000) (hrate:∀ r∈rates,-1000000000≤r∧r≤1000000000) :
  IterSy Tryz.prog 98 [.pt l1 [] 0,.pt l2 [] 0,.pt l3 [] 0] (lineI l1 l2 l3 lx (.t (.int node)) (.t (.bool inn)) 3 4 [nodes,segsT,.sl 3 (ports.map encPr),statT,vap,stl] [ratesT,.sl 1 (rates.map encI),pumpsT] rest)
   ((prtYs node inn 0 ports rates).map encY):=by
 intro lb F0 l J Jx W hR0 hJ hJx hRd hY h0
 have hrne:rates≠[]:=by
  intro e;rw[e]at hlen;exact hne (List.length_eq_zero_iff.1 hlen.symm)
 obtain⟨b1,b2,b3,xb,v2,v3,G,_,rfl,c1,c2,c2',c3,c3',cx⟩:=line_read hd hR0
 obtain⟨v,k1,k2⟩:=cx [0,2] 2 (.sl 3 (ports.map encPr)) (by simp[Blk.at,S.at,T.at,S.widths,S.width,T.width,T.widths,hw1,hw2])
 obtain⟨pb,po,pc,rfl,k3,k4,k5⟩:=rep_slice k1 (by simpa using hne)
 have hcp:=k2 0 _ rfl
 simp only[List.length_map]at hcp k3
 have hlb:([Value.pointer (some ⟨b1,0,none⟩),.pointer (some ⟨b2,0,none⟩),.pointer (some ⟨b3,0,none⟩)]:List Value).toArray=#[.pointer (some ⟨b1,0,none⟩),.pointer (some ⟨b2,0,none⟩),.pointer (some ⟨b3,0,none⟩)]:=rfl
 rw[hlb]
 have:=ports1_in l b1 b2 b3 node inn ports rates hlen hl2 hrate F0 J Jx W hJ hJx ?_ ?_ h0 xb pb po pc c1 hcp k3 k4 (prt_at k5)
 ·rw[List.length_map];exact this
 ·intro k A hA
  obtain⟨F,hF⟩:=hRd k A hA
  obtain⟨b1',b2',b3',xb',v2',v3',G',_,e,d1,d2,d2',d3,d3',dx⟩:=line_read hd hF
  simp only[List.cons.injEq,Value.pointer.injEq,Option.some.injEq,Addr.mk.injEq,and_true]at e
  obtain⟨rfl,rfl,rfl⟩:=e
  obtain⟨v,j1,j2⟩:=dx [1,1] 7 (.sl 1 (rates.map encI)) (by simp[Blk.at,S.at,T.at,S.widths,S.width,T.width,T.widths,hw1,hw2,hw3,hw4,hw5,hw6])
  obtain⟨rb,ro,rc,rfl,j3,j4⟩:=rates_at j1 hrne
  unfold Rep at d2 d3
  obtain⟨rfl,_⟩:=d2
  obtain⟨rfl,_⟩:=d3
  exact⟨xb',rb,ro,rc,d1,d2' rfl,d3' rfl,j2 0 _ rfl,j3,j4⟩
 ·intro k y A hy hA
  exact hY k (encY y) A (by rw[List.getElem?_map,hy];rfl) hA
theorem segs_iter (l1 l2 l3 lx:Nat) (hd:nodupB [l1,l2,l3,lx]=true) (node:Int) (inn:Bool) (nodes portsT statT:T) (segs:List Sgm) (vap stl:T) (pratesT pumpsT:T) (rates:List Int) (rest:List S) (hw1:nodes.width=1) (hw2:portsT.width=1) (hw4:statT.width=1) (hw5:vap.width=1) (hw6:stl.width=1)
  (hlen:rates.length=segs.length) (hne:segs≠[]) (hl2:segs.length≤1000) (hrate:∀ r∈rates,-1000000000≤r∧r≤1000000000) :
  IterSy Tryz.prog 99 [.pt l1 [] 0,.pt l2 [] 0,.pt l3 [] 0] (lineI l1 l2 l3 lx (.t (.bool inn)) (.t (.int node)) 4 3 [nodes,.sl 7 (segs.map encSg),portsT,statT,vap,stl] [.sl 1 (rates.map encI),pratesT,pumpsT] rest)
   ((segYs node inn 0 (segs.map (·.1)) rates).map encY):=by
 intro lb F0 l J Jx W hR0 hJ hJx hRd hY h0
 have hrne:rates≠[]:=by
  intro e;rw[e]at hlen;exact hne (List.length_eq_zero_iff.1 hlen.symm)
 obtain⟨b1,b2,b3,xb,v2,v3,G,_,rfl,c1,c2,c2',c3,c3',cx⟩:=line_read hd hR0
 obtain⟨v,k1,k2⟩:=cx [0,1] 1 (.sl 7 (segs.map encSg)) (by simp[Blk.at,S.at,T.at,S.widths,S.width,T.width,T.widths,hw1])
 obtain⟨pb,po,pc,rfl,k3,k4,k5⟩:=rep_slice k1 (by simpa using hne)
 have hcp:=k2 0 _ rfl
 simp only[List.length_map]at hcp k3
 have hlb:([Value.pointer (some ⟨b1,0,none⟩),.pointer (some ⟨b2,0,none⟩),.pointer (some ⟨b3,0,none⟩)]:List Value).toArray=#[.pointer (some ⟨b1,0,none⟩),.pointer (some ⟨b2,0,none⟩),.pointer (some ⟨b3,0,none⟩)]:=rfl
 rw[hlb]
 have:=segs1_in l b1 b2 b3 node inn (segs.map (·.1)) rates (by simpa using hlen) (by simpa using hl2) hrate F0 J Jx W hJ hJx ?_ ?_ h0 xb pb po pc c1 (by simpa using hcp) (by simpa using k3) k4 (seg_at k5)
 ·rw[List.length_map];exact this
 ·intro k A hA
  obtain⟨F,hF⟩:=hRd k A hA
  obtain⟨b1',b2',b3',xb',v2',v3',G',_,e,d1,d2,d2',d3,d3',dx⟩:=line_read hd hF
  simp only[List.cons.injEq,Value.pointer.injEq,Option.some.injEq,Addr.mk.injEq,and_true]at e
  obtain⟨rfl,rfl,rfl⟩:=e
  obtain⟨v,j1,j2⟩:=dx [1,0] 6 (.sl 1 (rates.map encI)) (by simp[Blk.at,S.at,T.at,S.widths,S.width,T.width,T.widths,hw1,hw2,hw4,hw5,hw6])
  obtain⟨rb,ro,rc,rfl,j3,j4⟩:=rates_at j1 hrne
  unfold Rep at d2 d3
  obtain⟨rfl,_⟩:=d2
  obtain⟨rfl,_⟩:=d3
  exact⟨xb',rb,ro,rc,d1,d2' rfl,d3' rfl,j2 0 _ rfl,j3,j4⟩
 ·intro k y A hy hA
  exact hY k (encY y) A (by rw[List.getElem?_map,hy];rfl) hA
end Go.Proofs.YtdjmklobfjigoaaGreatDoor
namespace Go.Proofs.YtdjmklobfjigoaaGreatDoor
open Go.RowKit Sy
open Go.IntWalk renaming iteOmega → iO, toNatUp → tN
theorem nin_fn (n a b:Int) (r:Bool) (h:decide (a≤n∧n≤b)=r):FnOk Tryz.prog 91 [.t (.int n),.t (.int a),.t (.int b)] [] (.t (.bool r)) []:=by
 subst h
 refine FnOk.intro fact_mixed Tryz.func91 rfl Tryz.ntmps91 (by rfl) (by simp) ?_
 by_cases h1:a≤n
 ·by_cases h2:n≤b
  ·repeat (first|(refine n1s rfl ?_;simp[go_sem,↓iO,iO,tN,h1,h2])|refine anI ?_|refine⟨dcK,?_⟩|refine iP ?_|refine iN ?_)
   first|rw[TqR]|rw[TqN]
   refine⟨[],?_⟩
   simp[go_sem,↓iO,iO,tN,h1,h2]
  ·repeat (first|(refine n1s rfl ?_;simp[go_sem,↓iO,iO,tN,h1,h2])|refine anI ?_|refine⟨dcK,?_⟩|refine iP ?_|refine iN ?_)
   first|rw[TqR]|rw[TqN]
   refine⟨[],?_⟩
   simp[go_sem,↓iO,iO,tN,h1,h2]
 ·repeat (first|(refine n1s rfl ?_;simp[go_sem,↓iO,iO,tN,h1])|refine anI ?_|refine⟨dcK,?_⟩|refine iP ?_|refine iN ?_)
  first|rw[TqR]|rw[TqN]
  refine⟨[],?_⟩
  simp[go_sem,↓iO,iO,tN,h1]
structure PipeOk (s:Sgm):Prop where
 ends:s.1.fr≠s.1.to
 cap:1≤s.1.cp∧s.1.cp≤1000000
 res:0≤s.1.rs∧s.1.rs≤1000
 wav:0≤s.1.wv∧s.1.wv≤100000
 len:2≤s.2.length∧s.2.length≤8
 pts:∀ (k:Nat) (p:Int×Int×Int),s.2[k]? = some p→((-500:Int)≤p.2.1∧p.2.1≤5000)∧(0≤p.2.2∧p.2.2≤100000000)∧∀ q,0 < k→s.2[k - 1]? = some q→q.1 < p.1
 fst:∀ (p:Int×Int×Int),s.2[0]? = some p→p.1=0
 lst:∀ (p:Int×Int×Int),s.2[s.2.length - 1]? = some p→p.1=s.1.cp
theorem pipe_fn (s:Sgm) (h:PipeOk s):FnOk Tryz.prog 88 [.t (encSg s)] [] (.t (.bool true)) []:=by
 obtain⟨⟨nm,fr,to,cp,rs,wv⟩,pts⟩:=s
 obtain⟨h1,h2,h3,h4,h5,h6,h7,h8⟩:=h
 dsimp only at h1 h2 h3 h4 h5 h6 h7 h8
 have c1:=nin_fn cp 1 1000000 true (by simpa using h2)
 have c2:=nin_fn rs 0 1000 true (by simpa using h3)
 have c3:=nin_fn wv 0 100000 true (by simpa using h4)
 refine FnOk.intro fact_mixed Tryz.func88 rfl Tryz.ntmps88 (by rfl) (by simp) ?_
 repeat (first|(refine n1s rfl ?_;simp[go_sem,↓iO,iO,tN,h1])|refine anI ?_|refine⟨dcK,?_⟩|refine iP ?_|refine iN ?_)
 refine cF (c1) [] ?_ ?_ ?_ ?_<;>simp[go_sem,↓iO,iO,tN,h1]
 repeat (first|(refine n1s rfl ?_;simp[go_sem,↓iO,iO,tN,h1])|refine anI ?_|refine⟨dcK,?_⟩|refine iP ?_|refine iN ?_)
 refine cF (c2) [] ?_ ?_ ?_ ?_<;>simp[go_sem,↓iO,iO,tN,h1]
 repeat (first|(refine n1s rfl ?_;simp[go_sem,↓iO,iO,tN,h1])|refine anI ?_|refine⟨dcK,?_⟩|refine iP ?_|refine iN ?_)
 refine cF (c3) [] ?_ ?_ ?_ ?_<;>simp[go_sem,↓iO,iO,tN,h1]
 repeat (first|(refine n1s rfl ?_;simp[go_sem,↓iO,iO,tN,h1])|refine anI ?_|refine⟨dcK,?_⟩|refine iP ?_|refine iN ?_)
 refine nf1_sound' _ _ _ ?_;simp only[nf1]
 refine CW.loop (ι:=Nat) (fun k=>⟨[(1,.pt 101 [] 0),(29,.t (.sl 3 (pts.map encPt))),(30,.t (.int pts.length)),(31,.t (.int k))],[(101,.box 38 (.t (encSg (⟨nm,fr,to,cp,rs,wv⟩,pts))))]⟩) (fun k=>k≤pts.length) (fun k=>pts.length - k) 0 [(101,some 101)] (by omega) ?_ ?_
 ·simp[go_sem,↓iO,iO,tN]
 intro k hk
 by_cases hb:k < pts.length
 ·obtain⟨p,hp⟩:=has_get hb
  obtain⟨q1,q2,q3⟩:=h6 k p hp
  obtain⟨at',he,li⟩:=p
  dsimp only at q1 q2 q3
  have d1:=nin_fn he (-500) 5000 true (by simpa using q1)
  have d2:=nin_fn li 0 100000000 true (by simpa using q2)
  have hp2:pts[k]=(at',he,li):=(List.getElem?_eq_some_iff.1 hp).2
  rcases Nat.eq_zero_or_pos k with rfl|h0
  ·repeat (first|(refine n1s rfl ?_;simp[go_sem,↓iO,iO,tN,hp,hp2,hb])|refine anI ?_|refine⟨dcK,?_⟩|refine iP ?_|refine iN ?_)
   refine cF (d1) [] ?_ ?_ ?_ ?_<;>simp[go_sem,↓iO,iO,tN,hp,hp2,hb]
   repeat (first|(refine n1s rfl ?_;simp[go_sem,↓iO,iO,tN,hp,hp2,hb])|refine anI ?_|refine⟨dcK,?_⟩|refine iP ?_|refine iN ?_)
   refine cF (d2) [] ?_ ?_ ?_ ?_<;>simp[go_sem,↓iO,iO,tN,hp,hp2,hb]
   repeat (first|(refine n1s rfl ?_;simp[go_sem,↓iO,iO,tN,hp,hp2,hb])|refine anI ?_|refine⟨dcK,?_⟩|refine iP ?_|refine iN ?_)
   rw[RqN];refine⟨1,[(101,some 101)],?_,?_,?_⟩
   ·omega
   ·omega
   simp[go_sem,↓iO,iO,tN]
  ·obtain⟨q,hq⟩:∃ q,pts[k - 1]? = some q:=has_get (by omega)
   have q4:=q3 q h0 hq
   obtain⟨qa,qh,ql⟩:=q
   dsimp only at q4
   have hk1:k - 1 < pts.length:=by omega
   have hq2:pts[k - 1]=(qa,qh,ql):=(List.getElem?_eq_some_iff.1 hq).2
   have e1:((k:Int) - 1).toNat=k - 1:=by omega
   repeat (first|(refine n1s rfl ?_;simp[go_sem,↓iO,iO,tN,hp,hp2,hb])|refine anI ?_|refine⟨dcK,?_⟩|refine iP ?_|refine iN ?_)
   refine cF (d1) [] ?_ ?_ ?_ ?_<;>simp[go_sem,↓iO,iO,tN,hp,hp2,hb,h0]
   repeat (first|(refine n1s rfl ?_;simp[go_sem,↓iO,iO,tN,hp,hp2,hb,h0])|refine anI ?_|refine⟨dcK,?_⟩|refine iP ?_|refine iN ?_)
   refine cF (d2) [] ?_ ?_ ?_ ?_<;>simp[go_sem,↓iO,iO,tN,hp,hp2,hb,h0,hq,hq2,e1,hk1,q4]
   repeat (first|(refine n1s rfl ?_;simp[go_sem,↓iO,iO,tN,hp,hp2,hb,h0,hq,hq2,e1,hk1,q4])|refine anI ?_|refine⟨dcK,?_⟩|refine iP ?_|refine iN ?_)
   rw[RqN];refine⟨k+1,[(101,some 101)],?_,?_,?_⟩
   ·omega
   ·omega
   simp[go_sem,↓iO,iO,tN]
 ·obtain rfl:k=pts.length:=by omega
  obtain⟨p,hp⟩:∃ p,pts[0]? = some p:=has_get (by omega)
  obtain⟨q,hq⟩:∃ q,pts[pts.length - 1]? = some q:=has_get (by omega)
  have g1:=h7 p hp
  have g2:=h8 q hq
  obtain⟨pa,ph,pl⟩:=p
  obtain⟨qa,qh,ql⟩:=q
  dsimp only at g1 g2
  have hp2:pts[0]'(by omega)=(pa,ph,pl):=(List.getElem?_eq_some_iff.1 hp).2
  have hq2:pts[pts.length - 1]'(by omega)=(qa,qh,ql):=(List.getElem?_eq_some_iff.1 hq).2
  have e1:((pts.length:Int) - 1).toNat=pts.length - 1:=by omega
  have e2:0 < pts.length:=by omega
  have e3:pts.length - 1 < pts.length:=by omega
  repeat (first|(refine n1s rfl ?_;simp[go_sem,↓iO,iO,tN,hp,hp2,hq,hq2,g1,g2,e1,e2,e3])|refine anI ?_|refine⟨dcK,?_⟩|refine iP ?_|refine iN ?_)
  first|rw[TqR]|rw[TqN]
  refine⟨[],?_⟩
  simp[go_sem,↓iO,iO,tN]
end Go.Proofs.YtdjmklobfjigoaaGreatDoor
namespace Go.Proofs.YtdjmklobfjigoaaGreatDoor.Pc
def vol:List (Int×Int)→Int
 | []=>0
 | p :: r=>p.2+vol r
theorem vol_append (a b:List (Int×Int)):vol (a++b)=vol a+vol b:=by
 induction a with
 | nil=>simp[vol]
 | cons p r ih=>simp[vol,ih];omega
theorem vol_snoc {l:List (Int×Int)} {k:Nat} {p:Int×Int} (h:l[k]? = some p):vol (l.take (k+1))=vol (l.take k)+p.2:=by
 obtain⟨hk,rfl⟩:=List.getElem?_eq_some_iff.1 h
 rw[List.take_succ_eq_append_getElem hk,vol_append];simp[vol]
structure Sane (ps:List (Int×Int)):Prop where
 len:ps.length≤100000
 each:∀ p∈ps,0≤p.2∧p.2≤1000000
theorem vol_bound (ps:List (Int×Int)) (h:∀ p∈ps,0≤p.2∧p.2≤1000000):0≤vol ps∧vol ps≤1000000 * (ps.length:Int):=by
 induction ps with
 | nil=>simp[vol]
 | cons p r ih=>
  have h1:=ih fun q hq=>h q (List.mem_cons_of_mem _ hq)
  have h2:=h p (List.mem_cons_self)
  simp only[vol,List.length_cons]
  omega
theorem Sane.vol {ps:List (Int×Int)} (h:Sane ps):0≤vol ps∧vol ps≤100000000000:=by
 have h1:=vol_bound ps h.each
 have h2:=h.len
 omega
theorem Sane.take {ps:List (Int×Int)} (h:Sane ps) (k:Nat):Sane (ps.take k):=
 ⟨by rw[List.length_take];have:=h.len;omega,fun p hp=>h.each p (List.mem_of_mem_take hp)⟩
def litres (ps:List (Int×Int)):List Int:=ps.flatMap fun p=>List.replicate p.2.toNat p.1
theorem litres_nil:litres []=[]:=rfl
theorem litres_cons (p:Int×Int) (r:List (Int×Int)):litres (p :: r)=List.replicate p.2.toNat p.1++litres r:=rfl
theorem litres_append (a b:List (Int×Int)):litres (a++b)=litres a++litres b:=by simp[litres]
theorem litres_length (ps:List (Int×Int)) (h:∀ p∈ps,0≤p.2):((litres ps).length:Int)=vol ps:=by
 induction ps with
 | nil=>rfl
 | cons p r ih=>
  have h1:=ih fun q hq=>h q (List.mem_cons_of_mem _ hq)
  have h2:=h p (List.mem_cons_self)
  rw[litres_cons,List.length_append,List.length_replicate,vol]
  omega
def Canon:List (Int×Int)→Prop
 | []=>True
 | p :: r=>0 < p.2∧(∀ q,r.head? = some q→p.1≠q.1)∧Canon r
theorem Canon.pos {ps:List (Int×Int)} (h:Canon ps):∀ p∈ps,0 < p.2:=by
 induction ps with
 | nil=>simp
 | cons p r ih=>
  intro q hq
  rcases List.mem_cons.1 hq with rfl|hq
  ·exact h.1
  ·exact ih h.2.2 q hq
theorem canon_snoc (a:List (Int×Int)) (p:Int×Int):Canon (a++[p])↔Canon a∧0 < p.2∧∀ q,a.getLast? = some q→q.1≠p.1:=by
 induction a with
 | nil=>simp[Canon]
 | cons x r ih=>
  rw[List.cons_append]
  cases r with
  | nil=>
   simp[Canon]
   intro _
   exact And.comm
  | cons y s=>
   have e:(x :: y :: s).getLast? = (y :: s).getLast?:=by simp[List.getLast?_cons_cons]
   rw[e]
   simp only[Canon]at ih ⊢
   rw[show (y :: s++[p]).head? = some y by simp]
   constructor
   ·rintro ⟨h1,h2,h3⟩
    have:=ih.1 h3
    exact⟨⟨h1,by simpa using h2,this.1⟩,this.2⟩
   ·rintro ⟨⟨h1,h2,h3⟩,h4⟩
    exact⟨h1,by simpa using h2,ih.2 ⟨h3,h4⟩⟩
theorem litres_head {ps:List (Int×Int)} (h:Canon ps):(litres ps).head? = ps.head?.map Prod.fst:=by
 cases ps with
 | nil=>rfl
 | cons p r=>
  have:=h.1
  obtain⟨n,hn⟩:∃ n,p.2.toNat=n+1:=⟨p.2.toNat - 1,by omega⟩
  rw[litres_cons,hn,List.replicate_succ]
  simp
theorem rep_eq {b:Int} {l m:List Int} (hl:∀ x,l.head? = some x→x≠b) (hm:∀ x,m.head? = some x→x≠b):∀ {u v:Nat},List.replicate u b++l=List.replicate v b++m→u=v∧l=m:=by
 intro u
 induction u with
 | zero=>
  intro v h
  cases v with
  | zero=>simpa using h
  | succ v=>
   rw[List.replicate_succ]at h
   simp at h
   exact absurd rfl (hl b (by rw[h];rfl))
 | succ u ih=>
  intro v h
  cases v with
  | zero=>
   rw[List.replicate_succ]at h
   simp at h
   exact absurd rfl (hm b (by rw[←h];rfl))
  | succ v=>
   rw[List.replicate_succ,List.replicate_succ]at h
   simp only[List.cons_append,List.cons.injEq,true_and]at h
   have:=ih h
   exact⟨by omega,this.2⟩
theorem canon_unique:∀ {a b:List (Int×Int)},Canon a→Canon b→litres a=litres b→a=b:=by
 intro a
 induction a with
 | nil=>
  intro b _ hb h
  cases b with
  | nil=>rfl
  | cons q s=>
   have:=litres_head hb
   rw[←h]at this
   simp[litres]at this
 | cons p r ih=>
  intro b ha hb h
  cases b with
  | nil=>
   have:=litres_head ha
   rw[h]at this
   simp[litres]at this
  | cons q s=>
   have h1:=litres_head ha
   have h2:=litres_head hb
   rw[h,h2]at h1
   simp at h1
   rw[litres_cons,litres_cons,h1]at h
   have k1:∀ x,(litres r).head? = some x→x≠p.1:=by
    intro x hx
    rw[litres_head ha.2.2]at hx
    obtain⟨q',hq',rfl⟩:=Option.map_eq_some_iff.1 hx
    exact fun e=>ha.2.1 q' hq' e.symm
   have k2:∀ x,(litres s).head? = some x→x≠p.1:=by
    intro x hx
    rw[litres_head hb.2.2]at hx
    obtain⟨q',hq',rfl⟩:=Option.map_eq_some_iff.1 hx
    exact fun e=>hb.2.1 q' hq' (by rw[h1];exact e.symm)
   have:=rep_eq k1 k2 h
   have e:=ih ha.2.2 hb.2.2 this.2
   have hp:=ha.1
   have hq:=hb.1
   have:p=q:=Prod.ext h1.symm (by omega)
   rw[this,e]
def jstep (out:List (Int×Int)) (p:Int×Int):List (Int×Int):=
 if p.2=0 then out else
  match out.getLast? with
  | some q=>if q.1=p.1 then out.dropLast++[(q.1,q.2+p.2)] else out++[p]
  | none=>out++[p]
def join (ps:List (Int×Int)):List (Int×Int):=ps.foldl jstep []
theorem join_snoc {ps:List (Int×Int)} {k:Nat} {p:Int×Int} (h:ps[k]? = some p):join (ps.take (k+1))=jstep (join (ps.take k)) p:=by
 obtain⟨hk,rfl⟩:=List.getElem?_eq_some_iff.1 h
 unfold join
 rw[List.take_succ_eq_append_getElem hk,List.foldl_append]
 rfl
theorem jstep_zero {out:List (Int×Int)} {p:Int×Int} (h:p.2=0):jstep out p=out:=by unfold jstep;rw[if_pos h]
theorem jstep_same {out:List (Int×Int)} {p q:Int×Int} (h:p.2≠0) (hq:out.getLast? = some q) (e:q.1=p.1):jstep out p=out.dropLast++[(q.1,q.2+p.2)]:=by unfold jstep;rw[if_neg h,hq];simp[e]
theorem jstep_new {out:List (Int×Int)} {p:Int×Int} (h:p.2≠0) (hq:∀ q,out.getLast? = some q→q.1≠p.1):jstep out p=out++[p]:=by
 unfold jstep
 rw[if_neg h]
 cases hl:out.getLast? with
 | none=>rfl
 | some q=>simp[hq q hl]
theorem jstep_length {out:List (Int×Int)} {p:Int×Int}:(jstep out p).length≤out.length+1:=by
 unfold jstep
 split
 ·omega
 ·cases hl:out.getLast? with
  | none=>simp
  | some q=>
   have:out≠[]:=by intro e;rw[e]at hl;cases hl
   have:=List.length_pos_iff.2 this
   dsimp only
   split<;>simp<;>omega
theorem foldl_length (ps:List (Int×Int)):∀ out,(ps.foldl jstep out).length≤out.length+ps.length:=by
 induction ps with
 | nil=>simp
 | cons p r ih=>
  intro out
  have:=ih (jstep out p)
  have:=@jstep_length out p
  simp only[List.foldl_cons,List.length_cons]
  omega
theorem join_length (ps:List (Int×Int)):(join ps).length≤ps.length:=by
 have:=foldl_length ps []
 simpa [join] using this
theorem last_split {out:List (Int×Int)} {q:Int×Int} (h:out.getLast? = some q):out=out.dropLast++[q]:=by
 have hne:out≠[]:=by intro e;rw[e]at h;cases h
 have h2:=List.dropLast_concat_getLast hne
 rw[List.getLast?_eq_some_getLast hne]at h
 cases h
 exact h2.symm
theorem jstep_canon {out:List (Int×Int)} {p:Int×Int} (h:Canon out) (hp:0≤p.2):Canon (jstep out p)∧litres (jstep out p)=litres out++List.replicate p.2.toNat p.1∧vol (jstep out p)=vol out+p.2:=by
 by_cases h0:p.2=0
 ·rw[jstep_zero h0,h0];simp[h]
 ·cases hl:out.getLast? with
  | none=>
   rw[jstep_new h0 (by rw[hl];intro q hq;cases hq)]
   refine⟨(canon_snoc _ _).2 ⟨h,by omega,by rw[hl];intro q hq;cases hq⟩,?_,?_⟩
   ·rw[litres_append];simp[litres]
   ·rw[vol_append];simp[vol]
  | some q=>
   by_cases e:q.1=p.1
   ·rw[jstep_same h0 hl e]
    have hs:=last_split hl
    have hc:Canon (out.dropLast++[q]):=by rw[←hs];exact h
    have hc2:=(canon_snoc _ _).1 hc
    refine⟨(canon_snoc _ _).2 ⟨hc2.1,by have:=hc2.2.1;simp;omega,hc2.2.2⟩,?_,?_⟩
    ·conv=>rhs;rw[hs]
     rw[litres_append,litres_append,List.append_assoc]
     congr 1
     have:=hc2.2.1
     simp only[litres,List.flatMap_cons,List.flatMap_nil,List.append_nil]
     rw[←e,List.replicate_append_replicate]
     congr 1
     omega
    ·conv=>rhs;rw[hs]
     rw[vol_append,vol_append]
     simp[vol];omega
   ·rw[jstep_new h0 (by rw[hl];intro q' hq';cases hq';exact e)]
    refine⟨(canon_snoc _ _).2 ⟨h,by omega,by rw[hl];intro q' hq';cases hq';exact e⟩,?_,?_⟩
    ·rw[litres_append];simp[litres]
    ·rw[vol_append];simp[vol]
theorem foldl_canon (ps:List (Int×Int)) (hp:∀ p∈ps,0≤p.2):∀ out,Canon out→Canon (ps.foldl jstep out)∧litres (ps.foldl jstep out)=litres out++litres ps∧vol (ps.foldl jstep out)=vol out+vol ps:=by
 induction ps with
 | nil=>intro out h;simp[litres,vol,h]
 | cons p r ih=>
  intro out h
  have h1:=jstep_canon h (hp p (List.mem_cons_self))
  have h2:=ih (fun q hq=>hp q (List.mem_cons_of_mem _ hq)) _ h1.1
  refine⟨h2.1,?_,?_⟩
  ·rw[List.foldl_cons,h2.2.1,h1.2.1,litres_cons,List.append_assoc]
  ·rw[List.foldl_cons,h2.2.2,h1.2.2,vol];omega
theorem join_canon {ps:List (Int×Int)} (hp:∀ p∈ps,0≤p.2):Canon (join ps):=(foldl_canon ps hp [] trivial).1
theorem join_litres {ps:List (Int×Int)} (hp:∀ p∈ps,0≤p.2):litres (join ps)=litres ps:=by have:=(foldl_canon ps hp [] trivial).2.1;rwa [litres_nil,List.nil_append]at this
theorem join_vol {ps:List (Int×Int)} (hp:∀ p∈ps,0≤p.2):vol (join ps)=vol ps:=by have:=(foldl_canon ps hp [] trivial).2.2;rwa [vol,Int.zero_add]at this
theorem join_self {ps:List (Int×Int)} (h:Canon ps):join ps=ps:=by
 have hp:∀ p∈ps,0≤p.2:=fun p hp=>by have:=h.pos p hp;omega
 exact canon_unique (join_canon hp) h (join_litres hp)
def heads:List (Int×Int)→Int→List (Int×Int)
 | [],_=>[]
 | p :: r,k=>(p.1,min p.2 k) :: heads r (k - min p.2 k)
def tails:List (Int×Int)→Int→List (Int×Int)
 | [],_=>[]
 | p :: r,k=>(p.1,p.2 - min p.2 k) :: tails r (k - min p.2 k)
def rest:List (Int×Int)→Int→Int
 | [],k=>k
 | p :: r,k=>rest r (k - min p.2 k)
theorem heads_length (ps:List (Int×Int)):∀ k,(heads ps k).length=ps.length:=by
 induction ps with
 | nil=>intro k;rfl
 | cons p r ih=>intro k;simp[heads,ih]
theorem tails_length (ps:List (Int×Int)):∀ k,(tails ps k).length=ps.length:=by
 induction ps with
 | nil=>intro k;rfl
 | cons p r ih=>intro k;simp[tails,ih]
theorem heads_append (a b:List (Int×Int)):∀ k,heads (a++b) k=heads a k++heads b (rest a k):=by
 induction a with
 | nil=>intro k;rfl
 | cons p r ih=>intro k;simp[heads,rest,ih]
theorem tails_append (a b:List (Int×Int)):∀ k,tails (a++b) k=tails a k++tails b (rest a k):=by
 induction a with
 | nil=>intro k;rfl
 | cons p r ih=>intro k;simp[tails,rest,ih]
theorem rest_append (a b:List (Int×Int)):∀ k,rest (a++b) k=rest b (rest a k):=by
 induction a with
 | nil=>intro k;rfl
 | cons p r ih=>intro k;simp[rest,ih]
theorem heads_snoc {ps:List (Int×Int)} {i:Nat} {p:Int×Int} (k:Int) (h:ps[i]? = some p):heads (ps.take (i+1)) k=heads (ps.take i) k++[(p.1,min p.2 (rest (ps.take i) k))]:=by
 obtain⟨hk,rfl⟩:=List.getElem?_eq_some_iff.1 h
 rw[List.take_succ_eq_append_getElem hk,heads_append];rfl
theorem tails_snoc {ps:List (Int×Int)} {i:Nat} {p:Int×Int} (k:Int) (h:ps[i]? = some p):tails (ps.take (i+1)) k=tails (ps.take i) k++[(p.1,p.2 - min p.2 (rest (ps.take i) k))]:=by
 obtain⟨hk,rfl⟩:=List.getElem?_eq_some_iff.1 h
 rw[List.take_succ_eq_append_getElem hk,tails_append];rfl
theorem rest_snoc {ps:List (Int×Int)} {i:Nat} {p:Int×Int} (k:Int) (h:ps[i]? = some p):rest (ps.take (i+1)) k=rest (ps.take i) k - min p.2 (rest (ps.take i) k):=by
 obtain⟨hk,rfl⟩:=List.getElem?_eq_some_iff.1 h
 rw[List.take_succ_eq_append_getElem hk,rest_append];rfl
theorem rest_range (ps:List (Int×Int)) (hp:∀ p∈ps,0≤p.2):∀ k,0≤k→0≤rest ps k∧rest ps k≤k:=by
 induction ps with
 | nil=>intro k h;exact⟨h,Int.le_refl _⟩
 | cons p r ih=>
  intro k h
  have h1:=hp p (List.mem_cons_self)
  have:=ih (fun q hq=>hp q (List.mem_cons_of_mem _ hq)) (k - min p.2 k) (by omega)
  simp only[rest]
  omega
theorem heads_each (ps:List (Int×Int)) (hp:∀ p∈ps,0≤p.2∧p.2≤1000000):∀ k,0≤k→∀ p∈heads ps k,0≤p.2∧p.2≤1000000:=by
 induction ps with
 | nil=>intro k _ p h;cases h
 | cons q r ih=>
  intro k hk p h
  have h1:=hp q (List.mem_cons_self)
  rcases List.mem_cons.1 h with rfl|h
  ·simp only;omega
  ·exact ih (fun x hx=>hp x (List.mem_cons_of_mem _ hx)) _ (by omega) p h
theorem tails_each (ps:List (Int×Int)) (hp:∀ p∈ps,0≤p.2∧p.2≤1000000):∀ k,0≤k→∀ p∈tails ps k,0≤p.2∧p.2≤1000000:=by
 induction ps with
 | nil=>intro k _ p h;cases h
 | cons q r ih=>
  intro k hk p h
  have h1:=hp q (List.mem_cons_self)
  rcases List.mem_cons.1 h with rfl|h
  ·simp only;omega
  ·exact ih (fun x hx=>hp x (List.mem_cons_of_mem _ hx)) _ (by omega) p h
theorem heads_litres (ps:List (Int×Int)) (hp:∀ p∈ps,0≤p.2):∀ k:Nat,litres (heads ps k)=(litres ps).take k:=by
 induction ps with
 | nil=>intro k;simp[heads,litres]
 | cons p r ih=>
  intro k
  have h1:=hp p (List.mem_cons_self)
  obtain⟨v,hv⟩:=Int.eq_ofNat_of_zero_le h1
  have e:(k:Int) - min p.2 (k:Int)=((k - min v k:Nat):Int):=by omega
  simp only[heads]
  rw[e,litres_cons,litres_cons,ih (fun q hq=>hp q (List.mem_cons_of_mem _ hq)),List.take_append,List.take_replicate,List.length_replicate]
  have e1:(min p.2 (k:Int)).toNat=min k p.2.toNat:=by omega
  have e2:k - min v k=k - p.2.toNat:=by omega
  rw[e2,←e1]
theorem tails_litres (ps:List (Int×Int)) (hp:∀ p∈ps,0≤p.2):∀ k:Nat,litres (tails ps k)=(litres ps).drop k:=by
 induction ps with
 | nil=>intro k;simp[tails,litres]
 | cons p r ih=>
  intro k
  have h1:=hp p (List.mem_cons_self)
  obtain⟨v,hv⟩:=Int.eq_ofNat_of_zero_le h1
  have e:(k:Int) - min p.2 (k:Int)=((k - min v k:Nat):Int):=by omega
  simp only[tails]
  rw[e,litres_cons,litres_cons,ih (fun q hq=>hp q (List.mem_cons_of_mem _ hq)),List.drop_append,List.drop_replicate,List.length_replicate]
  have e1:(p.2 - min p.2 (k:Int)).toNat=p.2.toNat - k:=by omega
  have e2:k - min v k=k - p.2.toNat:=by omega
  rw[e2,←e1]
def OkAt (ps:List (Int×Int)) (i:Nat):Prop:=
 ∀ p,ps[i]? = some p→(0≤p.1∧p.1 < 1000∧1≤p.2∧p.2≤1000000)∧∀ q,0 < i→ps[i - 1]? = some q→q.1≠p.1
structure Vd (ps:List (Int×Int)):Prop where
 len:ps.length≤200
 ok:∀ i,i < ps.length→OkAt ps i
 vol:vol ps≤1000000
noncomputable def valid (ps:List (Int×Int)):Bool:=@decide (Vd ps) (Classical.propDecidable _)
theorem valid_iff {ps:List (Int×Int)}:valid ps=true↔Vd ps:=by unfold valid;simp
theorem valid_t {ps:List (Int×Int)} (h:Vd ps):valid ps=true:=valid_iff.2 h
theorem valid_f {ps:List (Int×Int)} (h:¬ Vd ps):valid ps=false:=by
 cases hv:valid ps with
 | false=>rfl
 | true=>exact absurd (valid_iff.1 hv) h
theorem Vd.each {ps:List (Int×Int)} (h:Vd ps):∀ p∈ps,(0≤p.1∧p.1 < 1000)∧1≤p.2∧p.2≤1000000:=by
 intro p hp
 obtain⟨i,hi⟩:=List.getElem?_of_mem hp
 have:=(h.ok i (List.getElem?_eq_some_iff.1 hi).1 p hi).1
 exact⟨⟨this.1,this.2.1⟩,this.2.2⟩
theorem Vd.sane {ps:List (Int×Int)} (h:Vd ps):Sane ps:=⟨by have:=h.len;omega,fun p hp=>by have:=(h.each p hp).2;omega⟩
theorem Vd.nonneg {ps:List (Int×Int)} (h:Vd ps):∀ p∈ps,0≤p.2:=fun p hp=>by have:=(h.each p hp).2;omega
theorem canon_of_at (ps:List (Int×Int)) (h:∀ i,i < ps.length→OkAt ps i):Canon ps:=by
 induction ps with
 | nil=>trivial
 | cons p r ih=>
  refine⟨?_,?_,ih fun i hi=>?_⟩
  ·have:=(h 0 (by simp) p rfl).1;omega
  ·intro q hq
   cases r with
   | nil=>cases hq
   | cons y s=>
    simp at hq;subst hq
    exact (h 1 (by simp) y rfl).2 p (by omega) rfl
  ·intro q hq
   have h1:=h (i+1) (by simp;omega) q (by simpa using hq)
   refine⟨h1.1,fun x hi hx=>h1.2 x (by omega) ?_⟩
   rw[Nat.add_sub_cancel]
   obtain⟨j,rfl⟩:∃ j,i=j+1:=⟨i - 1,by omega⟩
   simpa using hx
theorem Vd.canon {ps:List (Int×Int)} (h:Vd ps):Canon ps:=canon_of_at ps h.ok
theorem at_of_canon (ps:List (Int×Int)) (hc:Canon ps) (h:∀ p∈ps,(0≤p.1∧p.1 < 1000)∧p.2≤1000000):∀ i,i < ps.length→OkAt ps i:=by
 induction ps with
 | nil=>intro i hi;simp at hi
 | cons p r ih=>
  intro i hi
  cases i with
  | zero=>
   intro q hq
   simp at hq;subst hq
   have:=h p (List.mem_cons_self)
   have:=hc.1
   exact⟨by omega,fun _ h0=>by omega⟩
  | succ i=>
   intro q hq
   have hq':r[i]? = some q:=by simpa using hq
   have h1:=ih hc.2.2 (fun x hx=>h x (List.mem_cons_of_mem _ hx)) i (by simpa using hi) q hq'
   refine⟨h1.1,fun x _ hx=>?_⟩
   rw[Nat.add_sub_cancel]at hx
   cases i with
   | zero=>
    simp at hx;subst hx
    refine hc.2.1 q ?_
    rw[List.head?_eq_getElem?];exact hq'
   | succ j=>exact h1.2 x (by omega) (by simpa using hx)
theorem vd_of_canon {ps:List (Int×Int)} (hc:Canon ps) (hb:∀ p∈ps,0≤p.1∧p.1 < 1000) (hl:ps.length≤200) (hv:Pc.vol ps≤1000000):Vd ps:=by
 refine⟨hl,at_of_canon ps hc fun p hp=>⟨hb p hp,?_⟩,hv⟩
 have hpos:∀ q∈ps,0≤q.2:=fun q hq=>by have:=hc.pos q hq;omega
 have:∀ l:List (Int×Int),(∀ q∈l,0≤q.2)→∀ q∈l,q.2≤Pc.vol l:=by
  intro l
  induction l with
  | nil=>intro _ q hq;cases hq
  | cons x s ih=>
   intro hl q hq
   have h0:0≤Pc.vol s:=by
    clear ih hq
    have hs:∀ q∈s,0≤q.2:=fun q hq=>hl q (List.mem_cons_of_mem _ hq)
    clear hl
    induction s with
    | nil=>simp[Pc.vol]
    | cons y t ih=>have:=ih fun q hq=>hs q (List.mem_cons_of_mem _ hq);have:=hs y (List.mem_cons_self);simp only[Pc.vol];omega
   have h1:=hl x (List.mem_cons_self)
   simp only[Pc.vol]
   rcases List.mem_cons.1 hq with rfl|hq
   ·omega
   ·have:=ih (fun z hz=>hl z (List.mem_cons_of_mem _ hz)) q hq;omega
 have:=this ps hpos p hp
 omega
noncomputable def volume (ps:List (Int×Int)):Int:=if valid ps=true then vol ps else 0
def atIn:List (Int×Int)→Int→Int
 | [],_=>-1
 | p :: r,k=>if k < p.2 then p.1 else atIn r (k - p.2)
noncomputable def at_ (ps:List (Int×Int)) (k:Int):Int:=if valid ps=true∧0≤k then atIn ps k else -1
def of_:List (Int×Int)→Int→Int
 | [],_=>0
 | p :: r,b=>(if p.1=b then p.2 else 0)+of_ r b
theorem of_append (a c:List (Int×Int)) (b:Int):of_ (a++c) b=of_ a b+of_ c b:=by
 induction a with
 | nil=>simp[of_]
 | cons p r ih=>simp only[List.cons_append,of_,ih];omega
theorem of_snoc {l:List (Int×Int)} {k:Nat} {p:Int×Int} (b:Int) (h:l[k]? = some p):of_ (l.take (k+1)) b=of_ (l.take k) b+(if p.1=b then p.2 else 0):=by
 obtain⟨hk,rfl⟩:=List.getElem?_eq_some_iff.1 h
 rw[List.take_succ_eq_append_getElem hk,of_append];simp[of_]
theorem of_bound (ps:List (Int×Int)) (b:Int) (h:∀ p∈ps,0≤p.2∧p.2≤1000000):0≤of_ ps b∧of_ ps b≤1000000 * (ps.length:Int):=by
 induction ps with
 | nil=>simp[of_]
 | cons p r ih=>
  have h1:=ih fun q hq=>h q (List.mem_cons_of_mem _ hq)
  have h2:=h p (List.mem_cons_self)
  simp only[of_,List.length_cons]
  split<;>omega
noncomputable def batch (ps:List (Int×Int)) (b:Int):Int:=if valid ps=true then of_ ps b else 0
def Proper (ps:List (Int×Int)):Prop:=ps.length≤400∧∀ p∈ps,(0≤p.1∧p.1 < 1000)∧0≤p.2∧p.2≤1000000
noncomputable def merge (ps:List (Int×Int)):List (Int×Int):=by
 classical exact if Proper ps then join ps else []
def shift (f g:List (Int×Int)) (back:Bool):List (Int×Int)×List (Int×Int):=
 if back then (join (tails (f++g) (vol g)),join (heads (f++g) (vol g)))
 else (join (heads (g++f) (vol f)),join (tails (g++f) (vol f)))
noncomputable def push (f g:List (Int×Int)) (back:Bool):List (Int×Int)×List (Int×Int)×Int:=by
 classical
 exact if valid f=true∧valid g=true then
  if (shift f g back).1.length≤200∧(shift f g back).2.length≤200 then ((shift f g back).1,(shift f g back).2,0) else ([],[],4)
 else ([],[],9)
end Go.Proofs.YtdjmklobfjigoaaGreatDoor.Pc
namespace Go.Proofs.YtdjmklobfjigoaaGreatDoor
open Go.RowKit Sy
@[go_sem] def encP (p:Int×Int):T:=.agg [.int p.1,.int p.2]
@[go_sem] def encPs (l:List (Int×Int)):T:=.sl 2 (l.map encP)
@[go_sem] def blkP (l:List (Int×Int)):Blk:=.list 40 2 (l.map encP)
abbrev Lit (p:Int×Int):Prop:=(0≤p.1∧p.1 < 1000)∧0≤p.2∧p.2≤1000000
@[go_sem] theorem flat_encP:∀ l:List (Int×Int),flatTs (l.map encP)
 | []=>by simp[flatTs]
 | p :: r=>by simp[flatTs,flatT,encP,flat_encP r]
theorem vol_ge:∀ {l:List (Int×Int)},(∀ q∈l,0≤q.2)→∀ q∈l,q.2≤Pc.vol l
 | [],_,q,hq=>by cases hq
 | x :: s,hl,q,hq=>by
  have h0:∀ (m:List (Int×Int)),(∀ q∈m,0≤q.2)→0≤Pc.vol m:=by
   intro m
   induction m with
   | nil=>intro _;simp[Pc.vol]
   | cons y t ih=>intro hs;have:=ih fun q hq=>hs q (List.mem_cons_of_mem _ hq);have:=hs y (List.mem_cons_self);simp only[Pc.vol];omega
  have h1:=hl x (List.mem_cons_self)
  have h2:=h0 s fun q hq=>hl q (List.mem_cons_of_mem _ hq)
  simp only[Pc.vol]
  rcases List.mem_cons.1 hq with rfl|hq
  ·omega
  ·have:=vol_ge (fun z hz=>hl z (List.mem_cons_of_mem _ hz)) q hq;omega
theorem join_each {l:List (Int×Int)} (h:Pc.Sane l):∀ q∈Pc.join l,0≤q.2∧q.2≤100000000000:=by
 intro q hq
 have h1:=Pc.join_canon fun p hp=>(h.each p hp).1
 have h2:=fun q hq=>Int.le_of_lt (h1.pos q hq)
 have h3:=vol_ge h2 q hq
 rw[Pc.join_vol fun p hp=>(h.each p hp).1]at h3
 have:=h.vol
 exact⟨h2 q hq,by omega⟩
theorem heads_sane {l:List (Int×Int)} (h:Pc.Sane l) {k:Int} (hk:0≤k):Pc.Sane (Pc.heads l k):=⟨by rw[Pc.heads_length];exact h.len,Pc.heads_each l h.each k hk⟩
theorem tails_sane {l:List (Int×Int)} (h:Pc.Sane l) {k:Int} (hk:0≤k):Pc.Sane (Pc.tails l k):=⟨by rw[Pc.tails_length];exact h.len,Pc.tails_each l h.each k hk⟩
end Go.Proofs.YtdjmklobfjigoaaGreatDoor
namespace Go.Proofs.YtdjmklobfjigoaaGreatDoor
open Go.RowKit Sy
open Go.IntWalk renaming iteOmega → iO, toNatUp → tN
theorem merged_fn (l:List (Int×Int)) (h:Pc.Sane l):FnOk Tryz.prog 32 [.t (encPs l)] [] (.own 1000) [(1000,blkP (Pc.join l))]:=by
 have hlen:=h.len
 refine FnOk.intro fact_mixed Tryz.func32 rfl Tryz.ntmps32 (by rfl) (by simp) ?_
 repeat (first|(refine n1s rfl ?_;simp[go_sem,↓iO,iO,tN])|refine anI ?_|refine⟨dcK,?_⟩|refine iP ?_|refine iN ?_)
 refine nf1_sound' _ _ _ ?_;simp only[nf1]
 refine CW.loop (ι:=Nat) (fun k=>⟨[(3,.own 500),(7,.t (encPs l)),(8,.t (.int l.length)),(9,.t (.int k))],[(500,blkP (Pc.join (l.take k)))]⟩) (fun k=>k≤l.length) (fun k=>l.length - k) 0 [(500,none)] (by omega) ?_ ?_
 ·simp[go_sem,↓iO,iO,tN,Pc.join]
 intro k hk
 by_cases hb:k < l.length
 ·obtain⟨p,hp⟩:=has_get hb
  have hs:=Pc.join_snoc hp
  have hpv:=h.each p (mem_get hp)
  have hjl:=Pc.join_length (l.take k)
  rw[List.length_take]at hjl
  have hje:=join_each (h.take k)
  obtain⟨out,hout⟩:∃ out,out=Pc.join (l.take k):=⟨_,rfl⟩
  rw[←hout]at hs hjl hje
  by_cases hz:p.2=0
  ·rw[Pc.jstep_zero hz]at hs
   repeat (first|(refine n1s rfl ?_;simp[go_sem,↓iO,iO,tN,hp,hz,←hout])|refine anI ?_|refine⟨dcK,?_⟩|refine iP ?_|refine iN ?_)
   rw[RqN];refine⟨k+1,[(500,some 500)],?_,?_,?_⟩
   ·omega
   ·omega
   simp[go_sem,↓iO,iO,tN,hs,←hout]
  ·rcases List.eq_nil_or_concat out with rfl|⟨o,q,rfl⟩
   ·rw[Pc.jstep_new hz (by simp)]at hs
    repeat (first|(refine n1s rfl ?_;simp[go_sem,↓iO,iO,tN,hp,hz,←hout])|refine anI ?_|refine⟨dcK,?_⟩|refine iP ?_|refine iN ?_)
    rw[RqN];refine⟨k+1,[(500,some 118)],?_,?_,?_⟩
    ·omega
    ·omega
    simp[go_sem,↓iO,iO,tN,hs,←hout]
   ·simp only[List.concat_eq_append]at *
    simp only[List.length_append,List.length_singleton]at hjl
    have hq:=hje q (by simp)
    by_cases he:q.1=p.1
    ·rw[Pc.jstep_same hz (by simp) he,List.dropLast_concat]at hs
     repeat (first|(refine n1s rfl ?_;simp[go_sem,↓iO,iO,tN,hp,hz,←hout,he])|refine anI ?_|refine⟨dcK,?_⟩|refine iP ?_|refine iN ?_)
     rw[RqN];refine⟨k+1,[(500,some 500)],?_,?_,?_⟩
     ·omega
     ·omega
     simp[go_sem,↓iO,iO,tN,hs,←hout,he]
    ·rw[Pc.jstep_new hz (by simpa using he)]at hs
     repeat (first|(refine n1s rfl ?_;simp[go_sem,↓iO,iO,tN,hp,hz,←hout,he])|refine anI ?_|refine⟨dcK,?_⟩|refine iP ?_|refine iN ?_)
     rw[RqN];refine⟨k+1,[(500,some 118)],?_,?_,?_⟩
     ·omega
     ·omega
     simp[go_sem,↓iO,iO,tN,hs,←hout,he]
 ·obtain rfl:k=l.length:=by omega
  repeat (first|(refine n1s rfl ?_;simp[go_sem,↓iO,iO,tN])|refine anI ?_|refine⟨dcK,?_⟩|refine iP ?_|refine iN ?_)
  first|rw[TqR]|rw[TqN]
  refine⟨[(1000,some 500)],?_⟩
  simp[go_sem,↓iO,iO,tN,List.take_length]
theorem join_fn (l0 m:List (Int×Int)) (h:Pc.Sane (l0++m)) (hz:∀ p∈m,p.2≠0):FnOk Tryz.prog 36 [.own 0,.t (encPs m)] [(0,blkP (Pc.join l0))] (.own 1000) [(1000,blkP (Pc.join (l0++m)))]:=by
 have hlen:=h.len
 rw[List.length_append]at hlen
 have jsn:∀ (k:Nat) (p:Int×Int),m[k]? = some p→Pc.join (l0++m.take (k+1))=Pc.jstep (Pc.join (l0++m.take k)) p:=by
  intro k p hp
  obtain⟨hk,rfl⟩:=List.getElem?_eq_some_iff.1 hp
  unfold Pc.join
  rw[List.take_succ_eq_append_getElem hk,←List.append_assoc,List.foldl_append]
  rfl
 have tk:∀ k,l0++m.take k=(l0++m).take (l0.length+k):=by
  intro k
  rw[List.take_append,Nat.add_sub_cancel_left,List.take_of_length_le (l:=l0) (by omega)]
 refine FnOk.intro fact_mixed Tryz.func36 rfl Tryz.ntmps36 (by rfl) (by simp) ?_
 repeat (first|(refine n1s rfl ?_;simp[go_sem,↓iO,iO,tN])|refine anI ?_|refine⟨dcK,?_⟩|refine iP ?_|refine iN ?_)
 refine nf1_sound' _ _ _ ?_;simp only[nf1]
 refine CW.loop (ι:=Nat) (fun k=>⟨[(0,.own 500),(8,.t (encPs m)),(9,.t (.int m.length)),(10,.t (.int k))],[(500,blkP (Pc.join (l0++m.take k)))]⟩) (fun k=>k≤m.length) (fun k=>m.length - k) 0 [(500,some 0)] (by omega) ?_ ?_
 ·simp[go_sem,↓iO,iO,tN]
 intro k hk
 by_cases hb:k < m.length
 ·obtain⟨p,hp⟩:=has_get hb
  have hs:=jsn k p hp
  have hpv:=h.each p (List.mem_append_right _ (mem_get hp))
  have hz:=hz p (mem_get hp)
  have hjl:=Pc.join_length (l0++m.take k)
  rw[List.length_append,List.length_take]at hjl
  have hje:=join_each (l:=l0++m.take k) (by rw[tk];exact h.take _)
  obtain⟨out,hout⟩:∃ out,out=Pc.join (l0++m.take k):=⟨_,rfl⟩
  rw[←hout]at hs hjl hje
  rcases List.eq_nil_or_concat out with rfl|⟨o,q,rfl⟩
  ·rw[Pc.jstep_new hz (by simp)]at hs
   repeat (first|(refine n1s rfl ?_;simp[go_sem,↓iO,iO,tN,hp,hz,←hout])|refine anI ?_|refine⟨dcK,?_⟩|refine iP ?_|refine iN ?_)
   rw[RqN];refine⟨k+1,[(500,some 143)],?_,?_,?_⟩
   ·omega
   ·omega
   simp[go_sem,↓iO,iO,tN,hs,←hout]
  ·simp only[List.concat_eq_append]at *
   simp only[List.length_append,List.length_singleton]at hjl
   have hq:=hje q (by simp)
   by_cases he:q.1=p.1
   ·rw[Pc.jstep_same hz (by simp) he,List.dropLast_concat]at hs
    repeat (first|(refine n1s rfl ?_;simp[go_sem,↓iO,iO,tN,hp,hz,←hout,he])|refine anI ?_|refine⟨dcK,?_⟩|refine iP ?_|refine iN ?_)
    rw[RqN];refine⟨k+1,[(500,some 500)],?_,?_,?_⟩
    ·omega
    ·omega
    simp[go_sem,↓iO,iO,tN,hs,←hout,he]
   ·rw[Pc.jstep_new hz (by simpa using he)]at hs
    repeat (first|(refine n1s rfl ?_;simp[go_sem,↓iO,iO,tN,hp,hz,←hout,he])|refine anI ?_|refine⟨dcK,?_⟩|refine iP ?_|refine iN ?_)
    rw[RqN];refine⟨k+1,[(500,some 143)],?_,?_,?_⟩
    ·omega
    ·omega
    simp[go_sem,↓iO,iO,tN,hs,←hout,he]
 ·obtain rfl:k=m.length:=by omega
  repeat (first|(refine n1s rfl ?_;simp[go_sem,↓iO,iO,tN])|refine anI ?_|refine⟨dcK,?_⟩|refine iP ?_|refine iN ?_)
  first|rw[TqR]|rw[TqN]
  refine⟨[(1000,some 500)],?_⟩
  simp[go_sem,↓iO,iO,tN,List.take_length]
@[go_sem] def encGv (o:Option (List (Int×Int))):T:=match o with
 | some l=> .sl 2 (l.map encP)
 | none=> .lit (.slice none 0 0)
theorem width_gv (o:Option (List (Int×Int))):(encGv o).width=1:=by cases o<;>rfl
theorem widths_gv:∀ l:List (Option (List (Int×Int))),T.widths (l.map encGv)=l.length
 | []=>rfl
 | x :: r=>by simp only[List.map_cons,T.widths,widths_gv r,width_gv,List.length_cons];omega
@[go_sem] def blkG (l:List (Option (List (Int×Int)))):Blk:=.list 41 1 (l.map encGv)
@[go_sem] def lineB (net plan:List T) (feeds order:T):Blk:=.box 76 (.ag [.t (.agg net),.t (.agg plan),.t feeds,.t order,.own 1,.own 2,.own 3])
theorem ports_fn (net plan:List T) (feeds order:T) (fi gi oo:List (Option (List (Int×Int)))) (node:Int) (inn:Bool):FnOk Tryz.prog 68 [.pt 0 [] 0,.t (.int node),.t (.bool inn)] [(0,lineB net plan feeds order),(1,blkG fi),(2,blkG gi),(3,blkG oo)] (.fn 98 [.pt 1000 [] 0,.pt 1001 [] 0,.pt 1002 [] 0])
  [(0,lineB net plan feeds order),(1,blkG fi),(2,blkG gi),(3,blkG oo),(1000,.box 71 (.pt 0 [] 0)),(1001,.box 3 (.t (.int node))),(1002,.box 4 (.t (.bool inn)))]:=by
 refine FnOk.intro fact_mixed Tryz.func68 rfl Tryz.ntmps68 (by rfl) (by simp) ?_
 repeat (first|(refine n1s rfl ?_;simp[go_sem,↓iO,iO,tN])|refine anI ?_|refine⟨dcK,?_⟩|refine iP ?_|refine iN ?_)
 first|rw[TqR]|rw[TqN]
 refine⟨[(0,some 0),(1,some 1),(2,some 2),(3,some 3),(1000,some 103),(1001,some 104),(1002,some 105)],?_⟩
 simp[go_sem,↓iO,iO,tN]
theorem segments_fn (net plan:List T) (feeds order:T) (fi gi oo:List (Option (List (Int×Int)))) (node:Int) (inn:Bool):FnOk Tryz.prog 69 [.pt 0 [] 0,.t (.int node),.t (.bool inn)] [(0,lineB net plan feeds order),(1,blkG fi),(2,blkG gi),(3,blkG oo)] (.fn 99 [.pt 1000 [] 0,.pt 1001 [] 0,.pt 1002 [] 0])
  [(0,lineB net plan feeds order),(1,blkG fi),(2,blkG gi),(3,blkG oo),(1000,.box 71 (.pt 0 [] 0)),(1001,.box 4 (.t (.bool inn))),(1002,.box 3 (.t (.int node)))]:=by
 refine FnOk.intro fact_mixed Tryz.func69 rfl Tryz.ntmps69 (by rfl) (by simp) ?_
 repeat (first|(refine n1s rfl ?_;simp[go_sem,↓iO,iO,tN])|refine anI ?_|refine⟨dcK,?_⟩|refine iP ?_|refine iN ?_)
 first|rw[TqR]|rw[TqN]
 refine⟨[(0,some 0),(1,some 1),(2,some 2),(3,some 3),(1000,some 103),(1001,some 105),(1002,some 104)],?_⟩
 simp[go_sem,↓iO,iO,tN]
end Go.Proofs.YtdjmklobfjigoaaGreatDoor
