/- Several texts of this proof, one behind the other. No condition. -/
import Derived.Test.YtocndodilpimnaaGreatTThesB19
import Derived.Test.YtocndodilpimnaaGreatTThesB1
import Derived.Test.YtocndodilpimnaaGreatTThesB14
import Derived.Lib.Overlaps
import Derived.Lib.AppendZerosOnto
import Derived.Laws.CopyRow
import Derived.Laws.NewBlocks
import Derived.Shelf.Spec.SlicesInsert
import Derived.Test.YtocndodilpimnaaGreatTThesB17
set_option maxRecDepth 100000
set_option maxHeartbeats 16000000
set_option linter.unusedVariables false
set_option linter.unusedSimpArgs false
namespace Go.Proofs.YtocndodilpimnaaGreat
open Go.RowKit
theorem od (n:Int):IntKind.u64.wrap n=n % 18446744073709551616:=by simp[IntKind.wrap,IntKind.bits,IntKind.signed]
theorem E5 (n:Int):IntKind.u8.wrap n=n % 256:=by simp[IntKind.wrap,IntKind.bits,IntKind.signed]
theorem Kf {z:Int} (h:0≤z) (h2:z≤9223372036854775807):bits BinOp.xor IntKind.u64 (z * 2) (z / 9223372036854775808)=((Wire.fold z:Nat):Int):=by
 unfold Wire.fold
 rw[if_pos h]
 have e1:z * 2=((z.toNat * 2:Nat):Int):=by omega
 have e2:z / 9223372036854775808=((0:Nat):Int):=by omega
 rw[e1,e2,u64_xor_nat _ _ (by omega) (by omega)]
 simp
theorem Ii {z:Int} (h:z < 0) (h2:-9223372036854775808≤z):bits BinOp.xor IntKind.u64 (2 * z+18446744073709551616) 18446744073709551615=((Wire.fold z:Nat):Int):=by
 unfold Wire.fold
 rw[if_neg (by omega)]
 have e1:2 * z+18446744073709551616=((18446744073709551615 - ((-(z+1)).toNat * 2+1):Nat):Int):=by omega
 have e2:(18446744073709551615:Int)=((18446744073709551615:Nat):Int):=by omega
 rw[e1,e2,u64_xor_nat _ _ (by omega) (by omega)]
 generalize hq:(-(z+1)).toNat * 2+1=q
 have hq2:q < 18446744073709551616:=by omega
 congr 1
 rw[Nat.xor_comm]
 have h3:=HR (st:=18446744073709551615 - q) (by omega)
 rw[h3]
 omega
theorem JQ {c:Nat} (h:c < 256):bits BinOp.or IntKind.u8 (c:Int) 128=((c % 128+128:Nat):Int):=by
 have:=u8_or_nat c 128 h (by omega)
 rw[Wire.P5 c h]at this
 exact this
theorem LV {c:Nat} (h:c < 256):bits BinOp.and IntKind.u8 (c:Int) 127=((c % 128:Nat):Int):=by
 have:=u8_and_nat c 127 h (by omega)
 rw[nat_mask7]at this
 exact this
theorem Ks {q c k:Nat} (hk:k < 10) (hq:q < 2 ^ (7 * k)) (hc:c < 256) :
  bits BinOp.or IntKind.u64 (q:Int) (((c % 128:Nat):Int) * 2 ^ (7 * k) % 18446744073709551616)=(((q+c % 128 * 2 ^ (7 * k)) % 18446744073709551616:Nat):Int):=by
 have hp:(2:Int) ^ (7 * k)=((2 ^ (7 * k):Nat):Int):=by simp
 rw[hp,←Int.natCast_mul]
 have h2:((c % 128 * 2 ^ (7 * k):Nat):Int) % 18446744073709551616=((c % 128 * 2 ^ (7 * k) % 18446744073709551616:Nat):Int):=by omega
 have hq64:q < 18446744073709551616:=by
  have:2 ^ (7 * k)≤2 ^ 63:=Nat.pow_le_pow_right (by omega) (by omega)
  omega
 rw[h2,u64_or_nat _ _ hq64 (by omega)]
 congr 1
 have h3:c % 128 * 2 ^ (7 * k) % 18446744073709551616 % 2 ^ (7 * k)=0:=by
  rw[show (18446744073709551616:Nat)=2 ^ (7 * k) * 2 ^ (64 - 7 * k) by rw[←Nat.pow_add,show 7 * k+(64 - 7 * k)=64 by omega],Nat.mod_mul_right_mod,Nat.mul_mod_left]
 rw[Nat.or_comm,nat_join (7 * k) _ _ h3 hq]
 rw[Nat.add_comm]
 have h4:q+c % 128 * 2 ^ (7 * k) % 18446744073709551616 < 18446744073709551616:=by
  rw[Nat.add_comm,←nat_join (7 * k) _ _ h3 hq]
  exact Nat.or_lt_two_pow (n:=64) (by omega) (by omega)
 omega
theorem C8 {q:Nat} (hq:q < 9223372036854775808):bits BinOp.xor IntKind.i64 (q:Int) 0=(q:Int):=by
 have e0:∀ n:Int,IntKind.i64.wrap n=(n+9223372036854775808) % 18446744073709551616 - 9223372036854775808:=IntKind.wrap_i64
 have e1:(BitVec.ofInt 64 (q:Int) ^^^ BitVec.ofInt 64 0).toNat=q:=by
  rw[show BitVec.ofInt 64 0=0#64 by decide,BitVec.xor_zero,BitVec.ofInt_natCast,BitVec.toNat_ofNat,Nat.mod_eq_of_lt (by omega)]
 show IntKind.i64.wrap ((BitVec.ofInt 64 (q:Int) ^^^ BitVec.ofInt 64 0).toNat:Int)=q
 rw[e0,e1]
 omega
theorem GI {q:Nat} (hq:q < 9223372036854775808):bits BinOp.xor IntKind.i64 (q:Int) (-1)=-(q:Int) - 1:=by
 have e0:∀ n:Int,IntKind.i64.wrap n=(n+9223372036854775808) % 18446744073709551616 - 9223372036854775808:=IntKind.wrap_i64
 have e1:(BitVec.ofInt 64 (q:Int) ^^^ BitVec.ofInt 64 (-1)).toNat=18446744073709551615 - q:=by
  rw[show BitVec.ofInt 64 (-1)=BitVec.allOnes 64 by decide,BitVec.xor_allOnes,BitVec.toNat_not,BitVec.ofInt_natCast,BitVec.toNat_ofNat,Nat.mod_eq_of_lt (by omega)]
 show IntKind.i64.wrap ((BitVec.ofInt 64 (q:Int) ^^^ BitVec.ofInt 64 (-1)).toNat:Int)=_
 rw[e0,e1]
 omega
theorem and_1 {q:Nat} (hq:q < 18446744073709551616):bits BinOp.and IntKind.u64 (q:Int) 1=((q % 2:Nat):Int):=by
 have:=u64_and_nat q 1 hq (by omega)
 rw[nat_mask1]at this
 exact this
theorem BW {q:Nat} (hq:q < 18446744073709551616):bits BinOp.xor IntKind.i64 ((q:Int) / 2) (-((q:Int) % 2))=Wire.dL q:=by
 have h2:(q:Int) / 2=((q / 2:Nat):Int):=by omega
 rw[h2]
 unfold Wire.dL
 split
 ·rename_i h
  rw[show -((q:Int) % 2)=0 by omega]
  exact C8 (by omega)
 ·rename_i h
  rw[show -((q:Int) % 2)=-1 by omega]
  exact GI (by omega)
open Sy
theorem gM {P:Program} (w:World) (dT sT ty elem:TypeId) (k m g o dLen dCap:Nat) (a:Addr) (sLen sCap:Nat) (cur:Array Value) (t:TypeId) (cs:List Value)
  (hu:P.underlying dT=some (.slice elem)) (hs:(P.info? elem).map (·.size)=some k) (hg:w.heap[g]? = some (.cells cur t (0,0))) (hm:Nat.min sLen dLen=m) (hn:cs.length=m * k)
  (hsrc:∀ j v,cs[j]? = some v→w.cell? (a.add j)=some v) (hfit:o+cs.length≤cur.size) (h1:∀ v∈cs,v.oneCell'=true) :
  (Builtin.copy_ #[dT,sT] ty #[.slice (some ⟨g,o,none⟩) dLen dCap,.slice (some a) sLen sCap]).run P w =
   .ok (goInt m) (w.setRow g (cur.toList.take o++cs++cur.toList.drop (o+cs.length)).toArray):=by
 have hst:=run_storeCells_at P g o t cs 0 cur w hg (by simpa using hfit) h1
 have hf:=run_firstCells_some (P:=P) w k m a sLen sCap cs hn hsrc
 cases hq:P.info? elem with
 | none=>simp[hq]at hs
 | some i=>
  have hi:i.size=k:=by simpa [hq] using hs
  simp[Builtin.copy_,run_underlying hu,Builtin.lenOf,sizeOf,typeInfo,hq,hi,hm,hf,hst]
def tu (e:TypeId) (k:Nat) (u:Value) (n:Nat) (cs:List Value) (w:World) (x:Ending) (w':World):Prop:=
 ∃ u' row,x = .returned u'∧w.grownBy w' row∧(∀ b,row=some b→aW u=some b)∧w'.ownsRow 0 e k u' n cs∧(∀ b,aW u'=some b→aW u=some b∨w.heap.size≤b)∧∃ y cap,u' = .slice y n cap
theorem MW {α:Type} {cs rest vs:List α} {k i n:Nat} (hi:i < n) (hc:cs.length=n * k) (hv:vs.length=k) (hr:k≤rest.length) :
  ∀ A:List α,A=(cs++rest).take (i * k+k)++cs.drop (i * k)++(cs++rest).drop (i * k+k+(cs.drop (i * k)).length)→
   (A.take (i * k)++vs++A.drop (i * k+vs.length)).take ((n+1) * k)=cs.take (i * k)++(vs++cs.drop (i * k))∧(A.take (i * k)++vs++A.drop (i * k+vs.length)).length=(cs++rest).length∧A.length=(cs++rest).length:=by
 intro A hA
 have hik:i * k+k≤n * k:=by rw[←Nat.succ_mul];exact Nat.mul_le_mul_right _ hi
 have hnk:(n+1) * k=n * k+k:=Nat.succ_mul _ _
 have hl:A.length=(cs++rest).length:=by
  rw[hA]
  simp only[List.length_append,List.length_take,List.length_drop]
  omega
 have h1:A.take (i * k)=cs.take (i * k):=by
  rw[hA,List.append_assoc,List.take_append_of_le_length (by simp;omega),List.take_take,Nat.min_eq_left (by omega),List.take_append_of_le_length (by omega)]
 have h2:A.drop (i * k+vs.length)=cs.drop (i * k)++(cs++rest).drop (i * k+k+(cs.drop (i * k)).length):=by
  rw[hA,List.append_assoc,hv,List.drop_append_of_le_length (by simp;omega)]
  rw[List.drop_of_length_le (by simp;omega)]
  rfl
 refine⟨?_,?_,hl⟩
 ·rw[h1,h2,hnk]
  have hz:(cs.take (i * k)).length+(vs++cs.drop (i * k)).length=n * k+k:=by simp;omega
  rw[show cs.take (i * k)++vs++(cs.drop (i * k)++(cs++rest).drop (i * k+k+(cs.drop (i * k)).length))=(cs.take (i * k)++(vs++cs.drop (i * k)))++(cs++rest).drop (i * k+k+(cs.drop (i * k)).length) by simp]
  rw[List.take_left']
  rw[List.length_append];exact hz
 ·rw[h2,h1]
  simp only[List.length_append,List.length_take,List.length_drop]
  omega
theorem tu.app {w:World} {e:TypeId} {k n cap:Nat} {x:Option Addr} {cs:List Value} {x':Option Addr} {cap':Nat} {w':World} (h:Own w' 0 e k x' (n+1) cap' cs) (hg:w.grownBy w' (Value.slice x n cap).ownBlock) (hat:(Value.slice x' (n+1) cap').ownBlock=(Value.slice x n cap).ownBlock∨(Value.slice x' (n+1) cap').ownBlock=some w.heap.size) :
  tu e k (.slice x n cap) (n+1) cs w (.returned (.slice x' (n+1) cap')) w':=by
 have e1:∀ y m c,(Value.slice y m c).ownBlock=aW (.slice y m c):=by
  intro y m c
  cases y<;>rfl
 refine⟨_,_,rfl,hg,fun b hb=>by rw[e1]at hb;exact hb,h,fun b hb=>?_,_,_,rfl⟩
 rw[e1,e1,hb]at hat
 rcases hat with hat|hat
 ·exact .inl hat.symm
 ·exact .inr (by have:=Option.some.inj hat;omega)
theorem GW {P:Program} {T e:TypeId} {k bytes:Nat} {z:Value} (E:OA P T e k bytes z) (g n c i vb vc:Nat) (cur:Array Value) (cs vs:List Value) (w:World) (hi:i < n) (hroom:n+1≤c) (hc63:c≤maxLen) (hvb:vb≠g)
  (hg:w.heap[g]? = some (.cells cur e (0,0))) (hcl:cs.length=n * k) (hcr:cur.toList.take (n * k)=cs) (hrl:cur.size=c * k) (hvs:∀ j v,vs[j]? = some v→w.cell? ⟨vb,j,none⟩=some v) (hvl:vs.length=k) (h1c:∀ v∈cs,v.oneCell'=true) (h1v:∀ v∈vs,v.oneCell'=true) :
  ∃ W1 W2,(∀ ty dc sc,(Builtin.copy_ #[T,T] ty #[.slice (some ⟨g,(i+1) * k,none⟩) (n - i) dc,.slice (some ⟨g,i * k,none⟩) (n+1 - i) sc]).run P w.drew = .ok (goInt ((n - i:Nat):Int)) W1)∧
   (∀ ty dc,(Builtin.copy_ #[T,T] ty #[.slice (some ⟨g,i * k,none⟩) (n+1 - i) dc,.slice (some ⟨vb,0,none⟩) 1 vc]).run P W1 = .ok (goInt 1) W2)∧
   tu e k (.slice (some ⟨g,0,none⟩) n c) (n+1) (cs.take (i * k)++(vs++cs.drop (i * k))) w (.returned (.slice (some ⟨g,0,none⟩) (n+1) c)) W2:=by
 obtain⟨rest,hrest⟩:∃ rest,rest=cur.toList.drop (n * k):=⟨_,rfl⟩
 have hcr2:cur.toList=cs++rest:=by rw[←hcr,hrest,List.take_append_drop]
 have hik:i * k+k≤n * k:=by rw[←Nat.succ_mul];exact Nat.mul_le_mul_right _ hi
 have hnc:n * k+k≤c * k:=by rw[←Nat.succ_mul];exact Nat.mul_le_mul_right _ hroom
 have hi1:(i+1) * k=i * k+k:=Nat.succ_mul _ _
 have hn1:(n+1) * k=n * k+k:=Nat.succ_mul _ _
 have hni:(n - i) * k=n * k - i * k:=Nat.sub_mul _ _ _
 have hrl':rest.length+n * k=c * k:=by
  have:=congrArg List.length hcr2
  rw[List.length_append,hcl,Array.length_toList,hrl]at this
  omega
 obtain⟨A,hA⟩:∃ A,A=(cs++rest).take (i * k+k)++cs.drop (i * k)++(cs++rest).drop (i * k+k+(cs.drop (i * k)).length):=⟨_,rfl⟩
 obtain⟨hB1,hB2,hA2⟩:=MW (vs:=vs) hi hcl hvl (by omega) A hA
 obtain⟨B,hB⟩:∃ B,B=A.take (i * k)++vs++A.drop (i * k+vs.length):=⟨_,rfl⟩
 rw[←hB]at hB1 hB2
 have hg1:(w.drew.setRow g A.toArray).heap[g]? = some (.cells A.toArray e (0,0)):=setRow_heap w.drew g cur _ _ _ hg
 have hinfo:(P.info? e).map (·.size)=some k:=by
  obtain⟨j,hj,_,hj2,_⟩:=info_parts E.info
  rw[hj];simp[hj2]
 have hlen:cur.size=(cs++rest).length:=by rw[←hcr2];simp
 refine⟨w.drew.setRow g A.toArray,(w.drew.setRow g A.toArray).setRow g B.toArray,fun ty dc sc=>?_,fun ty dc=>?_,?_⟩
 ·have:=gM (P:=P) w.drew T T ty e k (n - i) g ((i+1) * k) (n - i) dc ⟨g,i * k,none⟩ (n+1 - i) sc cur e (cs.drop (i * k)) E.und hinfo hg
   (by show Nat.min _ _=_;simp only[Nat.min_def];split<;>omega) (by rw[List.length_drop,hcl];omega) (fun j v hj=>by
    rw[Addr.add_lit]
    show w.cell? _=_
    rw[cell_of_row w g _ cur _ (0,0) hg,←Array.getElem?_toList,hcr2]
    rw[List.getElem?_drop]at hj
    rw[List.getElem?_append_left (List.getElem?_eq_some_iff.1 hj).1]
    exact hj) (by rw[List.length_drop,hcl,hrl];omega) (fun v hv=>h1c v (List.mem_of_mem_drop hv))
  rw[this,hA,hcr2,hi1]
 ·have:=gM (P:=P) (w.drew.setRow g A.toArray) T T ty e k 1 g (i * k) (n+1 - i) dc ⟨vb,0,none⟩ 1 vc A.toArray e vs E.und hinfo hg1
   (by show Nat.min _ _=_;simp only[Nat.min_def];split<;>omega) (by rw[hvl];omega) (fun j v hj=>by
    rw[Addr.add_lit,Nat.zero_add,←hvs j v hj]
    exact bj (setRow_other w.drew g vb _ hvb)) (by rw[hvl];simp only[List.size_toArray];rw[hA2];simp;omega) h1v
  rw[this,hB]
  rfl
 ·refine⟨_,some g,rfl,⟨rfl,rfl,rfl,by simp[World.setRow],?_⟩,fun b hb=>by cases hb;rfl,?_,fun b hb=> .inl hb,_,_,rfl⟩
  ·intro j hj hne
   have hkg:j≠g:=fun e=>hne (by rw[e])
   rw[setRow_other _ g j _ hkg]
   exact setRow_other w.drew g j _ hkg
  ·refine⟨?_,.inr ⟨g,c,B.toArray,rfl,Nat.zero_le _,setRow_heap _ g _ _ _ _ hg1,hroom,hc63,?_,?_⟩⟩
   ·simp only[List.length_append,List.length_take,List.length_drop,hvl,hcl];omega
   ·simp only[List.size_toArray];rw[hB2,←hlen,hrl]
   ·exact hB1
theorem Ik {P:Program} {T e tn:TypeId} {k bytes:Nat} {z:Value} (E:OA P T e k bytes z) (htn:P.underlying tn=some (.int .i64)) (g n c i vb vc:Nat) (cur:Array Value) (cs vs:List Value) (w:World) (hi:i < n) (hnc:n≤c) (hroom:c < n+1) (hn:n+1≤1000000) (hby:bytes≤1000) (hvb:vb < w.heap.size)
  (hg:w.heap[g]? = some (.cells cur e (0,0))) (hcl:cs.length=n * k) (hcr:cur.toList.take (n * k)=cs) (hrl:cur.size=c * k) (hvs:∀ j v,vs[j]? = some v→w.cell? ⟨vb,j,none⟩=some v) (hvl:vs.length=k) (h1c:∀ v∈cs,v.oneCell'=true) (h1v:∀ v∈vs,v.oneCell'=true) :
  ∃ W1 W2 W3 C,n+1≤C∧C≤9223372036854775807∧(∀ ty,(Builtin.append_ #[T,tn] ty #[.slice (some ⟨g,0,none⟩) i c,.int .i64 ((n:Int)+1 - (i:Int))]).run P w = .ok (.slice (some ⟨w.heap.size,0,none⟩) (n+1) C) W1)∧
   (∀ ty dc,(Builtin.copy_ #[T,T] ty #[.slice (some ⟨w.heap.size,i * k,none⟩) (n+1 - i) dc,.slice (some ⟨vb,0,none⟩) 1 vc]).run P W1 = .ok (goInt 1) W2)∧
   (∀ ty dc sc,(Builtin.copy_ #[T,T] ty #[.slice (some ⟨w.heap.size,(i+1) * k,none⟩) (n - i) dc,.slice (some ⟨g,i * k,none⟩) (n - i) sc]).run P W2.drew = .ok (goInt ((n - i:Nat):Int)) W3)∧
   tu e k (.slice (some ⟨g,0,none⟩) n c) (n+1) (cs.take (i * k)++(vs++cs.drop (i * k))) w (.returned (.slice (some ⟨w.heap.size,0,none⟩) (n+1) C)) W3:=by
 obtain⟨j0,hj0,hz0,hzs,hzb⟩:=info_parts E.info
 have hinfo:(P.info? e).map (·.size)=some k:=by rw[hj0];simp[hzs]
 have hi1:(i+1) * k=i * k+k:=Nat.succ_mul _ _
 have hn1:(n+1) * k=n * k+k:=Nat.succ_mul _ _
 have hni:(n - i) * k=n * k - i * k:=Nat.sub_mul _ _ _
 have hik:i * k+k≤n * k:=by rw[←Nat.succ_mul];exact Nat.mul_le_mul_right _ hi
 have hgl:g < w.heap.size:=lt_of_block hg
 have hget:∀ (W:World),W.heap[g]? = w.heap[g]?→∀ j v,cs[j]? = some v→W.cell? ⟨g,j,none⟩=some v:=fun W hW j v hj=>by
  rw[cell_of_row W g _ cur _ (0,0) (by rw[hW];exact hg),←Array.getElem?_toList]
  rw[←hcr,List.getElem?_take]at hj
  split at hj
  ·exact hj
  ·cases hj
 obtain⟨C,hC⟩:∃ C,C=grownCap w (n+1) c e:=⟨_,rfl⟩
 have hCn:n+1≤C:=by rw[hC];exact grownCap_ge w _ _ _
 have hCm:C≤maxLen:=by rw[hC];exact grownCap_le_maxLen w (n+1) c e (by unfold maxLen;omega)
 obtain⟨R,hR⟩:∃ R:Array Value,R=(cs.take (i * k)).toArray++Builtin.zeroCells z.cells (n+1 - i)++Builtin.zeroCells z.cells (C - (n+1)):=⟨_,rfl⟩
 have hRs:R.size=C * k:=by
  rw[hR]
  simp only[Array.size_append,List.size_toArray,size_zeroCells,E.zsize,List.length_take,hcl]
  rw[Nat.min_eq_left (by omega),←Nat.add_mul,←Nat.add_mul]
  congr 1
  omega
 have hRt:R.toList.take (i * k)=cs.take (i * k):=by
  rw[hR]
  simp only[Array.toList_append,List.append_assoc]
  rw[List.take_append_of_le_length (by simp;omega),List.take_of_length_le (by simp;omega)]
 have hold:(Builtin.firstCells j0.size i (.slice (some ⟨g,0,none⟩) i c)).run P w.drew = .ok (cs.take (i * k)).toArray w.drew:=by
  rw[hzs]
  exact run_firstCells_some w.drew k i ⟨g,0,none⟩ i c (cs.take (i * k)) (by rw[List.length_take,hcl];omega) (fun j v hj=>by
   rw[Addr.add_lit,Nat.zero_add]
   rw[List.getElem?_take]at hj
   split at hj
   ·exact hget w.drew rfl j v hj
   ·cases hj)
 obtain⟨W1,hW1⟩:∃ W1,W1=w.drew.alloc (.cells R e):=⟨_,rfl⟩
 have hgW1:W1.heap[w.heap.size]? = some (.cells R e (0,0)):=by rw[hW1];exact heap_alloc_new w.drew _
 have holdW1:∀ j,j < w.heap.size→W1.heap[j]? = w.heap[j]?:=fun j hj=>by rw[hW1];exact Below.heap_alloc w.drew _ j hj
 obtain⟨A,hA⟩:∃ A,A=R.toList.take (i * k)++vs++R.toList.drop (i * k+vs.length):=⟨_,rfl⟩
 have hCk:(n+1) * k≤C * k:=Nat.mul_le_mul_right _ hCn
 have hAl:A.length=C * k:=by
  rw[hA]
  simp only[List.length_append,List.length_take,List.length_drop,Array.length_toList,hRs,hvl]
  omega
 obtain⟨B,hB⟩:∃ B,B=A.take ((i+1) * k)++cs.drop (i * k)++A.drop ((i+1) * k+(cs.drop (i * k)).length):=⟨_,rfl⟩
 have hBl:B.length=C * k:=by
  rw[hB]
  simp only[List.length_append,List.length_take,List.length_drop,hAl,hcl]
  omega
 have hA1:A.take ((i+1) * k)=cs.take (i * k)++vs:=by
  rw[hA,hRt,List.take_append_of_le_length (by simp;omega),List.take_of_length_le (by simp;omega)]
 have hB1:B.take ((n+1) * k)=cs.take (i * k)++(vs++cs.drop (i * k)):=by
  rw[hB,hA1,List.take_append_of_le_length (by simp;omega),List.take_of_length_le (by simp;omega),List.append_assoc]
 have hgW2:(W1.setRow w.heap.size A.toArray).heap[w.heap.size]? = some (.cells A.toArray e (0,0)):=setRow_heap W1 _ _ _ _ _ hgW1
 have holdW2:∀ j,j < w.heap.size→(W1.setRow w.heap.size A.toArray).heap[j]? = w.heap[j]?:=fun j hj=>by rw[setRow_other W1 _ j _ (by omega)];exact holdW1 j hj
 refine⟨W1,W1.setRow w.heap.size A.toArray,(W1.setRow w.heap.size A.toArray).drew.setRow w.heap.size B.toArray,C,hCn,by unfold maxLen at hCm;omega,fun ty=>?_,fun ty dc=>?_,fun ty dc sc=>?_,?_⟩
 ·have hkk:(n:Int)+1 - (i:Int)=((n+1 - i:Nat):Int):=by omega
  have hik2:i+(n+1 - i)=n+1:=by omega
  have hb1:(n+1) * bytes≤1000000 * 1000:=Nat.mul_le_mul hn hby
  have hb2:(n+1 - i) * bytes≤1000000 * 1000:=Nat.mul_le_mul (by omega) hby
  have h:=Lib.run_append_grow_zeros w T tn ty e j0 _ .i64 .i64 E.und htn hj0 hz0 (some ⟨g,0,none⟩) i c (cs.take (i * k)) hold (n+1 - i) (by omega) (by rw[hzs];exact E.pos) (by omega) (by omega) (by rw[hzb];omega) (by rw[hzb,hik2];exact growslice_fits hroom (by omega))
  rw[hik2,←hC,←hR,←hW1]at h
  rw[hkk]
  exact h
 ·have:=gM (P:=P) W1 T T ty e k 1 w.heap.size (i * k) (n+1 - i) dc ⟨vb,0,none⟩ 1 vc R e vs E.und hinfo hgW1
   (by show Nat.min _ _=_;simp only[Nat.min_def];split<;>omega) (by rw[hvl];omega) (fun j v hj=>by
    rw[Addr.add_lit,Nat.zero_add,←hvs j v hj]
    exact bj (holdW1 vb hvb)) (by rw[hvl,hRs];omega) h1v
  rw[this,hA]
  rfl
 ·have:=gM (P:=P) (W1.setRow w.heap.size A.toArray).drew T T ty e k (n - i) w.heap.size ((i+1) * k) (n - i) dc ⟨g,i * k,none⟩ (n - i) sc A.toArray e (cs.drop (i * k)) E.und hinfo hgW2
   (by show Nat.min _ _=_;simp only[Nat.min_def];split<;>omega) (by rw[List.length_drop,hcl];omega) (fun j v hj=>by
    rw[Addr.add_lit]
    rw[List.getElem?_drop]at hj
    exact hget _ (holdW2 g hgl) _ v hj) (by rw[List.length_drop,hcl];simp only[List.size_toArray];rw[hAl];omega) (fun v hv=>h1c v (List.mem_of_mem_drop hv))
  rw[this,hB]
 ·refine⟨_,none,rfl,⟨?_,?_,?_,?_,?_⟩,(fun b hb=>by cases hb),?_,(fun b hb=> .inr (by cases hb;exact Nat.le_refl _)),_,_,rfl⟩
  ·rw[hW1];rfl
  ·rw[hW1];rfl
  ·rw[hW1];rfl
  ·rw[hW1];simp[World.setRow]
  ·intro j hj _
   rw[setRow_other _ _ j _ (by omega)]
   exact holdW2 j hj
  ·refine⟨?_,.inr ⟨w.heap.size,C,B.toArray,rfl,Nat.zero_le _,setRow_heap _ _ _ _ _ _ hgW2,hCn,hCm,?_,?_⟩⟩
   ·simp only[List.length_append,List.length_take,List.length_drop,hvl,hcl];omega
   ·simp only[List.size_toArray];exact hBl
   ·exact hB1
theorem nH:OA Tryz.prog 40 126 6 64 (.agg #[.int .i64 0,.int .i64 0,.int .i64 0,.int .i64 0,.int .i64 0,.slice none 0 0]):=⟨Tryz.underlying40,by kernel_rfl,rfl,by decide⟩
theorem GN (x:Option Addr) (n c vb vc:Nat) (cs vs:List Value) (w:World) (hc63:n+1≤1000000)
  (ho:Own w 0 126 6 x n c cs) (hv:Own w 0 126 6 (some ⟨vb,0,none⟩) 1 vc vs) (h1v:∀ v∈vs,v.oneCell'=true) :
  Calls Tryz.prog 169 #[.slice x n c,.int .i64 n,.slice (some ⟨vb,0,none⟩) 1 vc] w (tu 126 6 (.slice x n c) (n+1) (cs++vs) w):=by
 have hr:∀ w,Row w (some ⟨vb,0,none⟩) 1 vc 6 vs→True:=fun _ _=>trivial
 have hrow:=hv.row
 have hrun:∀ ty,∃ x' cap' w',(Builtin.append_ #[40,40] ty #[.slice x n c,.slice (some ⟨vb,0,none⟩) 1 vc]).run Tryz.prog w = .ok (.slice x' (n+1) cap') w'∧tu 126 6 (.slice x n c) (n+1) (cs++vs) w (.returned (.slice x' (n+1) cap')) w':=by
  intro ty
  obtain⟨b,off,hb,hlt,hcl⟩:=hrow.pos (by omega)
  obtain⟨i,hi,hz0,hz1,hz2⟩:=info_parts nH.info
  obtain⟨v',w',g1,g2,g3,g4,g5⟩:=run_append_own_at (P:=Tryz.prog) w 0 40 ty 126 i _ 6 64 nH.und hi hz0 hz1 hz2 nH.zsize nH.pos (.slice x n c) n cs ho ⟨b,off,none⟩ 1 vc vs hrow.len (fun j u hu=>by rw[Addr.add_lit];exact hcl j u hu) h1v (by unfold maxLen;omega) (by omega) (Nat.zero_le _)
  have hsh:∃ x' cap',v' = .slice x' (n+1) cap':=by
   rcases g2.2 with ⟨e1,e2⟩|⟨g,cap',cur,e1,_⟩
   ·omega
   ·exact⟨_,_,e1⟩
  obtain⟨x',cap',rfl⟩:=hsh
  rw[hb]
  exact⟨x',cap',w',g1,tu.app g2 g3 g5⟩
 obtain⟨x',cap',w',hrun,hq⟩:∃ x' cap' w',(∀ ty,(Builtin.append_ #[40,40] ty #[.slice x n c,.slice (some ⟨vb,0,none⟩) 1 vc]).run Tryz.prog w = .ok (.slice x' (n+1) cap') w')∧tu 126 6 (.slice x n c) (n+1) (cs++vs) w (.returned (.slice x' (n+1) cap')) w':=by
  obtain⟨x',cap',w',h1,h2⟩:=hrun 0
  exact⟨x',cap',w',fun ty=>h1,h2⟩
 have hnc:n≤c:=ho.row.le
 have hc2:c≤maxLen:=ho.row.capLe
 unfold maxLen at hc2
 cases x with
 | none=>
  have h0:=ho.row.nil rfl
  subst h0
  obtain rfl:n=0:=by omega
  go_enter Tryz.func169,Tryz.ntmps169
  go_wp2_with (at_builtin;refine Lib.wpList_append_run _ rfl _ _ _ _ rfl _ _ rfl rfl _ _ (hrun _) ?_)
  go_ret
  exact hq
 | some ad=>
  obtain⟨ab,ao,asp⟩:=ad
  go_enter Tryz.func169,Tryz.ntmps169
  go_wp2_with (at_builtin;refine Lib.wpList_append_run _ rfl _ _ _ _ rfl _ _ rfl rfl _ _ (hrun _) ?_)
  all_goals (go_ret;exact hq)
theorem zR (g n c i vb vc:Nat) (cur cv:Array Value) (cs vs:List Value) (w:World) (hi:i < n) (hroom:n+1≤c) (hc63:c≤9223372036854775807) (hvb:vb≠g)
  (hg:w.heap[g]? = some (.cells cur 126 (0,0))) (hv:w.heap[vb]? = some (.cells cv 126 (0,0))) (hcr:cur.toList.take (n * 6)=cs) (hcl:cs.length=n * 6) (hrl:cur.size=c * 6) (hvs:∀ j v,vs[j]? = some v→w.cell? ⟨vb,j,none⟩=some v) (hvl:vs.length=6) (h1c:∀ v∈cs,v.oneCell'=true) (h1v:∀ v∈vs,v.oneCell'=true) :
  Calls Tryz.prog 169 #[.slice (some ⟨g,0,none⟩) n c,.int .i64 i,.slice (some ⟨vb,0,none⟩) 1 vc] w (tu 126 6 (.slice (some ⟨g,0,none⟩) n c) (n+1) (cs.take (i * 6)++(vs++cs.drop (i * 6))) w):=by
 have mixed:Tryz.prog.follows .mixedOrders=true:=aL
 have hz1:¬ ((i:Int)=(n:Int)):=by omega
 have hz2:¬ (c < n+1):=by omega
 have hin:i≤n:=by omega
 have hw1:IntKind.i64.wrap ((i:Int)+1)=(i:Int)+1:=by rw[IntKind.wrap_i64];omega
 have hw2:IntKind.i64.wrap ((n:Int)+1)=(n:Int)+1:=by rw[IntKind.wrap_i64];omega
 have hb1:(0:Int)≤(i:Int)+1:=by omega
 have htn:((i:Int)+1).toNat=i+1:=by omega
 have htn2:((n:Int)+1).toNat=n+1:=by omega
 have hb3:(i:Int)≤(n:Int)+1:=by omega
 have hb2:¬ (c=i+1):=by omega
 have hb4:¬ (c=i):=by omega
 have hov:∀ lb cb,(callFunc 248 #[.slice (some ⟨vb,0,none⟩) 1 vc,.slice (some ⟨g,(i+1) * 6,none⟩) lb cb]).run Tryz.prog w = .ok (.value (.bool false)) w:=fun lb cb=>by
  rw[run_callFunc_extern Tryz.func248 (by kernel_rfl) (by kernel_rfl) (by kernel_rfl) (e:=Extern.SlicesOverlaps.overlaps #[40,40] #[4]) (by kernel_rfl),
   Lib.run_overlaps_apart w 40 4 126 Tryz.underlying40 6 (fun w=>by obtain⟨j,hj,_,hj2,_⟩:=info_parts nH.info;simp[sizeOf,typeInfo,hj,hj2]) ⟨vb,0,none⟩ ⟨g,(i+1) * 6,none⟩ 1 vc lb cb hvb 126 126 cv.size cur.size (by unfold World.shape?;rw[hv]) (by unfold World.shape?;rw[hg]) (by omega) (frozen_of_row w vb 0 cv _ hv) (frozen_of_row w vb _ cv _ hv)]
  rfl
 obtain⟨W1,W2,hcp1,hcp2,hq⟩:=GW nH g n c i vb vc cur cs vs w hi hroom (by unfold maxLen;omega) hvb hg hcl hcr hrl hvs hvl h1c h1v
 go_enter Tryz.func169,Tryz.ntmps169
 go_wp2_with (simp only[hov])
 go_region_law_o (refine step_copy_runI rfl _ _ 40 40 rfl _ _ (by simp[Act.eval,Act.put]) (by simp[Act.eval,Act.put]) (hcp1 _ _ _) ?_)
 go_wp2_with (at_builtin;refine wpList_copy_runI _ rfl _ _ 40 40 rfl _ _ rfl rfl (hcp2 _ _) ?_)
 go_ret
 exact hq
theorem Ea (g n c i vb vc:Nat) (cur:Array Value) (cs vs:List Value) (w:World) (hi:i < n) (hnc:n≤c) (hroom:c < n+1) (hn:n+1≤1000000) (hvb:vb < w.heap.size)
  (hg:w.heap[g]? = some (.cells cur 126 (0,0))) (hcr:cur.toList.take (n * 6)=cs) (hcl:cs.length=n * 6) (hrl:cur.size=c * 6) (hvs:∀ j v,vs[j]? = some v→w.cell? ⟨vb,j,none⟩=some v) (hvl:vs.length=6) (h1c:∀ v∈cs,v.oneCell'=true) (h1v:∀ v∈vs,v.oneCell'=true) :
  Calls Tryz.prog 169 #[.slice (some ⟨g,0,none⟩) n c,.int .i64 i,.slice (some ⟨vb,0,none⟩) 1 vc] w (tu 126 6 (.slice (some ⟨g,0,none⟩) n c) (n+1) (cs.take (i * 6)++(vs++cs.drop (i * 6))) w):=by
 have mixed:Tryz.prog.follows .mixedOrders=true:=aL
 have hz1:¬ ((i:Int)=(n:Int)):=by omega
 have hz2:(c:Int) < (n:Int)+1:=by omega
 have hin:i≤n:=by omega
 have hic:i≤c:=by omega
 have hw1:IntKind.i64.wrap ((i:Int)+1)=(i:Int)+1:=by rw[IntKind.wrap_i64];omega
 have hw2:IntKind.i64.wrap ((n:Int)+1)=(n:Int)+1:=by rw[IntKind.wrap_i64];omega
 have hw3:IntKind.i64.wrap ((n:Int)+1 - (i:Int))=(n:Int)+1 - (i:Int):=by rw[IntKind.wrap_i64];omega
 have hb1:(0:Int)≤(i:Int)+1:=by omega
 have htn:((i:Int)+1).toNat=i+1:=by omega
 have hb3:(i:Int)≤(n:Int)+1:=by omega
 obtain⟨W1,W2,W3,C,hC1,hC2,hrz,hcp1,hcp2,hq⟩:=Ik nH Tryz.underlying3 g n c i vb vc cur cs vs w hi hnc hroom hn (by omega) hvb hg hcl hcr hrl hvs hvl h1c h1v
 have hGi:¬ (C=i):=by omega
 have hGim:¬ (C=i+1):=by omega
 have hci:¬ (c=i):=by omega
 go_enter Tryz.func169,Tryz.ntmps169
 go_wp2_with (first
  | (at_builtin;refine Lib.wpList_append_run _ rfl _ _ _ _ rfl _ _ rfl rfl _ _ (hrz _) ?_)
  | (at_builtin;refine wpList_copy_runI _ rfl _ _ 40 40 rfl _ _ rfl rfl (hcp1 _ _) ?_))
 go_region_law_o (refine step_copy_runI rfl _ _ 40 40 rfl (.slice (some ⟨w.heap.size,(i+1) * 6,none⟩) (n - i) (C - (i+1))) (.slice (some ⟨g,i * 6,none⟩) (n - i) (c - i)) (by simp[Act.eval,Act.put]) (by simp[Act.eval,Act.put]) (hcp2 _ _ _) ?_)
 go_wp2
 go_ret
 exact hq
def Ja (P:Program) (f:FuncId) (e:TypeId) (s:Nat):Prop:=
 ∀ (x:Option Addr) (n c i vb vc:Nat) (cs vs:List Value) (w:World),i≤n→n+1≤1000000→Own w 0 e s x n c cs→Own w 0 e s (some ⟨vb,0,none⟩) 1 vc vs→(∀ a,x=some a→vb≠a.block)→(∀ v∈cs,v.oneCell'=true)→(∀ v∈vs,v.oneCell'=true)→
  Calls P f #[.slice x n c,.int .i64 i,.slice (some ⟨vb,0,none⟩) 1 vc] w (tu e s (.slice x n c) (n+1) (cs.take (i * s)++(vs++cs.drop (i * s))) w)
theorem Jk {w:World} {e s vb vc:Nat} {vs:List Value} (h:Own w 0 e s (some ⟨vb,0,none⟩) 1 vc vs):∃ cur,w.heap[vb]? = some (.cells cur e (0,0)):=by
 rcases h.2 with ⟨hv,_⟩|⟨g,cap',cur,hv,_,hh,_⟩
 ·cases hv
 ·cases hv;exact⟨cur,hh⟩
theorem GB:Ja Tryz.prog 169 126 6:=by
 intro x n c i vb vc cs vs w hi hn ho hv hne h1c h1v
 have hcl:cs.length=n * 6:=ho.length
 by_cases hin:i=n
 ·subst hin
  rw[←hcl,List.take_length,List.drop_length,List.append_nil]
  exact GN x i c vb vc cs vs w hn ho hv h1v
 rcases ho.2 with ⟨h1,h2⟩|⟨g,cap,cur,h1,_,hg,hnc,hcm,hsz,htk⟩
 ·cases h1;omega
 ·cases h1
  obtain⟨cv,hcv⟩:=Jk hv
  obtain⟨b,off,hb,hlt,hcell⟩:=hv.row.pos (by omega)
  cases hb
  have hvl:vs.length=6:=by have:=hv.length;omega
  have hvs:∀ j v,vs[j]? = some v→w.cell? ⟨vb,j,none⟩=some v:=fun j v hj=>by have:=hcell j v hj;rwa [Nat.zero_add]at this
  have hc2:=hcm
  unfold maxLen at hc2
  by_cases hroom:n+1≤c
  ·exact zR g n c i vb vc cur cv cs vs w (by omega) hroom (by omega) (hne _ rfl) hg hcv htk hcl hsz hvs hvl h1c h1v
  ·exact Ea g n c i vb vc cur cs vs w (by omega) hnc (by omega) hn hlt hg htk hcl hsz hvs hvl h1c h1v
theorem DE {G:Gh} {w:World} {h h':Nat→Option aA} (hs:∀ l b,h' l=some b→h l=some b) (hh:bn G w h):bn G w h':=
 ⟨fun l b hl=>hh.rep l b (hs l b hl),fun l b hl=>hh.inn l b (hs l b hl),fun l b k hl=>hh.sep l b k (hs l b hl),fun l l' b b' k hl hl'=>hh.inj l l' b b' k (hs l b hl) (hs l' b' hl'),hh.fb⟩
theorem JY {G G':Gh} {w w':World} {pre:List (Nat×aA)} {h':Nat→Option aA} {nw:List Nat} (x:Ext G w (bc pre) G' w' h' nw) (hn:∀ l∈nw,100≤l):lh w G (l6 G pre) G' w' h':=by
 have f0:lh w G (l6 G pre) G w (bc pre):=⟨rfl,rfl,rfl,Nat.le_refl _,fun _ _ _=>rfl,fun l b k h1 h2=> .inl ⟨l,b,h1,h2⟩,fun _ h=>h,fun _ h=> .inl h,fun _ _=>rfl⟩
 exact f0.ext x hn
theorem J0 {G G':Gh} {w w':World} {A:Nat→Prop} {h h':Nat→Option aA} (hs:∀ l b,h' l=some b→h l=some b) (f:lh w G A G' w' h):lh w G A G' w' h':=
 ⟨f.os,f.tape,f.output,f.size,f.block,fun l b k hl=>f.own l b k (hs l b hl),f.fin,f.fout,f.same⟩
theorem Kd {P:Program} {f:FuncId} {e:TypeId} {s:Nat} (H:Ja P f e s) (xs:List T) (x:T) (i:Nat) (hi:i≤xs.length) (hn:xs.length+1≤1000000) :
  aj P f [.own 1,.t (.int i),.own 2] [(1,.list e s xs),(2,.list e s [x])] (.own 1000) [(1000,.list e s (xs.take i++x :: xs.drop i))]:=by
 intro G w us hh hr
 unfold aD at hr
 obtain⟨u1,r1,rfl,h1,hr⟩:=hr
 unfold aD at hr
 obtain⟨u2,r2,rfl,h2,hr⟩:=hr
 unfold aD at hr
 obtain⟨u3,r3,rfl,h3,hr⟩:=hr
 unfold aD at hr
 subst hr
 unfold ar at h1 h3
 unfold ar aO at h2
 obtain⟨rfl,_⟩:=h2
 have l1:bc [(1,aA.list e s xs),(2,.list e s [x])] 1=some (.list e s xs):=rfl
 have l2:bc [(1,aA.list e s xs),(2,.list e s [x])] 2=some (.list e s [x]):=rfl
 obtain⟨y1,c1,cs,e1,hR1,hw1,ho1⟩:=hh.rep 1 _ l1
 obtain⟨y2,c2,vs,e2,hR2,hw2,ho2⟩:=hh.rep 2 _ l2
 have g1:u1 = .slice y1 xs.length c1:=h1.1.trans e1
 have g3:u3 = .slice y2 1 c2:=h3.1.trans e2
 rw[e1]at ho1
 rw[e2]at ho2
 have hv2:∃ vb,y2=some ⟨vb,0,none⟩:=by
  rcases ho2.2 with ⟨h,h'⟩|⟨g,cap',cur,h,_⟩
  ·cases h'
  ·cases h;exact⟨g,rfl⟩
 obtain⟨vb,rfl⟩:=hv2
 rw[g1,g3]
 refine (H y1 xs.length c1 i vb c2 cs vs w hi hn ho1 ho2 (fun a ha hb=>?_) (fun v hv=>ay.one xs cs hR1 v hv) (fun v hv=>ay.one [x] vs hR2 v hv)).mono ?_
 ·subst ha
  have:=hh.inj 1 2 _ _ a.block l1 l2 (.inl (by rw[e1];rfl)) (.inl (by rw[e2,←hb];rfl))
  omega
 rintro ex w' ⟨u',row,rfl,hgr,hrow,hown,hblk',y',c',rfl⟩
 have hF:∀ b o,G.F b→w'.cell? ⟨b,o,none⟩=w.cell? ⟨b,o,none⟩:=by
  intro b o hb
  refine bj (hgr.block b (hh.fb b hb) fun e0=>?_)
  exact hh.sep 1 _ b l1 (.inl (by rw[e1];exact hrow b e0.symm)) hb
 have hsw:=ay.split i hR1
 rw[aG hw1 hi]at hsw
 have ext:=Ext.mk' (G:=G) (w':=w') hh row hgr (some 1) (fun l hl=>by cases hl;exact⟨_,l1⟩) (fun k hk=>⟨1,rfl,by rw[e1];exact hrow k hk⟩) 1000 (.slice y' (xs.length+1) c') (.list e s (xs.take i++x :: xs.drop i)) (.inr rfl) [1000] (.inl rfl)
  (fun k hk l b hl=>by
   simp only[bc]at hl
   split at hl
   ·cases hl;rfl
   ·split at hl
    ·cases hl;rfl
    ·cases hl)
  (fun k hk=>by
   rcases hblk' k hk with h|h
   ·exact .inl ⟨1,rfl,by rw[e1];exact h⟩
   ·exact .inr h)
  ⟨y',c',cs.take (i * s)++(vs++cs.drop (i * s)),by rw[show (xs.take i++x :: xs.drop i).length=xs.length+1 by simp;omega],ay.append (ay.mono (fun _ h=>h) hF _ _ hsw.1) (by
   unfold ay at hR2 ⊢
   obtain⟨v,r,h4,h5,h6⟩:=hR2
   unfold ay at h6
   subst h6
   rw[List.append_nil]at h4
   exact⟨v,cs.drop (i * s),by rw[h4],aO.mono (fun _ h=>h) hF _ _ h5,ay.mono (fun _ h=>h) hF _ _ hsw.2⟩),(fun y hy=>by
   rcases List.mem_append.1 hy with hy|hy
   ·exact hw1 y (List.mem_of_mem_take hy)
   ·rcases List.mem_cons.1 hy with hy|hy
    ·exact hw2 y (by simp[hy])
    ·exact hw1 y (List.mem_of_mem_drop hy)),by
   rw[show (xs.take i++x :: xs.drop i).length=xs.length+1 by simp;omega]
   exact hown⟩
  (fun _ h=>h)
 have hs:∀ l b,bc [(1000,aA.list e s (xs.take i++x :: xs.drop i))] l=some b→(if l=1000 then some (aA.list e s (xs.take i++x :: xs.drop i)) else if some 1=some l then none else bc [(1,aA.list e s xs),(2,.list e s [x])] l)=some b:=by
  intro l b hl
  simp only[bc]at hl
  split at hl
  ·rename_i h
   rw[if_pos h];exact hl
  ·cases hl
 refine⟨_,_,rfl,J0 hs (JY ext (fun l hl=>by simp at hl;omega)),DE hs ext.heap,?_⟩
 unfold ar
 exact⟨(dw G.β 1000 _).symm,_,_,_,rfl⟩
theorem DH (xs:List Tg) (x:Tg) (i:Nat) (hi:i≤xs.length) (hn:xs.length+1≤1000000) :
  aj Tryz.prog 169 [.own 1,.t (.int i),.own 2] [(1,lW xs),(2,lW [x])] (.own 1000) [(1000,lW (xs.take i++x :: xs.drop i))]:=by
 have:=Kd GB (xs.map bQ) (bQ x) i (by simpa using hi) (by simpa using hn)
 rw[←List.map_take,←List.map_drop,←List.map_cons,←List.map_append]at this
 exact this
open Go.IntWalk renaming iteOmega → iO, toNatUp → tN
theorem cJ (n a b:Int) (h:a≤n∧n≤b):aj Tryz.prog 223 [.t (.int n),.t (.int a),.t (.int b)] [] (.t (.bool true)) []:=by
 obtain⟨h1,h2⟩:=h
 refine nI Tryz.func223 rfl Tryz.ntmps223 ?_
 refine ah ?_
 first|rw[av]|rw[ae]
 refine⟨[],?_⟩
 simp[go_sem,↓iO,iO,tN]
 exact h2
theorem py (k:List Nat) (ho:iC k):aj Tryz.prog 225 [.t (aI k)] [] (.t (.bool true)) []:=by
 obtain⟨_,_,h,h0,h1⟩:=ho
 have hc:∀ (j:Nat) x,k[j]? = some x→(str k).data.toList[j]? = some (UInt8.ofNat x)∧(UInt8.ofNat x).toNat=x:=by
  intro j x hx
  have:=h x (au hx)
  have e:(str k).data.toList=k.map fun c=>UInt8.ofNat c:=by simp[str]
  rw[e,List.getElem?_map,hx]
  refine⟨rfl,?_⟩
  rw[UInt8.toNat_ofNat'];omega
 obtain⟨x,hx⟩:∃ x,k[0]? = some x:=aa (by omega)
 obtain⟨a1,a2⟩:=hc 0 x hx
 obtain⟨x1,x2⟩:=h x (au hx)
 have y1:(97:Int)≤x:=by omega
 have y2:(x:Int)≤122:=by omega
 refine nI Tryz.func225 rfl Tryz.ntmps225 ?_
 refine lO a1 a2 y1 y2 ?_
 refine oP ?_
 refine lP (ι:=Nat) (fun j=>⟨[(0,.t (aI k)),(3,.t (.int j))],[]⟩) (fun j=>j≤k.length) (fun j=>k.length - j) 0 [] (by omega) ?_
 intro j hj
 by_cases hb:j < k.length
 ·obtain⟨y,hy⟩:=aa hb
  obtain⟨b1,b2⟩:=hc j y hy
  obtain⟨z1,z2⟩:=h y (au hy)
  have z3:(97:Int)≤y:=by omega
  have z4:(y:Int)≤122:=by omega
  repeat (first|(refine af rfl ?_;simp[go_sem,↓iO,iO,tN,b1,b2,z3,z4])|refine ba ?_|refine⟨aZ,?_⟩|refine iP ?_|refine iN ?_)
  exact nY (j+1) []
 ·obtain rfl:j=k.length:=by omega
  refine ah ?_
  exact aF []
theorem js (l:List (List Nat)) (hl:l.length≤1000) (hb:∀ k∈l,∀ x∈k,x < 256) (hnd:l.Nodup):aj Tryz.prog 226 [.t (.sl 1 (l.map aI))] [] (.t (.bool false)) []:=by
 refine nI Tryz.func226 rfl Tryz.ntmps226 ?_
 refine ah ?_
 refine oP ?_
 refine lP (ι:=Nat) (fun j=>⟨[(0,.t (.sl 1 (l.map aI))),(6,.t (.int l.length)),(7,.t (.int j))],[]⟩) (fun j=>j≤l.length) (fun j=>l.length - j) 0 [] (by omega) ?_
 intro j hj
 by_cases hjl:j < l.length
 ·obtain⟨a,ha⟩:=aa hjl
  refine ah ?_
  refine oP ?_
  refine lP (ι:=Nat) (fun i=>⟨[(0,.t (.sl 1 (l.map aI))),(3,.t (.int j)),(4,.t (.int i)),(6,.t (.int l.length)),(7,.t (.int j))],[]⟩) (fun i=>i≤j) (fun i=>j - i) 0 [] (by omega) ?_
  intro i hi
  by_cases hij:i < j
  ·obtain⟨b,hb2⟩:=aa (show i < l.length by omega)
   have hil:i < l.length:=by omega
   have hne:¬ (str a).toList=(str b).toList:=fun e=>by
    have:=Av (hb a (au ha)) (hb b (au hb2)) e
    subst this
    exact lz hnd hij hb2 ha rfl
   refine fg ha hb2 hne ?_
   exact nY (i+1) []
  ·obtain rfl:i=j:=by omega
   refine ah ?_
   exact nY (i+1) []
 ·obtain rfl:j=l.length:=by omega
  refine ah ?_
  exact aF []
theorem yb (s:eH) (h:jB s):aj Tryz.prog 227 [.t (bA s)] [] (.t (.bool true)) []:=by
 obtain⟨⟨nm,fr,to,cp,rs,wv⟩,pts⟩:=s
 obtain⟨h1,h2,h3,h4,h5,h6,h7,h8⟩:=h
 dsimp only at h1 h2 h3 h4 h5 h6 h7 h8
 have c1:=cJ cp 1 1000000 h2
 have c2:=cJ rs 0 1000 h3
 have c3:=cJ wv 0 100000 h4
 obtain⟨p,hp⟩:∃ p,pts[0]? = some p:=aa (by omega)
 obtain⟨q,hq⟩:∃ q,pts[pts.length - 1]? = some q:=aa (by omega)
 have g1:=h7 p hp
 have g2:=h8 q hq
 obtain⟨pa,ph,pl⟩:=p
 obtain⟨qa,qh,ql⟩:=q
 dsimp only at g1 g2
 subst g1 g2
 obtain⟨a5,b5⟩:=h5
 have e0:((pts.length:Int) - 1).toNat=pts.length - 1:=by omega
 refine nI Tryz.func227 rfl Tryz.ntmps227 ?_
 refine lO h1 hp hq e0 ?_
 refine aY.fn (c1) [] [] [] (by kernel_rfl) ?_ ?_ ?_ (Or.inl rfl) ?_<;>simp[go_sem,↓iO,iO,tN,h1,hp,hq,e0]
 repeat (refine ba ?_)
 try (refine⟨aZ,?_⟩)
 refine aY.fn (c2) [] [] [] (by kernel_rfl) ?_ ?_ ?_ (Or.inl rfl) ?_<;>simp[go_sem,↓iO,iO,tN,h1,hp,hq,e0]
 repeat (refine ba ?_)
 try (refine⟨aZ,?_⟩)
 refine aY.fn (c3) [] [] [] (by kernel_rfl) ?_ ?_ ?_ (Or.inl rfl) ?_<;>simp[go_sem,↓iO,iO,tN,h1,hp,hq,e0]
 repeat (refine ba ?_)
 try (refine⟨aZ,?_⟩)
 refine lO h1 hp hq e0 ?_
 refine oP ?_
 refine lP (ι:=Nat) (fun k=>⟨[(1,.pt 501 [] 0),(51,.t (.sl 3 (pts.map xf))),(52,.t (.int pts.length)),(53,.t (.int k))],[(501,.box 98 (.t (bA (⟨nm,fr,to,qa,rs,wv⟩,pts))))]⟩) (fun k=>k≤pts.length) (fun k=>pts.length - k) 0 [(501,some 101)] (by omega) ?_
 intro k hk
 by_cases hb:k < pts.length
 ·obtain⟨p,hkp⟩:=aa hb
  obtain⟨q1,q2,q3⟩:=h6 k p hkp
  obtain⟨at',he,li⟩:=p
  dsimp only at q1 q2 q3
  have d1:=cJ he (-500) 5000 q1
  have d2:=cJ li 0 100000000 q2
  rcases Nat.eq_zero_or_pos k with rfl|h0
  ·refine aJ hkp ?_
   refine dr hkp d1 [] ?_
   refine dr hkp d2 [] ?_
   refine aJ hkp ?_
   exact nY 1 [(501,some 501)]
  ·obtain⟨q,hkq⟩:∃ q,pts[k - 1]? = some q:=aa (by omega)
   have q4:=q3 q h0 hkq
   obtain⟨ra,rh,rl⟩:=q
   dsimp only at q4
   have hk1:k - 1 < pts.length:=by omega
   have e1:((k:Int) - 1).toNat=k - 1:=by omega
   refine fg hkp hkq e1 ?_
   refine Fu hkp hkq e1 d1 [] ?_
   refine Fu hkp hkq e1 d2 [] ?_
   refine fg hkp hkq e1 ?_
   exact nY (k+1) [(501,some 501)]
 ·obtain rfl:k=pts.length:=by omega
  refine ah ?_
  exact aF []
theorem Bd (d:aB) (h:eE d):aj Tryz.prog 224 [.t (.agg d.l)] [] (.t d.nt) []:=by
 have:=xw d h _ (.inr rfl)
 simp only[aB.nt,aB.ns,List.map_map,Function.comp_def]
 exact this
theorem jk (d:aB) (h:eE d):aj Tryz.prog 147 [.t (.agg d.l)] [] (.t (.int 0)) []:=by
 have cn:=Bd d h
 have hgt:∀ i:Nat,i < 4→∃ l:List (List Nat),d.ns i=l∧l.length≤32∧(∀ k∈l,iC k)∧l.Nodup:=fun i _=>⟨_,rfl,(qX d h i).1,(qX d h i).2.1,(qX d h i).2.2⟩
 obtain⟨l0,e0,a0,b0,n0⟩:=hgt 0 (by omega)
 obtain⟨l1,e1,a1,b1,n1⟩:=hgt 1 (by omega)
 obtain⟨l2,e2,a2,b2,n2⟩:=hgt 2 (by omega)
 obtain⟨l3,e3,a3,b3,n3⟩:=hgt 3 (by omega)
 obtain⟨N,hN⟩:∃ N,N=T.agg [.sl 1 (l0.map aI),.sl 1 (l1.map aI),.sl 1 (l2.map aI),.sl 1 (l3.map aI)]:=⟨_,rfl⟩
 have hN2:d.nt=N:=by rw[hN];simp only[aB.nt,e0,e1,e2,e3]
 rw[hN2,hN]at cn
 have t0:=js l0 (by omega) (fun k hk=>(b0 k hk).by_) n0
 have t1:=js l1 (by omega) (fun k hk=>(b1 k hk).by_) n1
 have t2:=js l2 (by omega) (fun k hk=>(b2 k hk).by_) n2
 have t3:=js l3 (by omega) (fun k hk=>(b3 k hk).by_) n3
 have h1:=h.n0
 have h2:=h.n1
 have h3:=h.s1
 have h4:=h.p1
 have h5:=h.t1
 clear hN2 hN hgt e0 e1 e2 e3
 have c1:=cJ d.nn.length 1 24 (by omega)
 refine nI Tryz.func147 rfl Tryz.ntmps147 ?_
 refine ah ?_
 refine ax c1 [] ?_
 refine ah ?_
 refine oP ?_
 refine lP (ι:=Nat) (fun k=>⟨[(1,.pt 501 [] 0),(51,.t (.sl 7 (d.segs.map bA))),(52,.t (.int d.segs.length)),(53,.t (.int k))],[(501,.box 32 (.t (.agg d.l)))]⟩) (fun k=>k≤d.segs.length) (fun k=>d.segs.length - k) 0 [(501,some 101)] (by omega) ?_
 intro k hk
 by_cases hb:k < d.segs.length
 ·obtain⟨s,hs⟩:=aa hb
  have pk:=(h.pipe s (au hs)).len
  obtain⟨⟨nm,fr,to,cp,rs,wv⟩,pts⟩:=s
  dsimp only at pk
  have c:=cJ pts.length 2 8 (by omega)
  refine aJ hs ?_
  refine dr hs c [] ?_
  refine aJ hs ?_
  exact nY (k+1) [(501,some 501)]
 ·obtain rfl:k=d.segs.length:=by omega
  refine ah ?_
  refine ax cn [] ?_
  refine ah ?_
  refine oP ?_
  refine lP (ι:=Nat) (fun q=>⟨[(1,.pt 501 [] 0),(5,.pt 505 [] 0),(65,.t (.agg [.sl 1 (l0.map aI),.sl 1 (l1.map aI),.sl 1 (l2.map aI),.sl 1 (l3.map aI)])),(66,.t (.int q))],[(501,.box 32 (.t (.agg d.l))),(505,.box 208 (.t (.agg [.sl 1 (l0.map aI),.sl 1 (l1.map aI),.sl 1 (l2.map aI),.sl 1 (l3.map aI)])))]⟩) (fun q=>q≤4) (fun q=>4 - q) 0 [(501,some 501),(505,some 105)] (by omega) ?_
  intro q hq
  have h6:q=0∨q=1∨q=2∨q=3∨q=4:=by omega
  rcases h6 with rfl|rfl|rfl|rfl|rfl
  ·refine ah ?_
   refine oP ?_
   refine lP (ι:=Nat) (fun k=>⟨[(1,.pt 501 [] 0),(5,.pt 505 [] 0),(65,.t (.agg [.sl 1 (l0.map aI),.sl 1 (l1.map aI),.sl 1 (l2.map aI),.sl 1 (l3.map aI)])),(66,.t (.int (0:Nat))),(69,.t (.sl 1 (l0.map aI))),(70,.t (.int l0.length)),(71,.t (.int k))],[(501,.box 32 (.t (.agg d.l))),(505,.box 208 (.t (.agg [.sl 1 (l0.map aI),.sl 1 (l1.map aI),.sl 1 (l2.map aI),.sl 1 (l3.map aI)])))]⟩) (fun k=>k≤l0.length) (fun k=>l0.length - k) 0 [(501,some 501),(505,some 505)] (by omega) ?_
   intro k hk
   by_cases hb:k < l0.length
   ·obtain⟨s,hs⟩:=aa hb
    have c:=py s (b0 s (au hs))
    refine aJ hs ?_
    refine dr hs c [] ?_
    refine aJ hs ?_
    exact nY (k+1) [(501,some 501),(505,some 505)]
   ·obtain rfl:k=l0.length:=by omega
    refine ah ?_
    exact nY 1 [(501,some 501),(505,some 505)]
  ·refine ah ?_
   refine oP ?_
   refine lP (ι:=Nat) (fun k=>⟨[(1,.pt 501 [] 0),(5,.pt 505 [] 0),(65,.t (.agg [.sl 1 (l0.map aI),.sl 1 (l1.map aI),.sl 1 (l2.map aI),.sl 1 (l3.map aI)])),(66,.t (.int (1:Nat))),(69,.t (.sl 1 (l1.map aI))),(70,.t (.int l1.length)),(71,.t (.int k))],[(501,.box 32 (.t (.agg d.l))),(505,.box 208 (.t (.agg [.sl 1 (l0.map aI),.sl 1 (l1.map aI),.sl 1 (l2.map aI),.sl 1 (l3.map aI)])))]⟩) (fun k=>k≤l1.length) (fun k=>l1.length - k) 0 [(501,some 501),(505,some 505)] (by omega) ?_
   intro k hk
   by_cases hb:k < l1.length
   ·obtain⟨s,hs⟩:=aa hb
    have c:=py s (b1 s (au hs))
    refine aJ hs ?_
    refine dr hs c [] ?_
    refine aJ hs ?_
    exact nY (k+1) [(501,some 501),(505,some 505)]
   ·obtain rfl:k=l1.length:=by omega
    refine ah ?_
    exact nY 2 [(501,some 501),(505,some 505)]
  ·refine ah ?_
   refine oP ?_
   refine lP (ι:=Nat) (fun k=>⟨[(1,.pt 501 [] 0),(5,.pt 505 [] 0),(65,.t (.agg [.sl 1 (l0.map aI),.sl 1 (l1.map aI),.sl 1 (l2.map aI),.sl 1 (l3.map aI)])),(66,.t (.int (2:Nat))),(69,.t (.sl 1 (l2.map aI))),(70,.t (.int l2.length)),(71,.t (.int k))],[(501,.box 32 (.t (.agg d.l))),(505,.box 208 (.t (.agg [.sl 1 (l0.map aI),.sl 1 (l1.map aI),.sl 1 (l2.map aI),.sl 1 (l3.map aI)])))]⟩) (fun k=>k≤l2.length) (fun k=>l2.length - k) 0 [(501,some 501),(505,some 505)] (by omega) ?_
   intro k hk
   by_cases hb:k < l2.length
   ·obtain⟨s,hs⟩:=aa hb
    have c:=py s (b2 s (au hs))
    refine aJ hs ?_
    refine dr hs c [] ?_
    refine aJ hs ?_
    exact nY (k+1) [(501,some 501),(505,some 505)]
   ·obtain rfl:k=l2.length:=by omega
    refine ah ?_
    exact nY 3 [(501,some 501),(505,some 505)]
  ·refine ah ?_
   refine oP ?_
   refine lP (ι:=Nat) (fun k=>⟨[(1,.pt 501 [] 0),(5,.pt 505 [] 0),(65,.t (.agg [.sl 1 (l0.map aI),.sl 1 (l1.map aI),.sl 1 (l2.map aI),.sl 1 (l3.map aI)])),(66,.t (.int (3:Nat))),(69,.t (.sl 1 (l3.map aI))),(70,.t (.int l3.length)),(71,.t (.int k))],[(501,.box 32 (.t (.agg d.l))),(505,.box 208 (.t (.agg [.sl 1 (l0.map aI),.sl 1 (l1.map aI),.sl 1 (l2.map aI),.sl 1 (l3.map aI)])))]⟩) (fun k=>k≤l3.length) (fun k=>l3.length - k) 0 [(501,some 501),(505,some 505)] (by omega) ?_
   intro k hk
   by_cases hb:k < l3.length
   ·obtain⟨s,hs⟩:=aa hb
    have c:=py s (b3 s (au hs))
    refine aJ hs ?_
    refine dr hs c [] ?_
    refine aJ hs ?_
    exact nY (k+1) [(501,some 501),(505,some 505)]
   ·obtain rfl:k=l3.length:=by omega
    refine ah ?_
    exact nY 4 [(501,some 501),(505,some 505)]
  ·refine ah ?_
   refine oP ?_
   refine lP (ι:=Nat) (fun q=>⟨[(1,.pt 501 [] 0),(5,.pt 505 [] 0),(80,.t (.agg [.sl 1 (l0.map aI),.sl 1 (l1.map aI),.sl 1 (l2.map aI),.sl 1 (l3.map aI)])),(81,.t (.int q))],[(501,.box 32 (.t (.agg d.l))),(505,.box 208 (.t (.agg [.sl 1 (l0.map aI),.sl 1 (l1.map aI),.sl 1 (l2.map aI),.sl 1 (l3.map aI)])))]⟩) (fun q=>q≤4) (fun q=>4 - q) 0 [(501,some 501),(505,some 505)] (by omega) ?_
   intro q hq
   have h6:q=0∨q=1∨q=2∨q=3∨q=4:=by omega
   rcases h6 with rfl|rfl|rfl|rfl|rfl
   ·refine ah ?_
    refine ax t0 [] ?_
    refine ah ?_
    exact nY 1 [(501,some 501),(505,some 505)]
   ·refine ah ?_
    refine ax t1 [] ?_
    refine ah ?_
    exact nY 2 [(501,some 501),(505,some 505)]
   ·refine ah ?_
    refine ax t2 [] ?_
    refine ah ?_
    exact nY 3 [(501,some 501),(505,some 505)]
   ·refine ah ?_
    refine ax t3 [] ?_
    refine ah ?_
    exact nY 4 [(501,some 501),(505,some 505)]
   ·refine ah ?_
    refine oP ?_
    refine lP (ι:=Nat) (fun k=>⟨[(1,.pt 501 [] 0),(89,.t (.int d.stns.length)),(90,.t (.int k))],[(501,.box 32 (.t (.agg d.l)))]⟩) (fun k=>k≤d.stns.length) (fun k=>d.stns.length - k) 0 [(501,some 501)] (by omega) ?_
    intro k hk
    by_cases hb:k < d.stns.length
    ·obtain⟨s,hs⟩:=aa hb
     refine ah ?_
     refine oP ?_
     refine lP (ι:=Nat) (fun i=>⟨[(1,.pt 501 [] 0),(12,.t (.int k)),(13,.t (.int i)),(89,.t (.int d.stns.length)),(90,.t (.int k))],[(501,.box 32 (.t (.agg d.l)))]⟩) (fun i=>i≤k) (fun i=>k - i) 0 [(501,some 501)] (by omega) ?_
     intro i hi
     by_cases hik:i < k
     ·obtain⟨u,hu⟩:=aa (show i < d.stns.length by omega)
      have hil:i < d.stns.length:=by omega
      have hne:¬ s.2.1=u.2.1:=fun e=>by
       have g1:(d.stns.map fun s=>s.2.1)[i]? = some u.2.1:=by rw[List.getElem?_map,hu];rfl
       have g2:(d.stns.map fun s=>s.2.1)[k]? = some s.2.1:=by rw[List.getElem?_map,hs];rfl
       exact lz h.ndU hik g1 g2 e.symm
      obtain⟨s1,s2,s3,s4,s5⟩:=s
      obtain⟨u1,u2,u3,u4,u5⟩:=u
      dsimp only at hne
      refine fg hs hu hne ?_
      exact nY (i+1) [(501,some 501)]
     ·obtain rfl:i=k:=by omega
      refine ah ?_
      exact nY (i+1) [(501,some 501)]
    ·obtain rfl:k=d.stns.length:=by omega
     refine ah ?_
     refine oP ?_
     refine lP (ι:=Nat) (fun k=>⟨[(1,.pt 501 [] 0),(14,.t (.int ((d.nn.length:Int) - 1))),(117,.t (.sl 7 (d.segs.map bA))),(118,.t (.int d.segs.length)),(119,.t (.int k))],[(501,.box 32 (.t (.agg d.l)))]⟩) (fun k=>k≤d.segs.length) (fun k=>d.segs.length - k) 0 [(501,some 501)] (by omega) ?_
     intro k hk
     by_cases hb:k < d.segs.length
     ·obtain⟨s,hs⟩:=aa hb
      have q:=h.knS s (au hs)
      obtain⟨⟨nm,fr,to,cp,rs,wv⟩,pts⟩:=s
      dsimp only at q
      have c:=cJ fr 0 ((d.nn.length:Int) - 1) (by omega)
      have c2:=cJ to 0 ((d.nn.length:Int) - 1) (by omega)
      refine aJ hs ?_
      refine dr hs c [] ?_
      refine aJ hs ?_
      refine dr hs c2 [] ?_
      refine aJ hs ?_
      exact nY (k+1) [(501,some 501)]
     ·obtain rfl:k=d.segs.length:=by omega
      refine ah ?_
      refine oP ?_
      refine lP (ι:=Nat) (fun k=>⟨[(1,.pt 501 [] 0),(14,.t (.int ((d.nn.length:Int) - 1))),(137,.t (.sl 3 (d.ports.map dO))),(138,.t (.int d.ports.length)),(139,.t (.int k))],[(501,.box 32 (.t (.agg d.l)))]⟩) (fun k=>k≤d.ports.length) (fun k=>d.ports.length - k) 0 [(501,some 501)] (by omega) ?_
      intro k hk
      by_cases hb:k < d.ports.length
      ·obtain⟨s,hs⟩:=aa hb
       have q:=h.knP s (au hs)
       obtain⟨nm,nd,pr⟩:=s
       dsimp only at q
       have c:=cJ nd 0 ((d.nn.length:Int) - 1) (by omega)
       refine aJ hs ?_
       refine dr hs c [] ?_
       refine aJ hs ?_
       exact nY (k+1) [(501,some 501)]
      ·obtain rfl:k=d.ports.length:=by omega
       refine ah ?_
       refine oP ?_
       refine lP (ι:=Nat) (fun k=>⟨[(1,.pt 501 [] 0),(14,.t (.int ((d.nn.length:Int) - 1))),(150,.t (.sl 5 (d.stns.map eF))),(151,.t (.int d.stns.length)),(152,.t (.int k))],[(501,.box 32 (.t (.agg d.l)))]⟩) (fun k=>k≤d.stns.length) (fun k=>d.stns.length - k) 0 [(501,some 501)] (by omega) ?_
       intro k hk
       by_cases hb:k < d.stns.length
       ·obtain⟨s,hs⟩:=aa hb
        have q:=h.knT s (au hs)
        obtain⟨nm,nd,hd,fl,su⟩:=s
        dsimp only at q
        have c:=cJ nd 0 ((d.nn.length:Int) - 1) (by omega)
        refine aJ hs ?_
        refine dr hs c [] ?_
        refine aJ hs ?_
        exact nY (k+1) [(501,some 501)]
       ·obtain rfl:k=d.stns.length:=by omega
        refine ah ?_
        refine oP ?_
        refine lP (ι:=Nat) (fun k=>⟨[(1,.pt 501 [] 0),(163,.t (.sl 7 (d.segs.map bA))),(164,.t (.int d.segs.length)),(165,.t (.int k))],[(501,.box 32 (.t (.agg d.l)))]⟩) (fun k=>k≤d.segs.length) (fun k=>d.segs.length - k) 0 [(501,some 501)] (by omega) ?_
        intro k hk
        by_cases hb:k < d.segs.length
        ·obtain⟨s,hs⟩:=aa hb
         have c:=yb s (h.pipe s (au hs))
         refine aJ hs ?_
         refine dr hs c [] ?_
         refine aJ hs ?_
         exact nY (k+1) [(501,some 501)]
        ·obtain rfl:k=d.segs.length:=by omega
         refine ah ?_
         refine oP ?_
         refine lP (ι:=Nat) (fun k=>⟨[(1,.pt 501 [] 0),(174,.t (.sl 3 (d.ports.map dO))),(175,.t (.int d.ports.length)),(176,.t (.int k))],[(501,.box 32 (.t (.agg d.l)))]⟩) (fun k=>k≤d.ports.length) (fun k=>d.ports.length - k) 0 [(501,some 501)] (by omega) ?_
         intro k hk
         by_cases hb:k < d.ports.length
         ·obtain⟨s,hs⟩:=aa hb
          have q:=h.prs s (au hs)
          obtain⟨nm,nd,pr⟩:=s
          dsimp only at q
          have c:=cJ pr 0 100000000 q
          refine aJ hs ?_
          refine dr hs c [] ?_
          refine aJ hs ?_
          exact nY (k+1) [(501,some 501)]
         ·obtain rfl:k=d.ports.length:=by omega
          refine ah ?_
          refine oP ?_
          refine lP (ι:=Nat) (fun k=>⟨[(1,.pt 501 [] 0),(186,.t (.sl 5 (d.stns.map eF))),(187,.t (.int d.stns.length)),(188,.t (.int k))],[(501,.box 32 (.t (.agg d.l)))]⟩) (fun k=>k≤d.stns.length) (fun k=>d.stns.length - k) 0 [(501,some 501)] (by omega) ?_
          intro k hk
          by_cases hb:k < d.stns.length
          ·obtain⟨s,hs⟩:=aa hb
           have q:=h.stn s (au hs)
           obtain⟨nm,nd,hd,fl,su⟩:=s
           dsimp only at q
           have c:=cJ hd 0 100000000 q.1
           have c2:=cJ fl 0 100000 q.2.1
           have c3:=cJ su 0 100000000 q.2.2
           refine aJ hs ?_
           refine dr hs c [] ?_
           refine aJ hs ?_
           refine dr hs c2 [] ?_
           refine aJ hs ?_
           refine dr hs c3 [] ?_
           refine aJ hs ?_
           exact nY (k+1) [(501,some 501)]
          ·obtain rfl:k=d.stns.length:=by omega
           have c:=cJ d.vap (-100000) 100000000 h.vap
           have c2:=cJ d.stl 0 100 h.stl
           refine ah ?_
           refine ax c [] ?_
           refine ax c2 [] ?_
           refine ah ?_
           exact aF []
end Go.Proofs.YtocndodilpimnaaGreat
