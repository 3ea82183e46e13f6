/- Several texts of this proof, one behind the other. No condition. -/
import Derived.WalkKit
import Derived.WalkSpells
import Derived.WalkLawsBesides
import Derived.Lib.Hide
import Derived.Lib.SlBytesConst
set_option maxRecDepth 100000
set_option maxHeartbeats 16000000
set_option linter.unusedVariables false
set_option linter.unusedSimpArgs false
namespace Go.Proofs.YtocndodilpimnaaGreat
open Go.RowKit
structure Row (w:World) (x:Option Addr) (n cap s:Nat) (xs:List Value):Prop where
 le:n≤cap
 capLe:cap≤maxLen
 len:xs.length=n * s
 nil:x=none→cap=0
 cells:n=0∨∃ b off,x=some ⟨b,off,none⟩∧b < w.heap.size∧∀ j u,xs[j]? = some u→w.cell? ⟨b,off+j,none⟩=some u
theorem Row.zero {w:World} {s:Nat}:Row w none 0 0 s []:=⟨Nat.le_refl _,by unfold maxLen;omega,by simp,fun _=>rfl,.inl rfl⟩
theorem Row.pos {w:World} {x:Option Addr} {n cap s:Nat} {xs:List Value} (h:Row w x n cap s xs) (hn:0 < n) :
  ∃ b off,x=some ⟨b,off,none⟩∧b < w.heap.size∧∀ j u,xs[j]? = some u→w.cell? ⟨b,off+j,none⟩=some u:=by
 rcases h.cells with h0|h0
 ·omega
 ·exact h0
theorem Row.take {w:World} {x:Option Addr} {n cap s:Nat} {xs:List Value} (h:Row w x n cap s xs) {k:Nat} (hk:k≤n):Row w x k cap s (xs.take (k * s)):=by
 refine⟨Nat.le_trans hk h.le,h.capLe,?_,h.nil,?_⟩
 ·rw[List.length_take,h.len]
  exact Nat.min_eq_left (Nat.mul_le_mul_right _ hk)
 ·rcases h.cells with h0|⟨b,off,hx,hlt,hc⟩
  ·exact .inl (by omega)
  ·refine .inr ⟨b,off,hx,hlt,fun j u hu=>hc j u ?_⟩
   rw[List.getElem?_take]at hu
   split at hu
   ·exact hu
   ·cases hu
def vk (k:IntKind) (bs:List Nat):List Value:=bs.map fun (c:Nat)=>Value.int k (c:Int)
theorem lF (k:IntKind) (bs:List Nat):(vk k bs).length=bs.length:=by simp[vk]
theorem IQ {k:IntKind} {bs:List Nat} {j c:Nat} (h:bs[j]? = some c):(vk k bs)[j]? = some (.int k (c:Int)):=by simp[vk,h]
def ints (k:IntKind) (bs:List Int):List Value:=bs.map fun (c:Int)=>Value.int k c
theorem jm (k:IntKind) (bs:List Int):(ints k bs).length=bs.length:=by simp[ints]
theorem KC {k:IntKind} {bs:List Int} {j:Nat} {c:Int} (h:bs[j]? = some c):(ints k bs)[j]? = some (.int k c):=by simp[ints,h]
def s9 (k:IntKind) (w:World) (x:Option Addr) (n cap:Nat) (bs:List Nat):Prop:=Row w x n cap 1 (vk k bs)
theorem s9.take {k:IntKind} {w:World} {x:Option Addr} {n cap:Nat} {bs:List Nat} (h:s9 k w x n cap bs) {j:Nat} (hj:j≤n):s9 k w x j cap (bs.take j):=by
 have:=Row.take h hj
 rw[Nat.mul_one]at this
 unfold s9
 rw[show vk k (bs.take j)=(vk k bs).take j by simp[vk,List.map_take]]
 exact this
theorem s9.length {k:IntKind} {w:World} {x:Option Addr} {n cap:Nat} {bs:List Nat} (h:s9 k w x n cap bs):bs.length=n:=by
 have:=h.len;simpa [lF,jm] using this
theorem s9.pos {k:IntKind} {w:World} {x:Option Addr} {n cap:Nat} {bs:List Nat} (h:s9 k w x n cap bs) (hn:0 < n) :
  ∃ b off,x=some ⟨b,off,none⟩∧b < w.heap.size∧∀ (j:Nat) (c:Nat),bs[j]? = some c→w.cell? ⟨b,off+j,none⟩=some (.int k (c:Int)):=by
 obtain⟨b,off,hx,hlt,hc⟩:=Row.pos h hn
 exact⟨b,off,hx,hlt,fun j c hj=>hc j _ (IQ hj)⟩
def DW (k:IntKind) (w:World) (x:Option Addr) (n cap:Nat) (zs:List Int):Prop:=Row w x n cap 1 (ints k zs)
theorem DW.length {k:IntKind} {w:World} {x:Option Addr} {n cap:Nat} {bs:List Int} (h:DW k w x n cap bs):bs.length=n:=by
 have:=h.len;simpa [lF,jm] using this
theorem DW.pos {k:IntKind} {w:World} {x:Option Addr} {n cap:Nat} {bs:List Int} (h:DW k w x n cap bs) (hn:0 < n) :
  ∃ b off,x=some ⟨b,off,none⟩∧b < w.heap.size∧∀ (j:Nat) (c:Int),bs[j]? = some c→w.cell? ⟨b,off+j,none⟩=some (.int k c):=by
 obtain⟨b,off,hx,hlt,hc⟩:=Row.pos h hn
 exact⟨b,off,hx,hlt,fun j c hj=>hc j _ (KC hj)⟩
theorem bC {α:Type} {l:List α} {k:Nat} {c:α} (h:l[k]? = some c):l.take (k+1)=l.take k++[c]:=by
 obtain⟨hk,rfl⟩:=List.getElem?_eq_some_iff.1 h
 exact List.take_succ_eq_append_getElem hk
theorem eu {α:Type} {l:List α} {k:Nat} {c:α} (h:l[k]? = some c):l.drop k=c :: l.drop (k+1):=by
 obtain⟨hk,rfl⟩:=List.getElem?_eq_some_iff.1 h
 exact List.drop_eq_getElem_cons hk
theorem aa {α:Type} {l:List α} {k:Nat} (h:k < l.length):∃ c,l[k]? = some c:=⟨_,List.getElem?_eq_getElem h⟩
theorem au {α:Type} {l:List α} {k:Nat} {c:α} (h:l[k]? = some c):c∈l:=List.mem_of_getElem? h
theorem Hg {n:Nat} (h:n≤9223372036854775807):n≤maxLen:=by unfold maxLen;omega
structure OA (P:Program) (t e:TypeId) (size bytes:Nat) (z:Value):Prop where
 und:P.underlying t=some (.slice e)
 info:(P.info? e).map (fun i=>(i.zero,i.size,i.bytes))=some (some z,size,bytes)
 zsize:z.cells.size=size
 pos:0 < size
def Own (w:World) (B:Nat) (e:TypeId) (size:Nat) (x:Option Addr) (n cap:Nat) (xs:List Value):Prop:=
 w.ownsRow B e size (.slice x n cap) n xs
theorem Own.none {w:World} {B:Nat} {e:TypeId} {size:Nat}:Own w B e size .none 0 0 []:=World.ownsRow_nil _ _ _ _
theorem Own.row {w:World} {B:Nat} {e:TypeId} {size:Nat} {x:Option Addr} {n cap:Nat} {xs:List Value} (h:Own w B e size x n cap xs):Row w x n cap size xs:=by
 have hl:=h.1
 rcases h.2 with ⟨hv,hn⟩|⟨g,cap',cur,hv,hB,hh,hc,hm,hs,ht⟩
 ·cases hv
  exact⟨Nat.le_refl _,by unfold maxLen;omega,hl,fun _=>rfl,.inl rfl⟩
 ·cases hv
  refine⟨hc,hm,hl,(fun e=>by cases e),.inr ⟨g,0,rfl,lt_of_block hh,fun j u hu=>?_⟩⟩
  rw[Nat.zero_add,cell_of_row w g j cur e (0,0) hh]
  rw[←ht,List.getElem?_take]at hu
  split at hu
  ·simpa using hu
  ·cases hu
theorem Own.lit (w:World) (cs:Array Value) (e:TypeId) (size n:Nat) {B:Nat} (hB:B≤w.heap.size) (hm:n≤maxLen) (hs:cs.size=n * size) :
  Own (w.alloc (.cells cs e)) B e size (some ⟨w.heap.size,0,.none⟩) n n cs.toList:=World.ownsRow_lit w cs n hB hm hs
theorem Own.alloc {w:World} {B:Nat} {e:TypeId} {size:Nat} {x:Option Addr} {n cap:Nat} {xs:List Value} (h:Own w B e size x n cap xs) (o:Obj):Own (w.alloc o) B e size x n cap xs:=World.ownsRow.alloc h o
theorem Own.drew {w:World} {B:Nat} {e:TypeId} {size:Nat} {x:Option Addr} {n cap:Nat} {xs:List Value} (h:Own w B e size x n cap xs):Own w.drew B e size x n cap xs:=h
theorem Own.mono {w:World} {B B':Nat} {e:TypeId} {size:Nat} {x:Option Addr} {n cap:Nat} {xs:List Value} (h:Own w B e size x n cap xs) (hB:B'≤B):Own w B' e size x n cap xs:=by
 refine⟨h.1,?_⟩
 rcases h.2 with h2|⟨g,cap,cur,hv,hg,r⟩
 ·exact .inl h2
 ·exact .inr ⟨g,cap,cur,hv,Nat.le_trans hB hg,r⟩
theorem Own.grown {w w':World} {B:Nat} {e:TypeId} {size:Nat} {x:Option Addr} {n cap:Nat} {xs:List Value} (h:Own w B e size x n cap xs) {row:Option Nat} (hg:w.grownBy w' row) (hne:∀ a,x=some a→row≠some a.block):Own w' B e size x n cap xs:=by
 refine World.ownsRow.kept h hg ?_
 cases x with
 | none=>exact .inl rfl
 | some a=>exact .inr (fun e=>hne a rfl e.symm)
theorem Own.length {w:World} {B:Nat} {e:TypeId} {size:Nat} {x:Option Addr} {n cap:Nat} {xs:List Value} (h:Own w B e size x n cap xs):xs.length=n * size:=h.1
theorem Own.pos {w:World} {B:Nat} {e:TypeId} {size:Nat} {x:Option Addr} {n cap:Nat} {xs:List Value} (h:Own w B e size x n cap xs) (hn:0 < n) :
  ∃ g,x=some ⟨g,0,.none⟩∧B≤g∧g < w.heap.size∧(∀ j u,xs[j]? = some u→w.cell? ⟨g,j,.none⟩=some u)∧∀ j,w.frozen? ⟨g,j,.none⟩=false:=by
 rcases h.2 with ⟨_,hn0⟩|⟨g,cap',cur,hv,hB,hh,hc,hm,hs,ht⟩
 ·omega
 ·cases hv
  refine⟨g,rfl,hB,lt_of_block hh,fun j u hu=>?_,fun j=>World.ownsRow.frozenAt h j⟩
  have:=h.1
  rw[World.ownsRow.cellAt h j (by rw[←this];exact (List.getElem?_eq_some_iff.1 hu).1)]
  exact hu
theorem Own.set {w:World} {B:Nat} {e:TypeId} {size:Nat} {g n cap:Nat} {xs:List Value} (h:Own w B e size (some ⟨g,0,.none⟩) n cap xs) (j:Nat) (u:Value) :
  Own (w.setCell ⟨g,j,.none⟩ u) B e size (some ⟨g,0,.none⟩) n cap (xs.set j u):=(World.ownsRow.stored h j u).1
theorem Own.below {w w':World} {B:Nat} {e:TypeId} {size:Nat} {x:Option Addr} {n cap:Nat} {xs:List Value} (h:Own w B e size x n cap xs) (hg:w.grownBy w' (Value.slice x n cap).ownBlock) (hB:B≤w.heap.size):Below B w w':=
 (Below.refl B w).grown hg hB (fun k hk=>(World.ownsRow.lt h k hk).1)
theorem Own.empty (w:World) (e:TypeId) (size:Nat) {B:Nat} (hB:B≤w.heap.size):Own (w.alloc (.cells #[] e)) B e size (some ⟨w.heap.size,0,.none⟩) 0 0 []:=
 Own.lit w #[] e size 0 hB (Hg (by omega)) (by simp)
def str (bs:List Nat):ByteArray:=⟨(bs.map fun c=>UInt8.ofNat c).toArray⟩
theorem JP (bs:List Nat):(str bs).size=bs.length:=by simp[str,ByteArray.size]
theorem KQ (bs:List Nat):strOfNums (bs.map fun (c:Nat)=>(c:Int))=str bs:=by
 simp[strOfNums,str]
theorem kS (bs:List Nat):(str bs).toList=bs.map fun c=>UInt8.ofNat c:=by simp[str]
theorem LL {P:Program} (w:World) (src e dst:TypeId) (hs:P.underlying src=some (.slice e)) (he:P.underlying e=some (.int .u8)) (hd:P.underlying dst=some .string)
  {x:Option Addr} {n cap:Nat} {bs:List Nat} (h:s9 .u8 w x n cap bs):(convert src dst (.slice x n cap)).run P w = .ok (.string (str bs)) w:=by
 have hl:=h.length
 cases x with
 | none=>
  have hc:=h.nil rfl
  have hn:n=0:=by have:=h.le;omega
  subst hn
  have:bs=[]:=List.eq_nil_of_length_eq_zero hl
  subst this
  exact run_convert_bytes_nil w src e hs he 0 cap dst hd
 | some ad=>
  by_cases hn:n=0
  ·subst hn
   have:bs=[]:=List.eq_nil_of_length_eq_zero hl
   subst this
   rw[run_convert_bytes_string w src dst e (some ad) 0 cap hs he hd,run_bytesToString w ad 0 cap [] (run_loadCells_list w ad [] (by simp))]
   rfl
  ·obtain⟨b,off,hx,_,hc⟩:=h.pos (by omega)
   cases hx
   rw[←KQ]
   refine run_convert_bytes_arg w src e hs he b off n cap (bs.map fun (c:Nat)=>(c:Int)) (by simpa using hl) (fun i hi=>?_) dst hd
   obtain⟨c,hcg⟩:=aa (l:=bs) (k:=i) (by omega)
   rw[hc i c hcg]
   simp[List.getD,hcg]
def IsRow (k:IntKind) (w:World) (a:Option Addr) (len cap:Nat) (zs:List Int):Prop:=
 (a=none∧len=0∧cap=0∧zs=[])∨
 ∃ x,a=some x∧len≤cap∧cap≤maxLen∧zs.length=cap∧(∀ i,i < zs.length→w.cell? (x.add i)=some (.int k (zs.getD i 0)))∧∀ n∈zs,(Lit.int k n).wf=true
theorem IsRow.row {k:IntKind} {w:World} {a:Option Addr} {len cap:Nat} {zs:List Int} (h:IsRow k w a len cap zs) :
  ∃ l,DW k w a len cap l∧∀ n∈l,(Lit.int k n).wf=true:=by
 rcases h with ⟨rfl,rfl,rfl,rfl⟩|⟨x,rfl,hl,hm,hz,hcell,hwz⟩
 ·exact⟨[],Row.zero,by simp⟩
 ·refine⟨zs.take len,⟨hl,hm,by simp[jm];omega,(fun h=>by cases h),?_⟩,fun n hn=>hwz n (List.mem_of_mem_take hn)⟩
  by_cases h0:len=0
  ·exact .inl h0
  ·right
   obtain⟨b,off,spot⟩:=x
   have hc:=hcell 0 (by omega)
   have hspot:spot=none:=by simpa [Addr.add] using World.cell?_spot hc
   subst hspot
   refine⟨b,off,rfl,?_,?_⟩
   ·have:=World.block_lt_of_cell? _ _ hc
    simpa [Addr.add] using this
   ·intro j u hu
    have hj:j < (ints k (zs.take len)).length:=(List.getElem?_eq_some_iff.1 hu).1
    rw[jm,List.length_take]at hj
    have h1:=hcell j (by omega)
    rw[show (⟨b,off,none⟩:Addr).add j=⟨b,off+j,none⟩ by unfold Addr.add;split<;>simp_all]at h1
    rw[h1]
    rw[←hu]
    simp[ints,List.getElem?_take,List.getD,show j < len by omega,List.getElem?_eq_getElem (show j < zs.length by omega)]
theorem wf_u8 {n:Int} (h:(Lit.int .u8 n).wf=true):0≤n∧n < 256:=by
 simp only[Lit.wf,IntKind.min,IntKind.max,IntKind.signed,IntKind.bits,Bool.and_eq_true,decide_eq_true_eq]at h
 simp at h;omega
theorem wf_i64 {n:Int} (h:(Lit.int .i64 n).wf=true):-9223372036854775808≤n∧n≤9223372036854775807:=by
 simp only[Lit.wf,IntKind.min,IntKind.max,IntKind.signed,IntKind.bits,Bool.and_eq_true,decide_eq_true_eq]at h
 simp at h;omega
theorem IsRow.bytes {w:World} {a:Option Addr} {len cap:Nat} {zs:List Int} (h:IsRow .u8 w a len cap zs) :
  ∃ bs,s9 .u8 w a len cap bs∧∀ c∈bs,c < 256:=by
 obtain⟨l,hr,hw⟩:=h.row
 refine⟨l.map Int.toNat,?_,?_⟩
 ·have e:vk .u8 (l.map Int.toNat)=ints .u8 l:=by
   unfold vk ints
   rw[List.map_map]
   exact List.map_congr_left fun n hn=>by have:=wf_u8 (hw n hn);simp;omega
  unfold s9
  rw[e]
  exact hr
 ·intro c hc
  obtain⟨n,hn,rfl⟩:=List.mem_map.1 hc
  have:=wf_u8 (hw n hn)
  omega
theorem HR {st:Nat} (h:st < 18446744073709551616):18446744073709551615 ^^^ st=18446744073709551615 - st:=by
 have h1:(BitVec.allOnes 64 ^^^ BitVec.ofNat 64 st).toNat=(~~~ BitVec.ofNat 64 st).toNat:=by rw[BitVec.allOnes_xor]
 rw[BitVec.toNat_xor,BitVec.toNat_not,BitVec.toNat_ofNat,BitVec.toNat_allOnes,Nat.mod_eq_of_lt (by omega)]at h1
 exact h1
end Go.Proofs.YtocndodilpimnaaGreat
