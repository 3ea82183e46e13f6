import Derived.Test.YtdjmklobfjigoaaGreatDoorTCvesB8
set_option maxRecDepth 100000
set_option maxHeartbeats 16000000
set_option linter.unusedVariables false
set_option linter.unusedSimpArgs false
namespace Go.Proofs.YtdjmklobfjigoaaGreatDoor.Sy
open Go.RowKit
set_option maxHeartbeats 1000000
def gd (p:Prop) [Decidable p] {α:Type} (x:Option α):Option α:=if p then x else none
theorem gd_some {p:Prop} [Decidable p] {α:Type} {x:Option α} {e:α}:gd p x=some e↔p∧x=some e:=by
 unfold gd;split<;>simp_all
instance (P:Program) (t:TypeId) (s:S):Decidable (okLd P t s):=by unfold okLd;infer_instance
def pickX (c x y:S):Option Eff:=match c with
 | .t (.lit (.bool b))=>some ⟨bif b then x else y,[],[],[]⟩
 | _=>none
theorem pickX_spec {c x y:S} {E:Eff} {K:Eff→Prop} (h:pickX c x y=some E) (hK:K E):pickK c x y K:=by
 unfold pickX at h;unfold pickK
 split at h
 ·rename_i b
  cases b<;>simp at h<;>subst h<;>simpa using hK
 ·cases h
def allocX (P:Program) (e:TypeId) (d:Nat):Option Eff:=match zeroOf P e with
 | some z=>some ⟨.pt d [] 0,[(d,some (.box e (.t z)))],[],[d]⟩
 | none=>none
theorem allocX_spec {P:Program} {e:TypeId} {d:Nat} {E:Eff} {K:Eff→Prop} (h:allocX P e d=some E) (hK:K E):allocK P e d K:=by
 unfold allocX at h;unfold allocK;split at h<;>simp_all
def boxX (e:TypeId) (x:S) (d:Nat):Option Eff:=gd (x.solid=true∧x.free d=true) (some ⟨.pt d [] 0,[(d,some (.box e x))],[],[d]⟩)
theorem boxX_spec {e:TypeId} {x:S} {d:Nat} {E:Eff} {K:Eff→Prop} (h:boxX e x d=some E) (hK:K E):boxK e x d K:=by
 unfold boxX at h;unfold boxK;simp_all [gd_some]
def loadX (P:Program) (t:TypeId) (x:S) (h:Nat→Option Blk):Option Eff:=match x with
 | .rp y=>gd (okLd P t (.t y)) (some ⟨.t y,[],[],[]⟩)
 | .pt l p off=>match h l with
  | some blk=>match blk.at p with
   | some (o,y)=>gd (o=off∧y.solid=true∧okLd P t y) (some ⟨y,[],[l],[]⟩)
   | none=>none
  | none=>none
 | _=>none
theorem loadX_spec {P:Program} {t:TypeId} {x:S} {h:Nat→Option Blk} {E:Eff} {K:Eff→Prop} (e:loadX P t x h=some E) (hK:K E):loadK P t x h K:=by
 unfold loadX at e;unfold loadK;(repeat' split at e)<;>simp_all [gd_some]
def storeX (P:Program) (t:TypeId) (x v:S) (h:Nat→Option Blk):Option Eff:=match x with
 | .pt l p off=>match h l with
  | some blk=>match blk.at p with
   | some (o,z)=>match blk.set p v with
    | some blk'=>gd (o=off∧v.solid=true∧v.width=z.width∧szB P t=some v.width) (some ⟨.dead,[(l,some blk')],[l],[]⟩)
    | none=>none
   | none=>none
  | none=>none
 | _=>none
theorem storeX_spec {P:Program} {t:TypeId} {x v:S} {h:Nat→Option Blk} {E:Eff} {K:Eff→Prop} (e:storeX P t x v h=some E) (hK:K E):storeK P t x v h K:=by
 unfold storeX at e;unfold storeK;(repeat' split at e)<;>simp_all [gd_some]
def fieldAddrX (P:Program) (t:TypeId) (x:S) (f:Nat):Option Eff:=match fldB P t f with
 | some q=>gd (nzB P q.2=true) (match x with
  | .pt l p o=>some ⟨.pt l (p++[f]) (o+q.1),[],[],[]⟩
  | .rp (.agg xs)=>match xs[f]? with
   | some y=>gd (T.widths (xs.take f)=q.1) (some ⟨.rp y,[],[],[]⟩)
   | none=>none
  | _=>none)
 | none=>none
theorem fieldAddrX_spec {P:Program} {t:TypeId} {x:S} {f:Nat} {E:Eff} {K:Eff→Prop} (e:fieldAddrX P t x f=some E) (hK:K E):fieldAddrK P t x f K:=by
 unfold fieldAddrX at e;unfold fieldAddrK
 split at e
 ·rename_i q hq
  rw[gd_some]at e
  obtain⟨e1,e2⟩:=e
  simp only[hq]
  refine⟨e1,?_⟩
  (repeat' split at e2)<;>simp_all [gd_some]
 ·cases e
def indexAddrX (P:Program) (t:TypeId) (x i:S) (h:Nat→Option Blk):Option Eff:=match elemB P t with
 | some e=>match i with
  | .t (.lit (.int k n))=>match x with
   | .t (.sl s xs)=>gd (szB P e=some s∧0≤n∧n < (xs.length:Int)) (match xs[n.toNat]? with|some y=>some ⟨.rp y,[],[],[]⟩|none=>none)
   | .own l=>match h l with
    | some (.list _ s xs)=>gd (szB P e=some s∧0≤n∧n < (xs.length:Int)) (some ⟨.pt l [n.toNat] (n.toNat * s),[],[l],[]⟩)
    | some (.rows _ s us _)=>gd (szB P e=some s∧0≤n∧n < (us.length:Int)) (some ⟨.pt l [n.toNat] (n.toNat * s),[],[l],[]⟩)
    | _=>none
   | .wn l p off m=>match szB P e with
    | some s=>gd (0≤n∧n < (m:Int)) (some ⟨.pt l (p++[n.toNat]) (off+n.toNat * s),[],[],[]⟩)
    | none=>none
   | _=>none
  | _=>none
 | none=>match arrB P t with
  | some (n,e)=>match szB P e with
   | some s=>match i,x with
    | .t (.lit (.int k m)),.pt l p off=>gd (0≤m∧m < (n:Int)) (some ⟨.pt l (p++[m.toNat]) (off+m.toNat * s),[],[],[]⟩)
    | _,_=>none
   | none=>none
  | none=>none
theorem indexAddrX_spec {P:Program} {t:TypeId} {x i:S} {h:Nat→Option Blk} {E:Eff} {K:Eff→Prop} (e:indexAddrX P t x i h=some E) (hK:K E):indexAddrK P t x i h K:=by
 unfold indexAddrX at e;unfold indexAddrK;(repeat' split at e)<;>(try rw[gd_some]at e)<;>simp_all
def fieldX (P:Program) (t:TypeId) (x:S) (f:Nat):Option Eff:=match fldB P t f with
 | some q=>match x with
  | .t (.agg xs)=>match xs[f]? with
   | some y=>gd (T.widths (xs.take f)=q.1∧okLd P q.2 (.t y)) (some ⟨.t y,[],[],[]⟩)
   | none=>none
  | _=>none
 | none=>none
theorem fieldX_spec {P:Program} {t:TypeId} {x:S} {f:Nat} {E:Eff} {K:Eff→Prop} (e:fieldX P t x f=some E) (hK:K E):fieldK P t x f K:=by
 unfold fieldX at e;unfold fieldK;(repeat' split at e)<;>simp_all [gd_some]
def extractX (x:S) (i:Nat):Option Eff:=match x with
 | .tup ss=>match ss[i]? with
  | some s=>some ⟨s,[],[],[]⟩
  | none=>none
 | _=>none
theorem extractX_spec {x:S} {i:Nat} {E:Eff} {K:Eff→Prop} (e:extractX x i=some E) (hK:K E):extractK x i K:=by
 unfold extractX at e;unfold extractK;(repeat' split at e)<;>simp_all
def litX (v:Value):Option Eff:=some ⟨.t (.lit v),[],[],[]⟩
theorem litX_spec {v:Value} {E:Eff} {K:Eff→Prop} (e:litX v=some E) (hK:K E):litK K v:=by
 unfold litX at e;unfold litK;simp_all
def boolX (P:Program) (op:BinOp) (t:TypeId) (p q:Bool):Option Eff:=match op with
 | .eql=>gd (boolB P t=true) (litX (.bool (p == q)))
 | .neq=>gd (boolB P t=true) (litX (.bool (!(p == q))))
 | _=>none
theorem boolX_spec {P:Program} {op:BinOp} {t:TypeId} {p q:Bool} {E:Eff} {K:Eff→Prop} (e:boolX P op t p q=some E) (hK:K E):boolK P op t p q K:=by
 unfold boolX at e;unfold boolK
 split at e
 ·rw[gd_some]at e;exact⟨e.1,litX_spec e.2 hK⟩
 ·rw[gd_some]at e;exact⟨e.1,litX_spec e.2 hK⟩
 ·cases e
def eqlX (op:BinOp) (b:Bool):Option Eff:=match op with
 | .eql=>litX (.bool b)
 | .neq=>litX (.bool (!b))
 | _=>none
def arrEqX (P:Program) (op:BinOp) (t:TypeId) (xs ys:List T):Option Eff:=match arrB P t with
 | some (n,e)=>gd (cellB P e=true∧P.eqGuardType P.depth t=false∧n=xs.length) (match eqAs P e xs ys with
  | some b=>eqlX op b
  | none=>none)
 | none=>none
theorem arrEqX_spec {P:Program} {op:BinOp} {t:TypeId} {xs ys:List T} {E:Eff} {K:Eff→Prop} (e:arrEqX P op t xs ys=some E) (hK:K E):arrEqK P op t xs ys K:=by
 unfold arrEqX at e;unfold arrEqK
 split at e
 ·rename_i n e1 ha
  rw[gd_some]at e
  obtain⟨⟨e1,e2,e3⟩,e4⟩:=e
  simp only[ha]
  refine⟨e1,e2,e3,?_⟩
  split at e4
  ·rename_i b hb
   simp only[hb]
   unfold eqlX at e4
   split at e4
   ·exact litX_spec e4 hK
   ·exact litX_spec e4 hK
   ·cases e4
  ·cases e4
 ·cases e
def aggX (P:Program) (op:BinOp) (t:TypeId) (xs ys:List T):Option Eff:=match fldsB P t with
 | some fl=>gd (P.stoodInHeld t=false∧P.eqGuardType P.depth t=false) (match eqFs P fl 0 xs ys with
  | some b=>eqlX op b
  | none=>none)
 | none=>arrEqX P op t xs ys
theorem aggX_spec {P:Program} {op:BinOp} {t:TypeId} {xs ys:List T} {E:Eff} {K:Eff→Prop} (e:aggX P op t xs ys=some E) (hK:K E):aggK P op t xs ys K:=by
 unfold aggX at e;unfold aggK
 split at e
 ·rename_i fl hfl
  rw[gd_some]at e
  obtain⟨⟨e1,e2⟩,e3⟩:=e
  simp only[hfl]
  refine⟨e1,e2,?_⟩
  split at e3
  ·rename_i b hb
   simp only[hb]
   unfold eqlX at e3
   split at e3
   ·exact litX_spec e3 hK
   ·exact litX_spec e3 hK
   ·cases e3
  ·cases e3
 ·rename_i hfl
  simp only[hfl]
  exact arrEqX_spec e hK
def arX (k:IntKind) (e:Int):Option Value:=match k with
 | .i64=>gd (-9223372036854775808≤e∧e≤9223372036854775807) (some (.int .i64 e))
 | k=>if inR k e then some (.int k e) else some (.int k (k.wrap e))
theorem arX_spec {k:IntKind} {e:Int} {v:Value} {K:Value→Prop} (h:arX k e=some v) (hK:K v):arK k e K:=by
 unfold arX at h;unfold arK
 split at h
 ·simp_all [gd_some]
 ·split at h<;>simp_all
def strEq (x y:ByteArray):Bool:=(x.data.toList.map fun c=>c.toNat) == (y.data.toList.map fun c=>c.toNat)
theorem strEq_eq (x y:ByteArray):strEq x y=(x.toList == y.toList):=by
 unfold strEq
 have h:∀ a b:List UInt8,(a.map (fun c=>c.toNat) == b.map fun c=>c.toNat)=(a == b):=by
  intro a
  induction a with
  | nil=>intro b;cases b<;>rfl
  | cons x r ih=>
   intro b
   cases b with
   | nil=>rfl
   | cons y s=>
    simp only[List.map_cons,List.cons_beq_cons,ih]
    congr 1
    rw[Bool.eq_iff_iff]
    simp[UInt8.toNat_inj]
 rw[h]
 have h2:∀ a:ByteArray,a.toList=a.data.toList:=fun⟨⟨l⟩⟩=>by
  have:=str_toList (l.map fun c=>c.toNat)
  have e:(str (l.map fun c=>c.toNat))=⟨⟨l⟩⟩:=by simp[str,Function.comp_def]
  rw[e]at this
  rw[this];simp[Function.comp_def]
 rw[h2,h2]
def binVX (op:BinOp) (a b:Value):Option Value:=
 match op,a,b with
 | .add,.int k x,.int k' y=>gd (k=k') (arX k (x+y))
 | .sub,.int k x,.int k' y=>gd (k=k') (arX k (x - y))
 | .mul,.int k x,.int k' y=>gd (k=k') (arX k (x * y))
 | .quo,.int k x,.int k' y=>gd (k=k') (gd (0≤x∧1≤y) (gd (inR k x) (some (.int k (x / y)))))
 | .rem,.int k x,.int k' y=>gd (k=k') (gd (0≤x∧1≤y) (some (.int k (x % y))))
 | .lss,.int k x,.int k' y=>gd (k=k') (some (.bool (decide (x < y))))
 | .leq,.int k x,.int k' y=>gd (k=k') (some (.bool (decide (x≤y))))
 | .gtr,.int k x,.int k' y=>gd (k=k') (some (.bool (decide (y < x))))
 | .geq,.int k x,.int k' y=>gd (k=k') (some (.bool (decide (y≤x))))
 | .eql,.int k x,.int k' y=>gd (k=k') (some (.bool (decide (x=y))))
 | .neq,.int k x,.int k' y=>gd (k=k') (some (.bool (decide (x≠y))))
 | .eql,.string x,.string y=>some (.bool (strEq x y))
 | .neq,.string x,.string y=>some (.bool (!(strEq x y)))
 | .add,.string x,.string y=>gd (x.size+y.size≤9223372036854775807) (some (.string (x++y)))
 | .shl,.int k x,.int _ y=>gd (0≤y∧y≤kB k) (arX k (x * 2 ^ y.toNat))
 | .shr,.int k x,.int _ y=>gd (0≤y∧y≤kB k) (some (.int k (x / 2 ^ y.toNat)))
 | .and,.int k x,.int k' y=>gd (k=k') (some (.int k (bits .and k x y)))
 | .or,.int k x,.int k' y=>gd (k=k') (some (.int k (bits .or k x y)))
 | .xor,.int k x,.int k' y=>gd (k=k') (some (.int k (bits .xor k x y)))
 | _,_,_=>none
theorem binVX_spec {op:BinOp} {a b v:Value} {K:Value→Prop} (h:binVX op a b=some v) (hK:K v):binV op a b K:=by
 unfold binVX at h
 split at h<;>(try simp only[gd_some,Option.some.injEq]at h)<;>(try simp only[binV])
 case h_1=>exact⟨h.1,arX_spec h.2 hK⟩
 case h_2=>exact⟨h.1,arX_spec h.2 hK⟩
 case h_3=>exact⟨h.1,arX_spec h.2 hK⟩
 case h_4=>obtain⟨h1,h2,h3,rfl⟩:=h;exact⟨h1,by rw[if_pos h2,if_pos h3];exact hK⟩
 case h_5=>obtain⟨h1,h2,rfl⟩:=h;exact⟨h1,by rw[if_pos h2];exact hK⟩
 case h_12=>subst h;rw[←strEq_eq];exact hK
 case h_13=>subst h;rw[←strEq_eq];exact hK
 case h_14=>obtain⟨h1,rfl⟩:=h;rw[if_pos h1];exact hK
 case h_15=>rw[if_pos h.1];exact arX_spec h.2 hK
 case h_16=>obtain⟨h1,rfl⟩:=h;rw[if_pos h1];exact hK
 all_goals first|(obtain⟨h1,rfl⟩:=h;exact⟨h1,hK⟩)|cases h
def nilEqX (P:Program) (op:BinOp) (t:TypeId) (b:Bool):Option Eff:=match op with
 | .eql=>gd ((elemB P t).isSome=true) (some ⟨.t (.lit (.bool b)),[],[],[]⟩)
 | _=>none
theorem nilEqX_spec {P:Program} {op:BinOp} {t:TypeId} {b:Bool} {E:Eff} {K:Eff→Prop} (e:nilEqX P op t b=some E) (hK:K E):nilEqK P op t b K:=by
 unfold nilEqX at e;unfold nilEqK;split at e<;>simp_all [gd_some]
def binX (P:Program) (op:BinOp) (t:TypeId) (x y:S):Option Eff:=match x,y with
 | .t (.lit (.bool p)),.t (.lit (.bool q))=>boolX P op t p q
 | .t (.lit (.slice none 0 0)),.t (.lit (.slice none 0 0))=>nilEqX P op t true
 | .t (.sl _ (_ :: _)),.t (.lit (.slice none 0 0))=>nilEqX P op t false
 | .t (.lit a),.t (.lit b)=>match binVX op a b with
  | some v=>litX v
  | none=>none
 | .t (.agg xs),.t (.agg ys)=>aggX P op t xs ys
 | _,_=>none
theorem binX_spec {P:Program} {op:BinOp} {t:TypeId} {x y:S} {E:Eff} {K:Eff→Prop} (e:binX P op t x y=some E) (hK:K E):binK P op t x y K:=by
 unfold binX at e
 split at e
 ·simp only[binK];exact boolX_spec e hK
 ·simp only[binK];exact nilEqX_spec e hK
 ·simp only[binK];exact nilEqX_spec e hK
 ·split at e
  ·rename_i h1 h2 _ v hv
   unfold binK
   split
   ·rename_i g1 g2;cases g1;cases g2;exact (h1 _ _ rfl rfl).elim
   ·rename_i g1 g2;cases g1;cases g2;exact (h2 rfl rfl).elim
   ·rename_i g1 g2;cases g1
   ·rename_i g1 g2;cases g1;cases g2
    exact binVX_spec hv (litX_spec e hK)
   ·rename_i g1 g2;cases g1
   ·rename_i g1 g2 g3 g4 g5;exact (g4 _ _ rfl rfl).elim
  ·cases e
 ·simp only[binK];exact aggX_spec e hK
 ·cases e
def nilIX (P:Program) (op:BinOp) (t:TypeId) (x:S):Option Eff:=match op,x with
 | .eql,.t (.lit .nilIface)=>gd (ifcB P t=true) (some ⟨.t (.lit (.bool true)),[],[],[]⟩)
 | .neq,.t (.lit .nilIface)=>gd (ifcB P t=true) (some ⟨.t (.lit (.bool false)),[],[],[]⟩)
 | _,_=>none
def binYX (P:Program) (op:BinOp) (t:TypeId) (x y:Operand) (R:Operand→S):Option Eff:=match y with
 | .const .nilIface=>nilIX P op t (R x)
 | y=>binX P op t (R x) (R y)
theorem binYX_spec {P:Program} {op:BinOp} {t:TypeId} {x y:Operand} {R:Operand→S} {E:Eff} {K:Eff→Prop} (e:binYX P op t x y R=some E) (hK:K E):binYK P op t x y R K:=by
 unfold binYX at e;unfold binYK
 split at e
 ·unfold nilIX at e
  simp only
  unfold nilIK
  split at e
  ·rename_i hx;rw[gd_some]at e;obtain⟨e1,e2⟩:=e;cases e2;simp only[hx];exact⟨e1,hK⟩
  ·rename_i hx;rw[gd_some]at e;obtain⟨e1,e2⟩:=e;cases e2;simp only[hx];exact⟨e1,hK⟩
  ·cases e
 ·split
  ·exfalso;simp_all
  ·exact binX_spec e hK
def nilX (x:S):Option Eff:=match x with
 | .pt l p o=>some ⟨.pt l p o,[],[],[]⟩
 | .rp y=>some ⟨.rp y,[],[],[]⟩
 | _=>none
theorem nilX_spec {x:S} {E:Eff} {K:Eff→Prop} (e:nilX x=some E) (hK:K E):nilK x K:=by
 unfold nilX at e;unfold nilK;split at e<;>simp_all
def sliceX (P:Program) (t:TypeId) (x:S) (lo hi:Int→Option Int) (mx:Option Operand) (h:Nat→Option Blk):Option Eff:=match mx,elemB P t with
 | none,some e=>match x with
  | .t (.sl s xs)=>gd (szB P e=some s) (match lo 0,hi xs.length with
   | some l,some r=>gd (0≤l∧l≤r∧r≤(xs.length:Int)) (some ⟨.t (.sl s ((xs.take r.toNat).drop l.toNat)),[],[],[]⟩)
   | _,_=>none)
  | .own k=>match h k with
   | some (.list _ s xs)=>gd (szB P e=some s) (match lo 0,hi xs.length with
    | some l,some r=>gd (0≤l∧l≤r∧r≤(xs.length:Int)) (some ⟨.t (.sl s ((xs.take r.toNat).drop l.toNat)),[(k,none)],[k],[]⟩)
    | _,_=>none)
   | _=>none
  | .wn k p off n=>gd (szB P e=some 1) (match lo 0,hi n with
   | some l,some r=>gd (0≤l∧l≤r∧r≤(n:Int)) (some ⟨.wn k p (off+l.toNat * 1) (r.toNat - l.toNat),[],[],[]⟩)
   | _,_=>none)
  | _=>none
 | none,none=>match arrB P t with
  | some _=>none
  | none=>match x with
   | .t (.lit (.string b))=>gd (strB P t=true) (match lo 0,hi b.size with
    | some l,some r=>gd (0≤l∧l≤r∧r≤(b.size:Int)) (some ⟨.t (.lit (.string (strS b l.toNat r.toNat))),[],[],[]⟩)
    | _,_=>none)
   | _=>none
 | _,_=>none
theorem sliceX_spec {P:Program} {t:TypeId} {x:S} {lo hi:Int→Option Int} {mx:Option Operand} {h:Nat→Option Blk} {E:Eff} {K:Eff→Prop} (e:sliceX P t x lo hi mx h=some E) (hK:K E):sliceK P t x lo hi mx h K:=by
 unfold sliceX at e;unfold sliceK
 split at e
 ·rename_i e0 he
  simp only[he]
  split at e
  ·rw[gd_some]at e
   obtain⟨e1,e2⟩:=e
   refine⟨e1,?_⟩
   split at e2
   ·simp_all [gd_some]
   ·cases e2
  ·split at e
   ·rename_i hk
    rw[gd_some]at e
    obtain⟨e1,e2⟩:=e
    simp only[hk]
    refine⟨e1,?_⟩
    split at e2
    ·simp_all [gd_some]
    ·cases e2
   ·cases e
  ·rw[gd_some]at e
   obtain⟨e1,e2⟩:=e
   simp only[e1]
   refine⟨.inl trivial,?_⟩
   split at e2
   ·simp_all [gd_some]
   ·cases e2
  ·cases e
 ·rename_i he
  simp only[he]
  split at e
  ·cases e
  ·rename_i ha
   simp only[ha]
   unfold sliceTK
   split at e
   ·rw[gd_some]at e
    obtain⟨e1,e2⟩:=e
    refine⟨e1,?_⟩
    split at e2
    ·simp_all [gd_some]
    ·cases e2
   ·cases e
 ·cases e
def slice3X (P:Program) (t:TypeId) (x:S) (lo hi mx:Option Int):Option Eff:=match elemB P t,x,lo,hi,mx with
 | some e,.t (.sl s xs),some l,some r,some m=>gd (szB P e=some s∧0≤l∧l≤r∧r≤m∧m≤(xs.length:Int)) (some ⟨.t (.sl s ((xs.take r.toNat).drop l.toNat)),[],[],[]⟩)
 | _,_,_,_,_=>none
theorem slice3X_spec {P:Program} {t:TypeId} {x:S} {lo hi mx:Option Int} {E:Eff} {K:Eff→Prop} (e:slice3X P t x lo hi mx=some E) (hK:K E):slice3K P t x lo hi mx K:=by
 unfold slice3X at e;unfold slice3K
 split at e
 ·rename_i he
  rw[gd_some]at e
  obtain⟨⟨h1,h2⟩,h3⟩:=e
  simp only[he]
  refine⟨h1,?_⟩
  rw[if_pos h2]
  cases h3;exact hK
 ·cases e
def clipX (P:Program) (t:TypeId) (x:S) (hi mx:Option Int):Option Eff:=match elemB P t,x,hi,mx with
 | some e,.t (.sl s xs),some r,some m=>gd (szB P e=some s∧m=r∧0≤r∧r≤(xs.length:Int)) (some ⟨.cl s (xs.take r.toNat),[],[],[]⟩)
 | _,_,_,_=>none
theorem clipX_spec {P:Program} {t:TypeId} {x:S} {hi mx:Option Int} {E:Eff} {K:Eff→Prop} (e:clipX P t x hi mx=some E) (hK:K E):clipK P t x hi mx K:=by
 unfold clipX at e;unfold clipK
 split at e
 ·rename_i he
  rw[gd_some]at e
  obtain⟨⟨h1,h2,h3⟩,h4⟩:=e
  simp only[he]
  refine⟨h1,h2,?_⟩
  rw[if_pos h3]
  cases h4;exact hK
 ·cases e
def buildX (P:Program) (t:TypeId) (R:Operand→S) (parts:List (Nat×Operand)):Option Eff:=match arrB P t with
 | some (n,e)=>match zeroOf P t,szB P e with
  | some (.agg zs),some s=>match bldS (plA n s) (fun x=>fnT (R x)) parts (zs.map S.t) with
   | some fs=>some ⟨clp fs,[],[],[]⟩
   | none=>none
  | _,_=>none
 | none=>match zeroOf P t,plB P t with
  | some (.agg zs),some pls=>match bldS pls (fun x=>fnT (R x)) parts (zs.map S.t) with
   | some fs=>some ⟨clp fs,[],[],[]⟩
   | none=>none
  | _,_=>none
theorem buildX_spec {P:Program} {t:TypeId} {R:Operand→S} {parts:List (Nat×Operand)} {E:Eff} {K:Eff→Prop} (e:buildX P t R parts=some E) (hK:K E):buildK P t R parts K:=by
 unfold buildX at e;unfold buildK;(repeat' split at e)<;>simp_all
def unX (op:UnOp) (x:S):Option Eff:=match op,x with
 | .not,.t (.lit (.bool b))=>litX (.bool (!b))
 | .neg,.t (.lit (.int k n))=>match arX k (0 - n) with
  | some v=>litX v
  | none=>none
 | _,_=>none
theorem unX_spec {op:UnOp} {x:S} {E:Eff} {K:Eff→Prop} (e:unX op x=some E) (hK:K E):unK op x K:=by
 unfold unX at e;unfold unK
 split at e
 ·exact litX_spec e hK
 ·split at e
  ·rename_i v hv
   exact arX_spec hv (litX_spec e hK)
  ·cases e
 ·cases e
def convX (P:Program) (s t:TypeId) (x:S) (h:Nat→Option Blk):Option Eff:=match x with
 | .t (.lit (.int k n))=>match intB P s,intB P t with
  | some _,some k'=>match arX k' n with
   | some v=>litX v
   | none=>none
  | _,_=>none
 | .t (.lit (.string b))=>gd (strB P s=true∧strB P t=true) (litX (.string b))
 | _=>none
theorem convX_spec {P:Program} {s t:TypeId} {x:S} {h:Nat→Option Blk} {E:Eff} {K:Eff→Prop} (e:convX P s t x h=some E) (hK:K E):convK P s t x h K:=by
 unfold convX at e;unfold convK
 split at e
 ·split at e
  ·rename_i h1 h2
   split at e
   ·rename_i v hv
    simp only[h1,h2]
    exact arX_spec hv (litX_spec e hK)
   ·cases e
  ·cases e
 ·rw[gd_some]at e
  exact⟨e.1.1,e.1.2,litX_spec e.2 hK⟩
 ·cases e
def allWb (s:Nat):List T→Bool
 | []=>true
 | x :: r=>Nat.beq x.width s && allWb s r
theorem allWb_spec {s:Nat}:∀ {xs:List T},allWb s xs=true→allW s xs
 | [],_=>trivial
 | x :: r,h=>by
  simp only[allWb,Bool.and_eq_true]at h
  exact⟨Nat.eq_of_beq_eq_true h.1,allWb_spec h.2⟩
def buildSliceX (P:Program) (t:TypeId) (n:Nat) (ps:Option (List T)) (d:Nat):Option Eff:=match elemB P t with
 | some e=>match elI P e with
  | some (s,_)=>match ps with
   | some ys=>gd (n=ys.length∧allWb s ys=true∧n * s≤16777216) (some ⟨.own d,[(d,some (.list e s ys))],[],[d]⟩)
   | none=>none
  | none=>none
 | none=>none
theorem buildSliceX_spec {P:Program} {t:TypeId} {n:Nat} {ps:Option (List T)} {d:Nat} {E:Eff} {K:Eff→Prop} (e:buildSliceX P t n ps d=some E) (hK:K E):buildSliceK P t n ps d K:=by
 unfold buildSliceX at e;unfold buildSliceK
 split at e
 ·split at e
  ·split at e
   ·rw[gd_some]at e
    obtain⟨⟨h1,h2,h3⟩,h4⟩:=e
    rename_i he _ s b hs _ ys
    simp only[he,hs]
    cases h4
    exact⟨h1,allWb_spec h2,h3,hK⟩
   ·cases e
  ·cases e
 ·cases e
def buildPtrX (P:Program) (t:TypeId) (n:Nat) (ys:List S) (d:Nat):Option Eff:=match elemB P t with
 | some e=>match elI P e with
  | some (1,_)=>gd (n=ys.length∧0 < n∧S.frees d ys=true∧n≤16777216) (some ⟨.wn d [] 0 n,[(d,some (.box e (.ag ys)))],[],[d]⟩)
  | _=>none
 | none=>none
theorem buildPtrX_spec {P:Program} {t:TypeId} {n:Nat} {ys:List S} {d:Nat} {E:Eff} {K:Eff→Prop} (e:buildPtrX P t n ys d=some E) (hK:K E):buildPtrK P t n ys d K:=by
 unfold buildPtrX at e;unfold buildPtrK
 split at e
 ·split at e
  ·rw[gd_some]at e
   obtain⟨⟨h1,h2,h3,h4⟩,h5⟩:=e
   rename_i he _ b hs
   simp only[he,hs]
   cases h5
   exact⟨h1,h2,h3,h4,hK⟩
  ·cases e
 ·cases e
def makeSliceX (P:Program) (t:TypeId) (x y:S) (d:Nat):Option Eff:=match elemB P t,x,y with
 | some e,.t (.lit (.int .i64 n)),.t (.lit (.int .i64 m))=>match elI P e,zeroOf P e with
  | some (s,b),some z=>if m=n then gd (z.width=s∧0≤n∧n.toNat * b≤16777216) (some ⟨.own d,[(d,some (.list e s (List.replicate n.toNat z)))],[],[d]⟩)
   else gd (z.width=s∧n=0∧0≤m∧m.toNat * b≤16777216) (some ⟨.own d,[(d,some (.list e s []))],[],[d]⟩)
  | _,_=>none
 | _,_,_=>none
theorem makeSliceX_spec {P:Program} {t:TypeId} {x y:S} {d:Nat} {E:Eff} {K:Eff→Prop} (e:makeSliceX P t x y d=some E) (hK:K E):makeSliceK P t x y d K:=by
 unfold makeSliceX at e;unfold makeSliceK
 split at e
 ·split at e
  ·rename_i he _ _ s b z hs hz
   simp only[he,hs,hz]
   split at e
   ·rename_i hmn
    rw[gd_some]at e
    obtain⟨⟨h1,h3⟩,h4⟩:=e
    refine⟨h1,?_⟩
    rw[if_pos hmn,if_pos h3]
    cases h4;exact hK
   ·rename_i hmn
    rw[gd_some]at e
    obtain⟨⟨h1,h3⟩,h4⟩:=e
    refine⟨h1,?_⟩
    rw[if_neg hmn,if_pos h3]
    cases h4;exact hK
  ·cases e
 ·cases e
def lenX (P:Program) (t:TypeId) (x:S) (h:Nat→Option Blk):Option Eff:=match x with
 | .t (.sl _ xs)=>gd ((elemB P t).isSome=true) (litX (.int .i64 xs.length))
 | .own l=>match h l with
  | some (.list _ _ xs)=>gd ((elemB P t).isSome=true) (some ⟨.t (.int xs.length),[],[l],[]⟩)
  | some (.rows _ _ us _)=>gd ((elemB P t).isSome=true) (some ⟨.t (.int us.length),[],[l],[]⟩)
  | _=>none
 | .t (.lit (.slice none 0 0))=>gd ((elemB P t).isSome=true) (litX (.int .i64 0))
 | .t (.lit (.string b))=>gd (strB P t=true) (litX (.int .i64 b.size))
 | .wn _ _ _ n=>gd ((elemB P t).isSome=true) (litX (.int .i64 n))
 | _=>none
theorem lenX_spec {P:Program} {t:TypeId} {x:S} {h:Nat→Option Blk} {E:Eff} {K:Eff→Prop} (e:lenX P t x h=some E) (hK:K E):lenK P t x h K:=by
 unfold lenX at e;unfold lenK
 split at e
 ·rw[gd_some]at e;exact⟨e.1,litX_spec e.2 hK⟩
 ·split at e<;>simp_all [gd_some]
 ·rw[gd_some]at e;exact⟨e.1,litX_spec e.2 hK⟩
 ·rw[gd_some]at e;exact⟨e.1,litX_spec e.2 hK⟩
 ·rw[gd_some]at e;exact⟨e.1,litX_spec e.2 hK⟩
 ·cases e
def minX (x y:S):Option Eff:=match x,y with
 | .t (.lit (.int k m)),.t (.lit (.int k' n))=>litX (.int k (min m n))
 | _,_=>none
theorem minX_spec {x y:S} {E:Eff} {K:Eff→Prop} (e:minX x y=some E) (hK:K E):minK x y K:=by
 unfold minX at e;unfold minK;split at e
 ·exact litX_spec e hK
 ·cases e
def maxX (x y:S):Option Eff:=match x,y with
 | .t (.lit (.int k m)),.t (.lit (.int k' n))=>litX (.int k (max m n))
 | _,_=>none
theorem maxX_spec {x y:S} {E:Eff} {K:Eff→Prop} (e:maxX x y=some E) (hK:K E):maxK x y K:=by
 unfold maxX at e;unfold maxK;split at e
 ·exact litX_spec e hK
 ·cases e
def appendX (P:Program) (t:TypeId) (x y:S) (d:Nat) (h:Nat→Option Blk):Option Eff:=match elemB P t with
 | some e=>match elI P e with
  | some (s,b)=>match srcOf h s y with
   | some (ys,fp)=>match x with
    | .own l=>match h l with
     | some (.list e' s' xs)=>gd (e'=e∧s'=s∧d≠l∧(xs.length+ys.length) * b≤140737488355328) (some ⟨.own d,[(d,some (.list e s (xs++ys))),(l,none)],l :: fp,[d]⟩)
     | _=>none
    | .t (.lit (.slice none 0 0))=>gd (ys.length * b≤140737488355328) (some ⟨.own d,[(d,some (.list e s ys))],fp,[d]⟩)
    | .cl s' xs=>gd (s'=s∧0 < ys.length∧(xs.length+ys.length) * b≤140737488355328) (some ⟨.own d,[(d,some (.list e s (xs++ys)))],fp,[d]⟩)
    | _=>none
   | none=>none
  | none=>none
 | none=>none
theorem appendX_spec {P:Program} {t:TypeId} {x y:S} {d:Nat} {h:Nat→Option Blk} {E:Eff} {K:Eff→Prop} (e:appendX P t x y d h=some E) (hK:K E):appendK P t x y d h K:=by
 unfold appendX at e
 unfold appendK
 split at e
 ·rename_i e0 he
  split at e
  ·rename_i s b hs
   split at e
   ·rename_i ys fp hsrc
    split at e
    ·rename_i l
     split at e
     ·rename_i e' s' xs hl
      rw[gd_some]at e
      obtain⟨⟨h1,h2,h3,h4⟩,h5⟩:=e
      unfold appendOK
      simp only[he,hs,hsrc,hl]
      refine⟨h1,h2,h3,?_⟩
      rw[if_pos h4]
      cases h5;exact hK
     ·cases e
    ·rw[gd_some]at e
     obtain⟨h4,h5⟩:=e
     unfold appendOK
     simp only[he,hs,hsrc]
     rw[if_pos h4]
     cases h5;exact hK
    ·rw[gd_some]at e
     obtain⟨⟨h1,h3,h4⟩,h5⟩:=e
     unfold appendOK
     simp only[he,hs,hsrc]
     refine⟨h1,h3,?_⟩
     rw[if_pos h4]
     cases h5;exact hK
    ·cases e
   ·cases e
  ·cases e
 ·cases e
def allOne:List T→Bool
 | []=>true
 | x :: r=>Nat.beq x.width 1 && allOne r
theorem allOne_spec:∀ {xs:List T},allOne xs=true→∀ z∈xs,z.width=1
 | [],_,z,hz=>by cases hz
 | x :: r,h,z,hz=>by
  simp only[allOne,Bool.and_eq_true]at h
  rcases List.mem_cons.1 hz with rfl|hz
  ·exact Nat.eq_of_beq_eq_true h.1
  ·exact allOne_spec h.2 z hz
def copyX (P:Program) (t:TypeId) (x y:S) (h:Nat→Option Blk):Option Eff:=match elemB P t with
 | some e=>gd (szB P e=some 1) (match srcOf h 1 y with
  | some (
      ys,fp)=>match x with
   | .wn l p off n=>match h l with
    | some (.box be c)=>match S.at c p with
     | some (o,.t (.agg zs))=>gd (o=off∧n=zs.length∧allOne zs=true) (match S.set c p (.t (.agg (ys.take (min ys.length zs.length)++zs.drop (min ys.length zs.length)))) with
      | some c'=>some ⟨.t (.int (min ys.length zs.length:Nat)),[(l,some (.box be c'))],l :: fp,[]⟩
      | none=>none)
     | _=>none
    | _=>none
   | _=>none
  | none=>none)
 | none=>none
theorem copyWX_spec {P:Program} {t:TypeId} {x y:S} {h:Nat→Option Blk} {E:Eff} {K:Eff→Prop} (e:copyX P t x y h=some E) (hK:K E):copyWK P t x y h K:=by
 unfold copyX at e;unfold copyWK
 split at e
 ·rename_i e0 he
  rw[gd_some]at e
  obtain⟨e1,e2⟩:=e
  simp only[he]
  refine⟨e1,?_⟩
  split at e2
  ·split at e2
   ·split at e2
    ·split at e2
     ·rw[gd_some]at e2
      obtain⟨⟨h1,h2,h3⟩,h4⟩:=e2
      split at h4
      ·rename_i hl _ _ _ hat _ c' hset
       simp only[*]
       refine⟨trivial,trivial,allOne_spec h3,?_⟩
       cases h4;exact hK
      ·cases h4
     ·cases e2
    ·cases e2
   ·cases e2
  ·cases e2
 ·cases e
theorem copyX_spec {P:Program} {t:TypeId} {x y:S} {h:Nat→Option Blk} {E:Eff} {K:Eff→Prop} (e:copyX P t x y h=some E) (hK:K E):copyK P t x y h K:=by
 unfold copyK
 split
 ·exfalso
  unfold copyX at e
  cases he:elemB P t<;>rw[he]at e
  ·cases e
  ·simp only[gd_some]at e
   obtain⟨_,e⟩:=e
   cases hs:srcOf h 1 y<;>rw[hs]at e<;>cases e
 ·unfold copyVK
  split
  ·exfalso
   unfold copyX at e
   cases he:elemB P t<;>rw[he]at e
   ·cases e
   ·simp only[gd_some]at e
    obtain⟨_,e⟩:=e
    cases e
  ·exact copyWX_spec e hK
 ·exact copyWX_spec e hK
def builtX (P:Program) (b:Builtin) (az:List S) (ts:List TypeId) (d:Nat) (h:Nat→Option Blk):Option Eff:=match b,az,ts with
 | .len,[x],[t]=>lenX P t x h
 | .append,[x,y],[t,t']=>gd (t'=t) (appendX P t x y d h)
 | .copy,[x,y],[t,_]=>copyX P t x y h
 | .min,[x,y],_=>minX x y
 | .max,[x,y],_=>maxX x y
 | _,_,_=>none
theorem builtX_spec {P:Program} {b:Builtin} {az:List S} {ts:List TypeId} {d:Nat} {h:Nat→Option Blk} {E:Eff} {K:Eff→Prop} (e:builtX P b az ts d h=some E) (hK:K E):builtK P b az ts d h K:=by
 unfold builtX at e;unfold builtK
 split at e
 ·exact lenX_spec e hK
 ·rw[gd_some]at e;exact⟨e.1,appendX_spec e.2 hK⟩
 ·exact copyX_spec e hK
 ·exact minX_spec e hK
 ·exact maxX_spec e hK
 ·cases e
def callX (P:Program) (cf:FuncId→List S→Option Eff) (c:Call) (d:Nat) (R:Operand→S) (h:Nat→Option Blk):Option Eff:=match c.callee with
 | .builtin b=>builtX P b (c.args.toList.map R) c.argTypes.toList d h
 | .value x=>match R x with
  | .fn f caps=>gd (entB P f=true) (cf f (c.args.toList.map R++caps))
  | .fb f caps=>gd (entB P f=true) (cf f (caps++c.args.toList.map R))
  | .t (.lit v)=>match litFn v with
   | some f=>gd (entB P f=true) (cf f (c.args.toList.map R))
   | none=>none
  | _=>none
 | _=>none
def CfOk (P:Program) (h:Nat→Option Blk) (cf:FuncId→List S→Option Eff):Prop:=∀ f az E,cf f az=some E→CallOk P f az h E∧∀ l∈E.nw,100≤l
theorem callX_spec {P:Program} {cf:FuncId→List S→Option Eff} {c:Call} {d:Nat} {R:Operand→S} {h:Nat→Option Blk} {E:Eff} {K:Eff→Prop} (hcf:CfOk P h cf) (e:callX P cf c d R h=some E) (hK:K E):callK P c d R h K:=by
 unfold callX at e;unfold callK
 split at e
 ·rename_i hc
  simp only[hc]
  exact builtX_spec e hK
 ·rename_i x hc
  simp only[hc]
  split at e
  ·rename_i hx
   rw[gd_some]at e
   obtain⟨h1,h2⟩:=hcf _ _ _ e.2
   simp only[hx]
   exact⟨e.1,E,h1,h2,hK⟩
  ·rename_i hx
   rw[gd_some]at e
   obtain⟨h1,h2⟩:=hcf _ _ _ e.2
   simp only[hx]
   exact⟨e.1,E,h1,h2,hK⟩
  ·rename_i hx
   split at e
   ·rename_i hl
    rw[gd_some]at e
    obtain⟨h1,h2⟩:=hcf _ _ _ e.2
    simp only[hx,hl]
    exact⟨e.1,E,h1,h2,hK⟩
   ·cases e
  ·cases e
 ·cases e
def makeFuncX (fn:Fn) (first:List S) (caps:List S):Option Eff:=match fn,first with
 | .func f,[]=>some ⟨.fn f caps,[],[],[]⟩
 | .func f,x :: r=>match caps with
  | []=>some ⟨.fb f (x :: r),[],[],[]⟩
  | _=>none
 | _,_=>none
theorem makeFuncX_spec {fn:Fn} {first caps:List S} {E:Eff} {K:Eff→Prop} (e:makeFuncX fn first caps=some E) (hK:K E):makeFuncK fn first caps K:=by
 unfold makeFuncX at e;unfold makeFuncK;(repeat' split at e)<;>simp_all
def frzX:List Nat→(Operand→S)→(Nat→Option Blk)→((Operand→S)→(Nat→Option Blk)→Option Eff)→Option Eff
 | [],R,h,A=>A R h
 | l :: r,R,h,A=>match h l with
  | some (.list e s xs)=>match frzX r (fun y=>frzS l (.sl s xs) (R y)) (hput h l none) A with
   | some E=>some ⟨E.r,E.u++[(l,none)],l :: E.fp,E.nw⟩
   | none=>none
  | _=>frzX r R h A
theorem frzX_spec {A:(Operand→S)→(Nat→Option Blk)→Option Eff} {B:(Operand→S)→(Nat→Option Blk)→(Eff→Prop)→Prop} (hA:∀ R h E (K:Eff→Prop),A R h=some E→K E→B R h K) :
  ∀ (ls:List Nat) (R:Operand→S) (h:Nat→Option Blk) (E:Eff) (K:Eff→Prop),frzX ls R h A=some E→K E→frzK ls R h B K
 | [],R,h,E,K,e,hK=>hA R h E K e hK
 | l :: r,R,h,E,K,e,hK=>by
  simp only[frzX]at e
  simp only[frzK]
  split at e
  ·split at e
   ·rename_i E' he
    cases e
    simp only[*]
    exact frzX_spec hA r _ _ E' _ he hK
   ·cases e
  ·rename_i hn
   split
   ·rename_i h2;exact (hn _ _ _ h2).elim
   ·exact frzX_spec hA r R h E K e hK
def indexX (P:Program) (t:TypeId) (x i:S):Option Eff:=match x,i with
 | .t (.lit (.string b)),.t (.lit (.int _ n))=>gd (strB P t=true∧0≤n) (match b.data.toList[n.toNat]? with|some u=>some ⟨.t (.lit (.int .u8 u.toNat)),[],[],[]⟩|none=>none)
 | .t (.agg xs),.t (.lit (.int _ m))=>match arrB P t with
  | some (n,e)=>match szB P e with
   | some s=>gd (0≤m∧m < (n:Int)) (match xs[m.toNat]? with|some y=>gd (T.widths (xs.take m.toNat)=m.toNat * s∧okLd P e (.t y)) (some ⟨.t y,[],[],[]⟩)|none=>none)
   | none=>none
  | none=>none
 | _,_=>none
theorem indexX_spec {P:Program} {t:TypeId} {x i:S} {E:Eff} {K:Eff→Prop} (e:indexX P t x i=some E) (hK:K E):indexK P t x i K:=by
 unfold indexX at e;unfold indexK
 split at e
 ·rw[gd_some]at e
  obtain⟨⟨h1,h2⟩,h3⟩:=e
  simp only
  refine⟨h1,?_⟩
  rw[if_pos h2]
  split at h3
  ·rename_i hu
   simp only[hu]
   cases h3;exact hK
  ·cases h3
 ·split at e
  ·rename_i ha
   split at e
   ·rename_i hs
    rw[gd_some]at e
    obtain⟨h1,h2⟩:=e
    simp only[ha,hs]
    rw[if_pos h1]
    split at h2
    ·rename_i hy
     rw[gd_some]at h2
     obtain⟨⟨h3,h4⟩,h5⟩:=h2
     simp only[hy]
     cases h5
     exact⟨h3,h4,hK⟩
    ·cases h2
   ·cases e
  ·cases e
 ·cases e
def opX (P:Program) (cf:FuncId→List S→Option Eff) (o:Op) (d:Nat) (R:Operand→S) (h:Nat→Option Blk):Option Eff:=match o with
 | .move x=>some ⟨R x,[],[],[]⟩
 | .assign x=>some ⟨R x,[],[],[]⟩
 | .pick c x y=>pickX (R c) (R x) (R y)
 | .alloc e=>allocX P e d
 | .box e x=>boxX e (R x) d
 | .load t x=>loadX P t (R x) h
 | .store t x v=>storeX P t (R x) (R v) h
 | .fieldAddr t x f=>fieldAddrX P t (R x) f
 | .indexAddr t x i=>indexAddrX P t (R x) (R i) h
 | .field t x f=>fieldX P t (R x) f
 | .extract x i=>extractX (R x) i
 | .binOp op t x y _=>binYX P op t x y R
 | .unOp op _ x=>unX op (R x)
 | .convert s t x=>convX P s t (R x) h
 | .buildSlice t n parts=>match ptrsOf R parts.toList with
  | some ys=>buildPtrX P t n ys d
  | none=>frzX (ownsL R parts.toList) R h (fun R' _=>buildSliceX P t n (partsT R' 0 parts.toList) d)
 | .makeSlice t x y=>makeSliceX P t (R x) (R y) d
 | .call c=>callX P cf c d R h
 | .makeFunc fn first caps=>makeFuncX fn (first.toList.map R) (caps.toList.map R)
 | .nilCheck x=>nilX (R x)
 | .slice t x lo hi mx=>match lo,hi,mx with
  | some y,some z,some u=>frzX (ownsS (R x)) R h (fun R' _=>slice3X P t (R' x) (bnd3 R' y) (bnd3 R' z) (bnd3 R' u))
  | none,some z,some u=>clipX P t (R x) (bnd3 R z) (bnd3 R u)
  | lo,hi,mx=>sliceX P t (R x) (bndJ R lo) (bndJ R hi) mx h
 | .build t parts=>buildX P t R parts.toList
 | .index t x i=>indexX P t (R x) (R i)
 | _=>none
theorem opX_spec {P:Program} {cf:FuncId→List S→Option Eff} {o:Op} {d:Nat} {R:Operand→S} {h:Nat→Option Blk} {E:Eff} {K:Eff→Prop} (hcf:CfOk P h cf) (e:opX P cf o d R h=some E) (hK:K E):opK P o d R h K:=by
 cases o<;>simp only[opX]at e<;>simp only[opK]
 case move x=>cases e;exact hK
 case assign x=>cases e;exact hK
 case pick=>exact pickX_spec e hK
 case alloc=>exact allocX_spec e hK
 case box=>exact boxX_spec e hK
 case load=>exact loadX_spec e hK
 case store=>exact storeX_spec e hK
 case fieldAddr=>exact fieldAddrX_spec e hK
 case indexAddr=>exact indexAddrX_spec e hK
 case field=>exact fieldX_spec e hK
 case extract=>exact extractX_spec e hK
 case binOp=>exact binYX_spec e hK
 case unOp=>exact unX_spec e hK
 case convert=>exact convX_spec e hK
 case buildSlice=>
  split at e
  ·rename_i ys hys
   simp only[hys]
   exact buildPtrX_spec e hK
  ·rename_i hys
   simp only[hys]
   exact frzX_spec (A:=fun R' _=>buildSliceX P _ _ (partsT R' 0 _) d) (fun R h E K e hK=>buildSliceX_spec e hK) _ _ _ _ _ e hK
 case makeSlice=>exact makeSliceX_spec e hK
 case call=>exact callX_spec hcf e hK
 case makeFunc=>exact makeFuncX_spec e hK
 case nilCheck=>exact nilX_spec e hK
 case slice t x lo hi mx=>
  split at e
  ·exact frzX_spec (A:=fun R' _=>slice3X P t (R' x) (bnd3 R' _) (bnd3 R' _) (bnd3 R' _)) (fun R h E K e hK=>slice3X_spec e hK) _ _ _ _ _ e hK
  ·exact clipX_spec e hK
  ·rename_i h1 h2
   split
   ·exact (h1 _ _ _ rfl rfl rfl).elim
   ·exact (h2 _ _ rfl rfl rfl).elim
   ·exact sliceX_spec e hK
 case build=>exact buildX_spec e hK
 case index=>exact indexX_spec e hK
 all_goals cases e
def updQ (u:List (Nat×Option Blk)) (h:List (Nat×Blk)):List (Nat×Blk):=match u with
 | []=>h
 | q :: r=>updB (q :: r) h
theorem updQ_eq (u:List (Nat×Option Blk)) (h:List (Nat×Blk)):updQ u h=updB u h:=by cases u<;>rfl
noncomputable def lkQ (g:List (Nat×S)) (k:Nat):S:=List.rec (motive:=fun _=>S) .dead (fun q _ ih=>Bool.rec (motive:=fun _=>S) ih q.2 (Nat.beq k q.1)) g
theorem lkQ_eq (g:List (Nat×S)):lkQ g=lkS g:=by
 funext k
 induction g with
 | nil=>rfl
 | cons q r ih=>
  obtain⟨t,s⟩:=q
  show Bool.rec (motive:=fun _=>S) (lkQ r k) s (Nat.beq k t)=_
  simp only[lkS]
  cases hb:Nat.beq k t
  ·rw[if_neg (by rintro rfl;rw[Nat.beq_refl]at hb;cases hb)]
   exact ih
  ·rw[if_pos (Nat.eq_of_beq_eq_true hb)]
noncomputable def opsX (P:Program) (cf:St→FuncId→List S→Option Eff) (all:List Oper):List Oper→St→List (Option Eff)→Option (St×List (Option Eff))
 | [],σ,acc=>some (σ,acc)
 | o :: r,σ,acc=>match o.guard with
  | none=>match opX P (cf σ) o.op (lab o) (rdS (lkQ σ.g)) (lkB σ.h) with
   | some E=>if nwOk σ E.nw=true then opsX P cf all r ⟨putS o.dst E.r σ.g,updQ E.u σ.h⟩ (some E :: acc) else none
   | none=>none
  | some (
      j,b)=>match gslot all j with
   | some t=>match lkQ σ.g t with
    | .t (
       .lit (.bool c))=>if c=b then match opX P (cf ⟨(t,.t (.bool b)) :: σ.g,σ.h⟩) o.op (lab o) (rdS (lkQ ((t,.t (.bool b)) :: σ.g))) (lkB σ.h) with
       | some E=>if nwOk ⟨(t,.t (.bool b)) :: σ.g,σ.h⟩ E.nw=true then opsX P cf all r ⟨putS o.dst E.r ((t,.t (.bool b)) :: σ.g),updQ E.u σ.h⟩ (some E :: acc) else none
       | none=>none
      else opsX P cf all r ⟨putS o.dst (.tup []) ((t,.t (.bool (!b))) :: σ.g),σ.h⟩ (none :: acc)
    | .tup []=>opsX P cf all r ⟨putS o.dst (.tup []) σ.g,σ.h⟩ (none :: acc)
    | _=>none
   | none=>none
theorem opsX_spec {P:Program} {cf:St→FuncId→List S→Option Eff} {all:List Oper} {K:St→List (Option Eff)→Prop} (hcf:∀ σ,CfOk P (lkB σ.h) (cf σ)):∀ (r:List Oper) (σ:St) (acc:List (Option Eff)) (σ':St) (acc':List (Option Eff)),
  opsX P cf all r σ acc=some (σ',acc')→K σ' acc'→opsK P all K r σ acc
 | [],σ,acc,σ',acc',e,hK=>by
  simp only[opsX,Option.some.injEq,Prod.mk.injEq]at e
  obtain⟨rfl,rfl⟩:=e
  exact hK
 | o :: r,σ,acc,σ',acc',e,hK=>by
  unfold opsX at e
  simp only[lkQ_eq,updQ_eq]at e
  unfold opsK
  split at e
  ·rename_i hg
   simp only[hg]
   split at e
   ·rename_i E hE
    split at e
    ·rename_i hn
     exact opX_spec (hcf σ) hE ⟨hn,opsX_spec hcf r _ _ _ _ e hK⟩
    ·cases e
   ·cases e
  ·rename_i j b hg
   simp only[hg]
   split at e
   ·rename_i t ht
    simp only[ht]
    split at e
    ·rename_i c hc
     simp only[hc]
     split at e
     ·rename_i hcb
      rw[if_pos hcb]
      split at e
      ·rename_i E hE
       split at e
       ·rename_i hn
        exact opX_spec (hcf ⟨(t,.t (.bool b)) :: σ.g,σ.h⟩) hE ⟨hn,opsX_spec hcf r _ _ _ _ e hK⟩
       ·cases e
      ·cases e
     ·rename_i hcb
      rw[if_neg hcb]
      exact opsX_spec hcf r _ _ _ _ e hK
    ·rename_i hc
     simp only[hc]
     exact opsX_spec hcf r _ _ _ _ e hK
    ·cases e
   ·cases e
end Go.Proofs.YtdjmklobfjigoaaGreatDoor.Sy
namespace Go.Proofs.YtdjmklobfjigoaaGreatDoor.Sy
open Go.RowKit
set_option maxHeartbeats 1000000
def mlk:List (Nat×Nat)→Nat→Option Nat
 | [],_=>none
 | (l,l') :: r,k=>bif Nat.beq k l then some l' else mlk r k
theorem mlk_mem:∀ {m:List (Nat×Nat)} {l l':Nat},mlk m l=some l'→(l,l')∈m
 | [],l,l',h=>by cases h
 | (k,k') :: r,l,l',h=>by
  simp only[mlk]at h
  cases hb:Nat.beq l k<;>rw[hb]at h
  ·exact List.mem_cons_of_mem _ (mlk_mem h)
  ·have:=Nat.eq_of_beq_eq_true hb
   subst this
   simp at h;subst h;simp
mutual
def S.rel (m:List (Nat×Nat)):S→Option S
 | .dead=>some .dead
 | .t x=>some (.t x)
 | .rp x=>some (.rp x)
 | .own l=>match mlk m l with
  | some k=>some (.own k)
  | none=>none
 | .pt l p o=>match mlk m l with
  | some k=>some (.pt k p o)
  | none=>none
 | .wn l p o n=>match mlk m l with
  | some k=>some (.wn k p o n)
  | none=>none
 | .cl _ _=>none
 | .ag fs=>match S.rels m fs with
  | some gs=>some (.ag gs)
  | none=>none
 | .tup fs=>match S.rels m fs with
  | some gs=>some (.tup gs)
  | none=>none
 | .fn f fs=>match S.rels m fs with
  | some gs=>some (.fn f gs)
  | none=>none
 | .fb f fs=>match S.rels m fs with
  | some gs=>some (.fb f gs)
  | none=>none
def S.rels (m:List (Nat×Nat)):List S→Option (List S)
 | []=>some []
 | x :: r=>match x.rel m with
  | some y=>match S.rels m r with
   | some q=>some (y :: q)
   | none=>none
  | none=>none
end
section
variable {m:List (Nat×Nat)}
mutual
theorem rel_width:∀ (s s':S),s.rel m=some s'→s'.width=s.width
 | .dead,s',h=>by simp only[S.rel]at h;cases h;rfl
 | .t x,s',h=>by simp only[S.rel]at h;cases h;rfl
 | .rp x,s',h=>by simp only[S.rel]at h;cases h;rfl
 | .own l,s',h=>by simp only[S.rel]at h;split at h<;>cases h;rfl
 | .pt l p o,s',h=>by simp only[S.rel]at h;split at h<;>cases h;rfl
 | .wn l p o n,s',h=>by simp only[S.rel]at h;split at h<;>cases h;rfl
 | .cl _ _,s',h=>by simp only[S.rel]at h;cases h
 | .ag fs,s',h=>by
  simp only[S.rel]at h
  split at h
  ·rename_i gs hg
   cases h
   simp only[S.width]
   exact rels_widths fs gs hg
  ·cases h
 | .tup fs,s',h=>by simp only[S.rel]at h;split at h<;>cases h;rfl
 | .fn f fs,s',h=>by simp only[S.rel]at h;split at h<;>cases h;rfl
 | .fb f fs,s',h=>by simp only[S.rel]at h;split at h<;>cases h;rfl
theorem rels_widths:∀ (fs gs:List S),S.rels m fs=some gs→S.widths gs=S.widths fs
 | [],gs,h=>by simp only[S.rels]at h;cases h;rfl
 | x :: r,gs,h=>by
  simp only[S.rels]at h
  split at h
  ·rename_i y hy
   split at h
   ·rename_i q hq
    cases h
    simp only[S.widths]
    rw[rel_width x y hy,rels_widths r q hq]
   ·cases h
  ·cases h
end
section
variable {ρ:List (Nat×Option Nat)} {h:Nat→Option Blk}
mutual
theorem rel_wk (hm:∀ l l',mlk m l=some l'→lkR ρ l'=some (some l)):∀ (s s':S),s.rel m=some s'→wkS ρ h s s'
 | .dead,s',e=>by simp only[S.rel]at e;cases e;unfold wkS;trivial
 | .t x,s',e=>by simp only[S.rel]at e;cases e;unfold wkS;exact wkT_refl x
 | .rp x,s',e=>by simp only[S.rel]at e;cases e;unfold wkS;rfl
 | .own l,s',e=>by
  simp only[S.rel]at e
  split at e
  ·rename_i k hk
   cases e;unfold wkS;exact hm _ _ hk
  ·cases e
 | .pt l p o,s',e=>by
  simp only[S.rel]at e
  split at e
  ·rename_i k hk
   cases e;unfold wkS;exact⟨hm _ _ hk,rfl,rfl⟩
  ·cases e
 | .wn l p o n,s',e=>by
  simp only[S.rel]at e
  split at e
  ·rename_i k hk
   cases e;unfold wkS;exact⟨hm _ _ hk,rfl,rfl,rfl⟩
  ·cases e
 | .cl _ _,s',e=>by simp only[S.rel]at e;cases e
 | .ag fs,s',e=>by
  simp only[S.rel]at e
  split at e
  ·rename_i gs hg
   cases e;unfold wkS;exact rels_wkSs hm fs gs hg
  ·cases e
 | .tup fs,s',e=>by
  simp only[S.rel]at e
  split at e
  ·rename_i gs hg
   cases e;unfold wkS;exact rels_wkPs hm fs gs hg
  ·cases e
 | .fn f fs,s',e=>by
  simp only[S.rel]at e
  split at e
  ·rename_i gs hg
   cases e;unfold wkS;exact⟨rfl,rels_wkPs hm fs gs hg⟩
  ·cases e
 | .fb f fs,s',e=>by
  simp only[S.rel]at e
  split at e
  ·rename_i gs hg
   cases e;unfold wkS;exact⟨rfl,rels_wkPs hm fs gs hg⟩
  ·cases e
theorem rels_wkSs (hm:∀ l l',mlk m l=some l'→lkR ρ l'=some (some l)):∀ (fs gs:List S),S.rels m fs=some gs→wkSs ρ h fs gs
 | [],gs,e=>by simp only[S.rels]at e;cases e;unfold wkSs;trivial
 | x :: r,gs,e=>by
  simp only[S.rels]at e
  split at e
  ·rename_i y hy
   split at e
   ·rename_i q hq
    cases e
    unfold wkSs
    exact⟨rel_width x y hy,rel_wk hm x y hy,rels_wkSs hm r q hq⟩
   ·cases e
  ·cases e
theorem rels_wkPs (hm:∀ l l',mlk m l=some l'→lkR ρ l'=some (some l)):∀ (fs gs:List S),S.rels m fs=some gs→wkPs ρ h fs gs
 | [],gs,e=>by simp only[S.rels]at e;cases e;unfold wkPs;trivial
 | x :: r,gs,e=>by
  simp only[S.rels]at e
  split at e
  ·rename_i y hy
   split at e
   ·rename_i q hq
    cases e
    unfold wkPs
    exact⟨rel_wk hm x y hy,rels_wkPs hm r q hq⟩
   ·cases e
  ·cases e
end
end
section
variable {ρ:List (Nat×Nat)}
mutual
theorem rel_ren (hm:∀ l l',mlk m l=some l'→rn ρ l'=l):∀ (s s':S),s.rel m=some s'→s=s'.ren ρ
 | .dead,s',e=>by simp only[S.rel]at e;cases e;unfold S.ren;rfl
 | .t x,s',e=>by simp only[S.rel]at e;cases e;unfold S.ren;rfl
 | .rp x,s',e=>by simp only[S.rel]at e;cases e;unfold S.ren;rfl
 | .own l,s',e=>by
  simp only[S.rel]at e
  split at e
  ·rename_i k hk
   cases e;unfold S.ren;rw[hm _ _ hk]
  ·cases e
 | .pt l p o,s',e=>by
  simp only[S.rel]at e
  split at e
  ·rename_i k hk
   cases e;unfold S.ren;rw[hm _ _ hk]
  ·cases e
 | .wn l p o n,s',e=>by
  simp only[S.rel]at e
  split at e
  ·rename_i k hk
   cases e;unfold S.ren;rw[hm _ _ hk]
  ·cases e
 | .cl _ _,s',e=>by simp only[S.rel]at e;cases e
 | .ag fs,s',e=>by
  simp only[S.rel]at e
  split at e
  ·rename_i gs hg
   cases e;unfold S.ren;rw[rels_ren hm fs gs hg]
  ·cases e
 | .tup fs,s',e=>by
  simp only[S.rel]at e
  split at e
  ·rename_i gs hg
   cases e;unfold S.ren;rw[rels_ren hm fs gs hg]
  ·cases e
 | .fn f fs,s',e=>by
  simp only[S.rel]at e
  split at e
  ·rename_i gs hg
   cases e;unfold S.ren;rw[rels_ren hm fs gs hg]
  ·cases e
 | .fb f fs,s',e=>by
  simp only[S.rel]at e
  split at e
  ·rename_i gs hg
   cases e;unfold S.ren;rw[rels_ren hm fs gs hg]
  ·cases e
theorem rels_ren (hm:∀ l l',mlk m l=some l'→rn ρ l'=l):∀ (fs gs:List S),S.rels m fs=some gs→fs=S.rens ρ gs
 | [],gs,e=>by simp only[S.rels]at e;cases e;unfold S.rens;rfl
 | x :: r,gs,e=>by
  simp only[S.rels]at e
  split at e
  ·rename_i y hy
   split at e
   ·rename_i q hq
    cases e
    unfold S.rens
    rw[←rel_ren hm x y hy,←rels_ren hm r q hq]
   ·cases e
  ·cases e
end
end
end
def Blk.rel (m:List (Nat×Nat)):Blk→Option Blk
 | .list e s xs=>some (.list e s xs)
 | .box e c=>match c.rel m with
  | some c'=>bif c'.solid then some (.box e c') else none
  | none=>none
 | .rows e s us []=>some (.rows e s us [])
 | .rows _ _ _ (_ :: _)=>none
theorem blkRel_wk {m:List (Nat×Nat)} {ρ:List (Nat×Option Nat)} {h:Nat→Option Blk} (hm:∀ l l',mlk m l=some l'→lkR ρ l'=some (some l)) {b b':Blk} (e:b.rel m=some b'):wkB ρ h b b':=by
 cases b with
 | list e0 s xs=>simp only[Blk.rel]at e;cases e;exact⟨rfl,rfl,rfl⟩
 | box e0 c=>
  simp only[Blk.rel]at e
  split at e
  ·rename_i c' hc
   cases hs:c'.solid<;>rw[hs]at e<;>simp at e
   subst e
   exact⟨rfl,rel_width _ _ hc,hs,rel_wk hm _ _ hc⟩
  ·cases e
 | rows e0 s us ex=>
  cases ex with
  | nil=>simp only[Blk.rel]at e;cases e;exact⟨rfl,rfl,rfl,trivial⟩
  | cons q r=>simp only[Blk.rel]at e;cases e
theorem blkRel_ren {m ρ:List (Nat×Nat)} (hm:∀ l l',mlk m l=some l'→rn ρ l'=l) {b b':Blk} (e:b.rel m=some b'):b=b'.ren ρ:=by
 cases b with
 | list e0 s xs=>simp only[Blk.rel]at e;cases e;rfl
 | box e0 c=>
  simp only[Blk.rel]at e
  split at e
  ·rename_i c' hc
   cases hs:c'.solid<;>rw[hs]at e<;>simp at e
   subst e
   simp only[Blk.ren]
   rw[←rel_ren hm _ _ hc]
  ·cases e
 | rows e0 s us ex=>
  cases ex with
  | nil=>simp only[Blk.rel]at e;cases e;rfl
  | cons q r=>simp only[Blk.rel]at e;cases e
def relH (m:List (Nat×Nat)) (h:List (Nat×Blk)):List (Nat×Nat)→Option (List (Nat×Blk))
 | []=>some []
 | (l,l') :: r=>match lkB h l with
  | some b=>match b.rel m with
   | some b'=>match relH m h r with
    | some q=>some ((l',b') :: q)
    | none=>none
   | none=>none
  | none=>none
theorem relH_wk {m:List (Nat×Nat)} {ρ:List (Nat×Option Nat)} {h:List (Nat×Blk)} (hm:∀ l l',mlk m l=some l'→lkR ρ l'=some (some l)):∀ {r:List (Nat×Nat)} {q:List (Nat×Blk)},(∀ p∈r,lkR ρ p.2=some (some p.1))→relH m h r=some q→wkH ρ (lkB h) q
 | [],q,_,e=>by simp only[relH]at e;cases e;unfold wkH;trivial
 | (l,l') :: r,q,hr,e=>by
  simp only[relH]at e
  split at e
  ·rename_i b hb
   split at e
   ·rename_i b' hb'
    split at e
    ·rename_i q' hq
     cases e
     unfold wkH
     have h1:=hr (l,l') (by simp)
     simp only at h1
     refine⟨?_,relH_wk hm (fun p hp=>hr p (List.mem_cons_of_mem _ hp)) hq⟩
     simp only[h1,hb]
     exact blkRel_wk hm hb'
    ·cases e
   ·cases e
  ·cases e
theorem relH_ren {m ρ:List (Nat×Nat)} {h:List (Nat×Blk)} (hm:∀ l l',mlk m l=some l'→rn ρ l'=l):∀ {r:List (Nat×Nat)} {q:List (Nat×Blk)},(∀ p∈r,rn ρ p.2=p.1)→relH m h r=some q→preR ρ (lkB h) q
 | [],q,_,e=>by simp only[relH]at e;cases e;unfold preR;trivial
 | (l,l') :: r,q,hr,e=>by
  simp only[relH]at e
  split at e
  ·rename_i b hb
   split at e
   ·rename_i b' hb'
    split at e
    ·rename_i q' hq
     cases e
     unfold preR
     have h1:=hr (l,l') (by simp)
     simp only at h1
     refine⟨?_,relH_ren hm (fun p hp=>hr p (List.mem_cons_of_mem _ hp)) hq⟩
     rw[h1,hb,←blkRel_ren hm hb']
    ·cases e
   ·cases e
  ·cases e
def relG (m:List (Nat×Nat)):List (Nat×S)→Nat→List (Nat×S)
 | [],_=>[]
 | (t,s) :: r,seen=>bif bitB seen t then relG m r seen else match s.rel m with
  | some s'=>(t,s') :: relG m r (Nat.lor seen (Nat.shiftLeft 1 t))
  | none=>relG m r (Nat.lor seen (Nat.shiftLeft 1 t))
theorem bitB_set (seen t k:Nat):bitB (Nat.lor seen (Nat.shiftLeft 1 t)) k=(bitB seen k || decide (t=k)):=by
 rw[bitB_eq,bitB_eq]
 show (seen ||| 1 <<< t).testBit k=_
 rw[Nat.testBit_or,Nat.one_shiftLeft,Nat.testBit_two_pow]
theorem relG_wk {m:List (Nat×Nat)} {ρ:List (Nat×Option Nat)} {h:Nat→Option Blk} {g:List (Nat×S)} (hm:∀ l l',mlk m l=some l'→lkR ρ l'=some (some l)):∀ (r:List (Nat×S)) (seen:Nat),(∀ t,bitB seen t=false→lkS g t=lkS r t)→wkG ρ h (lkS g) (relG m r seen)
 | [],seen,_=>by unfold relG wkG;trivial
 | (t,s) :: r,seen,hr=>by
  unfold relG
  cases hb:bitB seen t<;>simp only[cond_true,cond_false]
  ·have h1:lkS g t=s:=by rw[hr t hb];simp[lkS]
   have h2:∀ k,bitB (Nat.lor seen (Nat.shiftLeft 1 t)) k=false→lkS g k=lkS r k:=by
    intro k hk
    rw[bitB_set]at hk
    simp only[Bool.or_eq_false_iff,decide_eq_false_iff_not]at hk
    rw[hr k hk.1]
    simp only[lkS]
    rw[if_neg (fun e=>hk.2 e.symm)]
   split
   ·rename_i s' hs
    unfold wkG
    refine⟨?_,relG_wk hm r _ h2⟩
    rw[h1]
    exact rel_wk hm _ _ hs
   ·exact relG_wk hm r _ h2
  ·refine relG_wk hm r seen fun k hk=>?_
   rw[hr k hk]
   simp only[lkS]
   rw[if_neg]
   rintro rfl
   rw[hb]at hk;cases hk
def nameM:List (Nat×Blk)→Nat→List (Nat×Nat)
 | [],_=>[]
 | (l,_) :: r,k=>bif Nat.blt l 100 then (l,l) :: nameM r k else (l,500+k) :: nameM r (k+1)
def fltM (h:List (Nat×Blk)) (m:List (Nat×Nat)):List (Nat×Nat):=m.filter fun q=>match lkB h q.1 with
 | some b=>(b.rel m).isSome
 | none=>false
def rhoM (m:List (Nat×Nat)):List (Nat×Option Nat):=m.map fun q=>(q.2,some q.1)
def chkM (m:List (Nat×Nat)) (ρ:List (Nat×Option Nat)):Bool:=m.all fun q=>match lkR ρ q.2 with
 | some (some l)=>Nat.beq l q.1
 | _=>false
theorem chkM_spec {m:List (Nat×Nat)} {ρ:List (Nat×Option Nat)} (h:chkM m ρ=true):∀ p∈m,lkR ρ p.2=some (some p.1):=by
 intro p hp
 have:=List.all_eq_true.1 h p hp
 split at this
 ·rename_i l hl
  rw[hl,Nat.eq_of_beq_eq_true this]
 ·cases this
def relab1 (σ:St):Option St:=
 let m:=fltM σ.h (fltM σ.h (nameM σ.h 0))
 let ρ:=rhoM m
 bif rhoOk ρ && chkM m ρ then match relH m σ.h m with
  | some h'=>some ⟨relG m σ.g 0,h'⟩
  | none=>none
 else none
theorem relab1_spec {σ σ':St} (h:relab1 σ=some σ'):∃ ρ,Wk ρ σ σ':=by
 unfold relab1 at h
 simp only at h
 generalize fltM σ.h (fltM σ.h (nameM σ.h 0))=m at h
 cases hc:(rhoOk (rhoM m) && chkM m (rhoM m))<;>rw[hc]at h<;>simp only[cond_true,cond_false]at h
 ·cases h
 rw[Bool.and_eq_true]at hc
 split at h
 ·rename_i h' hh
  cases h
  have h1:=chkM_spec hc.2
  have hm:∀ l l',mlk m l=some l'→lkR (rhoM m) l'=some (some l):=fun l l' e=>h1 (l,l') (mlk_mem e)
  exact⟨rhoM m,hc.1,relG_wk hm σ.g 0 (fun t _=>rfl),relH_wk hm h1 hh⟩
 ·cases h
mutual
def S.hot:S→Bool
 | .own l=>Nat.ble 100 l && Nat.blt l 500
 | .pt l _ _=>Nat.ble 100 l && Nat.blt l 500
 | .wn l _ _ _=>Nat.ble 100 l && Nat.blt l 500
 | .ag fs=>S.hots fs
 | .tup fs=>S.hots fs
 | .fn _ fs=>S.hots fs
 | .fb _ fs=>S.hots fs
 | _=>false
def S.hots:List S→Bool
 | []=>false
 | x :: r=>x.hot || S.hots r
end
def hotG:List (Nat×S)→Nat→Bool
 | [],k=>Nat.blt 90 k
 | (_,s) :: r,k=>s.hot || hotG r (k+1)
def hotH:List (Nat×Blk)→Bool
 | []=>false
 | (l,_) :: r=>(Nat.ble 100 l && Nat.blt l 500) || hotH r
def relab (σ:St):Option St:=bif hotH σ.h || hotG σ.g 0 then relab1 σ else some σ
def Imp (σ σ':St):Prop:=∀ (N:Nat) (W:World) (G0:Gh) (A:Nat→Prop) (a:Act) (w:World),Sat N W G0 A σ a w→Sat N W G0 A σ' a w
theorem relab_spec {σ σ':St} (h:relab σ=some σ'):Imp σ σ':=by
 unfold relab at h
 cases hc:(hotH σ.h || hotG σ.g 0)<;>rw[hc]at h<;>simp only[cond_true,cond_false]at h
 ·cases h
  exact fun _ _ _ _ _ _ h=>h
 ·obtain⟨ρ,hρ⟩:=relab1_spec h
  exact fun _ _ _ _ _ _ h=>h.weak hρ
def dstFree (ops:List Oper) (i j:Nat):Bool:=match (ops.getD i default).dst with
 | some t=>!((ops.getD j default).looksAt ops.toArray).contains t
 | none=>true
def mskOfQ (len:Nat) (rev:List Nat) (o:Oper):Nat:=(o.after.toList.filter fun e=>Region.binds .any e).foldr (fun e m=>Nat.lor (Nat.shiftLeft 1 e.on) (Nat.lor (bif Nat.blt e.on len then rev.getD (Nat.sub (Nat.sub len 1) e.on) 0 else 0) m)) 0
def mskFromQ:List Oper→Nat→List Nat→List Nat
 | [],_,rev=>rev.reverse
 | o :: r,len,rev=>mskFromQ r (len+1) (mskOfQ len rev o :: rev)
def msksQ (ops:List Oper):List Nat:=mskFromQ ops 0 []
theorem mskOfQ_eq (acc:List Nat) (o:Oper):mskOfQ acc.length acc.reverse o=mskOf acc o:=by
 unfold mskOfQ mskOf
 congr 1
 funext e m
 have h:(bif Nat.blt e.on acc.length then acc.reverse.getD (Nat.sub (Nat.sub acc.length 1) e.on) 0 else 0)=acc.getD e.on 0:=by
  by_cases hl:e.on < acc.length
  ·have hb:Nat.blt e.on acc.length=true:=by simp[Nat.blt];omega
   rw[hb]
   show acc.reverse.getD (acc.length - 1 - e.on) 0=_
   simp only[cond_true,List.getD_eq_getElem?_getD]
   rw[List.getElem?_reverse (by omega)]
   congr 2
   omega
  ·have hb:Nat.blt e.on acc.length=false:=by
    cases h:Nat.blt e.on acc.length
    ·rfl
    ·exact (hl (by simp[Nat.blt]at h;omega)).elim
   rw[hb]
   simp only[cond_false,List.getD_eq_getElem?_getD]
   rw[List.getElem?_eq_none (by omega)]
   rfl
 rw[h]
theorem mskFromQ_eq:∀ (r:List Oper) (acc:List Nat),mskFromQ r acc.length acc.reverse=mskFrom r acc
 | [],acc=>by simp[mskFromQ,mskFrom]
 | o :: r,acc=>by
  simp only[mskFromQ,mskFrom]
  rw[mskOfQ_eq,←mskFromQ_eq r (acc++[mskOf acc o])]
  simp
theorem msksQ_eq (ops:List Oper):msksQ ops=msks ops:=mskFromQ_eq ops []
def lookM:List Tmp→Nat
 | []=>0
 | t :: r=>Nat.lor (lookM r) (Nat.shiftLeft 1 t)
theorem lookM_bit (k:Nat):∀ l:List Tmp,bitB (lookM l) k=l.contains k
 | []=>by simp[lookM,bitB_eq]
 | t :: r=>by
  simp only[lookM]
  rw[bitB_set,lookM_bit k r]
  simp only[List.contains_cons,Bool.or_comm]
  congr 1
  by_cases h:t=k
  ·simp[h]
  ·have:¬ k=t:=fun e=>h e.symm
   simp[h,this]
structure Row where
 ix:Nat
 an:Nat
 look:Nat
 dst:Option Tmp
def rowsOf (ops:List Oper):List Row:=(List.range ops.length).map fun i=>⟨i,(msksQ ops).getD i 0,lookM ((ops.getD i default).looksAt ops.toArray),(ops.getD i default).dst⟩
def rowOk (a b:Row):Bool:=Nat.beq a.ix b.ix || (bitB b.an a.ix || (bitB a.an b.ix || match a.dst with
 | some t=>!bitB b.look t
 | none=>true))
def strOk (ops:List Oper):Bool:=
 Region.noSelect ops.toArray && nodupB (ops.filterMap (·.dst)) &&
 ((List.range ops.length).all fun j=>(ops.getD j default).after.toList.all fun e=>!Region.binds .any e || decide (e.on < j)) &&
 ((rowsOf ops).all fun b=>(rowsOf ops).all fun a=>rowOk a b)
theorem strOk_spec {ops:List Oper} (h:strOk ops=true):∀ j < ops.length,((ops.getD j default).after.toList.all fun e=>!Region.binds .any e || decide (e.on < j))=true∧∀ i < ops.length,(i == j || (orddM (msks ops) i j || dstFree ops i j))=true:=by
 simp only[strOk,Bool.and_eq_true,List.all_eq_true,List.mem_range]at h
 intro j hj
 refine⟨by simpa only[List.all_eq_true] using h.1.2 j hj,fun i hi=>?_⟩
 have hr:=h.2 _ (List.mem_map.2 ⟨j,List.mem_range.2 hj,rfl⟩) _ (List.mem_map.2 ⟨i,List.mem_range.2 hi,rfl⟩)
 simp only[rowOk,msksQ_eq,Bool.or_eq_true]at hr
 rw[Bool.or_eq_true,Bool.or_eq_true]
 rcases hr with hr|hr|hr|hr
 ·left;simpa using Nat.eq_of_beq_eq_true hr
 ·right;left;simp only[orddM,Bool.or_eq_true];exact .inl hr
 ·right;left;simp only[orddM,Bool.or_eq_true];exact .inr hr
 ·right;right
  unfold dstFree
  cases hd:(ops.getD i default).dst with
  | none=>rfl
  | some t=>
   rw[hd]at hr
   simp only at hr ⊢
   rw[lookM_bit]at hr
   exact hr
def esOk (ops:List Oper) (es:List (Option Eff)):Bool:=
 let an:=msksQ ops
 let n:=ops.length
 (List.range n).all fun i=>
  (match (eff (es.getD i none)).u with
   | []=>true
   | u=>(List.range n).all fun j=>i == j || (orddM an i j || u.all (fun q=>!(eff (es.getD j none)).fp.contains q.1 && !((eff (es.getD j none)).u.map (·.1)).contains q.1))) &&
  (match (eff (es.getD i none)).nw with
   | []=>true
   | _=>(List.range n).all fun k=>k == i || (bitB (an.getD k 0) i || unspoken ops es k i))
def drawQ (ops:List Oper) (es:List (Option Eff)):Bool:=strOk ops && (Nat.beq es.length ops.length && esOk ops es)
theorem drawQ_spec {ops:List Oper} {es:List (Option Eff)} (h:drawQ ops es=true):drawOk2 ops es=true:=by
 simp only[drawQ,Bool.and_eq_true]at h
 obtain⟨h1,h2,h3⟩:=h
 have h5:=strOk_spec h1
 simp only[strOk,Bool.and_eq_true]at h1
 simp only[esOk,msksQ_eq,Bool.and_eq_true,List.all_eq_true,List.mem_range]at h3
 simp only[drawOk2,Bool.and_eq_true,List.all_eq_true,List.mem_range,decide_eq_true_eq]
 refine⟨⟨⟨h1.1.1.1,Nat.eq_of_beq_eq_true h2⟩,h1.1.1.2⟩,fun j hj=>⟨by simpa only[List.all_eq_true] using (h5 j hj).1,fun i hi=>?_⟩⟩
 have a1:=(h5 j hj).2 i hi
 rw[Bool.or_eq_true]at a1 ⊢
 rcases a1 with a1|a1
 ·exact .inl a1
 by_cases hij:i=j
 ·left;simp[hij]
 right
 rw[Bool.and_eq_true]
 constructor
 ·rw[Bool.or_eq_true]at a1 ⊢
  rcases a1 with a1|a1
  ·exact .inl a1
  cases ho:orddM (msks ops) i j
  ·right
   have b1:=(h3 i hi).1
   unfold apart
   simp only[Bool.and_eq_true]
   refine⟨a1,?_⟩
   split at b1
   ·rename_i hu
    rw[hu];rfl
   ·rw[List.all_eq_true]at b1
    have b2:=b1 j (List.mem_range.2 hj)
    rw[Bool.or_eq_true,Bool.or_eq_true]at b2
    rcases b2 with b2|b2|b2
    ·exact (hij (by simpa using b2)).elim
    ·rw[ho]at b2;cases b2
    ·exact b2
  ·exact .inl rfl
 ·have b1:=(h3 j hj).2
  split at b1
  ·rename_i hu
   rw[Bool.or_eq_true];right
   unfold unspoken
   simp only
   rw[hu];rfl
  ·rw[List.all_eq_true]at b1
   have b2:=b1 i (List.mem_range.2 hi)
   rw[Bool.or_eq_true]at b2
   rcases b2 with b2|b2
   ·exact (hij (by simpa using b2)).elim
   ·exact b2
noncomputable def loopX (body:St→Option (Exit×St)):Nat→St→Option (Exit×St)
 | 0,_=>none
 | k+1,σ=>match relab σ with
  | some σ1=>match body σ1 with
   | some (.normal,σ2)=>loopX body k σ2
   | r=>r
  | none=>none
noncomputable def evC (P:Program) (cf:St→FuncId→List S→Option Eff) (fuel:Nat):Code→St→Option (Exit×St)
 | .skip,σ=>some (.normal,σ)
 | .region _ ops false,σ=>match opsX P cf ops.toList ops.toList σ []with
  | some (σ',_)=>some (.normal,σ')
  | none=>none
 | .region _ ops true,σ=>match opsX P cf ops.toList ops.toList σ []with
  | some (σ',acc)=>bif drawQ ops.toList acc.reverse && nwsOk σ acc then some (.normal,σ') else none
  | none=>none
 | .seq a b,σ=>match evC P cf fuel a σ with
  | some (.normal,σ')=>evC P cf fuel b σ'
  | r=>r
 | .cond c x y,σ=>match rdS (lkQ σ.g) c with
  | .t (.lit (.bool v))=>bif v then evC P cf fuel x σ else evC P cf fuel y σ
  | _=>none
 | .block id c,σ=>match evC P cf fuel c σ with
  | some (.exit i,σ')=>bif Nat.beq i id then some (.normal,σ') else some (.exit i,σ')
  | r=>r
 | .exit id,σ=>some (.exit id,σ)
 | .ret,σ=>some (.ret,σ)
 | .loop c,σ=>loopX (evC P cf fuel c) fuel σ
 | .scope c,σ=>match evC P cf fuel c σ with
  | some (.goto _,_)=>none
  | r=>r
 | .label _,σ=>some (.normal,σ)
 | _,_=>none
section
variable {N:Nat} {P:Program} {cf:St→FuncId→List S→Option Eff} {fuel:Nat}
def RoundI {ι:Type} (I:ι→St) (Inv:ι→Prop) (μ:ι→Nat) (i:ι) (Q:Exit→St→Prop) (e:Exit) (σ:St):Prop:=match e with
 | .normal=>∃ j,Inv j∧μ j < μ i∧Imp σ (I j)
 | e=>Q e σ
theorem CW.loopI {ι:Type} {Q:Exit→St→Prop} (I:ι→St) (Inv:ι→Prop) (μ:ι→Nat) (i0:ι) {c:Code} {σ:St} (h0:Inv i0) (hstart:Imp σ (I i0))
  (round:∀ i,Inv i→CW N P c (RoundI I Inv μ i Q) (I i)):CW N P (.loop c) Q σ:=by
 intro hm hc W G0 A a w hs
 simp only[okCode]at hc
 classical
 let J:Act→World→ι→Prop:=fun a w i=>Inv i∧Sat N W G0 A (I i) a w
 have key:∀ n,∀ a w i,J a w i→μ i=n→∀ (b:Frame) (k:List Item) (cs:List Frame),∃ e a' w',(∃ σ',Q e σ'∧Sat N W G0 A σ' a' w')∧Arrives P (lone (b.at a (.code c :: .inLoop c :: k)) cs w) b k cs e a' w':=by
  intro n
  induction n using Nat.strongRecOn with
  | _ n ih=>
   rintro a w i ⟨hi,hs⟩ hn b k cs
   obtain⟨e,a₁,w₁,⟨σ',hq,hs'⟩,harr⟩:=round i hi hm hc W G0 A a w hs b (.inLoop c :: k) cs
   cases e with
   | normal=>
    obtain⟨j,hj,hlt,hw⟩:=hq
    obtain⟨e₂,a₂,w₂,hq₂,harr₂⟩:=ih (μ j) (by omega) a₁ w₁ j ⟨hj,hw N W G0 A a₁ w₁ hs'⟩ rfl b k cs
    exact⟨e₂,a₂,w₂,hq₂,.of_steps (Steps.trans harr (.one step_inLoop)) harr₂⟩
   | exit id=>exact⟨_,a₁,w₁,⟨σ',hq,hs'⟩,.pass (x:=.inLoop c) rfl (fun _ _=> .inl (by simp)) harr⟩
   | goto l=>exact⟨_,a₁,w₁,⟨σ',hq,hs'⟩,.pass (x:=.inLoop c) rfl (fun _ _=> .inl (by simp)) harr⟩
   | ret=>exact⟨_,a₁,w₁,⟨σ',hq,hs'⟩,.pass (x:=.inLoop c) rfl (fun _ _=> .inl (by simp)) harr⟩
   | panic ch=>exact⟨_,a₁,w₁,⟨σ',hq,hs'⟩,.pass (x:=.inLoop c) rfl (fun _ _=> .inl (by simp)) harr⟩
   | outgrown=>exact⟨_,a₁,w₁,⟨σ',hq,hs'⟩,.pass (x:=.inLoop c) rfl (fun _ _=> .inl (by simp)) harr⟩
 intro b k cs
 obtain⟨e,a',w',hq,harr⟩:=key _ a w i0 ⟨h0,hstart N W G0 A a w hs⟩ rfl b k cs
 exact⟨e,a',w',hq,.of_steps (.one step_loop) harr⟩
theorem loopX_sound {c:Code} {body:St→Option (Exit×St)} (hb:∀ (σ σ':St) (e:Exit) (Q:Exit→St→Prop),body σ=some (e,σ')→Q e σ'→CW N P c Q σ) (n:Nat) (σ σ':St) (e:Exit) (Q:Exit→St→Prop) (h:loopX body n σ=some (e,σ')) (hq:Q e σ'):CW N P (.loop c) Q σ:=by
 cases n with
 | zero=>cases h
 | succ n=>
  simp only[loopX]at h
  split at h
  ·rename_i σ1 h1
   refine CW.loopI (ι:=Nat×St) (fun i=>i.2) (fun i=>(match body i.2 with|some (.normal,σ2)=>loopX body i.1 σ2|r=>r)=some (e,σ')) (fun i=>i.1) (n,σ1) h (relab_spec h1) ?_
   rintro ⟨k,σ2⟩ hi
   simp only at hi ⊢
   split at hi
   ·rename_i σ3 h3
    cases k with
    | zero=>cases hi
    | succ k=>
     simp only[loopX]at hi
     split at hi
     ·rename_i σ4 h4
      exact hb σ2 σ3 .normal _ h3 ⟨(k,σ4),hi,Nat.lt_succ_self k,relab_spec h4⟩
     ·cases hi
   ·rename_i r hr
    refine hb σ2 σ' e _ hi ?_
    cases e with
    | normal=>exact (hr _ hi).elim
    | _=>exact hq
  ·cases h
theorem evC_sound (hcf:∀ σ,CfOk P (lkB σ.h) (cf σ)):∀ (c:Code) (σ σ':St) (e:Exit) (Q:Exit→St→Prop),evC P cf fuel c σ=some (e,σ')→Q e σ'→CW N P c Q σ
 | .skip,σ,σ',e,Q,h,hq=>by
  simp only[evC]at h;cases h
  exact nf_sound (stop:=[]) .skip Q σ hq
 | .region id ops false,σ,σ',e,Q,h,hq=>by
  simp only[evC]at h
  split at h
  ·rename_i σ1 acc h1
   cases h
   exact CW.region (opsX_spec hcf _ _ _ _ _ h1 hq)
  ·cases h
 | .region id ops true,σ,σ',e,Q,h,hq=>by
  simp only[evC]at h
  split at h
  ·rename_i σ1 acc h1
   cases hc:(drawQ ops.toList acc.reverse && nwsOk σ acc)<;>rw[hc]at h<;>simp only[cond_true,cond_false]at h
   ·cases h
   ·cases h
    rw[Bool.and_eq_true]at hc
    exact CW.draws (opsX_spec hcf _ _ _ _ _ h1 ⟨DrawChk_of (by rw[Bool.and_eq_true];exact⟨drawQ_spec hc.1,hc.2⟩),hq⟩)
  ·cases h
 | .seq a b,σ,σ',e,Q,h,hq=>by
  simp only[evC]at h
  split at h
  ·rename_i σ1 h1
   exact CW.seq (evC_sound hcf a σ σ1 .normal _ h1 (evC_sound hcf b σ1 σ' e Q h hq))
  ·rename_i r hr
   refine CW.seq (evC_sound hcf a σ σ' e _ h ?_)
   cases e with
   | normal=>exact (hr _ h).elim
   | _=>exact hq
 | .cond c x y,σ,σ',e,Q,h,hq=>by
  simp only[evC]at h
  split at h
  ·rename_i v hv
   rw[lkQ_eq]at hv
   refine CW.cond hv ?_
   cases v
   ·exact evC_sound hcf y σ σ' e Q h hq
   ·exact evC_sound hcf x σ σ' e Q h hq
  ·cases h
 | .block id c,σ,σ',e,Q,h,hq=>by
  simp only[evC]at h
  refine CW.block ?_
  split at h
  ·rename_i i σ1 h1
   refine evC_sound hcf c σ σ1 (.exit i) _ h1 ?_
   simp only[BlockQ]
   cases hb:Nat.beq i id<;>rw[hb]at h<;>simp only[cond_true,cond_false]at h<;>cases h
   ·rw[if_neg (by intro he;subst he;rw[Nat.beq_refl]at hb;cases hb)]
    exact hq
   ·rw[if_pos (Nat.eq_of_beq_eq_true hb)]
    exact hq
  ·rename_i r hr
   refine evC_sound hcf c σ σ' e _ h ?_
   cases e with
   | exit i=>exact (hr _ _ h).elim
   | _=>exact hq
 | .exit id,σ,σ',e,Q,h,hq=>by
  simp only[evC]at h;cases h
  exact nf_sound (stop:=[]) (.exit id) Q σ hq
 | .ret,σ,σ',e,Q,h,hq=>by
  simp only[evC]at h;cases h
  exact nf_sound (stop:=[]) .ret Q σ hq
 | .loop c,σ,σ',e,Q,h,hq=>by
  simp only[evC]at h
  exact loopX_sound (fun σ σ' e Q h hq=>evC_sound hcf c σ σ' e Q h hq) fuel σ σ' e Q h hq
 | .scope c,σ,σ',e,Q,h,hq=>by
  simp only[evC]at h
  refine CW.scope ?_
  split at h
  ·cases h
  ·rename_i r hr
   refine evC_sound hcf c σ σ' e _ h ?_
   cases e with
   | goto l=>exact (hr _ _ h).elim
   | _=>exact hq
 | .label l,σ,σ',e,Q,h,hq=>by
  simp only[evC]at h;cases h
  exact nf_sound (stop:=[]) (.label l) Q σ hq
 | .rangeFunc _ _ _ _,σ,σ',e,Q,h,hq=>by simp only[evC]at h;cases h
 | .goto _,σ,σ',e,Q,h,hq=>by simp only[evC]at h;cases h
 | .refuse _,σ,σ',e,Q,h,hq=>by simp only[evC]at h;cases h
end
end Go.Proofs.YtdjmklobfjigoaaGreatDoor.Sy
