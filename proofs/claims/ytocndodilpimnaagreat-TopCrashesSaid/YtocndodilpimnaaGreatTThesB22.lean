/- Several texts of this proof, one behind the other. No condition. -/
import Derived.Test.YtocndodilpimnaaGreatTThesB10
set_option maxRecDepth 100000
set_option maxHeartbeats 16000000
set_option linter.unusedVariables false
set_option linter.unusedSimpArgs false
namespace Go.Proofs.YtocndodilpimnaaGreat.Sy
open Go.RowKit
def gd (p:Prop) [Decidable p] {α:Type} (x:Option α):Option α:=if p then x else none
theorem aN {p:Prop} [Decidable p] {α:Type} {x:Option α} {e:α}:gd p x=some e↔p∧x=some e:=by
 unfold gd;split<;>simp_all
instance (P:Program) (t:TypeId) (s:S):Decidable (kO P t s):=by unfold kO;infer_instance
def KX (c x y:S):Option aM:=match c with
 | .t (.lit (.bool b))=>some ⟨bif b then x else y,[],[],[]⟩
 | _=>none
theorem DZ {c x y:S} {E:aM} {K:aM→Prop} (h:KX c x y=some E) (hK:K E):BC c x y K:=by
 unfold KX at h;unfold BC
 split at h
 ·rename_i b
  cases b<;>simp at h<;>subst h<;>simpa using hK
 ·cases h
def Ex (P:Program) (e:TypeId) (d:Nat):Option aM:=match zeroOf P e with
 | some z=>some ⟨.pt d [] 0,[(d,some (.box e (.t z)))],[],[d]⟩
 | none=>none
theorem zK {P:Program} {e:TypeId} {d:Nat} {E:aM} {K:aM→Prop} (h:Ex P e d=some E) (hK:K E):uY P e d K:=by
 unfold Ex at h;unfold uY;split at h<;>simp_all
def Ou (e:TypeId) (x:S) (d:Nat):Option aM:=gd (x.solid=true∧x.free d=true) (some ⟨.pt d [] 0,[(d,some (.box e x))],[],[d]⟩)
theorem Gb {e:TypeId} {x:S} {d:Nat} {E:aM} {K:aM→Prop} (h:Ou e x d=some E) (hK:K E):Mw e x d K:=by
 unfold Ou at h;unfold Mw;simp_all [aN]
def Lb (P:Program) (t:TypeId) (x:S) (h:Nat→Option aA):Option aM:=match x with
 | .rp y=>gd (kO P t (.t y)) (some ⟨.t y,[],[],[]⟩)
 | .pt l p off=>match h l with
  | some blk=>match blk.at p with
   | some (o,y)=>gd (o=off∧y.solid=true∧kO P t y) (some ⟨y,[],[l],[]⟩)
   | none=>none
  | none=>none
 | _=>none
theorem CA {P:Program} {t:TypeId} {x:S} {h:Nat→Option aA} {E:aM} {K:aM→Prop} (e:Lb P t x h=some E) (hK:K E):zO P t x h K:=by
 unfold Lb at e;unfold zO;(repeat' split at e)<;>simp_all [aN]
def D6 (P:Program) (t:TypeId) (x v:S) (h:Nat→Option aA):Option aM:=match x with
 | .pt l p off=>match h l with
  | some blk=>match blk.at p with
   | some (o,z)=>match blk.set p v with
    | some blk'=>gd (o=off∧v.solid=true∧v.width=z.width∧bY P t=some v.width) (some ⟨.dead,[(l,some blk')],[l],[]⟩)
    | none=>none
   | none=>none
  | none=>none
 | _=>none
theorem Ao {P:Program} {t:TypeId} {x v:S} {h:Nat→Option aA} {E:aM} {K:aM→Prop} (e:D6 P t x v h=some E) (hK:K E):tt P t x v h K:=by
 unfold D6 at e;unfold tt;(repeat' split at e)<;>simp_all [aN]
def n9 (P:Program) (t:TypeId) (x:S) (f:Nat):Option aM:=match aX P t f with
 | some q=>gd (pA P q.2=true) (match x with
  | .pt l p o=>some ⟨.pt l (p++[f]) (o+q.1),[],[],[]⟩
  | .rp (.agg xs)=>match xs[f]? with
   | some y=>gd (T.widths (xs.take f)=q.1) (some ⟨.rp y,[],[],[]⟩)
   | none=>none
  | _=>none)
 | none=>none
theorem rL {P:Program} {t:TypeId} {x:S} {f:Nat} {E:aM} {K:aM→Prop} (e:n9 P t x f=some E) (hK:K E):ja P t x f K:=by
 unfold n9 at e;unfold ja
 split at e
 ·rename_i q hq
  rw[aN]at e
  obtain⟨e1,e2⟩:=e
  simp only[hq]
  refine⟨e1,?_⟩
  (repeat' split at e2)<;>simp_all [aN]
 ·cases e
def nC (P:Program) (t:TypeId) (x i:S) (h:Nat→Option aA):Option aM:=match aK P t with
 | some e=>match i with
  | .t (.lit (.int k n))=>match x with
   | .t (.sl s xs)=>gd (bY P e=some s∧0≤n∧n < (xs.length:Int)) (match xs[n.toNat]? with|some y=>some ⟨.rp y,[],[],[]⟩|none=>none)
   | .own l=>match h l with
    | some (.list _ s xs)=>gd (bY P e=some s∧0≤n∧n < (xs.length:Int)) (some ⟨.pt l [n.toNat] (n.toNat * s),[],[l],[]⟩)
    | some (.rows _ s us _)=>gd (bY P e=some s∧0≤n∧n < (us.length:Int)) (some ⟨.pt l [n.toNat] (n.toNat * s),[],[l],[]⟩)
    | _=>none
   | .wn l p off m=>match bY P e with
    | some s=>gd (0≤n∧n < (m:Int)) (some ⟨.pt l (p++[n.toNat]) (off+n.toNat * s),[],[],[]⟩)
    | none=>none
   | _=>none
  | _=>none
 | none=>match dn P t with
  | some (n,e)=>match bY P e with
   | some s=>match i,x with
    | .t (.lit (.int k m)),.pt l p off=>gd (0≤m∧m < (n:Int)) (some ⟨.pt l (p++[m.toNat]) (off+m.toNat * s),[],[],[]⟩)
    | _,_=>none
   | none=>none
  | none=>none
theorem rR {P:Program} {t:TypeId} {x i:S} {h:Nat→Option aA} {E:aM} {K:aM→Prop} (e:nC P t x i h=some E) (hK:K E):iI P t x i h K:=by
 unfold nC at e;unfold iI;(repeat' split at e)<;>(try rw[aN]at e)<;>simp_all
def Ee (P:Program) (t:TypeId) (x:S) (f:Nat):Option aM:=match aX P t f with
 | some q=>match x with
  | .t (.agg xs)=>match xs[f]? with
   | some y=>gd (T.widths (xs.take f)=q.1∧kO P q.2 (.t y)) (some ⟨.t y,[],[],[]⟩)
   | none=>none
  | _=>none
 | none=>none
theorem Ae {P:Program} {t:TypeId} {x:S} {f:Nat} {E:aM} {K:aM→Prop} (e:Ee P t x f=some E) (hK:K E):uH P t x f K:=by
 unfold Ee at e;unfold uH;(repeat' split at e)<;>simp_all [aN]
def uB (x:S) (i:Nat):Option aM:=match x with
 | .tup ss=>match ss[i]? with
  | some s=>some ⟨s,[],[],[]⟩
  | none=>none
 | _=>none
theorem vL {x:S} {i:Nat} {E:aM} {K:aM→Prop} (e:uB x i=some E) (hK:K E):lV x i K:=by
 unfold uB at e;unfold lV;(repeat' split at e)<;>simp_all
def l5 (v:Value):Option aM:=some ⟨.t (.lit v),[],[],[]⟩
theorem bM {v:Value} {E:aM} {K:aM→Prop} (e:l5 v=some E) (hK:K E):jf K v:=by
 unfold l5 at e;unfold jf;simp_all
def IJ (P:Program) (op:BinOp) (t:TypeId) (p q:Bool):Option aM:=match op with
 | .eql=>gd (oD P t=true) (l5 (.bool (p == q)))
 | .neq=>gd (oD P t=true) (l5 (.bool (!(p == q))))
 | _=>none
theorem CY {P:Program} {op:BinOp} {t:TypeId} {p q:Bool} {E:aM} {K:aM→Prop} (e:IJ P op t p q=some E) (hK:K E):A8 P op t p q K:=by
 unfold IJ at e;unfold A8
 split at e
 ·rw[aN]at e;exact⟨e.1,bM e.2 hK⟩
 ·rw[aN]at e;exact⟨e.1,bM e.2 hK⟩
 ·cases e
def LA (op:BinOp) (b:Bool):Option aM:=match op with
 | .eql=>l5 (.bool b)
 | .neq=>l5 (.bool (!b))
 | _=>none
def DM (P:Program) (op:BinOp) (t:TypeId) (xs ys:List T):Option aM:=match dn P t with
 | some (n,e)=>gd (zT P e=true∧P.eqGuardType P.depth t=false∧n=xs.length) (match vr P e xs ys with
  | some b=>LA op b
  | none=>none)
 | none=>none
theorem BX {P:Program} {op:BinOp} {t:TypeId} {xs ys:List T} {E:aM} {K:aM→Prop} (e:DM P op t xs ys=some E) (hK:K E):uw P op t xs ys K:=by
 unfold DM at e;unfold uw
 split at e
 ·rename_i n e1 ha
  rw[aN]at e
  obtain⟨⟨e1,e2,e3⟩,e4⟩:=e
  simp only[ha]
  refine⟨e1,e2,e3,?_⟩
  split at e4
  ·rename_i b hb
   simp only[hb]
   unfold LA at e4
   split at e4
   ·exact bM e4 hK
   ·exact bM e4 hK
   ·cases e4
  ·cases e4
 ·cases e
def OE (P:Program) (op:BinOp) (t:TypeId) (xs ys:List T):Option aM:=match oH P t with
 | some fl=>gd (P.stoodInHeld t=false∧P.eqGuardType P.depth t=false) (match vW P fl 0 xs ys with
  | some b=>LA op b
  | none=>none)
 | none=>DM P op t xs ys
theorem Gn {P:Program} {op:BinOp} {t:TypeId} {xs ys:List T} {E:aM} {K:aM→Prop} (e:OE P op t xs ys=some E) (hK:K E):Ij P op t xs ys K:=by
 unfold OE at e;unfold Ij
 split at e
 ·rename_i fl hfl
  rw[aN]at e
  obtain⟨⟨e1,e2⟩,e3⟩:=e
  simp only[hfl]
  refine⟨e1,e2,?_⟩
  split at e3
  ·rename_i b hb
   simp only[hb]
   unfold LA at e3
   split at e3
   ·exact bM e3 hK
   ·exact bM e3 hK
   ·cases e3
  ·cases e3
 ·rename_i hfl
  simp only[hfl]
  exact BX e hK
def NF (k:IntKind) (e:Int):Option Value:=match k with
 | .i64=>gd (-9223372036854775808≤e∧e≤9223372036854775807) (some (.int .i64 e))
 | k=>if Cc k e then some (.int k e) else some (.int k (k.wrap e))
theorem jZ {k:IntKind} {e:Int} {v:Value} {K:Value→Prop} (h:NF k e=some v) (hK:K v):E4 k e K:=by
 unfold NF at h;unfold E4
 split at h
 ·simp_all [aN]
 ·split at h<;>simp_all
def tw (x y:ByteArray):Bool:=(x.data.toList.map fun c=>c.toNat) == (y.data.toList.map fun c=>c.toNat)
theorem AF (x y:ByteArray):tw x y=(x.toList == y.toList):=by
 unfold tw
 have h:∀ a b:List UInt8,(a.map (fun c=>c.toNat) == b.map fun c=>c.toNat)=(a == b):=by
  intro a
  induction a with
  | nil=>intro b;cases b<;>rfl
  | cons x r ih=>
   intro b
   cases b with
   | nil=>rfl
   | cons y s=>
    simp only[List.map_cons,List.cons_beq_cons,ih]
    congr 1
    rw[Bool.eq_iff_iff]
    simp[UInt8.toNat_inj]
 rw[h]
 have h2:∀ a:ByteArray,a.toList=a.data.toList:=fun⟨⟨l⟩⟩=>by
  have:=kS (l.map fun c=>c.toNat)
  have e:(str (l.map fun c=>c.toNat))=⟨⟨l⟩⟩:=by simp[str,Function.comp_def]
  rw[e]at this
  rw[this];simp[Function.comp_def]
 rw[h2,h2]
def IL (op:BinOp) (a b:Value):Option Value:=
 match op,a,b with
 | .add,.int k x,.int k' y=>gd (k=k') (NF k (x+y))
 | .sub,.int k x,.int k' y=>gd (k=k') (NF k (x - y))
 | .mul,.int k x,.int k' y=>gd (k=k') (NF k (x * y))
 | .quo,.int k x,.int k' y=>gd (k=k') (gd (0≤x∧1≤y) (gd (Cc k x) (some (.int k (x / y)))))
 | .rem,.int k x,.int k' y=>gd (k=k') (gd (0≤x∧1≤y) (some (.int k (x % y))))
 | .lss,.int k x,.int k' y=>gd (k=k') (some (.bool (decide (x < y))))
 | .leq,.int k x,.int k' y=>gd (k=k') (some (.bool (decide (x≤y))))
 | .gtr,.int k x,.int k' y=>gd (k=k') (some (.bool (decide (y < x))))
 | .geq,.int k x,.int k' y=>gd (k=k') (some (.bool (decide (y≤x))))
 | .eql,.int k x,.int k' y=>gd (k=k') (some (.bool (decide (x=y))))
 | .neq,.int k x,.int k' y=>gd (k=k') (some (.bool (decide (x≠y))))
 | .eql,.string x,.string y=>some (.bool (tw x y))
 | .neq,.string x,.string y=>some (.bool (!(tw x y)))
 | .add,.string x,.string y=>gd (x.size+y.size≤9223372036854775807) (some (.string (x++y)))
 | .shl,.int k x,.int _ y=>gd (0≤y∧y≤kB k) (NF k (x * 2 ^ y.toNat))
 | .shr,.int k x,.int _ y=>gd (0≤y∧y≤kB k) (some (.int k (x / 2 ^ y.toNat)))
 | .and,.int k x,.int k' y=>gd (k=k') (some (.int k (bits .and k x y)))
 | .or,.int k x,.int k' y=>gd (k=k') (some (.int k (bits .or k x y)))
 | .xor,.int k x,.int k' y=>gd (k=k') (some (.int k (bits .xor k x y)))
 | _,_,_=>none
theorem DB {op:BinOp} {a b v:Value} {K:Value→Prop} (h:IL op a b=some v) (hK:K v):qe op a b K:=by
 unfold IL at h
 split at h<;>(try simp only[aN,Option.some.injEq]at h)<;>(try simp only[qe])
 case h_1=>exact⟨h.1,jZ h.2 hK⟩
 case h_2=>exact⟨h.1,jZ h.2 hK⟩
 case h_3=>exact⟨h.1,jZ h.2 hK⟩
 case h_4=>obtain⟨h1,h2,h3,rfl⟩:=h;exact⟨h1,by rw[if_pos h2,if_pos h3];exact hK⟩
 case h_5=>obtain⟨h1,h2,rfl⟩:=h;exact⟨h1,by rw[if_pos h2];exact hK⟩
 case h_12=>subst h;rw[←AF];exact hK
 case h_13=>subst h;rw[←AF];exact hK
 case h_14=>obtain⟨h1,rfl⟩:=h;rw[if_pos h1];exact hK
 case h_15=>rw[if_pos h.1];exact jZ h.2 hK
 case h_16=>obtain⟨h1,rfl⟩:=h;rw[if_pos h1];exact hK
 all_goals first|(obtain⟨h1,rfl⟩:=h;exact⟨h1,hK⟩)|cases h
def yG (P:Program) (op:BinOp) (t:TypeId) (b:Bool):Option aM:=match op with
 | .eql=>gd ((aK P t).isSome=true) (some ⟨.t (.lit (.bool b)),[],[],[]⟩)
 | _=>none
theorem qL {P:Program} {op:BinOp} {t:TypeId} {b:Bool} {E:aM} {K:aM→Prop} (e:yG P op t b=some E) (hK:K E):nB P op t b K:=by
 unfold yG at e;unfold nB;split at e<;>simp_all [aN]
def Ob (P:Program) (op:BinOp) (t:TypeId) (x y:S):Option aM:=match x,y with
 | .t (.lit (.bool p)),.t (.lit (.bool q))=>IJ P op t p q
 | .t (.lit (.slice none 0 0)),.t (.lit (.slice none 0 0))=>yG P op t true
 | .t (.sl _ (_ :: _)),.t (.lit (.slice none 0 0))=>yG P op t false
 | .t (.lit a),.t (.lit b)=>match IL op a b with
  | some v=>l5 v
  | none=>none
 | .t (.agg xs),.t (.agg ys)=>OE P op t xs ys
 | _,_=>none
theorem HM {P:Program} {op:BinOp} {t:TypeId} {x y:S} {E:aM} {K:aM→Prop} (e:Ob P op t x y=some E) (hK:K E):xY P op t x y K:=by
 unfold Ob at e
 split at e
 ·simp only[xY];exact CY e hK
 ·simp only[xY];exact qL e hK
 ·simp only[xY];exact qL e hK
 ·split at e
  ·rename_i h1 h2 _ v hv
   unfold xY
   split
   ·rename_i g1 g2;cases g1;cases g2;exact (h1 _ _ rfl rfl).elim
   ·rename_i g1 g2;cases g1;cases g2;exact (h2 rfl rfl).elim
   ·rename_i g1 g2;cases g1
   ·rename_i g1 g2;cases g1;cases g2
    exact DB hv (bM e hK)
   ·rename_i g1 g2;cases g1
   ·rename_i g1 g2 g3 g4 g5;exact (g4 _ _ rfl rfl).elim
  ·cases e
 ·simp only[xY];exact Gn e hK
 ·cases e
def NC (P:Program) (op:BinOp) (t:TypeId) (x:S):Option aM:=match op,x with
 | .eql,.t (.lit .nilIface)=>gd (HE P t=true) (some ⟨.t (.lit (.bool true)),[],[],[]⟩)
 | .neq,.t (.lit .nilIface)=>gd (HE P t=true) (some ⟨.t (.lit (.bool false)),[],[],[]⟩)
 | _,_=>none
def I5 (P:Program) (op:BinOp) (t:TypeId) (x y:Operand) (R:Operand→S):Option aM:=match y with
 | .const .nilIface=>NC P op t (R x)
 | y=>Ob P op t (R x) (R y)
theorem Da {P:Program} {op:BinOp} {t:TypeId} {x y:Operand} {R:Operand→S} {E:aM} {K:aM→Prop} (e:I5 P op t x y R=some E) (hK:K E):Bw P op t x y R K:=by
 unfold I5 at e;unfold Bw
 split at e
 ·unfold NC at e
  simp only
  unfold Lf
  split at e
  ·rename_i hx;rw[aN]at e;obtain⟨e1,e2⟩:=e;cases e2;simp only[hx];exact⟨e1,hK⟩
  ·rename_i hx;rw[aN]at e;obtain⟨e1,e2⟩:=e;cases e2;simp only[hx];exact⟨e1,hK⟩
  ·cases e
 ·split
  ·exfalso;simp_all
  ·exact HM e hK
def OF (x:S):Option aM:=match x with
 | .pt l p o=>some ⟨.pt l p o,[],[],[]⟩
 | .rp y=>some ⟨.rp y,[],[],[]⟩
 | _=>none
theorem G4 {x:S} {E:aM} {K:aM→Prop} (e:OF x=some E) (hK:K E):Kx x K:=by
 unfold OF at e;unfold Kx;split at e<;>simp_all
def Di (P:Program) (t:TypeId) (x:S) (lo hi:Int→Option Int) (mx:Option Operand) (h:Nat→Option aA):Option aM:=match mx,aK P t with
 | none,some e=>match x with
  | .t (.sl s xs)=>gd (bY P e=some s) (match lo 0,hi xs.length with
   | some l,some r=>gd (0≤l∧l≤r∧r≤(xs.length:Int)) (some ⟨.t (.sl s ((xs.take r.toNat).drop l.toNat)),[],[],[]⟩)
   | _,_=>none)
  | .own k=>match h k with
   | some (.list _ s xs)=>gd (bY P e=some s) (match lo 0,hi xs.length with
    | some l,some r=>gd (0≤l∧l≤r∧r≤(xs.length:Int)) (some ⟨.t (.sl s ((xs.take r.toNat).drop l.toNat)),[(k,none)],[k],[]⟩)
    | _,_=>none)
   | _=>none
  | .wn k p off n=>gd (bY P e=some 1) (match lo 0,hi n with
   | some l,some r=>gd (0≤l∧l≤r∧r≤(n:Int)) (some ⟨.wn k p (off+l.toNat * 1) (r.toNat - l.toNat),[],[],[]⟩)
   | _,_=>none)
  | _=>none
 | none,none=>match dn P t with
  | some _=>none
  | none=>match x with
   | .t (.lit (.string b))=>gd (iS P t=true) (match lo 0,hi b.size with
    | some l,some r=>gd (0≤l∧l≤r∧r≤(b.size:Int)) (some ⟨.t (.lit (.string (HB b l.toNat r.toNat))),[],[],[]⟩)
    | _,_=>none)
   | _=>none
 | _,_=>none
theorem zY {P:Program} {t:TypeId} {x:S} {lo hi:Int→Option Int} {mx:Option Operand} {h:Nat→Option aA} {E:aM} {K:aM→Prop} (e:Di P t x lo hi mx h=some E) (hK:K E):tc P t x lo hi mx h K:=by
 unfold Di at e;unfold tc
 split at e
 ·rename_i e0 he
  simp only[he]
  split at e
  ·rw[aN]at e
   obtain⟨e1,e2⟩:=e
   refine⟨e1,?_⟩
   split at e2
   ·simp_all [aN]
   ·cases e2
  ·split at e
   ·rename_i hk
    rw[aN]at e
    obtain⟨e1,e2⟩:=e
    simp only[hk]
    refine⟨e1,?_⟩
    split at e2
    ·simp_all [aN]
    ·cases e2
   ·cases e
  ·rw[aN]at e
   obtain⟨e1,e2⟩:=e
   simp only[e1]
   refine⟨.inl trivial,?_⟩
   split at e2
   ·simp_all [aN]
   ·cases e2
  ·cases e
 ·rename_i he
  simp only[he]
  split at e
  ·cases e
  ·rename_i ha
   simp only[ha]
   unfold xV
   split at e
   ·rw[aN]at e
    obtain⟨e1,e2⟩:=e
    refine⟨e1,?_⟩
    split at e2
    ·simp_all [aN]
    ·cases e2
   ·cases e
 ·cases e
def sC (P:Program) (t:TypeId) (x:S) (lo hi mx:Option Int):Option aM:=match aK P t,x,lo,hi,mx with
 | some e,.t (.sl s xs),some l,some r,some m=>gd (bY P e=some s∧0≤l∧l≤r∧r≤m∧m≤(xs.length:Int)) (some ⟨.t (.sl s ((xs.take r.toNat).drop l.toNat)),[],[],[]⟩)
 | _,_,_,_,_=>none
theorem yZ {P:Program} {t:TypeId} {x:S} {lo hi mx:Option Int} {E:aM} {K:aM→Prop} (e:sC P t x lo hi mx=some E) (hK:K E):sG P t x lo hi mx K:=by
 unfold sC at e;unfold sG
 split at e
 ·rename_i he
  rw[aN]at e
  obtain⟨⟨h1,h2⟩,h3⟩:=e
  simp only[he]
  refine⟨h1,?_⟩
  rw[if_pos h2]
  cases h3;exact hK
 ·cases e
def Jb (P:Program) (t:TypeId) (x:S) (hi mx:Option Int):Option aM:=match aK P t,x,hi,mx with
 | some e,.t (.sl s xs),some r,some m=>gd (bY P e=some s∧m=r∧0≤r∧r≤(xs.length:Int)) (some ⟨.cl s (xs.take r.toNat),[],[],[]⟩)
 | _,_,_,_=>none
theorem Eo {P:Program} {t:TypeId} {x:S} {hi mx:Option Int} {E:aM} {K:aM→Prop} (e:Jb P t x hi mx=some E) (hK:K E):AW P t x hi mx K:=by
 unfold Jb at e;unfold AW
 split at e
 ·rename_i he
  rw[aN]at e
  obtain⟨⟨h1,h2,h3⟩,h4⟩:=e
  simp only[he]
  refine⟨h1,h2,?_⟩
  rw[if_pos h3]
  cases h4;exact hK
 ·cases e
def CX (P:Program) (t:TypeId) (R:Operand→S) (parts:List (Nat×Operand)):Option aM:=match dn P t with
 | some (n,e)=>match zeroOf P t,bY P e with
  | some (.agg zs),some s=>match sW (Qj n s) (fun x=>IM (R x)) parts (zs.map S.t) with
   | some fs=>some ⟨Gm fs,[],[],[]⟩
   | none=>none
  | _,_=>none
 | none=>match zeroOf P t,qk P t with
  | some (.agg zs),some pls=>match sW pls (fun x=>IM (R x)) parts (zs.map S.t) with
   | some fs=>some ⟨Gm fs,[],[],[]⟩
   | none=>none
  | _,_=>none
theorem AA {P:Program} {t:TypeId} {R:Operand→S} {parts:List (Nat×Operand)} {E:aM} {K:aM→Prop} (e:CX P t R parts=some E) (hK:K E):sU P t R parts K:=by
 unfold CX at e;unfold sU;(repeat' split at e)<;>simp_all
def Q8 (op:UnOp) (x:S):Option aM:=match op,x with
 | .not,.t (.lit (.bool b))=>l5 (.bool (!b))
 | .neg,.t (.lit (.int k n))=>match NF k (0 - n) with
  | some v=>l5 v
  | none=>none
 | _,_=>none
theorem Jn {op:UnOp} {x:S} {E:aM} {K:aM→Prop} (e:Q8 op x=some E) (hK:K E):P8 op x K:=by
 unfold Q8 at e;unfold P8
 split at e
 ·exact bM e hK
 ·split at e
  ·rename_i v hv
   exact jZ hv (bM e hK)
  ·cases e
 ·cases e
def KK (P:Program) (s t:TypeId) (x:S) (h:Nat→Option aA):Option aM:=match x with
 | .t (.lit (.int k n))=>match mV P s,mV P t with
  | some _,some k'=>match NF k' n with
   | some v=>l5 v
   | none=>none
  | _,_=>none
 | .t (.lit (.string b))=>gd (iS P s=true∧iS P t=true) (l5 (.string b))
 | _=>none
theorem D7 {P:Program} {s t:TypeId} {x:S} {h:Nat→Option aA} {E:aM} {K:aM→Prop} (e:KK P s t x h=some E) (hK:K E):Ca P s t x h K:=by
 unfold KK at e;unfold Ca
 split at e
 ·split at e
  ·rename_i h1 h2
   split at e
   ·rename_i v hv
    simp only[h1,h2]
    exact jZ hv (bM e hK)
   ·cases e
  ·cases e
 ·rw[aN]at e
  exact⟨e.1.1,e.1.2,bM e.2 hK⟩
 ·cases e
def FM (s:Nat):List T→Bool
 | []=>true
 | x :: r=>Nat.beq x.width s && FM s r
theorem uP {s:Nat}:∀ {xs:List T},FM s xs=true→Jp s xs
 | [],_=>trivial
 | x :: r,h=>by
  simp only[FM,Bool.and_eq_true]at h
  exact⟨Nat.eq_of_beq_eq_true h.1,uP h.2⟩
def ji (P:Program) (t:TypeId) (n:Nat) (ps:Option (List T)) (d:Nat):Option aM:=match aK P t with
 | some e=>match jP P e with
  | some (s,_)=>match ps with
   | some ys=>gd (n=ys.length∧FM s ys=true∧n * s≤16777216) (some ⟨.own d,[(d,some (.list e s ys))],[],[d]⟩)
   | none=>none
  | none=>none
 | none=>none
theorem pU {P:Program} {t:TypeId} {n:Nat} {ps:Option (List T)} {d:Nat} {E:aM} {K:aM→Prop} (e:ji P t n ps d=some E) (hK:K E):gU P t n ps d K:=by
 unfold ji at e;unfold gU
 split at e
 ·split at e
  ·split at e
   ·rw[aN]at e
    obtain⟨⟨h1,h2,h3⟩,h4⟩:=e
    rename_i he _ s b hs _ ys
    simp only[he,hs]
    cases h4
    exact⟨h1,uP h2,h3,hK⟩
   ·cases e
  ·cases e
 ·cases e
def p9 (P:Program) (t:TypeId) (n:Nat) (ys:List S) (d:Nat):Option aM:=match aK P t with
 | some e=>match jP P e with
  | some (1,_)=>gd (n=ys.length∧0 < n∧S.frees d ys=true∧n≤16777216) (some ⟨.wn d [] 0 n,[(d,some (.box e (.ag ys)))],[],[d]⟩)
  | _=>none
 | none=>none
theorem tx {P:Program} {t:TypeId} {n:Nat} {ys:List S} {d:Nat} {E:aM} {K:aM→Prop} (e:p9 P t n ys d=some E) (hK:K E):kg P t n ys d K:=by
 unfold p9 at e;unfold kg
 split at e
 ·split at e
  ·rw[aN]at e
   obtain⟨⟨h1,h2,h3,h4⟩,h5⟩:=e
   rename_i he _ b hs
   simp only[he,hs]
   cases h5
   exact⟨h1,h2,h3,h4,hK⟩
  ·cases e
 ·cases e
def nA (P:Program) (t:TypeId) (x y:S) (d:Nat):Option aM:=match aK P t,x,y with
 | some e,.t (.lit (.int .i64 n)),.t (.lit (.int .i64 m))=>match jP P e,zeroOf P e with
  | some (s,b),some z=>if m=n then gd (z.width=s∧0≤n∧n.toNat * b≤16777216) (some ⟨.own d,[(d,some (.list e s (List.replicate n.toNat z)))],[],[d]⟩)
   else gd (z.width=s∧n=0∧0≤m∧m.toNat * b≤16777216) (some ⟨.own d,[(d,some (.list e s []))],[],[d]⟩)
  | _,_=>none
 | _,_,_=>none
theorem rV {P:Program} {t:TypeId} {x y:S} {d:Nat} {E:aM} {K:aM→Prop} (e:nA P t x y d=some E) (hK:K E):iM P t x y d K:=by
 unfold nA at e;unfold iM
 split at e
 ·split at e
  ·rename_i he _ _ s b z hs hz
   simp only[he,hs,hz]
   split at e
   ·rename_i hmn
    rw[aN]at e
    obtain⟨⟨h1,h3⟩,h4⟩:=e
    refine⟨h1,?_⟩
    rw[if_pos hmn,if_pos h3]
    cases h4;exact hK
   ·rename_i hmn
    rw[aN]at e
    obtain⟨⟨h1,h3⟩,h4⟩:=e
    refine⟨h1,?_⟩
    rw[if_neg hmn,if_pos h3]
    cases h4;exact hK
  ·cases e
 ·cases e
def Pd (P:Program) (t:TypeId) (x:S) (h:Nat→Option aA):Option aM:=match x with
 | .t (.sl _ xs)=>gd ((aK P t).isSome=true) (l5 (.int .i64 xs.length))
 | .own l=>match h l with
  | some (.list _ _ xs)=>gd ((aK P t).isSome=true) (some ⟨.t (.int xs.length),[],[l],[]⟩)
  | some (.rows _ _ us _)=>gd ((aK P t).isSome=true) (some ⟨.t (.int us.length),[],[l],[]⟩)
  | _=>none
 | .t (.lit (.slice none 0 0))=>gd ((aK P t).isSome=true) (l5 (.int .i64 0))
 | .t (.lit (.string b))=>gd (iS P t=true) (l5 (.int .i64 b.size))
 | .wn _ _ _ n=>gd ((aK P t).isSome=true) (l5 (.int .i64 n))
 | _=>none
theorem HK {P:Program} {t:TypeId} {x:S} {h:Nat→Option aA} {E:aM} {K:aM→Prop} (e:Pd P t x h=some E) (hK:K E):Kr P t x h K:=by
 unfold Pd at e;unfold Kr
 split at e
 ·rw[aN]at e;exact⟨e.1,bM e.2 hK⟩
 ·split at e<;>simp_all [aN]
 ·rw[aN]at e;exact⟨e.1,bM e.2 hK⟩
 ·rw[aN]at e;exact⟨e.1,bM e.2 hK⟩
 ·rw[aN]at e;exact⟨e.1,bM e.2 hK⟩
 ·cases e
def Pu (x y:S):Option aM:=match x,y with
 | .t (.lit (.int k m)),.t (.lit (.int k' n))=>l5 (.int k (min m n))
 | _,_=>none
theorem HF {x y:S} {E:aM} {K:aM→Prop} (e:Pu x y=some E) (hK:K E):Kp x y K:=by
 unfold Pu at e;unfold Kp;split at e
 ·exact bM e hK
 ·cases e
def Pr (x y:S):Option aM:=match x,y with
 | .t (.lit (.int k m)),.t (.lit (.int k' n))=>l5 (.int k (max m n))
 | _,_=>none
theorem GK {x y:S} {E:aM} {K:aM→Prop} (e:Pr x y=some E) (hK:K E):Ju x y K:=by
 unfold Pr at e;unfold Ju;split at e
 ·exact bM e hK
 ·cases e
def oC (P:Program) (t:TypeId) (x y:S) (d:Nat) (h:Nat→Option aA):Option aM:=match aK P t with
 | some e=>match jP P e with
  | some (s,b)=>match nz h s y with
   | some (ys,fp)=>match x with
    | .own l=>match h l with
     | some (.list e' s' xs)=>gd (e'=e∧s'=s∧d≠l∧(xs.length+ys.length) * b≤140737488355328) (some ⟨.own d,[(d,some (.list e s (xs++ys))),(l,none)],l :: fp,[d]⟩)
     | _=>none
    | .t (.lit (.slice none 0 0))=>gd (ys.length * b≤140737488355328) (some ⟨.own d,[(d,some (.list e s ys))],fp,[d]⟩)
    | .cl s' xs=>gd (s'=s∧0 < ys.length∧(xs.length+ys.length) * b≤140737488355328) (some ⟨.own d,[(d,some (.list e s (xs++ys)))],fp,[d]⟩)
    | _=>none
   | none=>none
  | none=>none
 | none=>none
theorem yw {P:Program} {t:TypeId} {x y:S} {d:Nat} {h:Nat→Option aA} {E:aM} {K:aM→Prop} (e:oC P t x y d h=some E) (hK:K E):oW P t x y d h K:=by
 unfold oC at e
 unfold oW
 split at e
 ·rename_i e0 he
  split at e
  ·rename_i s b hs
   split at e
   ·rename_i ys fp hsrc
    split at e
    ·rename_i l
     split at e
     ·rename_i e' s' xs hl
      rw[aN]at e
      obtain⟨⟨h1,h2,h3,h4⟩,h5⟩:=e
      unfold j5
      simp only[he,hs,hsrc,hl]
      refine⟨h1,h2,h3,?_⟩
      rw[if_pos h4]
      cases h5;exact hK
     ·cases e
    ·rw[aN]at e
     obtain⟨h4,h5⟩:=e
     unfold j5
     simp only[he,hs,hsrc]
     rw[if_pos h4]
     cases h5;exact hK
    ·rw[aN]at e
     obtain⟨⟨h1,h3,h4⟩,h5⟩:=e
     unfold j5
     simp only[he,hs,hsrc]
     refine⟨h1,h3,?_⟩
     rw[if_pos h4]
     cases h5;exact hK
    ·cases e
   ·cases e
  ·cases e
 ·cases e
def yM:List T→Bool
 | []=>true
 | x :: r=>Nat.beq x.width 1 && yM r
theorem qZ:∀ {xs:List T},yM xs=true→∀ z∈xs,z.width=1
 | [],_,z,hz=>by cases hz
 | x :: r,h,z,hz=>by
  simp only[yM,Bool.and_eq_true]at h
  rcases List.mem_cons.1 hz with rfl|hz
  ·exact Nat.eq_of_beq_eq_true h.1
  ·exact qZ h.2 z hz
def xv (P:Program) (t:TypeId) (x y:S) (h:Nat→Option aA):Option aM:=match aK P t with
 | some e=>gd (bY P e=some 1) (match nz h 1 y with
  | some (
      ys,fp)=>match x with
   | .wn l p off n=>match h l with
    | some (.box be c)=>match S.at c p with
     | some (o,.t (.agg zs))=>gd (o=off∧n=zs.length∧yM zs=true) (match S.set c p (.t (.agg (ys.take (min ys.length zs.length)++zs.drop (min ys.length zs.length)))) with
      | some c'=>some ⟨.t (.int (min ys.length zs.length:Nat)),[(l,some (.box be c'))],l :: fp,[]⟩
      | none=>none)
     | _=>none
    | _=>none
   | _=>none
  | none=>none)
 | none=>none
theorem qY {P:Program} {t:TypeId} {x y:S} {h:Nat→Option aA} {E:aM} {K:aM→Prop} (e:xv P t x y h=some E) (hK:K E):nO P t x y h K:=by
 unfold xv at e;unfold nO
 split at e
 ·rename_i e0 he
  rw[aN]at e
  obtain⟨e1,e2⟩:=e
  simp only[he]
  refine⟨e1,?_⟩
  split at e2
  ·split at e2
   ·split at e2
    ·split at e2
     ·rw[aN]at e2
      obtain⟨⟨h1,h2,h3⟩,h4⟩:=e2
      split at h4
      ·rename_i hl _ _ _ hat _ c' hset
       simp only[*]
       refine⟨trivial,trivial,qZ h3,?_⟩
       cases h4;exact hK
      ·cases h4
     ·cases e2
    ·cases e2
   ·cases e2
  ·cases e2
 ·cases e
theorem CO {P:Program} {t:TypeId} {x y:S} {h:Nat→Option aA} {E:aM} {K:aM→Prop} (e:xv P t x y h=some E) (hK:K E):BB P t x y h K:=by
 unfold BB
 split
 ·exfalso
  unfold xv at e
  cases he:aK P t<;>rw[he]at e
  ·cases e
  ·simp only[aN]at e
   obtain⟨_,e⟩:=e
   cases hs:nz h 1 y<;>rw[hs]at e<;>cases e
 ·unfold zk
  split
  ·exfalso
   unfold xv at e
   cases he:aK P t<;>rw[he]at e
   ·cases e
   ·simp only[aN]at e
    obtain⟨_,e⟩:=e
    cases e
  ·exact qY e hK
 ·exact qY e hK
def Dn (P:Program) (b:Builtin) (az:List S) (ts:List TypeId) (d:Nat) (h:Nat→Option aA):Option aM:=match b,az,ts with
 | .len,[x],[t]=>Pd P t x h
 | .append,[x,y],[t,t']=>gd (t'=t) (oC P t x y d h)
 | .copy,[x,y],[t,_]=>xv P t x y h
 | .min,[x,y],_=>Pu x y
 | .max,[x,y],_=>Pr x y
 | _,_,_=>none
theorem vY {P:Program} {t t':TypeId} {x y:S} {d:Nat} {h:Nat→Option aA} {E:aM} {K:aM→Prop} (h1:t'=t) (e:oC P t x y d h=some E) (hK:K E):l4 P t t' x y d h K:=by
 unfold l4
 split
 ·unfold oC at e
  simp only[nz]at e
  split at e
  ·split at e<;>cases e
  ·cases e
 ·exact⟨h1,yw e hK⟩
theorem zW {P:Program} {b:Builtin} {az:List S} {ts:List TypeId} {d:Nat} {h:Nat→Option aA} {E:aM} {K:aM→Prop} (e:Dn P b az ts d h=some E) (hK:K E):ur P b az ts d h K:=by
 unfold Dn at e;unfold ur
 split at e
 ·exact HK e hK
 ·rw[aN]at e;exact vY e.1 e.2 hK
 ·exact CO e hK
 ·exact HF e hK
 ·exact GK e hK
 ·cases e
def I0 (P:Program) (cf:FuncId→List S→Option aM) (c:Call) (d:Nat) (R:Operand→S) (h:Nat→Option aA):Option aM:=match c.callee with
 | .builtin b=>Dn P b (c.args.toList.map R) c.argTypes.toList d h
 | .value x=>match R x with
  | .fn f caps=>gd (aw P f=true) (cf f (c.args.toList.map R++caps))
  | .fb f caps=>gd (aw P f=true) (cf f (caps++c.args.toList.map R))
  | .t (.lit v)=>match wS v with
   | some f=>gd (aw P f=true) (cf f (c.args.toList.map R))
   | none=>none
  | _=>none
 | _=>none
def Ih (P:Program) (h:Nat→Option aA) (cf:FuncId→List S→Option aM):Prop:=∀ f az E,cf f az=some E→qw P f az h E∧∀ l∈E.nw,100≤l
theorem Dt {P:Program} {cf:FuncId→List S→Option aM} {c:Call} {d:Nat} {R:Operand→S} {h:Nat→Option aA} {E:aM} {K:aM→Prop} (hcf:Ih P h cf) (e:I0 P cf c d R h=some E) (hK:K E):AN P c d R h K:=by
 unfold I0 at e;unfold AN
 split at e
 ·rename_i hc
  simp only[hc]
  exact zW e hK
 ·rename_i x hc
  simp only[hc]
  split at e
  ·rename_i hx
   rw[aN]at e
   obtain⟨h1,h2⟩:=hcf _ _ _ e.2
   simp only[hx]
   exact⟨e.1,E,h1,h2,hK⟩
  ·rename_i hx
   rw[aN]at e
   obtain⟨h1,h2⟩:=hcf _ _ _ e.2
   simp only[hx]
   exact⟨e.1,E,h1,h2,hK⟩
  ·rename_i hx
   split at e
   ·rename_i hl
    rw[aN]at e
    obtain⟨h1,h2⟩:=hcf _ _ _ e.2
    simp only[hx,hl]
    exact⟨e.1,E,h1,h2,hK⟩
   ·cases e
  ·cases e
 ·cases e
def qu (fn:Fn) (first:List S) (caps:List S):Option aM:=match fn,first with
 | .func f,[]=>some ⟨.fn f caps,[],[],[]⟩
 | .func f,x :: r=>match caps with
  | []=>some ⟨.fb f (x :: r),[],[],[]⟩
  | _=>none
 | _,_=>none
theorem tZ {fn:Fn} {first caps:List S} {E:aM} {K:aM→Prop} (e:qu fn first caps=some E) (hK:K E):jV fn first caps K:=by
 unfold qu at e;unfold jV;(repeat' split at e)<;>simp_all
def HS:List Nat→(Operand→S)→(Nat→Option aA)→((Operand→S)→(Nat→Option aA)→Option aM)→Option aM
 | [],R,h,A=>A R h
 | l :: r,R,h,A=>match h l with
  | some (.list e s xs)=>match HS r (fun y=>j6 l (.sl s xs) (R y)) (cY h l none) A with
   | some E=>some ⟨E.r,E.u++[(l,none)],l :: E.fp,E.nw⟩
   | none=>none
  | _=>HS r R h A
theorem mB {A:(Operand→S)→(Nat→Option aA)→Option aM} {B:(Operand→S)→(Nat→Option aA)→(aM→Prop)→Prop} (hA:∀ R h E (K:aM→Prop),A R h=some E→K E→B R h K) :
  ∀ (ls:List Nat) (R:Operand→S) (h:Nat→Option aA) (E:aM) (K:aM→Prop),HS ls R h A=some E→K E→vX ls R h B K
 | [],R,h,E,K,e,hK=>hA R h E K e hK
 | l :: r,R,h,E,K,e,hK=>by
  simp only[HS]at e
  simp only[vX]
  split at e
  ·split at e
   ·rename_i E' he
    cases e
    simp only[*]
    exact mB hA r _ _ E' _ he hK
   ·cases e
  ·rename_i hn
   split
   ·rename_i h2;exact (hn _ _ _ h2).elim
   ·exact mB hA r R h E K e hK
def Dw (P:Program) (t:TypeId) (x i:S):Option aM:=match x,i with
 | .t (.lit (.string b)),.t (.lit (.int _ n))=>gd (iS P t=true∧0≤n) (match b.data.toList[n.toNat]? with|some u=>some ⟨.t (.lit (.int .u8 u.toNat)),[],[],[]⟩|none=>none)
 | .t (.agg xs),.t (.lit (.int _ m))=>match dn P t with
  | some (n,e)=>match bY P e with
   | some s=>gd (0≤m∧m < (n:Int)) (match xs[m.toNat]? with|some y=>gd (T.widths (xs.take m.toNat)=m.toNat * s∧kO P e (.t y)) (some ⟨.t y,[],[],[]⟩)|none=>none)
   | none=>none
  | none=>none
 | _,_=>none
theorem Ay {P:Program} {t:TypeId} {x i:S} {E:aM} {K:aM→Prop} (e:Dw P t x i=some E) (hK:K E):tp P t x i K:=by
 unfold Dw at e;unfold tp
 split at e
 ·rw[aN]at e
  obtain⟨⟨h1,h2⟩,h3⟩:=e
  simp only
  refine⟨h1,?_⟩
  rw[if_pos h2]
  split at h3
  ·rename_i hu
   simp only[hu]
   cases h3;exact hK
  ·cases h3
 ·split at e
  ·rename_i ha
   split at e
   ·rename_i hs
    rw[aN]at e
    obtain⟨h1,h2⟩:=e
    simp only[ha,hs]
    rw[if_pos h1]
    split at h2
    ·rename_i hy
     rw[aN]at h2
     obtain⟨⟨h3,h4⟩,h5⟩:=h2
     simp only[hy]
     cases h5
     exact⟨h3,h4,hK⟩
    ·cases h2
   ·cases e
  ·cases e
 ·cases e
def QP (P:Program) (cf:FuncId→List S→Option aM) (o:Op) (d:Nat) (R:Operand→S) (h:Nat→Option aA):Option aM:=match o with
 | .move x=>some ⟨R x,[],[],[]⟩
 | .assign x=>some ⟨R x,[],[],[]⟩
 | .pick c x y=>KX (R c) (R x) (R y)
 | .alloc e=>Ex P e d
 | .box e x=>Ou e (R x) d
 | .load t x=>Lb P t (R x) h
 | .store t x v=>D6 P t (R x) (R v) h
 | .fieldAddr t x f=>n9 P t (R x) f
 | .indexAddr t x i=>nC P t (R x) (R i) h
 | .field t x f=>Ee P t (R x) f
 | .extract x i=>uB (R x) i
 | .binOp op t x y _=>I5 P op t x y R
 | .unOp op _ x=>Q8 op (R x)
 | .convert s t x=>KK P s t (R x) h
 | .buildSlice t n parts=>match zl R parts.toList with
  | some ys=>p9 P t n ys d
  | none=>HS (E2 R parts.toList) R h (fun R' _=>ji P t n (kz R' 0 parts.toList) d)
 | .makeSlice t x y=>nA P t (R x) (R y) d
 | .call c=>I0 P cf c d R h
 | .makeFunc fn first caps=>qu fn (first.toList.map R) (caps.toList.map R)
 | .nilCheck x=>OF (R x)
 | .slice t x lo hi mx=>match lo,hi,mx with
  | some y,some z,some u=>HS (Ar (R x)) R h (fun R' _=>sC P t (R' x) (jD R' y) (jD R' z) (jD R' u))
  | none,some z,some u=>Jb P t (R x) (jD R z) (jD R u)
  | lo,hi,mx=>Di P t (R x) (J7 R lo) (J7 R hi) mx h
 | .build t parts=>CX P t R parts.toList
 | .index t x i=>Dw P t (R x) (R i)
 | _=>none
theorem Bg {P:Program} {cf:FuncId→List S→Option aM} {o:Op} {d:Nat} {R:Operand→S} {h:Nat→Option aA} {E:aM} {K:aM→Prop} (hcf:Ih P h cf) (e:QP P cf o d R h=some E) (hK:K E):Lq P o d R h K:=by
 cases o<;>simp only[QP]at e<;>simp only[Lq]
 case move x=>cases e;exact hK
 case assign x=>cases e;exact hK
 case pick=>exact DZ e hK
 case alloc=>exact zK e hK
 case box=>exact Gb e hK
 case load=>exact CA e hK
 case store=>exact Ao e hK
 case fieldAddr=>exact rL e hK
 case indexAddr=>exact rR e hK
 case field=>exact Ae e hK
 case extract=>exact vL e hK
 case binOp=>exact Da e hK
 case unOp=>exact Jn e hK
 case convert=>exact D7 e hK
 case buildSlice=>
  split at e
  ·rename_i ys hys
   simp only[hys]
   exact tx e hK
  ·rename_i hys
   simp only[hys]
   exact mB (A:=fun R' _=>ji P _ _ (kz R' 0 _) d) (fun R h E K e hK=>pU e hK) _ _ _ _ _ e hK
 case makeSlice=>exact rV e hK
 case call=>exact Dt hcf e hK
 case makeFunc=>exact tZ e hK
 case nilCheck=>exact G4 e hK
 case slice t x lo hi mx=>
  split at e
  ·exact mB (A:=fun R' _=>sC P t (R' x) (jD R' _) (jD R' _) (jD R' _)) (fun R h E K e hK=>yZ e hK) _ _ _ _ _ e hK
  ·exact Eo e hK
  ·rename_i h1 h2
   split
   ·exact (h1 _ _ _ rfl rfl rfl).elim
   ·exact (h2 _ _ rfl rfl rfl).elim
   ·exact zY e hK
 case build=>exact AA e hK
 case index=>exact Ay e hK
 all_goals cases e
def Oz (u:List (Nat×Option aA)) (h:List (Nat×aA)):List (Nat×aA):=match u with
 | []=>h
 | q :: r=>mX (q :: r) h
theorem Mb (u:List (Nat×Option aA)) (h:List (Nat×aA)):Oz u h=mX u h:=by cases u<;>rfl
noncomputable def Od (g:List (Nat×S)) (k:Nat):S:=List.rec (motive:=fun _=>S) .dead (fun q _ ih=>Bool.rec (motive:=fun _=>S) ih q.2 (Nat.beq k q.1)) g
theorem C7 (g:List (Nat×S)):Od g=cQ g:=by
 funext k
 induction g with
 | nil=>rfl
 | cons q r ih=>
  obtain⟨t,s⟩:=q
  show Bool.rec (motive:=fun _=>S) (Od r k) s (Nat.beq k t)=_
  simp only[cQ]
  cases hb:Nat.beq k t
  ·rw[if_neg (by rintro rfl;rw[Nat.beq_refl]at hb;cases hb)]
   exact ih
  ·rw[if_pos (Nat.eq_of_beq_eq_true hb)]
noncomputable def yI (P:Program) (cf:St→FuncId→List S→Option aM) (all:List Oper):List Oper→St→List (Option aM)→Option (St×List (Option aM))
 | [],σ,acc=>some (σ,acc)
 | o :: r,σ,acc=>match o.guard with
  | none=>match QP P (cf σ) o.op (Lr o) (lg (Od σ.g)) (bc σ.h) with
   | some E=>if vP σ E.nw=true then yI P cf all r ⟨m7 o.dst E.r σ.g,Oz E.u σ.h⟩ (some E :: acc) else none
   | none=>none
  | some (
      j,b)=>match Ba all j with
   | some t=>match Od σ.g t with
    | .t (
       .lit (.bool c))=>if c=b then match QP P (cf ⟨(t,.t (.bool b)) :: σ.g,σ.h⟩) o.op (Lr o) (lg (Od ((t,.t (.bool b)) :: σ.g))) (bc σ.h) with
       | some E=>if vP ⟨(t,.t (.bool b)) :: σ.g,σ.h⟩ E.nw=true then yI P cf all r ⟨m7 o.dst E.r ((t,.t (.bool b)) :: σ.g),Oz E.u σ.h⟩ (some E :: acc) else none
       | none=>none
      else yI P cf all r ⟨m7 o.dst (.tup []) ((t,.t (.bool (!b))) :: σ.g),σ.h⟩ (none :: acc)
    | .tup []=>yI P cf all r ⟨m7 o.dst (.tup []) σ.g,σ.h⟩ (none :: acc)
    | _=>none
   | none=>none
theorem iy {P:Program} {cf:St→FuncId→List S→Option aM} {all:List Oper} {K:St→List (Option aM)→Prop} (hcf:∀ σ,Ih P (bc σ.h) (cf σ)):∀ (r:List Oper) (σ:St) (acc:List (Option aM)) (σ':St) (acc':List (Option aM)),
  yI P cf all r σ acc=some (σ',acc')→K σ' acc'→gS P all K r σ acc
 | [],σ,acc,σ',acc',e,hK=>by
  simp only[yI,Option.some.injEq,Prod.mk.injEq]at e
  obtain⟨rfl,rfl⟩:=e
  exact hK
 | o :: r,σ,acc,σ',acc',e,hK=>by
  unfold yI at e
  simp only[C7,Mb]at e
  unfold gS
  split at e
  ·rename_i hg
   simp only[hg]
   split at e
   ·rename_i E hE
    split at e
    ·rename_i hn
     exact Bg (hcf σ) hE ⟨hn,iy hcf r _ _ _ _ e hK⟩
    ·cases e
   ·cases e
  ·rename_i j b hg
   simp only[hg]
   split at e
   ·rename_i t ht
    simp only[ht]
    split at e
    ·rename_i c hc
     simp only[hc]
     split at e
     ·rename_i hcb
      rw[if_pos hcb]
      split at e
      ·rename_i E hE
       split at e
       ·rename_i hn
        exact Bg (hcf ⟨(t,.t (.bool b)) :: σ.g,σ.h⟩) hE ⟨hn,iy hcf r _ _ _ _ e hK⟩
       ·cases e
      ·cases e
     ·rename_i hcb
      rw[if_neg hcb]
      exact iy hcf r _ _ _ _ e hK
    ·rename_i hc
     simp only[hc]
     exact iy hcf r _ _ _ _ e hK
    ·cases e
   ·cases e
end Go.Proofs.YtocndodilpimnaaGreat.Sy
