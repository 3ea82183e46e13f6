/- Several texts of this proof, one behind the other. No condition. -/
import Derived.Test.YtocndodilpimnaaGreatTThesB22
import Derived.Test.YtocndodilpimnaaGreatTThesB17
set_option maxRecDepth 100000
set_option maxHeartbeats 16000000
set_option linter.unusedVariables false
set_option linter.unusedSimpArgs false
namespace Go.Proofs.YtocndodilpimnaaGreat.Sy
open Go.RowKit
def um:List (Nat×Nat)→Nat→Option Nat
 | [],_=>none
 | (l,l') :: r,k=>bif Nat.beq k l then some l' else um r k
theorem rZ:∀ {m:List (Nat×Nat)} {l l':Nat},um m l=some l'→(l,l')∈m
 | [],l,l',h=>by cases h
 | (k,k') :: r,l,l',h=>by
  simp only[um]at h
  cases hb:Nat.beq l k<;>rw[hb]at h
  ·exact List.mem_cons_of_mem _ (rZ h)
  ·have:=Nat.eq_of_beq_eq_true hb
   subst this
   simp at h;subst h;simp
mutual
def S.rel (m:List (Nat×Nat)):S→Option S
 | .dead=>some .dead
 | .t x=>some (.t x)
 | .rp x=>some (.rp x)
 | .own l=>match um m l with
  | some k=>some (.own k)
  | none=>none
 | .pt l p o=>match um m l with
  | some k=>some (.pt k p o)
  | none=>none
 | .wn l p o n=>match um m l with
  | some k=>some (.wn k p o n)
  | none=>none
 | .cl _ _=>none
 | .ag fs=>match S.rels m fs with
  | some gs=>some (.ag gs)
  | none=>none
 | .tup fs=>match S.rels m fs with
  | some gs=>some (.tup gs)
  | none=>none
 | .fn f fs=>match S.rels m fs with
  | some gs=>some (.fn f gs)
  | none=>none
 | .fb f fs=>match S.rels m fs with
  | some gs=>some (.fb f gs)
  | none=>none
def S.rels (m:List (Nat×Nat)):List S→Option (List S)
 | []=>some []
 | x :: r=>match x.rel m with
  | some y=>match S.rels m r with
   | some q=>some (y :: q)
   | none=>none
  | none=>none
end
section
variable {m:List (Nat×Nat)}
mutual
theorem pI:∀ (s s':S),s.rel m=some s'→s'.width=s.width
 | .dead,s',h=>by simp only[S.rel]at h;cases h;rfl
 | .t x,s',h=>by simp only[S.rel]at h;cases h;rfl
 | .rp x,s',h=>by simp only[S.rel]at h;cases h;rfl
 | .own l,s',h=>by simp only[S.rel]at h;split at h<;>cases h;rfl
 | .pt l p o,s',h=>by simp only[S.rel]at h;split at h<;>cases h;rfl
 | .wn l p o n,s',h=>by simp only[S.rel]at h;split at h<;>cases h;rfl
 | .cl _ _,s',h=>by simp only[S.rel]at h;cases h
 | .ag fs,s',h=>by
  simp only[S.rel]at h
  split at h
  ·rename_i gs hg
   cases h
   simp only[S.width]
   exact qF fs gs hg
  ·cases h
 | .tup fs,s',h=>by simp only[S.rel]at h;split at h<;>cases h;rfl
 | .fn f fs,s',h=>by simp only[S.rel]at h;split at h<;>cases h;rfl
 | .fb f fs,s',h=>by simp only[S.rel]at h;split at h<;>cases h;rfl
theorem qF:∀ (fs gs:List S),S.rels m fs=some gs→S.widths gs=S.widths fs
 | [],gs,h=>by simp only[S.rels]at h;cases h;rfl
 | x :: r,gs,h=>by
  simp only[S.rels]at h
  split at h
  ·rename_i y hy
   split at h
   ·rename_i q hq
    cases h
    simp only[S.widths]
    rw[pI x y hy,qF r q hq]
   ·cases h
  ·cases h
end
section
variable {ρ:List (Nat×Option Nat)} {h:Nat→Option aA}
mutual
theorem uk (hm:∀ l l',um m l=some l'→kp ρ l'=some (some l)):∀ (s s':S),s.rel m=some s'→kD ρ h s s'
 | .dead,s',e=>by simp only[S.rel]at e;cases e;unfold kD;trivial
 | .t x,s',e=>by simp only[S.rel]at e;cases e;unfold kD;exact bx x
 | .rp x,s',e=>by simp only[S.rel]at e;cases e;unfold kD;rfl
 | .own l,s',e=>by
  simp only[S.rel]at e
  split at e
  ·rename_i k hk
   cases e;unfold kD;exact hm _ _ hk
  ·cases e
 | .pt l p o,s',e=>by
  simp only[S.rel]at e
  split at e
  ·rename_i k hk
   cases e;unfold kD;exact⟨hm _ _ hk,rfl,rfl⟩
  ·cases e
 | .wn l p o n,s',e=>by
  simp only[S.rel]at e
  split at e
  ·rename_i k hk
   cases e;unfold kD;exact⟨hm _ _ hk,rfl,rfl,rfl⟩
  ·cases e
 | .cl _ _,s',e=>by simp only[S.rel]at e;cases e
 | .ag fs,s',e=>by
  simp only[S.rel]at e
  split at e
  ·rename_i gs hg
   cases e;unfold kD;exact xP hm fs gs hg
  ·cases e
 | .tup fs,s',e=>by
  simp only[S.rel]at e
  split at e
  ·rename_i gs hg
   cases e;unfold kD;exact mR hm fs gs hg
  ·cases e
 | .fn f fs,s',e=>by
  simp only[S.rel]at e
  split at e
  ·rename_i gs hg
   cases e;unfold kD;exact⟨rfl,mR hm fs gs hg⟩
  ·cases e
 | .fb f fs,s',e=>by
  simp only[S.rel]at e
  split at e
  ·rename_i gs hg
   cases e;unfold kD;exact⟨rfl,mR hm fs gs hg⟩
  ·cases e
theorem xP (hm:∀ l l',um m l=some l'→kp ρ l'=some (some l)):∀ (fs gs:List S),S.rels m fs=some gs→pj ρ h fs gs
 | [],gs,e=>by simp only[S.rels]at e;cases e;unfold pj;trivial
 | x :: r,gs,e=>by
  simp only[S.rels]at e
  split at e
  ·rename_i y hy
   split at e
   ·rename_i q hq
    cases e
    unfold pj
    exact⟨pI x y hy,uk hm x y hy,xP hm r q hq⟩
   ·cases e
  ·cases e
theorem mR (hm:∀ l l',um m l=some l'→kp ρ l'=some (some l)):∀ (fs gs:List S),S.rels m fs=some gs→ie ρ h fs gs
 | [],gs,e=>by simp only[S.rels]at e;cases e;unfold ie;trivial
 | x :: r,gs,e=>by
  simp only[S.rels]at e
  split at e
  ·rename_i y hy
   split at e
   ·rename_i q hq
    cases e
    unfold ie
    exact⟨uk hm x y hy,mR hm r q hq⟩
   ·cases e
  ·cases e
end
end
section
variable {ρ:List (Nat×Nat)}
mutual
theorem yW (hm:∀ l l',um m l=some l'→rn ρ l'=l):∀ (s s':S),s.rel m=some s'→s=s'.ren ρ
 | .dead,s',e=>by simp only[S.rel]at e;cases e;unfold S.ren;rfl
 | .t x,s',e=>by simp only[S.rel]at e;cases e;unfold S.ren;rfl
 | .rp x,s',e=>by simp only[S.rel]at e;cases e;unfold S.ren;rfl
 | .own l,s',e=>by
  simp only[S.rel]at e
  split at e
  ·rename_i k hk
   cases e;unfold S.ren;rw[hm _ _ hk]
  ·cases e
 | .pt l p o,s',e=>by
  simp only[S.rel]at e
  split at e
  ·rename_i k hk
   cases e;unfold S.ren;rw[hm _ _ hk]
  ·cases e
 | .wn l p o n,s',e=>by
  simp only[S.rel]at e
  split at e
  ·rename_i k hk
   cases e;unfold S.ren;rw[hm _ _ hk]
  ·cases e
 | .cl _ _,s',e=>by simp only[S.rel]at e;cases e
 | .ag fs,s',e=>by
  simp only[S.rel]at e
  split at e
  ·rename_i gs hg
   cases e;unfold S.ren;rw[lJ hm fs gs hg]
  ·cases e
 | .tup fs,s',e=>by
  simp only[S.rel]at e
  split at e
  ·rename_i gs hg
   cases e;unfold S.ren;rw[lJ hm fs gs hg]
  ·cases e
 | .fn f fs,s',e=>by
  simp only[S.rel]at e
  split at e
  ·rename_i gs hg
   cases e;unfold S.ren;rw[lJ hm fs gs hg]
  ·cases e
 | .fb f fs,s',e=>by
  simp only[S.rel]at e
  split at e
  ·rename_i gs hg
   cases e;unfold S.ren;rw[lJ hm fs gs hg]
  ·cases e
theorem lJ (hm:∀ l l',um m l=some l'→rn ρ l'=l):∀ (fs gs:List S),S.rels m fs=some gs→fs=S.rens ρ gs
 | [],gs,e=>by simp only[S.rels]at e;cases e;unfold S.rens;rfl
 | x :: r,gs,e=>by
  simp only[S.rels]at e
  split at e
  ·rename_i y hy
   split at e
   ·rename_i q hq
    cases e
    unfold S.rens
    rw[←yW hm x y hy,←lJ hm r q hq]
   ·cases e
  ·cases e
end
end
end
def aA.rel (m:List (Nat×Nat)):aA→Option aA
 | .list e s xs=>some (.list e s xs)
 | .box e c=>match c.rel m with
  | some c'=>bif c'.solid then some (.box e c') else none
  | none=>none
 | .rows e s us []=>some (.rows e s us [])
 | .rows _ _ _ (_ :: _)=>none
theorem Ga {m:List (Nat×Nat)} {ρ:List (Nat×Option Nat)} {h:Nat→Option aA} (hm:∀ l l',um m l=some l'→kp ρ l'=some (some l)) {b b':aA} (e:b.rel m=some b'):PN ρ h b b':=by
 cases b with
 | list e0 s xs=>simp only[aA.rel]at e;cases e;exact⟨rfl,rfl,rfl⟩
 | box e0 c=>
  simp only[aA.rel]at e
  split at e
  ·rename_i c' hc
   cases hs:c'.solid<;>rw[hs]at e<;>simp at e
   subst e
   exact⟨rfl,pI _ _ hc,hs,uk hm _ _ hc⟩
  ·cases e
 | rows e0 s us ex=>
  cases ex with
  | nil=>simp only[aA.rel]at e;cases e;exact⟨rfl,rfl,rfl,trivial⟩
  | cons q r=>simp only[aA.rel]at e;cases e
theorem CF {m ρ:List (Nat×Nat)} (hm:∀ l l',um m l=some l'→rn ρ l'=l) {b b':aA} (e:b.rel m=some b'):b=b'.ren ρ:=by
 cases b with
 | list e0 s xs=>simp only[aA.rel]at e;cases e;rfl
 | box e0 c=>
  simp only[aA.rel]at e
  split at e
  ·rename_i c' hc
   cases hs:c'.solid<;>rw[hs]at e<;>simp at e
   subst e
   simp only[aA.ren]
   rw[←yW hm _ _ hc]
  ·cases e
 | rows e0 s us ex=>
  cases ex with
  | nil=>simp only[aA.rel]at e;cases e;rfl
  | cons q r=>simp only[aA.rel]at e;cases e
def vD (m:List (Nat×Nat)) (h:List (Nat×aA)):List (Nat×Nat)→Option (List (Nat×aA))
 | []=>some []
 | (l,l') :: r=>match bc h l with
  | some b=>match b.rel m with
   | some b'=>match vD m h r with
    | some q=>some ((l',b') :: q)
    | none=>none
   | none=>none
  | none=>none
theorem zo {m:List (Nat×Nat)} {ρ:List (Nat×Option Nat)} {h:List (Nat×aA)} (hm:∀ l l',um m l=some l'→kp ρ l'=some (some l)):∀ {r:List (Nat×Nat)} {q:List (Nat×aA)},(∀ p∈r,kp ρ p.2=some (some p.1))→vD m h r=some q→vR ρ (bc h) q
 | [],q,_,e=>by simp only[vD]at e;cases e;unfold vR;trivial
 | (l,l') :: r,q,hr,e=>by
  simp only[vD]at e
  split at e
  ·rename_i b hb
   split at e
   ·rename_i b' hb'
    split at e
    ·rename_i q' hq
     cases e
     unfold vR
     have h1:=hr (l,l') (by simp)
     simp only at h1
     refine⟨?_,zo hm (fun p hp=>hr p (List.mem_cons_of_mem _ hp)) hq⟩
     simp only[h1,hb]
     exact Ga hm hb'
    ·cases e
   ·cases e
  ·cases e
theorem A5 {m ρ:List (Nat×Nat)} {h:List (Nat×aA)} (hm:∀ l l',um m l=some l'→rn ρ l'=l):∀ {r:List (Nat×Nat)} {q:List (Nat×aA)},(∀ p∈r,rn ρ p.2=p.1)→vD m h r=some q→m0 ρ (bc h) q
 | [],q,_,e=>by simp only[vD]at e;cases e;unfold m0;trivial
 | (l,l') :: r,q,hr,e=>by
  simp only[vD]at e
  split at e
  ·rename_i b hb
   split at e
   ·rename_i b' hb'
    split at e
    ·rename_i q' hq
     cases e
     unfold m0
     have h1:=hr (l,l') (by simp)
     simp only at h1
     refine⟨?_,A5 hm (fun p hp=>hr p (List.mem_cons_of_mem _ hp)) hq⟩
     rw[h1,hb,←CF hm hb']
    ·cases e
   ·cases e
  ·cases e
def DY (m:List (Nat×Nat)):List (Nat×S)→Nat→List (Nat×S)
 | [],_=>[]
 | (t,s) :: r,seen=>bif mo seen t then DY m r seen else match s.rel m with
  | some s'=>(t,s') :: DY m r (Nat.lor seen (Nat.shiftLeft 1 t))
  | none=>DY m r (Nat.lor seen (Nat.shiftLeft 1 t))
theorem Bf (seen t k:Nat):mo (Nat.lor seen (Nat.shiftLeft 1 t)) k=(mo seen k || decide (t=k)):=by
 rw[r9,r9]
 show (seen ||| 1 <<< t).testBit k=_
 rw[Nat.testBit_or,Nat.one_shiftLeft,Nat.testBit_two_pow]
theorem sj {m:List (Nat×Nat)} {ρ:List (Nat×Option Nat)} {h:Nat→Option aA} {g:List (Nat×S)} (hm:∀ l l',um m l=some l'→kp ρ l'=some (some l)):∀ (r:List (Nat×S)) (seen:Nat),(∀ t,mo seen t=false→cQ g t=cQ r t)→OP ρ h (cQ g) (DY m r seen)
 | [],seen,_=>by unfold DY OP;trivial
 | (t,s) :: r,seen,hr=>by
  unfold DY
  cases hb:mo seen t<;>simp only[cond_true,cond_false]
  ·have h1:cQ g t=s:=by rw[hr t hb];simp[cQ]
   have h2:∀ k,mo (Nat.lor seen (Nat.shiftLeft 1 t)) k=false→cQ g k=cQ r k:=by
    intro k hk
    rw[Bf]at hk
    simp only[Bool.or_eq_false_iff,decide_eq_false_iff_not]at hk
    rw[hr k hk.1]
    simp only[cQ]
    rw[if_neg (fun e=>hk.2 e.symm)]
   split
   ·rename_i s' hs
    unfold OP
    refine⟨?_,sj hm r _ h2⟩
    rw[h1]
    exact uk hm _ _ hs
   ·exact sj hm r _ h2
  ·refine sj hm r seen fun k hk=>?_
   rw[hr k hk]
   simp only[cQ]
   rw[if_neg]
   rintro rfl
   rw[hb]at hk;cases hk
def EP:List (Nat×aA)→Nat→List (Nat×Nat)
 | [],_=>[]
 | (l,_) :: r,k=>bif Nat.blt l 100 then (l,l) :: EP r k else (l,500+k) :: EP r (k+1)
def Ax (h:List (Nat×aA)) (m:List (Nat×Nat)):List (Nat×Nat):=m.filter fun q=>match bc h q.1 with
 | some b=>(b.rel m).isSome
 | none=>false
def rF (m:List (Nat×Nat)):List (Nat×Option Nat):=m.map fun q=>(q.2,some q.1)
def I7 (m:List (Nat×Nat)) (ρ:List (Nat×Option Nat)):Bool:=m.all fun q=>match kp ρ q.2 with
 | some (some l)=>Nat.beq l q.1
 | _=>false
theorem wQ {m:List (Nat×Nat)} {ρ:List (Nat×Option Nat)} (h:I7 m ρ=true):∀ p∈m,kp ρ p.2=some (some p.1):=by
 intro p hp
 have:=List.all_eq_true.1 h p hp
 split at this
 ·rename_i l hl
  rw[hl,Nat.eq_of_beq_eq_true this]
 ·cases this
def CN (σ:St):Option St:=
 let m:=Ax σ.h (Ax σ.h (EP σ.h 0))
 let ρ:=rF m
 bif eh ρ && I7 m ρ then match vD m σ.h m with
  | some h'=>some ⟨DY m σ.g 0,h'⟩
  | none=>none
 else none
theorem Bx {σ σ':St} (h:CN σ=some σ'):∃ ρ,Wk ρ σ σ':=by
 unfold CN at h
 simp only at h
 generalize Ax σ.h (Ax σ.h (EP σ.h 0))=m at h
 cases hc:(eh (rF m) && I7 m (rF m))<;>rw[hc]at h<;>simp only[cond_true,cond_false]at h
 ·cases h
 rw[Bool.and_eq_true]at hc
 split at h
 ·rename_i h' hh
  cases h
  have h1:=wQ hc.2
  have hm:∀ l l',um m l=some l'→kp (rF m) l'=some (some l):=fun l l' e=>h1 (l,l') (rZ e)
  exact⟨rF m,hc.1,sj hm σ.g 0 (fun t _=>rfl),zo hm h1 hh⟩
 ·cases h
mutual
def S.hot:S→Bool
 | .own l=>Nat.ble 100 l && Nat.blt l 500
 | .pt l _ _=>Nat.ble 100 l && Nat.blt l 500
 | .wn l _ _ _=>Nat.ble 100 l && Nat.blt l 500
 | .ag fs=>S.hots fs
 | .tup fs=>S.hots fs
 | .fn _ fs=>S.hots fs
 | .fb _ fs=>S.hots fs
 | _=>false
def S.hots:List S→Bool
 | []=>false
 | x :: r=>x.hot || S.hots r
end
def Oc:List (Nat×S)→Nat→Bool
 | [],k=>Nat.blt 90 k
 | (_,s) :: r,k=>s.hot || Oc r (k+1)
def Pv:List (Nat×aA)→Bool
 | []=>false
 | (l,_) :: r=>(Nat.ble 100 l && Nat.blt l 500) || Pv r
def IV (σ:St):Option St:=bif Pv σ.h || Oc σ.g 0 then CN σ else some σ
def QZ (σ σ':St):Prop:=∀ (N:Nat) (W:World) (G0:Gh) (A:Nat→Prop) (a:Act) (w:World),Sat N W G0 A σ a w→Sat N W G0 A σ' a w
theorem sV {σ σ':St} (h:IV σ=some σ'):QZ σ σ':=by
 unfold IV at h
 cases hc:(Pv σ.h || Oc σ.g 0)<;>rw[hc]at h<;>simp only[cond_true,cond_false]at h
 ·cases h
  exact fun _ _ _ _ _ _ h=>h
 ·obtain⟨ρ,hρ⟩:=Bx h
  exact fun _ _ _ _ _ _ h=>h.weak hρ
def FI (ops:List Oper) (i j:Nat):Bool:=match (ops.getD i default).dst with
 | some t=>!((ops.getD j default).looksAt ops.toArray).contains t
 | none=>true
def Ef (len:Nat) (rev:List Nat) (o:Oper):Nat:=(o.after.toList.filter fun e=>Region.binds .any e).foldr (fun e m=>Nat.lor (Nat.shiftLeft 1 e.on) (Nat.lor (bif Nat.blt e.on len then rev.getD (Nat.sub (Nat.sub len 1) e.on) 0 else 0) m)) 0
def lA:List Oper→Nat→List Nat→List Nat
 | [],_,rev=>rev.reverse
 | o :: r,len,rev=>lA r (len+1) (Ef len rev o :: rev)
def IE (ops:List Oper):List Nat:=lA ops 0 []
theorem GZ (acc:List Nat) (o:Oper):Ef acc.length acc.reverse o=wu acc o:=by
 unfold Ef wu
 congr 1
 funext e m
 have h:(bif Nat.blt e.on acc.length then acc.reverse.getD (Nat.sub (Nat.sub acc.length 1) e.on) 0 else 0)=acc.getD e.on 0:=by
  by_cases hl:e.on < acc.length
  ·have hb:Nat.blt e.on acc.length=true:=by simp[Nat.blt];omega
   rw[hb]
   show acc.reverse.getD (acc.length - 1 - e.on) 0=_
   simp only[cond_true,List.getD_eq_getElem?_getD]
   rw[List.getElem?_reverse (by omega)]
   congr 2
   omega
  ·have hb:Nat.blt e.on acc.length=false:=by
    cases h:Nat.blt e.on acc.length
    ·rfl
    ·exact (hl (by simp[Nat.blt]at h;omega)).elim
   rw[hb]
   simp only[cond_false,List.getD_eq_getElem?_getD]
   rw[List.getElem?_eq_none (by omega)]
   rfl
 rw[h]
theorem qJ:∀ (r:List Oper) (acc:List Nat),lA r acc.length acc.reverse=kA r acc
 | [],acc=>by simp[lA,kA]
 | o :: r,acc=>by
  simp only[lA,kA]
  rw[GZ,←qJ r (acc++[wu acc o])]
  simp
theorem BP (ops:List Oper):IE ops=G8 ops:=qJ ops []
def A2:List Tmp→Nat
 | []=>0
 | t :: r=>Nat.lor (A2 r) (Nat.shiftLeft 1 t)
theorem wJ (k:Nat):∀ l:List Tmp,mo (A2 l) k=l.contains k
 | []=>by simp[A2,r9]
 | t :: r=>by
  simp only[A2]
  rw[Bf,wJ k r]
  simp only[List.contains_cons,Bool.or_comm]
  congr 1
  by_cases h:t=k
  ·simp[h]
  ·have:¬ k=t:=fun e=>h e.symm
   simp[h,this]
structure Row where
 ix:Nat
 an:Nat
 look:Nat
 dst:Option Tmp
def rowsOf (ops:List Oper):List Row:=(List.range ops.length).map fun i=>⟨i,(IE ops).getD i 0,A2 ((ops.getD i default).looksAt ops.toArray),(ops.getD i default).dst⟩
def NZ (a b:Row):Bool:=Nat.beq a.ix b.ix || (mo b.an a.ix || (mo a.an b.ix || match a.dst with
 | some t=>!mo b.look t
 | none=>true))
def FX (ops:List Oper):Bool:=
 Region.noSelect ops.toArray && di (ops.filterMap (·.dst)) &&
 ((List.range ops.length).all fun j=>(ops.getD j default).after.toList.all fun e=>!Region.binds .any e || decide (e.on < j)) &&
 ((rowsOf ops).all fun b=>(rowsOf ops).all fun a=>NZ a b)
theorem CJ {ops:List Oper} (h:FX ops=true):∀ j < ops.length,((ops.getD j default).after.toList.all fun e=>!Region.binds .any e || decide (e.on < j))=true∧∀ i < ops.length,(i == j || (qO (G8 ops) i j || FI ops i j))=true:=by
 simp only[FX,Bool.and_eq_true,List.all_eq_true,List.mem_range]at h
 intro j hj
 refine⟨by simpa only[List.all_eq_true] using h.1.2 j hj,fun i hi=>?_⟩
 have hr:=h.2 _ (List.mem_map.2 ⟨j,List.mem_range.2 hj,rfl⟩) _ (List.mem_map.2 ⟨i,List.mem_range.2 hi,rfl⟩)
 simp only[NZ,BP,Bool.or_eq_true]at hr
 rw[Bool.or_eq_true,Bool.or_eq_true]
 rcases hr with hr|hr|hr|hr
 ·left;simpa using Nat.eq_of_beq_eq_true hr
 ·right;left;simp only[qO,Bool.or_eq_true];exact .inl hr
 ·right;left;simp only[qO,Bool.or_eq_true];exact .inr hr
 ·right;right
  unfold FI
  cases hd:(ops.getD i default).dst with
  | none=>rfl
  | some t=>
   rw[hd]at hr
   simp only at hr ⊢
   rw[wJ]at hr
   exact hr
def PY (ops:List Oper) (es:List (Option aM)):Bool:=
 let an:=IE ops
 let n:=ops.length
 (List.range n).all fun i=>
  (match (oN (es.getD i none)).u with
   | []=>true
   | u=>(List.range n).all fun j=>i == j || (qO an i j || u.all (fun q=>!(oN (es.getD j none)).fp.contains q.1 && !((oN (es.getD j none)).u.map (·.1)).contains q.1))) &&
  (match (oN (es.getD i none)).nw with
   | []=>true
   | _=>(List.range n).all fun k=>k == i || (mo (an.getD k 0) i || iz ops es k i))
def F3 (ops:List Oper) (es:List (Option aM)):Bool:=FX ops && (Nat.beq es.length ops.length && PY ops es)
theorem D4 {ops:List Oper} {es:List (Option aM)} (h:F3 ops es=true):mS ops es=true:=by
 simp only[F3,Bool.and_eq_true]at h
 obtain⟨h1,h2,h3⟩:=h
 have h5:=CJ h1
 simp only[FX,Bool.and_eq_true]at h1
 simp only[PY,BP,Bool.and_eq_true,List.all_eq_true,List.mem_range]at h3
 simp only[mS,Bool.and_eq_true,List.all_eq_true,List.mem_range,decide_eq_true_eq]
 refine⟨⟨⟨h1.1.1.1,Nat.eq_of_beq_eq_true h2⟩,h1.1.1.2⟩,fun j hj=>⟨by simpa only[List.all_eq_true] using (h5 j hj).1,fun i hi=>?_⟩⟩
 have a1:=(h5 j hj).2 i hi
 rw[Bool.or_eq_true]at a1 ⊢
 rcases a1 with a1|a1
 ·exact .inl a1
 by_cases hij:i=j
 ·left;simp[hij]
 right
 rw[Bool.and_eq_true]
 constructor
 ·rw[Bool.or_eq_true]at a1 ⊢
  rcases a1 with a1|a1
  ·exact .inl a1
  cases ho:qO (G8 ops) i j
  ·right
   have b1:=(h3 i hi).1
   unfold apart
   simp only[Bool.and_eq_true]
   refine⟨a1,?_⟩
   split at b1
   ·rename_i hu
    rw[hu];rfl
   ·rw[List.all_eq_true]at b1
    have b2:=b1 j (List.mem_range.2 hj)
    rw[Bool.or_eq_true,Bool.or_eq_true]at b2
    rcases b2 with b2|b2|b2
    ·exact (hij (by simpa using b2)).elim
    ·rw[ho]at b2;cases b2
    ·exact b2
  ·exact .inl rfl
 ·have b1:=(h3 j hj).2
  split at b1
  ·rename_i hu
   rw[Bool.or_eq_true];right
   unfold iz
   simp only
   rw[hu];rfl
  ·rw[List.all_eq_true]at b1
   have b2:=b1 i (List.mem_range.2 hi)
   rw[Bool.or_eq_true]at b2
   rcases b2 with b2|b2
   ·exact (hij (by simpa using b2)).elim
   ·exact b2
noncomputable def xC (body:St→Option (Exit×St)):Nat→St→Option (Exit×St)
 | 0,_=>none
 | k+1,σ=>match IV σ with
  | some σ1=>match body σ1 with
   | some (.normal,σ2)=>xC body k σ2
   | r=>r
  | none=>none
noncomputable def sS (P:Program) (cf:St→FuncId→List S→Option aM) (fuel:Nat):Code→St→Option (Exit×St)
 | .skip,σ=>some (.normal,σ)
 | .region _ ops false,σ=>match yI P cf ops.toList ops.toList σ []with
  | some (σ',_)=>some (.normal,σ')
  | none=>none
 | .region _ ops true,σ=>match yI P cf ops.toList ops.toList σ []with
  | some (σ',acc)=>bif F3 ops.toList acc.reverse && qP σ acc then some (.normal,σ') else none
  | none=>none
 | .seq a b,σ=>match sS P cf fuel a σ with
  | some (.normal,σ')=>sS P cf fuel b σ'
  | r=>r
 | .cond c x y,σ=>match lg (Od σ.g) c with
  | .t (.lit (.bool v))=>bif v then sS P cf fuel x σ else sS P cf fuel y σ
  | _=>none
 | .block id c,σ=>match sS P cf fuel c σ with
  | some (.exit i,σ')=>bif Nat.beq i id then some (.normal,σ') else some (.exit i,σ')
  | r=>r
 | .exit id,σ=>some (.exit id,σ)
 | .ret,σ=>some (.ret,σ)
 | .loop c,σ=>xC (sS P cf fuel c) fuel σ
 | .scope c,σ=>match sS P cf fuel c σ with
  | some (.goto _,_)=>none
  | r=>r
 | .label _,σ=>some (.normal,σ)
 | _,_=>none
section
variable {N:Nat} {P:Program} {cf:St→FuncId→List S→Option aM} {fuel:Nat}
def OK {ι:Type} (I:ι→St) (Inv:ι→Prop) (μ:ι→Nat) (i:ι) (Q:Exit→St→Prop) (e:Exit) (σ:St):Prop:=match e with
 | .normal=>∃ j,Inv j∧μ j < μ i∧QZ σ (I j)
 | e=>Q e σ
theorem CW.loopI {ι:Type} {Q:Exit→St→Prop} (I:ι→St) (Inv:ι→Prop) (μ:ι→Nat) (i0:ι) {c:Code} {σ:St} (h0:Inv i0) (hstart:QZ σ (I i0))
  (round:∀ i,Inv i→CW N P c (OK I Inv μ i Q) (I i)):CW N P (.loop c) Q σ:=by
 intro hm hc W G0 A a w hs
 simp only[bE]at hc
 classical
 let J:Act→World→ι→Prop:=fun a w i=>Inv i∧Sat N W G0 A (I i) a w
 have key:∀ n,∀ a w i,J a w i→μ i=n→∀ (b:Frame) (k:List Item) (cs:List Frame),∃ e a' w',(∃ σ',Q e σ'∧Sat N W G0 A σ' a' w')∧Arrives P (lone (b.at a (.code c :: .inLoop c :: k)) cs w) b k cs e a' w':=by
  intro n
  induction n using Nat.strongRecOn with
  | _ n ih=>
   rintro a w i ⟨hi,hs⟩ hn b k cs
   obtain⟨e,a₁,w₁,⟨σ',hq,hs'⟩,harr⟩:=round i hi hm hc W G0 A a w hs b (.inLoop c :: k) cs
   cases e with
   | normal=>
    obtain⟨j,hj,hlt,hw⟩:=hq
    obtain⟨e₂,a₂,w₂,hq₂,harr₂⟩:=ih (μ j) (by omega) a₁ w₁ j ⟨hj,hw N W G0 A a₁ w₁ hs'⟩ rfl b k cs
    exact⟨e₂,a₂,w₂,hq₂,.of_steps (Steps.trans harr (.one step_inLoop)) harr₂⟩
   | exit id=>exact⟨_,a₁,w₁,⟨σ',hq,hs'⟩,.pass (x:=.inLoop c) rfl (fun _ _=> .inl (by simp)) harr⟩
   | goto l=>exact⟨_,a₁,w₁,⟨σ',hq,hs'⟩,.pass (x:=.inLoop c) rfl (fun _ _=> .inl (by simp)) harr⟩
   | ret=>exact⟨_,a₁,w₁,⟨σ',hq,hs'⟩,.pass (x:=.inLoop c) rfl (fun _ _=> .inl (by simp)) harr⟩
   | panic ch=>exact⟨_,a₁,w₁,⟨σ',hq,hs'⟩,.pass (x:=.inLoop c) rfl (fun _ _=> .inl (by simp)) harr⟩
   | outgrown=>exact⟨_,a₁,w₁,⟨σ',hq,hs'⟩,.pass (x:=.inLoop c) rfl (fun _ _=> .inl (by simp)) harr⟩
 intro b k cs
 obtain⟨e,a',w',hq,harr⟩:=key _ a w i0 ⟨h0,hstart N W G0 A a w hs⟩ rfl b k cs
 exact⟨e,a',w',hq,.of_steps (.one step_loop) harr⟩
theorem AD {c:Code} {body:St→Option (Exit×St)} (hb:∀ (σ σ':St) (e:Exit) (Q:Exit→St→Prop),body σ=some (e,σ')→Q e σ'→CW N P c Q σ) (n:Nat) (σ σ':St) (e:Exit) (Q:Exit→St→Prop) (h:xC body n σ=some (e,σ')) (hq:Q e σ'):CW N P (.loop c) Q σ:=by
 cases n with
 | zero=>cases h
 | succ n=>
  simp only[xC]at h
  split at h
  ·rename_i σ1 h1
   refine CW.loopI (ι:=Nat×St) (fun i=>i.2) (fun i=>(match body i.2 with|some (.normal,σ2)=>xC body i.1 σ2|r=>r)=some (e,σ')) (fun i=>i.1) (n,σ1) h (sV h1) ?_
   rintro ⟨k,σ2⟩ hi
   simp only at hi ⊢
   split at hi
   ·rename_i σ3 h3
    cases k with
    | zero=>cases hi
    | succ k=>
     simp only[xC]at hi
     split at hi
     ·rename_i σ4 h4
      exact hb σ2 σ3 .normal _ h3 ⟨(k,σ4),hi,Nat.lt_succ_self k,sV h4⟩
     ·cases hi
   ·rename_i r hr
    refine hb σ2 σ' e _ hi ?_
    cases e with
    | normal=>exact (hr _ hi).elim
    | _=>exact hq
  ·cases h
theorem dW (hcf:∀ σ,Ih P (bc σ.h) (cf σ)):∀ (c:Code) (σ σ':St) (e:Exit) (Q:Exit→St→Prop),sS P cf fuel c σ=some (e,σ')→Q e σ'→CW N P c Q σ
 | .skip,σ,σ',e,Q,h,hq=>by
  simp only[sS]at h;cases h
  exact et (stop:=[]) .skip Q σ hq
 | .region id ops false,σ,σ',e,Q,h,hq=>by
  simp only[sS]at h
  split at h
  ·rename_i σ1 acc h1
   cases h
   exact CW.region (iy hcf _ _ _ _ _ h1 hq)
  ·cases h
 | .region id ops true,σ,σ',e,Q,h,hq=>by
  simp only[sS]at h
  split at h
  ·rename_i σ1 acc h1
   cases hc:(F3 ops.toList acc.reverse && qP σ acc)<;>rw[hc]at h<;>simp only[cond_true,cond_false]at h
   ·cases h
   ·cases h
    rw[Bool.and_eq_true]at hc
    exact CW.draws (iy hcf _ _ _ _ _ h1 ⟨vq (by rw[Bool.and_eq_true];exact⟨D4 hc.1,hc.2⟩),hq⟩)
  ·cases h
 | .seq a b,σ,σ',e,Q,h,hq=>by
  simp only[sS]at h
  split at h
  ·rename_i σ1 h1
   exact CW.seq (dW hcf a σ σ1 .normal _ h1 (dW hcf b σ1 σ' e Q h hq))
  ·rename_i r hr
   refine CW.seq (dW hcf a σ σ' e _ h ?_)
   cases e with
   | normal=>exact (hr _ h).elim
   | _=>exact hq
 | .cond c x y,σ,σ',e,Q,h,hq=>by
  simp only[sS]at h
  split at h
  ·rename_i v hv
   rw[C7]at hv
   refine CW.cond hv ?_
   cases v
   ·exact dW hcf y σ σ' e Q h hq
   ·exact dW hcf x σ σ' e Q h hq
  ·cases h
 | .block id c,σ,σ',e,Q,h,hq=>by
  simp only[sS]at h
  refine CW.block ?_
  split at h
  ·rename_i i σ1 h1
   refine dW hcf c σ σ1 (.exit i) _ h1 ?_
   simp only[iH]
   cases hb:Nat.beq i id<;>rw[hb]at h<;>simp only[cond_true,cond_false]at h<;>cases h
   ·rw[if_neg (by intro he;subst he;rw[Nat.beq_refl]at hb;cases hb)]
    exact hq
   ·rw[if_pos (Nat.eq_of_beq_eq_true hb)]
    exact hq
  ·rename_i r hr
   refine dW hcf c σ σ' e _ h ?_
   cases e with
   | exit i=>exact (hr _ _ h).elim
   | _=>exact hq
 | .exit id,σ,σ',e,Q,h,hq=>by
  simp only[sS]at h;cases h
  exact et (stop:=[]) (.exit id) Q σ hq
 | .ret,σ,σ',e,Q,h,hq=>by
  simp only[sS]at h;cases h
  exact et (stop:=[]) .ret Q σ hq
 | .loop c,σ,σ',e,Q,h,hq=>by
  simp only[sS]at h
  exact AD (fun σ σ' e Q h hq=>dW hcf c σ σ' e Q h hq) fuel σ σ' e Q h hq
 | .scope c,σ,σ',e,Q,h,hq=>by
  simp only[sS]at h
  refine CW.scope ?_
  split at h
  ·cases h
  ·rename_i r hr
   refine dW hcf c σ σ' e _ h ?_
   cases e with
   | goto l=>exact (hr _ _ h).elim
   | _=>exact hq
 | .label l,σ,σ',e,Q,h,hq=>by
  simp only[sS]at h;cases h
  exact et (stop:=[]) (.label l) Q σ hq
 | .rangeFunc _ _ _ _,σ,σ',e,Q,h,hq=>by simp only[sS]at h;cases h
 | .goto _,σ,σ',e,Q,h,hq=>by simp only[sS]at h;cases h
 | .refuse _,σ,σ',e,Q,h,hq=>by simp only[sS]at h;cases h
end
mutual
def S.tree (bor:List Nat) (h:Nat→Option aA):S→Option T
 | .t x=>some x
 | .own l=>bif bor.contains l then match h l with
  | some (.list _ s xs)=>some (.sl s xs)
  | some (.rows _ s us [])=>some (.sl s (us.map U.toT))
  | _=>none else none
 | .ag fs=>match S.trees bor h fs with
  | some xs=>some (.agg xs)
  | none=>none
 | _=>none
def S.trees (bor:List Nat) (h:Nat→Option aA):List S→Option (List T)
 | []=>some []
 | x :: r=>match x.tree bor h with
  | some y=>match S.trees bor h r with
   | some q=>bif Nat.beq y.width x.width then some (y :: q) else none
   | none=>none
  | none=>none
end
section
variable {bor:List Nat} {h:Nat→Option aA}
section
variable {ρ:List (Nat×Nat)}
mutual
theorem wR:∀ (s:S) (x:T),s.tree bor h=some x→im ρ h bor s (.t x)
 | .dead,x,e=>by simp only[S.tree]at e;cases e
 | .t y,x,e=>by simp only[S.tree]at e;cases e;unfold im;exact bx y
 | .rp y,x,e=>by simp only[S.tree]at e;cases e
 | .own l,x,e=>by
  simp only[S.tree]at e
  cases hc:bor.contains l<;>rw[hc]at e<;>simp only[cond_true,cond_false]at e
  ·cases e
  have hm:l∈bor:=by simpa using hc
  split at e
  ·rename_i hl
   cases e;unfold im
   refine⟨hm,?_⟩
   rw[hl];exact⟨rfl,rfl⟩
  ·rename_i hl
   cases e;unfold im
   refine⟨hm,?_⟩
   rw[hl];exact⟨rfl,rfl,rfl⟩
  ·cases e
 | .pt _ _ _,x,e=>by simp only[S.tree]at e;cases e
 | .wn _ _ _ _,x,e=>by simp only[S.tree]at e;cases e
 | .cl _ _,x,e=>by simp only[S.tree]at e;cases e
 | .ag fs,x,e=>by
  simp only[S.tree]at e
  split at e
  ·rename_i xs hx
   cases e;unfold im;exact qQ fs xs hx
  ·cases e
 | .tup _,x,e=>by simp only[S.tree]at e;cases e
 | .fn _ _,x,e=>by simp only[S.tree]at e;cases e
 | .fb _ _,x,e=>by simp only[S.tree]at e;cases e
theorem qQ:∀ (fs:List S) (xs:List T),S.trees bor h fs=some xs→nq ρ h bor fs (xs.map S.t)
 | [],xs,e=>by simp only[S.trees]at e;cases e;simp only[List.map_nil];unfold nq;trivial
 | x :: r,xs,e=>by
  simp only[S.trees]at e
  split at e
  ·rename_i y hy
   split at e
   ·rename_i q hq
    cases hw:Nat.beq y.width x.width<;>rw[hw]at e<;>simp only[cond_true,cond_false]at e<;>cases e
    simp only[List.map_cons]
    unfold nq
    exact⟨Nat.eq_of_beq_eq_true hw,wR x y hy,qQ r q hq⟩
   ·cases e
  ·cases e
end
end
section
variable {ρ:List (Nat×Option Nat)}
mutual
theorem Fm (hb:∀ l∈bor,mW l ρ=true):∀ (s:S) (x:T),s.tree bor h=some x→kD ρ h s (.t x)
 | .dead,x,e=>by simp only[S.tree]at e;cases e
 | .t y,x,e=>by simp only[S.tree]at e;cases e;unfold kD;exact bx y
 | .rp y,x,e=>by simp only[S.tree]at e;cases e
 | .own l,x,e=>by
  simp only[S.tree]at e
  cases hc:bor.contains l<;>rw[hc]at e<;>simp only[cond_true,cond_false]at e
  ·cases e
  have hm:l∈bor:=by simpa using hc
  split at e
  ·rename_i hl
   cases e;unfold kD
   refine⟨hb l hm,?_⟩
   rw[hl];exact⟨rfl,rfl⟩
  ·rename_i hl
   cases e;unfold kD
   refine⟨hb l hm,?_⟩
   rw[hl];exact⟨rfl,rfl,rfl⟩
  ·cases e
 | .pt _ _ _,x,e=>by simp only[S.tree]at e;cases e
 | .wn _ _ _ _,x,e=>by simp only[S.tree]at e;cases e
 | .cl _ _,x,e=>by simp only[S.tree]at e;cases e
 | .ag fs,x,e=>by
  simp only[S.tree]at e
  split at e
  ·rename_i xs hx
   cases e;unfold kD;exact zD hb fs xs hx
  ·cases e
 | .tup _,x,e=>by simp only[S.tree]at e;cases e
 | .fn _ _,x,e=>by simp only[S.tree]at e;cases e
 | .fb _ _,x,e=>by simp only[S.tree]at e;cases e
theorem zD (hb:∀ l∈bor,mW l ρ=true):∀ (fs:List S) (xs:List T),S.trees bor h fs=some xs→pj ρ h fs (xs.map S.t)
 | [],xs,e=>by simp only[S.trees]at e;cases e;simp only[List.map_nil];unfold pj;trivial
 | x :: r,xs,e=>by
  simp only[S.trees]at e
  split at e
  ·rename_i y hy
   split at e
   ·rename_i q hq
    cases hw:Nat.beq y.width x.width<;>rw[hw]at e<;>simp only[cond_true,cond_false]at e<;>cases e
    simp only[List.map_cons]
    unfold pj
    exact⟨Nat.eq_of_beq_eq_true hw,Fm hb x y hy,zD hb r q hq⟩
   ·cases e
  ·cases e
end
end
end
mutual
def S.labs:S→List Nat
 | .own l=>[l]
 | .pt l _ _=>[l]
 | .wn l _ _ _=>[l]
 | .ag fs=>S.labss fs
 | .tup fs=>S.labss fs
 | .fn _ fs=>S.labss fs
 | .fb _ fs=>S.labss fs
 | _=>[]
def S.labss:List S→List Nat
 | []=>[]
 | x :: r=>x.labs++S.labss r
end
mutual
def S.plabs:S→List Nat
 | .pt l _ _=>[l]
 | .wn l _ _ _=>[l]
 | .ag fs=>S.plabss fs
 | .tup fs=>S.labss fs
 | .fn _ fs=>S.labss fs
 | .fb _ fs=>S.labss fs
 | _=>[]
def S.plabss:List S→List Nat
 | []=>[]
 | x :: r=>x.plabs++S.plabss r
end
mutual
def S.olabs:S→List Nat
 | .own l=>[l]
 | .ag fs=>S.olabss fs
 | _=>[]
def S.olabss:List S→List Nat
 | []=>[]
 | x :: r=>x.olabs++S.olabss r
end
def Nn:Option aA→List Nat
 | some (.box _ c)=>c.labs
 | _=>[]
def va:List Nat→List Nat→List Nat
 | [],a=>a
 | l :: r,a=>bif a.contains l then va r a else va r (a++[l])
def J9 (h:Nat→Option aA):Nat→List Nat→List Nat
 | 0,a=>a
 | k+1,a=>J9 h k (va (a.flatMap fun l=>Nn (h l)) a)
def Jj:List Nat→Nat→Nat
 | [],m=>m
 | l :: r,m=>Jj r (bif Nat.blt l m then m else l+1)
def Oe:List (Nat×S)→Nat→Nat
 | [],m=>m
 | (_,s) :: r,m=>Oe r (Jj s.labs m)
def PF:List (Nat×aA)→Nat→Nat
 | [],m=>m
 | (l,b) :: r,m=>PF r (Jj (l :: Nn (some b)) m)
mutual
def vj:T→Bool
 | .lit _=>true
 | .sl _ _=>false
 | .agg fs=>oI fs
def oI:List T→Bool
 | []=>true
 | x :: r=>vj x && oI r
end
mutual
theorem qT:∀ x:T,vj x=true→jj x
 | .lit _,_=>by unfold jj;trivial
 | .sl _ _,h=>by simp only[vj]at h;cases h
 | .agg fs,h=>by simp only[vj]at h;unfold jj;exact kQ fs h
theorem kQ:∀ xs:List T,oI xs=true→dG xs
 | [],_=>by unfold dG;trivial
 | x :: r,h=>by
  simp only[oI,Bool.and_eq_true]at h
  unfold dG
  exact⟨qT x h.1,kQ r h.2⟩
end
mutual
def gW:S→Bool
 | .dead=>true
 | .t x=>vj x
 | .rp _=>false
 | .own _=>true
 | .pt _ _ _=>true
 | .wn _ _ _ _=>true
 | .cl _ _=>false
 | .ag fs=>kG fs
 | .tup fs=>kG fs
 | .fn _ fs=>kG fs
 | .fb _ fs=>kG fs
def kG:List S→Bool
 | []=>true
 | x :: r=>gW x && kG r
end
mutual
theorem lR:∀ x:S,gW x=true→dQ x
 | .dead,_=>by unfold dQ;trivial
 | .t x,h=>by simp only[gW]at h;unfold dQ;exact qT x h
 | .rp _,h=>by simp only[gW]at h;cases h
 | .own _,_=>by unfold dQ;trivial
 | .pt _ _ _,_=>by unfold dQ;trivial
 | .wn _ _ _ _,_=>by unfold dQ;trivial
 | .cl _ _,h=>by simp only[gW]at h;cases h
 | .ag fs,h=>by simp only[gW]at h;unfold dQ;exact fW fs h
 | .tup fs,h=>by simp only[gW]at h;unfold dQ;exact fW fs h
 | .fn _ fs,h=>by simp only[gW]at h;unfold dQ;exact fW fs h
 | .fb _ fs,h=>by simp only[gW]at h;unfold dQ;exact fW fs h
theorem fW:∀ xs:List S,kG xs=true→fF xs
 | [],_=>by unfold fF;trivial
 | x :: r,h=>by
  simp only[kG,Bool.and_eq_true]at h
  unfold fF
  exact⟨lR x h.1,fW r h.2⟩
end
def ll:List (Nat×aA)→Bool
 | []=>true
 | (_,.list _ _ xs) :: r=>oI xs && ll r
 | (_,.box _ c) :: r=>gW c && ll r
 | (_,.rows _ _ _ _) :: r=>false
theorem lq:∀ h:List (Nat×aA),ll h=true→ng h
 | [],_=>trivial
 | (_,.list _ _ xs) :: r,h=>by
  simp only[ll,Bool.and_eq_true]at h
  exact⟨kQ xs h.1,lq r h.2⟩
 | (_,.box _ c) :: r,h=>by
  simp only[ll,Bool.and_eq_true]at h
  exact⟨lR c h.1,lq r h.2⟩
 | (_,.rows _ _ _ _) :: r,h=>by simp only[ll]at h;cases h
def PK (m:List (Nat×Nat)) (bor:List Nat) (h:Nat→Option aA) (a:S):Option S:=match a.rel m with
 | some s=>match a with
  | .ag fs=>match s with
   | .ag gs=>some (.ag gs)
   | _=>none
  | _=>some s
 | none=>match a.tree bor h with
  | some x=>some (.t x)
  | none=>none
def zB (m:List (Nat×Nat)) (bor:List Nat) (h:Nat→Option aA):List S→Option (List S)
 | []=>some []
 | a :: r=>match PK m bor h a with
  | some s=>match zB m bor h r with
   | some q=>some (s :: q)
   | none=>none
  | none=>none
theorem GR {m:List (Nat×Nat)} {ρ:List (Nat×Nat)} {bor:List Nat} {h:Nat→Option aA} (hm:∀ l l',um m l=some l'→rn ρ l'=l) {a s:S} (e:PK m bor h a=some s):im ρ h bor a s:=by
 unfold PK at e
 split at e
 ·rename_i s0 hs
  have hr:=yW hm _ _ hs
  cases a with
  | ag fs=>
   simp only at e
   split at e
   ·rename_i gs
    cases e
    unfold im
    exact hr
   ·cases e
  | dead=>simp only[Option.some.injEq]at e;subst e;simp only[S.rel]at hs;cases hs;unfold im;rfl
  | t x=>simp only[Option.some.injEq]at e;subst e;simp only[S.rel]at hs;cases hs;unfold im;exact bx x
  | rp x=>simp only[Option.some.injEq]at e;subst e;simp only[S.rel]at hs;cases hs;unfold im;rfl
  | own l=>simp only[Option.some.injEq]at e;subst e;simp only[S.rel]at hs;(split at hs<;>cases hs);unfold im;exact hr
  | pt l p o=>simp only[Option.some.injEq]at e;subst e;simp only[S.rel]at hs;(split at hs<;>cases hs);unfold im;exact hr
  | wn l p o n=>simp only[Option.some.injEq]at e;subst e;simp only[S.rel]at hs;(split at hs<;>cases hs);unfold im;exact hr
  | cl _ _=>simp only[S.rel]at hs;cases hs
  | tup fs=>simp only[Option.some.injEq]at e;subst e;simp only[S.rel]at hs;(split at hs<;>cases hs);unfold im;exact hr
  | fn f fs=>simp only[Option.some.injEq]at e;subst e;simp only[S.rel]at hs;(split at hs<;>cases hs);unfold im;exact hr
  | fb f fs=>simp only[Option.some.injEq]at e;subst e;simp only[S.rel]at hs;(split at hs<;>cases hs);unfold im;exact hr
 ·split at e
  ·rename_i x hx
   cases e
   exact wR _ _ hx
  ·cases e
theorem u7 {m:List (Nat×Nat)} {ρ:List (Nat×Nat)} {bor:List Nat} {h:Nat→Option aA} (hm:∀ l l',um m l=some l'→rn ρ l'=l):∀ {az ss:List S},zB m bor h az=some ss→fm ρ h bor az ss
 | [],ss,e=>by simp only[zB]at e;cases e;unfold fm;trivial
 | a :: r,ss,e=>by
  simp only[zB]at e
  split at e
  ·rename_i s hs
   split at e
   ·rename_i q hq
    cases e
    unfold fm
    exact⟨GR hm hs,u7 hm hq⟩
   ·cases e
  ·cases e
def Kj:List Nat→Nat→List (Nat×Nat)
 | [],_=>[]
 | l :: r,k=>(l,k) :: Kj r (k+1)
def Db:List Nat→Nat→List (Nat×Nat)
 | [],_=>[]
 | l :: r,k=>(l,k) :: Db r (k+1)
def M4 (m ρ:List (Nat×Nat)):Bool:=m.all fun q=>Nat.beq (rn ρ q.2) q.1
theorem H4 {m ρ:List (Nat×Nat)} (h:M4 m ρ=true):∀ p∈m,rn ρ p.2=p.1:=fun p hp=>Nat.eq_of_beq_eq_true (List.all_eq_true.1 h p hp)
def GV (h:Nat→Option aA):List Nat→Bool
 | []=>true
 | l :: r=>(h l).isSome && GV h r
theorem wx {h:Nat→Option aA}:∀ {ls:List Nat},GV h ls=true→pV h ls
 | [],_=>trivial
 | l :: r,e=>by
  simp only[GV,Bool.and_eq_true]at e
  exact⟨e.1,wx e.2⟩
def KB (ev:FuncId→List S→List (Nat×aA)→Option (S×List (Nat×aA))) (σ:St) (f:FuncId) (az:List S):Option aM:=
 let h:=bc σ.h
 let m:=Kj (J9 h 4 (va (S.plabss az) [])) 0
 let bor:=(va (S.olabss az) []).filter fun l=>!((m.map (·.1)).contains l)
 match zB m bor h az with
 | some ss=>match vD m σ.h m with
  | some pre=>match ev f ss pre with
   | some (r,post)=>
    let ρ:=m.map (fun q=>(q.2,q.1))++Db (nU pre post) (PF σ.h (Oe σ.g (Jj (S.labss az) 1000)))
    let fl:=bor.isEmpty || (gW r && ll post)
    let bo:=bif fl then bor else []
    let fr:=bif fl then [] else bor
    bif eD ρ (bo++fr) pre post r && M4 m ρ && GV h (bo++fr) then some (eQ ρ bo fr pre post r) else none
   | none=>none
  | none=>none
 | none=>none
theorem Dg {P:Program} {ev:FuncId→List S→List (Nat×aA)→Option (S×List (Nat×aA))} (hev:∀ f ss pre r post,ev f ss pre=some (r,post)→aj P f ss pre r post) (σ:St):Ih P (bc σ.h) (KB ev σ):=by
 intro f az E e
 unfold KB at e
 simp only at e
 generalize Kj (J9 (bc σ.h) 4 (va (S.plabss az) [])) 0=m at e
 generalize ((va (S.olabss az) []).filter fun l=>!((m.map (·.1)).contains l))=bor at e
 split at e
 ·rename_i ss hss
  split at e
  ·rename_i pre hpre
   split at e
   ·rename_i r post hr
    generalize (m.map (fun q=>(q.2,q.1))++Db (nU pre post) (PF σ.h (Oe σ.g (Jj (S.labss az) 1000))))=ρ at e
    have hfn:=hev f ss pre r post hr
    have go:∀ bo fr,bo++fr=bor→(bo=[]∨(dQ r∧ng post))→(bif eD ρ (bo++fr) pre post r && M4 m ρ && GV (bc σ.h) (bo++fr) then some (eQ ρ bo fr pre post r) else none)=some E→
      qw P f az (bc σ.h) E∧∀ l∈E.nw,100≤l:=by
     intro bo fr hb hfl e
     cases hc:(eD ρ (bo++fr) pre post r && M4 m ρ && GV (bc σ.h) (bo++fr))<;>rw[hc]at e<;>simp only[cond_true,cond_false]at e
     ·cases e
     cases e
     simp only[Bool.and_eq_true]at hc
     have hm:=H4 hc.1.2
     have hm':∀ l l',um m l=some l'→rn ρ l'=l:=fun l l' e=>hm (l,l') (rZ e)
     have:=aY.fn (K:=fun E=>E=eQ ρ bo fr pre post r) (d:=0) hfn ρ bo fr hc.1.1 (by rw[hb];exact u7 hm' hss) (A5 hm' hm hpre) (wx hc.2) hfl rfl
     obtain⟨E,h1,h2,rfl⟩:=this
     exact⟨h1,h2⟩
    cases hf:(bor.isEmpty || (gW r && ll post))<;>rw[hf]at e<;>simp only[cond_true,cond_false]at e
    ·exact go [] bor rfl (.inl rfl) e
    ·refine go bor [] (by simp) ?_ e
     simp only[Bool.or_eq_true,Bool.and_eq_true,List.isEmpty_iff]at hf
     exact hf.imp id fun h=>⟨lR r h.1,lq post h.2⟩
   ·cases e
  ·cases e
 ·cases e
def Eh (
     P:Program) (g:Nat→S) (h:Nat→Option aA):List ResultVar→Option (List S)
 | []=>some []
 | .tmp t :: r=>match Eh P g h r with
  | some l=>some (g t :: l)
  | none=>none
 | .cell a t :: r=>match g a with
  | .pt l p off=>match h l with
   | some blk=>match blk.at p with
    | some (o,y)=>gd (o=off∧y.solid=true∧kO P t y) (match Eh P g h r with
     | some l=>some (y :: l)
     | none=>none)
    | none=>none
   | none=>none
  | _=>none
theorem pX {P:Program} {g:Nat→S} {h:Nat→Option aA}:∀ {rs:List ResultVar} {l:List S} {K:List S→Prop},Eh P g h rs=some l→K l→mY P g h rs K
 | [],l,K,e,hK=>by simp only[Eh]at e;cases e;exact hK
 | .tmp t :: r,l,K,e,hK=>by
  simp only[Eh]at e
  split at e
  ·rename_i l' hl
   cases e
   exact pX (K:=fun l=>K (g t :: l)) hl hK
  ·cases e
 | .cell a t :: r,l,K,e,hK=>by
  simp only[Eh]at e
  simp only[mY]
  split at e
  ·rename_i l0 p off ha
   simp only[ha]
   split at e
   ·rename_i blk hl
    simp only[hl]
    split at e
    ·rename_i o y hat
     simp only[hat]
     rw[aN]at e
     obtain⟨⟨h1,h2,h3⟩,e⟩:=e
     refine⟨h1,h2,h3,?_⟩
     split at e
     ·rename_i l' hl'
      cases e
      exact pX (K:=fun l=>K (y :: l)) hl' hK
     ·cases e
    ·cases e
   ·cases e
  ·cases e
def Og (m:List (Nat×Nat)) (fz:List Nat) (h:Nat→Option aA) (s:S):Option S:=match s.tree fz h with
 | some x=>some (.t x)
 | none=>s.rel m
theorem H6 {m:List (Nat×Nat)} {ρ:List (Nat×Option Nat)} {fz:List Nat} {h:Nat→Option aA} (hm:∀ l l',um m l=some l'→kp ρ l'=some (some l)) (hb:∀ l∈fz,mW l ρ=true) {s s':S} (e:Og m fz h s=some s'):kD ρ h s s':=by
 unfold Og at e
 split at e
 ·rename_i x hx
  cases e
  exact Fm hb _ _ hx
 ·exact uk hm _ _ e
def Bz (m:List (Nat×Nat)) (fz:List Nat) (h:Nat→Option aA):List S→Option (List S)
 | []=>some []
 | s :: r=>match Og m fz h s with
  | some s'=>match Bz m fz h r with
   | some q=>some (s' :: q)
   | none=>none
  | none=>none
theorem sP {m:List (Nat×Nat)} {ρ:List (Nat×Option Nat)} {fz:List Nat} {h:Nat→Option aA} (hm:∀ l l',um m l=some l'→kp ρ l'=some (some l)) (hb:∀ l∈fz,mW l ρ=true):∀ {ss q:List S},Bz m fz h ss=some q→ie ρ h ss q
 | [],q,e=>by simp only[Bz]at e;cases e;unfold ie;trivial
 | s :: r,q,e=>by
  simp only[Bz]at e
  split at e
  ·rename_i s' hs
   split at e
   ·rename_i q' hq
    cases e
    unfold ie
    exact⟨H6 hm hb hs,sP hm hb hq⟩
   ·cases e
  ·cases e
theorem Iq {ρ:List (Nat×Option Nat)} {h:Nat→Option aA} {ss q:List S} (hw:ie ρ h ss q):kD ρ h (oneOf ss) (oneOf q):=by
 match ss,q,hw with
 | [],[],hw=>unfold oneOf;unfold kD;exact hw
 | [s],[s'],hw=>unfold ie at hw;exact hw.1
 | s :: s2 :: r,s' :: s2' :: r',hw=>unfold oneOf;unfold kD;exact hw
 | [],_ :: _,hw=>unfold ie at hw;exact hw.elim
 | _ :: _,[],hw=>unfold ie at hw;exact hw.elim
 | [s],_ :: _ :: _,hw=>unfold ie at hw;unfold ie at hw;exact hw.2.elim
 | _ :: _ :: _,[s],hw=>unfold ie at hw;unfold ie at hw;exact hw.2.elim
def NK (fz:List Nat) (ρ:List (Nat×Option Nat)):Bool:=fz.all fun l=>mW l ρ
noncomputable def MG (P:Program) (frz:Bool) (rs:List ResultVar) (σ:St):Option (S×List (Nat×aA)):=
 let h:=bc σ.h
 match Eh P (Od σ.g) h rs with
 | some l=>
  let fz:=bif frz then va (S.olabss l) [] else []
  let low:=((σ.h.map (·.1)).filter fun l=>Nat.blt l 100)
  let keep:=(J9 h 4 (va (bif frz then S.plabss l else S.labss l) low)).filter fun l=>!fz.contains l
  let m:=Ax σ.h (Ax σ.h (keep.map fun l=>(l,l)))
  let ρ:=rF m
  match Bz m fz h l with
  | some q=>match vD m σ.h m with
   | some post=>bif eh ρ && I7 m ρ && NK fz ρ then some (oneOf q,post) else none
   | none=>none
  | none=>none
 | none=>none
theorem xM {P:Program} {frz:Bool} {rs:List ResultVar} {σ:St} {r:S} {post:List (Nat×aA)} (e:MG P frz rs σ=some (r,post)):uQ P rs r post .ret σ:=by
 unfold MG at e
 simp only[C7]at e
 split at e
 ·rename_i l hl
  generalize (bif frz then va (S.olabss l) [] else [])=fz at e
  generalize (Ax σ.h (Ax σ.h (((J9 (bc σ.h) 4 (va (bif frz then S.plabss l else S.labss l) ((σ.h.map (·.1)).filter fun l=>Nat.blt l 100))).filter fun l=>!fz.contains l).map fun l=>(l,l))))=m at e
  split at e
  ·rename_i q hq
   split at e
   ·rename_i post' hp
    cases hc:(eh (rF m) && I7 m (rF m) && NK fz (rF m))<;>rw[hc]at e<;>simp only[cond_true,cond_false]at e
    ·cases e
    cases e
    simp only[Bool.and_eq_true]at hc
    have h1:=wQ hc.1.2
    have hm:∀ l l',um m l=some l'→kp (rF m) l'=some (some l):=fun l l' e=>h1 (l,l') (rZ e)
    have hb:∀ l∈fz,mW l (rF m)=true:=fun l hl=>List.all_eq_true.1 hc.2 l hl
    exact⟨rF m,pX hl ⟨hc.1.1,Iq (sP hm hb hq),zo hm h1 hp⟩⟩
   ·cases e
  ·cases e
 ·cases e
noncomputable def m6 (P:Program) (kn:FuncId→List S→List (Nat×aA)→Option (S×List (Nat×aA))) (fz:List FuncId) (fuel:Nat):Nat→FuncId→List S→List (Nat×aA)→Option (S×List (Nat×aA))
 | 0,_,_,_=>none
 | n+1,f,ss,pre=>match kn f ss pre with
  | some q=>some q
  | none=>match P.funcs[f]? with
   | some fn=>match fn.body with
    | some c=>bif bE fn.ntmps c && Nat.ble ss.length fn.ntmps then match sS P (KB (m6 P kn fz fuel n)) fuel c ⟨nu 0 ss,pre⟩ with
      | some (.ret,σ)=>MG P (fz.contains f) fn.results.toList σ
      | some (.normal,σ)=>MG P (fz.contains f) fn.results.toList σ
      | _=>none
     else none
    | none=>none
   | none=>none
theorem a8 {P:Program} {kn:FuncId→List S→List (Nat×aA)→Option (S×List (Nat×aA))} {fz:List FuncId} {fuel:Nat} (hm:P.follows .mixedOrders=true) (hkn:∀ f ss pre r post,kn f ss pre=some (r,post)→aj P f ss pre r post) :
  ∀ (n:Nat) (f:FuncId) (ss:List S) (pre:List (Nat×aA)) (r:S) (post:List (Nat×aA)),m6 P kn fz fuel n f ss pre=some (r,post)→aj P f ss pre r post
 | 0,f,ss,pre,r,post,e=>by simp only[m6]at e;cases e
 | n+1,f,ss,pre,r,post,e=>by
  simp only[m6]at e
  split at e
  ·rename_i q hq
   cases e
   exact hkn _ _ _ _ _ hq
  ·split at e
   ·rename_i fn hfn
    split at e
    ·rename_i c hc
     cases hok:(bE fn.ntmps c && Nat.ble ss.length fn.ntmps)<;>rw[hok]at e<;>simp only[cond_true,cond_false]at e
     ·cases e
     rw[Bool.and_eq_true]at hok
     refine aj.intro hm hfn hc rfl hok.1 (Nat.le_of_ble_eq_true hok.2) ?_
     have hcf:=fun σ=>Dg (a8 (fz:=fz) (fuel:=fuel) hm hkn n) σ
     split at e
     ·rename_i σ hσ
      exact dW hcf c _ σ .ret _ hσ (xM e)
     ·rename_i σ hσ
      exact dW hcf c _ σ .normal _ hσ (xM e)
     ·cases e
    ·cases e
   ·cases e
def Ro:IntKind→IntKind→Bool
 | .i64,.i64=>true
 | .u8,.u8=>true
 | .u64,.u64=>true
 | .u32,.u32=>true
 | _,_=>false
def Rb:Value→Value→Bool
 | .int k x,.int k' y=>Ro k k' && decide (x=y)
 | .bool x,.bool y=>x == y
 | .string x,.string y=>tw x y
 | .slice none 0 0,.slice none 0 0=>true
 | _,_=>false
theorem Ji {a b:IntKind} (h:Ro a b=true):a=b:=by cases a<;>cases b<;>first|rfl|cases h
theorem Df {x y:ByteArray} (h:tw x y=true):x=y:=by
 unfold tw at h
 have h2:=eq_of_beq h
 have h3:∀ a b:List UInt8,(a.map fun c=>c.toNat)=(b.map fun c=>c.toNat)→a=b:=by
  intro a
  induction a with
  | nil=>intro b hb;cases b<;>first|rfl|(simp at hb)
  | cons c r ih=>
   intro b hb
   cases b with
   | nil=>simp at hb
   | cons d s=>
    simp only[List.map_cons,List.cons.injEq]at hb
    rw[UInt8.toNat_inj.1 hb.1,ih s hb.2]
 have h4:=h3 _ _ h2
 obtain⟨⟨a⟩⟩:=x
 obtain⟨⟨b⟩⟩:=y
 simp at h4
 rw[h4]
theorem Kb {a b:Value} (h:Rb a b=true):a=b:=by
 unfold Rb at h
 split at h
 ·simp only[Bool.and_eq_true,decide_eq_true_eq]at h
  rw[Ji h.1,h.2]
 ·rw[eq_of_beq h]
 ·rw[Df h]
 ·rfl
 ·cases h
mutual
def Ia:T→T→Bool
 | .lit a,.lit b=>Rb a b
 | .sl s xs,.sl s' ys=>Nat.beq s s' && Et xs ys
 | .agg xs,.agg ys=>Et xs ys
 | _,_=>false
def Et:List T→List T→Bool
 | [],[]=>true
 | x :: r,y :: s=>Ia x y && Et r s
 | _,_=>false
end
mutual
theorem Am:∀ a b:T,Ia a b=true→a=b
 | .lit a,.lit b,h=>by simp only[Ia]at h;rw[Kb h]
 | .sl s xs,.sl s' ys,h=>by
  simp only[Ia,Bool.and_eq_true]at h
  rw[Nat.eq_of_beq_eq_true h.1,pH xs ys h.2]
 | .agg xs,.agg ys,h=>by simp only[Ia]at h;rw[pH xs ys h]
 | .lit _,.sl _ _,h=>by simp only[Ia]at h;cases h
 | .lit _,.agg _,h=>by simp only[Ia]at h;cases h
 | .sl _ _,.lit _,h=>by simp only[Ia]at h;cases h
 | .sl _ _,.agg _,h=>by simp only[Ia]at h;cases h
 | .agg _,.lit _,h=>by simp only[Ia]at h;cases h
 | .agg _,.sl _ _,h=>by simp only[Ia]at h;cases h
theorem pH:∀ a b:List T,Et a b=true→a=b
 | [],[],_=>rfl
 | x :: r,y :: s,h=>by
  simp only[Et,Bool.and_eq_true]at h
  rw[Am x y h.1,pH r s h.2]
 | [],_ :: _,h=>by simp only[Et]at h;cases h
 | _ :: _,[],h=>by simp only[Et]at h;cases h
end
def lu:List S→List T→Bool
 | [],[]=>true
 | .t x :: r,y :: s=>Ia x y && lu r s
 | _,_=>false
theorem wZ:∀ {a:List S} {b:List T},lu a b=true→a=b.map S.t
 | [],[],_=>rfl
 | .t x :: r,y :: s,h=>by
  simp only[lu,Bool.and_eq_true]at h
  rw[Am x y h.1,wZ h.2];rfl
 | [],_ :: _,h=>by simp only[lu]at h;cases h
 | .dead :: _,_,h=>by simp only[lu]at h;cases h
 | .rp _ :: _,_,h=>by simp only[lu]at h;cases h
 | .own _ :: _,_,h=>by simp only[lu]at h;cases h
 | .pt _ _ _ :: _,_,h=>by simp only[lu]at h;cases h
 | .wn _ _ _ _ :: _,_,h=>by simp only[lu]at h;cases h
 | .cl _ _ :: _,_,h=>by simp only[lu]at h;cases h
 | .ag _ :: _,_,h=>by simp only[lu]at h;cases h
 | .tup _ :: _,_,h=>by simp only[lu]at h;cases h
 | .fn _ _ :: _,_,h=>by simp only[lu]at h;cases h
 | .fb _ _ :: _,_,h=>by simp only[lu]at h;cases h
 | .t _ :: _,[],h=>by simp only[lu]at h;cases h
structure kC where
 f:FuncId
 ss:List T
 r:S
 post:List (Nat×aA)
def xH:List kC→FuncId→List S→List (Nat×aA)→Option (S×List (Nat×aA))
 | [],_,_,_=>none
 | e :: r,f,ss,pre=>match pre with
  | []=>bif Nat.beq e.f f && lu ss e.ss then some (e.r,e.post) else xH r f ss []
  | _=>none
def P7 (P:Program):List kC→Prop
 | []=>True
 | e :: r=>aj P e.f (e.ss.map S.t) [] e.r e.post∧P7 P r
theorem eC {P:Program}:∀ {l:List kC},P7 P l→∀ f ss pre r post,xH l f ss pre=some (r,post)→aj P f ss pre r post
 | [],_,f,ss,pre,r,post,h=>by cases h
 | e :: l,hl,f,ss,pre,r,post,h=>by
  simp only[xH]at h
  split at h
  ·cases hc:(Nat.beq e.f f && lu ss e.ss)<;>rw[hc]at h<;>simp only[cond_true,cond_false]at h
   ·exact eC hl.2 f ss [] r post h
   ·cases h
    rw[Bool.and_eq_true]at hc
    rw[←Nat.eq_of_beq_eq_true hc.1,wZ hc.2]
    exact hl.1
  ·cases h
def pP:FuncId→List S→List (Nat×aA)→Option (S×List (Nat×aA)):=fun _ _ _=>none
theorem fy {P:Program}:∀ f ss pre r post,pP f ss pre=some (r,post)→aj P f ss pre r post:=fun _ _ _ _ _ h=>by cases h
end Go.Proofs.YtocndodilpimnaaGreat.Sy
namespace Go.Proofs.YtocndodilpimnaaGreat
open Go.RowKit Sy
open Go.IntWalk renaming iteOmega → iO, toNatUp → tN
abbrev Oy:Vv:=⟨2,0,false,false⟩
abbrev PV:T:=.agg [.int 2,.int 0,.bool false,.bool false]
abbrev Re:T:=.agg [.lit (.int .i64 0),.lit (.int .i64 0),.lit (.bool false),.lit (.bool false)]
def px (m k:Nat):List T:=List.replicate k PV++List.replicate (m - k) Re
theorem JR {m k:Nat} (h:k≤m):(px m k).length=m:=by simp[px];omega
theorem Gp {m k j:Nat} (h:k+j≤m) (hj:j≤k):(px m k).take k++((px m k).take j++(px m k).drop (k+j))=px m (k+j):=by
 have a1:(px m k).take k=List.replicate k PV:=by simp[px]
 have a2:(px m k).take j=List.replicate j PV:=by
  unfold px
  rw[List.take_append_of_le_length (by simp;omega),List.take_replicate];congr 1;omega
 have a3:(px m k).drop (k+j)=List.replicate (m - (k+j)) Re:=by
  unfold px
  rw[List.drop_append,List.drop_eq_nil_of_le (by simp),List.nil_append,List.drop_replicate]
  congr 1
  simp;omega
 rw[a1,a2,a3,←List.append_assoc,List.replicate_append_replicate];rfl
theorem Pw (m:Nat) (h1:1≤m) (h2:m≤14):aj Tryz.prog 128 [.t (.lit (.int .u64 1)),.t (.lit (.int .u64 m))] [] (.tup [.t (.lit (.int .u64 0)),.t (.lit (.int .u64 m))]) []:=by
 have H:∀ m∈[1,2,3,4,5,6,7,8,9,10,11,12,13,14],m6 Tryz.prog pP [] 200 30 128 [.t (.lit (.int .u64 1)),.t (.lit (.int .u64 ((m:Nat):Int)))] []=some (.tup [.t (.lit (.int .u64 0)),.t (.lit (.int .u64 (m:Int)))],[]):=by
  intro m hm
  simp only[List.mem_cons,List.not_mem_nil,or_false]at hm
  rcases hm with rfl|rfl|rfl|rfl|rfl|rfl|rfl|rfl|rfl|rfl|rfl|rfl|rfl|rfl<;>kernel_rfl
 exact a8 aL fy 30 _ _ _ _ _ (H m (by simp only[List.mem_cons,List.not_mem_nil,or_false];omega))
theorem Oj (m:Nat) (h1:1≤m) (h2:m≤14):aj Tryz.prog 55 [.t (.sl 4 [PV]),.t (.int m)] [] (.t (.sl 4 ((List.replicate m Oy).map bL))) []:=by
 have c:=Pw m h1 h2
 obtain⟨R,hR⟩:∃ R:Nat→List T,∀ k,R k=px m k:=⟨_,fun _=>rfl⟩
 have hRl:∀ k,k≤m→(R k).length=m:=fun k hk=>by rw[hR,JR hk]
 have hRs:∀ k j,k+j≤m→j≤k→(R k).take k++((R k).take j++(R k).drop (k+j))=R (k+j):=fun k j h hj=>by rw[hR,hR,Gp h hj]
 have hRm:R m=List.replicate m PV:=by rw[hR];simp[px]
 have hR1:[PV]++List.replicate (m - 1) Re=R 1:=by rw[hR];rfl
 have hm1:min 1 m=1:=by omega
 refine nI Tryz.func55 rfl Tryz.ntmps55 ?_
 refine ah ?_
 refine ax c [] ?_
 refine ah ?_
 refine oP ?_
 refine CW.loop (ι:=Nat) (fun k=>⟨[(7,.wn 507 [7] 0 m),(8,.t (.int k))],[(507,.list 134 4 (R k))]⟩) (fun k=>1≤k∧k≤m) (fun k=>m - k) 1 [(507,some 130)] (by omega) ?_ ?_
 ·simp[go_sem,↓iO,iO,tN,hm1,←hR1]
  omega
 rintro k ⟨hk1,hk⟩
 by_cases hb:k < m
 ·obtain⟨j,hj⟩:∃ j,min k (m - k)=j:=⟨_,rfl⟩
  have e1:=hRl k hk
  have e2:=hRs k j (by omega) (by omega)
  refine aJ hj ?_
  exact nX (k+j) [(507,some 507)] (by omega) (by omega) (dJ e2)
 ·obtain rfl:k=m:=by omega
  have e1:=hRl k hk
  refine ah ?_
  first|rw[av]|rw[ae]
  refine⟨[],?_⟩
  simp[go_sem,↓iO,iO,tN,hRm,e1]
  omega
abbrev uv (d:aB):Pn:=⟨List.replicate d.segs.length 0,List.replicate d.ports.length 0,List.replicate d.stns.length false⟩
abbrev qs (d:aB):Dk:=⟨List.replicate (d.segs.length+d.ports.length) Oy,uv d⟩
theorem IH (d:aB) (hd:bq d):aj Tryz.prog 21 [.t (.agg d.l),.t (.int 2)] [] (.tup [.t (db (qs d)),.t (.int 0)]) []:=by
 have h1:=hd.s
 have h2:=hd.p
 have h3:=hd.p1
 have h4:=hd.t
 have c1:=iW d hd.ok
 have c2:=j9 Oy ⟨by decide,by decide,by decide,by decide⟩
 have c3:=Ak d hd
 have c4:=Oj (d.segs.length+d.ports.length) (by omega) (by omega)
 rw[Int.natCast_add]at c4
 refine nI Tryz.func21 rfl Tryz.ntmps21 ?_
 refine ah ?_
 refine ax c1 [] ?_
 refine ah ?_
 refine ax c2 [] ?_
 refine ah ?_
 refine ax c3 [] ?_
 refine gj c4 [] [] [135] ?_
 refine ah ?_
 exact aF []
end Go.Proofs.YtocndodilpimnaaGreat
