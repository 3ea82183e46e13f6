/- Several texts of this proof, one behind the other. No condition. -/
import Derived.Test.YtocndodilpimnaaGreatTThesB1
import Derived.Maps.AppendAt
set_option maxRecDepth 100000
set_option maxHeartbeats 16000000
set_option linter.unusedVariables false
set_option linter.unusedSimpArgs false
namespace Go.Proofs.YtocndodilpimnaaGreat.Sy
open Go.RowKit
inductive T where
 | lit (v:Value)
 | sl (s:Nat) (xs:List T)
 | agg (fs:List T)
 deriving Inhabited
abbrev T.int (n:Int):T:=.lit (.int .i64 n)
abbrev T.bool (b:Bool):T:=.lit (.bool b)
abbrev T.nil:T:=.lit (.slice none 0 0)
mutual
def T.width:T→Nat
 | .lit _=>1
 | .sl _ _=>1
 | .agg fs=>T.widths fs
def T.widths:List T→Nat
 | []=>0
 | x :: r=>x.width+T.widths r
end
inductive S where
 | dead
 | t (x:T)
 | rp (x:T)
 | own (l:Nat)
 | pt (l:Nat) (p:List Nat) (off:Nat)
 | wn (l:Nat) (p:List Nat) (off n:Nat)
 | cl (s:Nat) (xs:List T)
 | ag (fs:List S)
 | tup (vs:List S)
 | fn (f:FuncId) (caps:List S)
 | fb (f:FuncId) (fs:List S)
 deriving Inhabited
inductive U where
 | t (x:T)
 | ow (e:TypeId) (s:Nat) (xs:List T)
 | fw (fs:List T) (e:TypeId) (s:Nat) (xs:List T)
 deriving Inhabited
inductive aA where
 | list (e:TypeId) (s:Nat) (xs:List T)
 | box (e:TypeId) (c:S)
 | rows (e:TypeId) (s:Nat) (us:List U) (ex:List (Nat×S))
 deriving Inhabited
structure Du (F:Nat→Prop) (w:World) (x:Option Addr) (n cap s:Nat) (cells:List Value):Prop where
 le:n≤cap
 capLe:cap≤maxLen
 len:cells.length=n * s
 nil:x=none→cap=0
 cells:n=0∨∃ b off,x=some ⟨b,off,none⟩∧F b∧∀ j u,cells[j]? = some u→w.cell? ⟨b,off+j,none⟩=some u
mutual
def aO (F:Nat→Prop) (w:World):T→Value→Prop
 | .lit v,u=>u=v∧v.oneCell'=true
 | .sl s xs,u=>∃ x cap cells,u = .slice x xs.length cap∧ay F w xs cells∧(∀ y∈xs,y.width=s)∧Du F w x xs.length cap s cells
 | .agg fs,u=>∃ cells:List Value,u = .agg cells.toArray∧ay F w fs cells
def ay (F:Nat→Prop) (w:World):List T→List Value→Prop
 | [],cs=>cs=[]
 | x :: r,cs=>∃ v cs',cs=v.cells.toList++cs'∧aO F w x v∧ay F w r cs'
end
theorem Du.mono {F F':Nat→Prop} {w w':World} {x:Option Addr} {n cap s:Nat} {cells:List Value} (hF:∀ b,F b→F' b) (hc:∀ b o,F b→w'.cell? ⟨b,o,none⟩=w.cell? ⟨b,o,none⟩)
  (h:Du F w x n cap s cells):Du F' w' x n cap s cells:=by
 refine⟨h.le,h.capLe,h.len,h.nil,?_⟩
 rcases h.cells with h0|⟨b,off,hx,hb,hr⟩
 ·exact .inl h0
 ·exact .inr ⟨b,off,hx,hF b hb,fun j u hu=>(hc b _ hb).trans (hr j u hu)⟩
section
variable {F F':Nat→Prop} {w w':World}
mutual
theorem aO.mono (hF:∀ b,F b→F' b) (hc:∀ b o,F b→w'.cell? ⟨b,o,none⟩=w.cell? ⟨b,o,none⟩):∀ (x:T) (u:Value),aO F w x u→aO F' w' x u
 | .lit v,u,h=>by unfold aO at *;exact h
 | .sl s xs,u,h=>by
  unfold aO at *
  obtain⟨x,cap,cells,h1,h2,h3,h4⟩:=h
  exact⟨x,cap,cells,h1,ay.mono hF hc xs cells h2,h3,h4.mono hF hc⟩
 | .agg fs,u,h=>by
  unfold aO at *
  obtain⟨cells,h1,h2⟩:=h
  exact⟨cells,h1,ay.mono hF hc fs cells h2⟩
theorem ay.mono (hF:∀ b,F b→F' b) (hc:∀ b o,F b→w'.cell? ⟨b,o,none⟩=w.cell? ⟨b,o,none⟩):∀ (xs:List T) (cs:List Value),ay F w xs cs→ay F' w' xs cs
 | [],cs,h=>by unfold ay at *;exact h
 | x :: r,cs,h=>by
  unfold ay at *
  obtain⟨v,cs',h1,h2,h3⟩:=h
  exact⟨v,cs',h1,aO.mono hF hc x v h2,ay.mono hF hc r cs' h3⟩
end
end
theorem dR {v:Value} (h:v.oneCell'=true):v.cells=#[v]:=by
 cases v<;>first|rfl|(simp[Value.oneCell']at h)
theorem jX {α:Type} {a b:List α} {m:Nat} (h:a.length=m) (n:Nat):(a++b).drop (m+n)=b.drop n:=by
 subst h;rw[←List.drop_drop,List.drop_left]
theorem u9 {α:Type} {a b:List α} {m:Nat} (h:a.length=m) (n:Nat):(a++b).take (m+n)=a++b.take n:=by
 subst h;rw[List.take_append,List.take_of_length_le (by omega),Nat.add_sub_cancel_left]
section
variable {F:Nat→Prop} {w:World}
mutual
theorem aO.width:∀ (x:T) (u:Value),aO F w x u→u.cells.size=x.width
 | .lit v,u,h=>by
  unfold aO at h
  obtain⟨rfl,h1⟩:=h
  rw[dR h1];rfl
 | .sl s xs,u,h=>by
  unfold aO at h
  obtain⟨x,cap,cells,rfl,_⟩:=h
  rfl
 | .agg fs,u,h=>by
  unfold aO at h
  obtain⟨cells,rfl,h2⟩:=h
  have:=ay.widths fs cells h2
  simpa [Value.cells,T.width] using this
theorem ay.widths:∀ (xs:List T) (cs:List Value),ay F w xs cs→cs.length=T.widths xs
 | [],cs,h=>by unfold ay at h;subst h;rfl
 | x :: r,cs,h=>by
  unfold ay at h
  obtain⟨v,cs',rfl,h2,h3⟩:=h
  have h4:=aO.width x v h2
  have h5:=ay.widths r cs' h3
  simp[T.widths,h5,h4]
end
mutual
theorem aO.one:∀ (x:T) (u:Value),aO F w x u→∀ c∈u.cells.toList,c.oneCell'=true
 | .lit v,u,h=>by
  unfold aO at h
  obtain⟨rfl,h1⟩:=h
  rw[dR h1];simpa using h1
 | .sl s xs,u,h=>by
  unfold aO at h
  obtain⟨x,cap,cells,rfl,_⟩:=h
  intro c hc
  simp[Value.cells]at hc;subst hc;rfl
 | .agg fs,u,h=>by
  unfold aO at h
  obtain⟨cells,rfl,h2⟩:=h
  simpa [Value.cells] using ay.one fs cells h2
theorem ay.one:∀ (xs:List T) (cs:List Value),ay F w xs cs→∀ c∈cs,c.oneCell'=true
 | [],cs,h=>by unfold ay at h;subst h;simp
 | x :: r,cs,h=>by
  unfold ay at h
  obtain⟨v,cs',rfl,h2,h3⟩:=h
  intro c hc
  rcases List.mem_append.1 hc with hc|hc
  ·exact aO.one x v h2 c hc
  ·exact ay.one r cs' h3 c hc
end
theorem ay.append:∀ {xs ys:List T} {cs ds:List Value},ay F w xs cs→ay F w ys ds→ay F w (xs++ys) (cs++ds)
 | [],ys,cs,ds,h1,h2=>by unfold ay at h1;subst h1;exact h2
 | x :: r,ys,cs,ds,h1,h2=>by
  unfold ay at h1
  obtain⟨v,cs',rfl,h3,h4⟩:=h1
  show ay F w (x :: (r++ys)) _
  unfold ay
  exact⟨v,cs'++ds,by simp,h3,ay.append h4 h2⟩
theorem ay.get:∀ {xs:List T} {cs:List Value} {i:Nat} {x:T},ay F w xs cs→xs[i]? = some x→
  ∃ v,aO F w x v∧(∀ j c,v.cells.toList[j]? = some c→cs[T.widths (xs.take i)+j]? = some c)∧cs.drop (T.widths (xs.take i))=v.cells.toList++cs.drop (T.widths (xs.take (i+1)))
 | [],cs,i,x,_,h=>by simp at h
 | y :: r,cs,0,x,h,hx=>by
  simp at hx;subst hx
  unfold ay at h
  obtain⟨v,cs',rfl,h2,h3⟩:=h
  have hw:=aO.width y v h2
  refine⟨v,h2,?_,?_⟩
  ·intro j c hj
   simp only[List.take_zero,T.widths,Nat.zero_add]
   rw[List.getElem?_append_left (List.getElem?_eq_some_iff.1 hj).1];exact hj
  ·have:v.cells.toList.length=y.width:=by simpa using hw
   simp[T.widths,←this]
 | y :: r,cs,i+1,x,h,hx=>by
  unfold ay at h
  obtain⟨v,cs',rfl,h2,h3⟩:=h
  have hw:=aO.width y v h2
  have hl:v.cells.toList.length=y.width:=by simpa using hw
  obtain⟨u,hu,hu2,hu3⟩:=ay.get (i:=i) (x:=x) h3 (by simpa using hx)
  refine⟨u,hu,?_,?_⟩
  ·intro j c hj
   have:=hu2 j c hj
   simp only[List.take_succ_cons,T.widths]
   rw[List.getElem?_append_right (by omega),hl,show y.width+T.widths (List.take i r)+j - y.width=T.widths (List.take i r)+j by omega]
   exact this
  ·simp only[List.take_succ_cons,T.widths]
   rw[jX hl,jX hl]
   exact hu3
theorem bt {s:Nat}:∀ {xs:List T},(∀ y∈xs,y.width=s)→T.widths xs=xs.length * s
 | [],_=>by simp[T.widths]
 | x :: r,h=>by
  have:=bt (s:=s) (xs:=r) fun y hy=>h y (by simp[hy])
  simp[T.widths,this,h x (by simp),Nat.add_mul];omega
theorem aG {s i:Nat} {xs:List T} (h:∀ y∈xs,y.width=s) (hi:i≤xs.length):T.widths (xs.take i)=i * s:=by
 rw[bt (s:=s) fun y hy=>h y (List.mem_of_mem_take hy),List.length_take,Nat.min_eq_left hi]
theorem dD:∀ (xs ys:List T),T.widths (xs++ys)=T.widths xs+T.widths ys
 | [],ys=>by simp[T.widths]
 | x :: r,ys=>by simp[T.widths,dD r ys];omega
theorem b9 {xs:List T} {i:Nat} {x:T} (h:xs[i]? = some x):T.widths (xs.take (i+1))=T.widths (xs.take i)+x.width:=by
 rw[bC h,dD];simp[T.widths]
theorem ay.split:∀ {xs:List T} {cs:List Value} (i:Nat),ay F w xs cs→ay F w (xs.take i) (cs.take (T.widths (xs.take i)))∧ay F w (xs.drop i) (cs.drop (T.widths (xs.take i)))
 | xs,cs,0,h=>by simp[T.widths];exact⟨by unfold ay;rfl,h⟩
 | [],cs,i+1,h=>by unfold ay at h;subst h;simp;unfold ay;rfl
 | x :: r,cs,i+1,h=>by
  unfold ay at h
  obtain⟨v,cs',rfl,h2,h3⟩:=h
  have hw:=aO.width x v h2
  have hl:v.cells.toList.length=x.width:=by simpa using hw
  obtain⟨h4,h5⟩:=ay.split i h3
  simp only[List.take_succ_cons,List.drop_succ_cons,T.widths]
  rw[u9 hl,jX hl]
  refine⟨?_,h5⟩
  unfold ay
  exact⟨v,_,rfl,h2,h4⟩
theorem ay.set {xs:List T} {cs:List Value} {i:Nat} {x y:T} {u:Value} (h:ay F w xs cs) (hx:xs[i]? = some x) (hy:aO F w y u) (hw:y.width=x.width) :
  ay F w (xs.set i y) (cs.take (T.widths (xs.take i))++(u.cells.toList++cs.drop (T.widths (xs.take i)+x.width))):=by
 have h1:=(ay.split i h).1
 have h2:=(ay.split (i+1) h).2
 rw[b9 hx]at h2
 have hlt:=(List.getElem?_eq_some_iff.1 hx).1
 rw[List.set_eq_take_append_cons_drop,if_pos hlt]
 refine ay.append h1 ?_
 unfold ay
 exact⟨u,_,rfl,hy,h2⟩
end
def aW:Value→Option Nat
 | .slice (some a) _ _=>some a.block
 | .pointer (some a)=>some a.block
 | _=>none
mutual
def S.width:S→Nat
 | .t x=>x.width
 | .ag fs=>S.widths fs
 | _=>1
def S.widths:List S→Nat
 | []=>0
 | x :: r=>x.width+S.widths r
end
mutual
def S.free (l:Nat):S→Bool
 | .own k=>k != l
 | .pt k _ _=>k != l
 | .wn k _ _ _=>k != l
 | .ag fs=>S.frees l fs
 | .tup fs=>S.frees l fs
 | .fn _ fs=>S.frees l fs
 | .fb _ fs=>S.frees l fs
 | _=>true
def S.frees (l:Nat):List S→Bool
 | []=>true
 | x :: r=>x.free l && S.frees l r
end
def tM (l:Nat):List (Nat×S)→Bool
 | []=>true
 | (_,c) :: r=>c.free l && tM l r
def aA.free (l:Nat):aA→Bool
 | .list _ _ _=>true
 | .box _ c=>c.free l
 | .rows _ _ _ ex=>tM l ex
structure Gh where
 F:Nat→Prop
 β:Nat→Value
 φ:Nat→Nat→Prop
def Gh.ft (G:Gh) (l k:Nat):Prop:=aW (G.β l)=some k∨G.φ l k
def Ri (v:Value) (p:List Nat) (off n:Nat) (u:Value):Prop:=
 ∃ b o c,aW v=some b∧u = .slice (some ⟨b,o,none⟩) n c∧n≤c∧(0 < n∨off=0→o=off)∧(∀ x N cap,v = .slice x N cap→p=[]→off+c=cap∧off+n≤N)∧c≤maxLen
mutual
def ar (G:Gh) (w:World):S→Value→Prop
 | .dead,_=>True
 | .t x,u=>aO G.F w x u
 | .rp x,u=>∃ b off v,u = .pointer (some ⟨b,off,none⟩)∧G.F b∧aO G.F w x v∧∀ j c,v.cells.toList[j]? = some c→w.cell? ⟨b,off+j,none⟩=some c
 | .own l,u=>u=G.β l∧∃ x n cap,u = .slice x n cap
 | .pt l _ off,u=>∃ b,aW (G.β l)=some b∧u = .pointer (some ⟨b,off,none⟩)
 | .wn l p off n,u=>Ri (G.β l) p off n u
 | .cl s xs,u=>∃ x cells,u = .slice x xs.length xs.length∧ay G.F w xs cells∧(∀ y∈xs,y.width=s)∧Du G.F w x xs.length xs.length s cells
 | .ag fs,u=>∃ cells:List Value,u = .agg cells.toArray∧aE G w fs cells
 | .tup fs,u=>∃ us:List Value,u = .tuple us.toArray∧aD G w fs us
 | .fn f fs,u=>∃ us:List Value,u = .func (.func f) #[] us.toArray∧aD G w fs us
 | .fb f fs,u=>∃ us:List Value,u = .func (.func f) us.toArray #[]∧aD G w fs us
def aE (G:Gh) (w:World):List S→List Value→Prop
 | [],cs=>cs=[]
 | x :: r,cs=>∃ v cs',cs=v.cells.toList++cs'∧v.cells.size=x.width∧(∀ c∈v.cells.toList,c.oneCell'=true)∧ar G w x v∧aE G w r cs'
def aD (G:Gh) (w:World):List S→List Value→Prop
 | [],us=>us=[]
 | x :: r,us=>∃ v us',us=v :: us'∧ar G w x v∧aD G w r us'
end
section
variable {G G':Gh} {w w':World} {nw:List Nat}
structure iF (G:Gh) (w:World) (G':Gh) (w':World) (nw:List Nat):Prop where
 fsub:∀ b,G.F b→G'.F b
 fcell:∀ b o,G.F b→w'.cell? ⟨b,o,none⟩=w.cell? ⟨b,o,none⟩
 same:∀ l,l∉nw→G'.β l=G.β l
theorem iF.refl (G:Gh) (w:World):iF G w G w []:=⟨fun _ h=>h,fun _ _ _=>rfl,fun _ _=>rfl⟩
mutual
theorem ar.keep (K:iF G w G' w' nw):∀ (s:S) (u:Value),(∀ l∈nw,s.free l=true)→ar G w s u→ar G' w' s u
 | .dead,u,_,h=>by unfold ar;trivial
 | .t x,u,_,h=>by unfold ar at *;exact aO.mono K.fsub K.fcell x u h
 | .rp x,u,_,h=>by
  unfold ar at *
  obtain⟨b,off,v,h1,h2,h3,h4⟩:=h
  exact⟨b,off,v,h1,K.fsub b h2,aO.mono K.fsub K.fcell x v h3,fun j c hj=>(K.fcell b _ h2).trans (h4 j c hj)⟩
 | .own l,u,hf,h=>by
  unfold ar at *
  refine⟨?_,h.2⟩
  rw[h.1,K.same l fun hl=>?_]
  have:=hf l hl
  simp[S.free]at this
 | .pt l p off,u,hf,h=>by
  unfold ar at *
  obtain⟨b,h1,h2⟩:=h
  refine⟨b,?_,h2⟩
  rw[K.same l fun hl=>?_,h1]
  have:=hf l hl
  simp[S.free]at this
 | .cl s xs,u,hf,h=>by
  unfold ar at *
  obtain⟨x,cells,h1,h2,h3,h4⟩:=h
  exact⟨x,cells,h1,ay.mono K.fsub K.fcell xs cells h2,h3,h4.mono K.fsub K.fcell⟩
 | .wn l p off n,u,hf,h=>by
  unfold ar at *
  rw[K.same l fun hl=>?_]
  ·exact h
  ·have:=hf l hl
   simp[S.free]at this
 | .ag fs,u,hf,h=>by
  unfold ar at *
  obtain⟨cells,h1,h2⟩:=h
  exact⟨cells,h1,aE.keep K fs cells (fun l hl=>by have:=hf l hl;simpa [S.free] using this) h2⟩
 | .tup fs,u,hf,h=>by
  unfold ar at *
  obtain⟨cells,h1,h2⟩:=h
  exact⟨cells,h1,aD.keep K fs cells (fun l hl=>by have:=hf l hl;simpa [S.free] using this) h2⟩
 | .fn f fs,u,hf,h=>by
  unfold ar at *
  obtain⟨cells,h1,h2⟩:=h
  exact⟨cells,h1,aD.keep K fs cells (fun l hl=>by have:=hf l hl;simpa [S.free] using this) h2⟩
 | .fb f fs,u,hf,h=>by
  unfold ar at *
  obtain⟨cells,h1,h2⟩:=h
  exact⟨cells,h1,aD.keep K fs cells (fun l hl=>by have:=hf l hl;simpa [S.free] using this) h2⟩
theorem aE.keep (K:iF G w G' w' nw):∀ (fs:List S) (cs:List Value),(∀ l∈nw,S.frees l fs=true)→aE G w fs cs→aE G' w' fs cs
 | [],cs,_,h=>by unfold aE at *;exact h
 | x :: r,cs,hf,h=>by
  unfold aE at *
  obtain⟨v,cs',h1,h2,h3,h4,h5⟩:=h
  have hf':∀ l∈nw,x.free l=true∧S.frees l r=true:=fun l hl=>by have:=hf l hl;simpa [S.frees] using this
  exact⟨v,cs',h1,h2,h3,ar.keep K x v (fun l hl=>(hf' l hl).1) h4,aE.keep K r cs' (fun l hl=>(hf' l hl).2) h5⟩
theorem aD.keep (K:iF G w G' w' nw):∀ (fs:List S) (cs:List Value),(∀ l∈nw,S.frees l fs=true)→aD G w fs cs→aD G' w' fs cs
 | [],cs,_,h=>by unfold aD at *;exact h
 | x :: r,cs,hf,h=>by
  unfold aD at *
  obtain⟨v,cs',h1,h4,h5⟩:=h
  have hf':∀ l∈nw,x.free l=true∧S.frees l r=true:=fun l hl=>by have:=hf l hl;simpa [S.frees] using this
  exact⟨v,cs',h1,ar.keep K x v (fun l hl=>(hf' l hl).1) h4,aD.keep K r cs' (fun l hl=>(hf' l hl).2) h5⟩
end
end
def bH (G:Gh) (w:World):aA→Value→Prop
 | .list e s xs,u=>∃ x cap cells,u = .slice x xs.length cap∧ay G.F w xs cells∧(∀ y∈xs,y.width=s)∧w.ownsRow 0 e s u xs.length cells
 | .box e c,u=>∃ b v,u = .pointer (some ⟨b,0,none⟩)∧ar G w c v∧v.cells.size=c.width∧(∀ x∈v.cells.toList,x.oneCell'=true)∧w.heap[b]? = some (.cells v.cells e (0,0))
 | .rows e s us ex,u=>∃ x cap cells,u = .slice x us.length cap∧w.ownsRow 0 e s u us.length cells
def ko:List (Nat×S)→Nat→Option S
 | [],_=>none
 | (i,c) :: r,k=>if k=i then some c else ko r k
def jH (G:Gh) (w:World):U→Value→Option Nat→Prop
 | .t x,v,k=>aO G.F w x v∧k=none
 | .ow e s xs,v,k=>bH G w (.list e s xs) v∧k=aW v
 | .fw fs e s xs,v,k=>∃ cs v',v = .agg (cs++[v']).toArray∧ay G.F w fs cs∧bH G w (.list e s xs) v'∧k=aW v'
def fV (G:Gh) (w:World) (c?:Option S) (u:U) (s:Nat) (v:Value) (k:Option Nat):Prop:=match c? with
 | some c=>ar G w c v∧c.width=s∧k=none
 | none=>jH G w u v k
def Pq (G:Gh) (w:World) (s:Nat) (us:List U) (ex:List (Nat×S)) (cells:List Value) (κ:Nat→Option Nat):Prop:=
 ∀ i u,us[i]? = some u→∃ v:Value,(∀ j c,v.cells.toList[j]? = some c→cells[i * s+j]? = some c)∧v.cells.size=s∧(∀ c∈v.cells.toList,c.oneCell'=true)∧fV G w (ko ex i) u s v (κ i)
def ik (G:Gh) (w:World):aA→Value→(Nat→Prop)→Prop
 | .list _ _ _,_,f=>∀ k,¬ f k
 | .box _ _,_,f=>∀ k,¬ f k
 | .rows e s us ex,u,f=>∃ cells κ,w.ownsRow 0 e s u us.length cells∧Pq G w s us ex cells κ∧(∀ k,f k↔∃ i,κ i=some k)∧(∀ i j k,κ i=some k→κ j=some k→i=j)∧
   (∀ i k,κ i=some k→aW u≠some k)∧∀ i,us.length≤i→κ i=none
structure bn (G:Gh) (w:World) (h:Nat→Option aA):Prop where
 rep:∀ l b,h l=some b→bH G w b (G.β l)
 inn:∀ l b,h l=some b→ik G w b (G.β l) (G.φ l)
 sep:∀ l b k,h l=some b→G.ft l k→¬ G.F k
 inj:∀ l l' b b' k,h l=some b→h l'=some b'→G.ft l k→G.ft l' k→l=l'
 fb:∀ b,G.F b→b < w.heap.size
theorem bH.lt {G:Gh} {w:World} {b:aA} {u:Value} {k:Nat} (h:bH G w b u) (hk:aW u=some k):k < w.heap.size:=by
 cases b with
 | list e s xs=>
  obtain⟨x,cap,cells,rfl,_,_,h4⟩:=h
  rcases h4.2 with ⟨hv,_⟩|⟨g,cap',cur,hv,_,hh,_⟩
  ·rw[hv]at hk;simp[aW]at hk
  ·rw[hv]at hk;simp[aW]at hk;subst hk;exact lt_of_block hh
 | rows e s us ex=>
  obtain⟨x,cap,cells,rfl,h4⟩:=h
  rcases h4.2 with ⟨hv,_⟩|⟨g,cap',cur,hv,_,hh,_⟩
  ·rw[hv]at hk;simp[aW]at hk
  ·rw[hv]at hk;simp[aW]at hk;subst hk;exact lt_of_block hh
 | box e c=>
  obtain⟨b,v,rfl,_,_,_,hh⟩:=h
  simp[aW]at hk;subst hk;exact lt_of_block hh
def aA.plain:aA→Bool
 | .rows _ _ _ _=>false
 | _=>true
theorem ik.plain {G:Gh} {w:World} {b:aA} {u:Value} (h:b.plain=true):ik G w b u (fun _=>False):=by
 cases b with
 | list e s xs=>exact fun _ h=>h
 | box e c=>exact fun _ h=>h
 | rows e s us ex=>cases h
theorem jH.lt {G:Gh} {w:World} {u:U} {v:Value} {o:Option Nat} {k:Nat} (h:jH G w u v o) (hk:o=some k):k < w.heap.size:=by
 cases u with
 | t x=>obtain⟨_,rfl⟩:=h;cases hk
 | ow e s xs=>obtain⟨h1,rfl⟩:=h;exact h1.lt hk
 | fw fs e s xs=>obtain⟨cs,v',_,_,h1,rfl⟩:=h;exact h1.lt hk
theorem ik.lt {G:Gh} {w:World} {b:aA} {u:Value} {f:Nat→Prop} {k:Nat} (h:ik G w b u f) (hk:f k):k < w.heap.size:=by
 cases b with
 | list e s xs=>exact (h k hk).elim
 | box e c=>exact (h k hk).elim
 | rows e s us ex=>
  obtain⟨cells,κ,_,h2,h3,_,_,h6⟩:=h
  obtain⟨i,hi⟩:=(h3 k).1 hk
  have hlt:i < us.length:=by
   rcases Nat.lt_or_ge i us.length with h|h
   ·exact h
   ·rw[h6 i h]at hi;cases hi
  obtain⟨v,_,_,_,h9⟩:=h2 i us[i] (List.getElem?_eq_getElem hlt)
  unfold fV at h9
  split at h9
  ·rw[h9.2.2]at hi;cases hi
  ·exact h9.lt hi
theorem bn.lt {G:Gh} {w:World} {h:Nat→Option aA} (hh:bn G w h) {l:Nat} {b:aA} {k:Nat} (hl:h l=some b) (hk:G.ft l k):k < w.heap.size:=by
 rcases hk with hk|hk
 ·exact (hh.rep l b hl).lt hk
 ·exact (hh.inn l b hl).lt hk
theorem bH.obj {G:Gh} {w:World} {b:aA} {u:Value} {k:Nat} (h:bH G w b u) (hk:aW u=some k):∃ cs e m,w.heap[k]? = some (.cells cs e m):=by
 cases b with
 | list e s xs=>
  obtain⟨x,cap,cells,rfl,_,_,h4⟩:=h
  rcases h4.2 with ⟨hv,_⟩|⟨g,cap',cur,hv,_,hh,_⟩
  ·rw[hv]at hk;simp[aW]at hk
  ·rw[hv]at hk;simp[aW]at hk;subst hk;exact⟨_,_,_,hh⟩
 | rows e s us ex=>
  obtain⟨x,cap,cells,rfl,h4⟩:=h
  rcases h4.2 with ⟨hv,_⟩|⟨g,cap',cur,hv,_,hh,_⟩
  ·rw[hv]at hk;simp[aW]at hk
  ·rw[hv]at hk;simp[aW]at hk;subst hk;exact⟨_,_,_,hh⟩
 | box e c=>
  obtain⟨b,v,rfl,_,_,_,hh⟩:=h
  simp[aW]at hk;subst hk;exact⟨_,_,_,hh⟩
theorem jH.obj {G:Gh} {w:World} {u:U} {v:Value} {o:Option Nat} {k:Nat} (h:jH G w u v o) (hk:o=some k):∃ cs e m,w.heap[k]? = some (.cells cs e m):=by
 cases u with
 | t x=>obtain⟨_,rfl⟩:=h;cases hk
 | ow e s xs=>obtain⟨h1,rfl⟩:=h;exact h1.obj hk
 | fw fs e s xs=>obtain⟨cs,v',_,_,h1,rfl⟩:=h;exact h1.obj hk
theorem ik.obj {G:Gh} {w:World} {b:aA} {u:Value} {f:Nat→Prop} {k:Nat} (h:ik G w b u f) (hk:f k):∃ cs e m,w.heap[k]? = some (.cells cs e m):=by
 cases b with
 | list e s xs=>exact (h k hk).elim
 | box e c=>exact (h k hk).elim
 | rows e s us ex=>
  obtain⟨cells,κ,_,h2,h3,_,_,h6⟩:=h
  obtain⟨i,hi⟩:=(h3 k).1 hk
  have hlt:i < us.length:=by
   rcases Nat.lt_or_ge i us.length with h|h
   ·exact h
   ·rw[h6 i h]at hi;cases hi
  obtain⟨v,_,_,_,h9⟩:=h2 i us[i] (List.getElem?_eq_getElem hlt)
  unfold fV at h9
  split at h9
  ·rw[h9.2.2]at hi;cases hi
  ·exact h9.obj hi
theorem bn.obj {G:Gh} {w:World} {h:Nat→Option aA} (hh:bn G w h) {l:Nat} {b:aA} {k:Nat} (hl:h l=some b) (hk:G.ft l k):∃ cs e m,w.heap[k]? = some (.cells cs e m):=by
 rcases hk with hk|hk
 ·exact (hh.rep l b hl).obj hk
 ·exact (hh.inn l b hl).obj hk
def kh (W:World) (ds:List Deferred) (w:World):Prop:=∃ Ds:List Nat,ds=Ds.map (fun D=>{target:=.collected D,args:=#[]})∧Ds.Nodup∧∀ D∈Ds,w.heap[D]? = some (Obj.deferred (some []))∧W.heap.size≤D
theorem kh.nil (W w:World):kh W [] w:=⟨[],rfl,List.nodup_nil,fun _ h=>by cases h⟩
theorem kh.keep {W w w':World} {ds:List Deferred} (h:kh W ds w) (hk:∀ D:Nat,w.heap[D]? = some (Obj.deferred (some []))→w'.heap[D]? = w.heap[D]?):kh W ds w':=by
 obtain⟨Ds,h1,h2,h3⟩:=h
 exact⟨Ds,h1,h2,fun D hD=>⟨(hk D (h3 D hD).1).trans (h3 D hD).1,(h3 D hD).2⟩⟩
structure lh (W:World) (G0:Gh) (A:Nat→Prop) (G:Gh) (w:World) (h:Nat→Option aA):Prop where
 os:w.os=W.os
 tape:w.tape=W.tape
 output:w.output=W.output
 size:W.heap.size≤w.heap.size
 block:∀ b,b < W.heap.size→¬ A b→w.heap[b]? = W.heap[b]?
 own:∀ l b k,h l=some b→G.ft l k→A k∨W.heap.size≤k
 fin:∀ b,G0.F b→G.F b
 fout:∀ b,G.F b→G0.F b∨A b∨W.heap.size≤b
 same:∀ l,l < 100→G.β l=G0.β l
structure bT (N:Nat) (W:World) (G0:Gh) (A:Nat→Prop) (G:Gh) (g:Nat→S) (h:Nat→Option aA) (a:Act) (w:World):Prop where
 size:a.tmps.size=N
 defers:kh W a.defers w
 slots:∀ t,ar G w (g t) (a.tmps.getD t undef)
 heap:bn G w h
 frm:lh W G0 A G w h
structure Ext (G:Gh) (w:World) (h:Nat→Option aA) (G':Gh) (w':World) (h':Nat→Option aA) (nw:List Nat):Prop where
 keep:iF G w G' w' nw
 heap:bn G' w' h'
 os:w'.os=w.os
 tape:w'.tape=w.tape
 output:w'.output=w.output
 size:w.heap.size≤w'.heap.size
 block:∀ b,b < w.heap.size→(∀ l x,h l=some x→¬ G.ft l b)→w'.heap[b]? = w.heap[b]?
 own:∀ l x k,h' l=some x→G'.ft l k→(∃ l0 x0,h l0=some x0∧G.ft l0 k)∨w.heap.size≤k
 fnew:∀ b,G'.F b→G.F b∨(∃ l0 x0,h l0=some x0∧G.ft l0 b)∨w.heap.size≤b
theorem Ext.defs {G G':Gh} {w w' W:World} {h h':Nat→Option aA} {nw:List Nat} {ds:List Deferred} (x:Ext G w h G' w' h' nw) (hh:bn G w h) (hd:kh W ds w):kh W ds w':=
 hd.keep fun D hD=>x.block D (Array.getElem?_eq_some_iff.1 hD).1 fun l b hl hk=>by
  obtain⟨cs,e,m,ho⟩:=hh.obj hl hk
  rw[hD]at ho;cases ho
theorem Ext.refl {G:Gh} {w:World} {h:Nat→Option aA} (hh:bn G w h):Ext G w h G w h []:=
 ⟨iF.refl G w,hh,rfl,rfl,rfl,Nat.le_refl _,fun _ _ _=>rfl,fun l x k h1 h2=> .inl ⟨l,x,h1,h2⟩,fun b hb=> .inl hb⟩
theorem lh.ext {W:World} {G0:Gh} {A:Nat→Prop} {G G':Gh} {w w':World} {h h':Nat→Option aA} {nw:List Nat} (f:lh W G0 A G w h) (x:Ext G w h G' w' h' nw) (hn:∀ l∈nw,100≤l):lh W G0 A G' w' h':=by
 refine⟨x.os.trans f.os,x.tape.trans f.tape,x.output.trans f.output,Nat.le_trans f.size x.size,?_,?_,fun b hb=>x.keep.fsub b (f.fin b hb),?_,fun l hl=>(x.keep.same l (fun hm=>by have:=hn l hm;omega)).trans (f.same l hl)⟩
 ·intro b hb hA
  rw[x.block b (Nat.lt_of_lt_of_le hb f.size) ?_]
  ·exact f.block b hb hA
  ·intro l y hl hk
   rcases f.own l y b hl hk with h1|h1
   ·exact hA h1
   ·omega
 ·intro l y k hl hk
  rcases x.own l y k hl hk with ⟨l0,x0,h1,h2⟩|h1
  ·exact f.own l0 x0 k h1 h2
  ·exact .inr (Nat.le_trans f.size h1)
 ·intro b hb
  rcases x.fnew b hb with h1|⟨l0,x0,h1,h2⟩|h1
  ·exact f.fout b h1
  ·rcases f.own l0 x0 b h1 h2 with h3|h3
   ·exact .inr (.inl h3)
   ·exact .inr (.inr h3)
  ·exact .inr (.inr (Nat.le_trans f.size h1))
def jM (g:Nat→S) (d:Option Tmp) (r:S):Nat→S:=match d with|some t=>fun k=>if k=t then r else g k|none=>g
theorem Jz {a:Act} {d:Option Tmp} {v:Value} {t:Nat}:(a.put d v).tmps.getD t undef=if d=some t∧t < a.tmps.size then v else a.tmps.getD t undef:=by
 cases d with
 | none=>simp[Act.put]
 | some k=>
  simp only[Act.put,Array.getD_eq_getD_getElem?,Array.getElem?_setIfInBounds,Option.some.injEq]
  by_cases e:k=t
  ·subst e
   by_cases hl:k < a.tmps.size
   ·simp[hl]
   ·simp[hl]
  ·simp[e]
theorem bT.step {N:Nat} {W:World} {G0:Gh} {A:Nat→Prop} {G G':Gh} {g:Nat→S} {h h':Nat→Option aA} {a:Act} {w w':World} {nw:List Nat} {d:Option Tmp} {r:S} {v:Value}
  (s:bT N W G0 A G g h a w) (x:Ext G w h G' w' h' nw) (hn:∀ l∈nw,100≤l) (hf:∀ l∈nw,∀ t,(g t).free l=true) (hr:ar G' w' r v) (hd:∀ t,d=some t→t < N):bT N W G0 A G' (jM g d r) h' (a.put d v) w':=by
 refine⟨?_,?_,?_,x.heap,s.frm.ext x hn⟩
 ·cases d<;>simp[Act.put,s.size]
 ·have:=x.defs s.heap s.defers
  cases d<;>simpa [Act.put] using this
 ·intro t
  rw[Jz]
  cases d with
  | none=>simpa [jM] using ar.keep x.keep (g t) _ (fun l hl=>hf l hl t) (s.slots t)
  | some k=>
   by_cases e:t=k
   ·subst e
    have:=hd t rfl
    simp[jM,s.size,this];exact hr
   ·simp[jM,e,Ne.symm e]
    simpa using ar.keep x.keep (g t) _ (fun l hl=>hf l hl t) (s.slots t)
def cY (h:Nat→Option aA) (l:Nat) (b:Option aA):Nat→Option aA:=fun k=>if k=l then b else h k
def zm (β:Nat→Value) (l:Nat) (v:Value):Nat→Value:=fun k=>if k=l then v else β k
def qc (φ:Nat→Nat→Prop) (l:Nat) (f:Nat→Prop):Nat→Nat→Prop:=fun k=>if k=l then f else φ k
theorem iv (φ:Nat→Nat→Prop) (l:Nat) (f:Nat→Prop):qc φ l f l=f:=by simp[qc]
theorem fD {φ:Nat→Nat→Prop} {l k:Nat} (f:Nat→Prop) (hk:k≠l):qc φ l f k=φ k:=by simp[qc,hk]
theorem dw (β:Nat→Value) (l:Nat) (v:Value):zm β l v l=v:=by simp[zm]
theorem eN {β:Nat→Value} {l k:Nat} (v:Value) (hk:k≠l):zm β l v k=β k:=by simp[zm,hk]
theorem bj {w w':World} {b o:Nat} (h:w'.heap[b]? = w.heap[b]?):w'.cell? ⟨b,o,none⟩=w.cell? ⟨b,o,none⟩:=World.cell?_of_block (w:=w) h
theorem jF {w w':World} {e:TypeId} {s n:Nat} {u:Value} {cells:List Value} (h:w.ownsRow 0 e s u n cells) (hb:∀ k,aW u=some k→w'.heap[k]? = w.heap[k]?):w'.ownsRow 0 e s u n cells:=by
 refine⟨h.1,?_⟩
 rcases h.2 with h5|⟨g,cap',cur,hv,hB,hh,hr⟩
 ·exact .inl h5
 ·refine .inr ⟨g,cap',cur,hv,hB,?_,hr⟩
  rw[hb g (by rw[hv];rfl)];exact hh
theorem bH.keep2 {G G':Gh} {w w':World} {nw:List Nat} (K:iF G w G' w' nw) {b:aA} {u:Value} (hf:∀ l∈nw,b.free l=true) (hb:∀ k,aW u=some k→w'.heap[k]? = w.heap[k]?)
  (h:bH G w b u):bH G' w' b u:=by
 cases b with
 | list e s xs=>
  obtain⟨x,cap,cells,rfl,h2,h3,h4⟩:=h
  exact⟨x,cap,cells,rfl,ay.mono K.fsub K.fcell xs cells h2,h3,jF h4 hb⟩
 | box e c=>
  obtain⟨b,v,rfl,h2,h3,h4,h5⟩:=h
  refine⟨b,v,rfl,ar.keep K c v (fun l hl=>by have:=hf l hl;simpa [aA.free] using this) h2,h3,h4,?_⟩
  rw[hb b rfl]
  exact h5
 | rows e s us ex=>
  obtain⟨x,cap,cells,rfl,h4⟩:=h
  exact⟨x,cap,cells,rfl,jF h4 hb⟩
theorem mj {l:Nat}:∀ {ex:List (Nat×S)} {i:Nat} {c:S},tM l ex=true→ko ex i=some c→c.free l=true
 | [],i,c,_,e=>by simp[ko]at e
 | (j,c0) :: r,i,c,h,e=>by
  simp only[tM,Bool.and_eq_true]at h
  simp only[ko]at e
  split at e
  ·cases e;exact h.1
  ·exact mj h.2 e
theorem jH.keep2 {G G':Gh} {w w':World} {nw:List Nat} (K:iF G w G' w' nw) {u:U} {v:Value} {k:Option Nat} (hb:∀ j,k=some j→w'.heap[j]? = w.heap[j]?) (h:jH G w u v k):jH G' w' u v k:=by
 cases u with
 | t x=>exact⟨aO.mono K.fsub K.fcell x v h.1,h.2⟩
 | ow e s xs=>
  obtain⟨h1,rfl⟩:=h
  exact⟨bH.keep2 K (fun _ _=>rfl) hb h1,rfl⟩
 | fw fs e s xs=>
  obtain⟨cs,v',h1,h2,h3,rfl⟩:=h
  exact⟨cs,v',h1,ay.mono K.fsub K.fcell fs cs h2,bH.keep2 K (fun _ _=>rfl) hb h3,rfl⟩
theorem ik.keep2 {G G':Gh} {w w':World} {nw:List Nat} (K:iF G w G' w' nw) {b:aA} {u:Value} {f:Nat→Prop} (hf:∀ l∈nw,b.free l=true) (hb:∀ k,(aW u=some k∨f k)→w'.heap[k]? = w.heap[k]?)
  (h:ik G w b u f):ik G' w' b u f:=by
 cases b with
 | list e s xs=>exact h
 | box e c=>exact h
 | rows e s us ex=>
  obtain⟨cells,κ,h1,h2,h3,h4,h5,h6⟩:=h
  refine⟨cells,κ,jF h1 (fun k hk=>hb k (.inl hk)),fun i x hx=>?_,h3,h4,h5,h6⟩
  obtain⟨v,h7,h8,h9,h10⟩:=h2 i x hx
  refine⟨v,h7,h8,h9,?_⟩
  unfold fV at *
  cases hc:ko ex i with
  | some c=>
   rw[hc]at h10
   exact⟨ar.keep K c v (fun l hl=>mj (hf l hl) hc) h10.1,h10.2⟩
  | none=>
   rw[hc]at h10
   exact h10.keep2 K fun j hj=>hb j (.inr ((h3 j).2 ⟨i,hj⟩))
theorem bH.keep {G G':Gh} {w w':World} {nw:List Nat} {row:Option Nat} (K:iF G w G' w' nw) {b:aA} {u:Value} (hf:∀ l∈nw,b.free l=true) (hg:w.grownBy w' row) (hr:∀ k,aW u=some k→row≠some k)
  (h:bH G w b u):bH G' w' b u:=bH.keep2 K hf (fun k hk=>hg.block k (h.lt hk) (fun e=>hr k hk e.symm)) h
theorem ik.keep {G G':Gh} {w w':World} {nw:List Nat} {row:Option Nat} (K:iF G w G' w' nw) {b:aA} {u:Value} {f:Nat→Prop} (hf:∀ l∈nw,b.free l=true) (hg:w.grownBy w' row) (hr:∀ k,(aW u=some k∨f k)→row≠some k)
  (hb:bH G w b u) (h:ik G w b u f):ik G' w' b u f:=h.keep2 K hf fun k hk=>hg.block k (by rcases hk with hk|hk;exact hb.lt hk;exact h.lt hk) (fun e=>hr k hk e.symm)
theorem World.grownBy_alloc (w:World) (o:Obj):w.grownBy (w.alloc o) none:=⟨rfl,rfl,rfl,by simp,fun k hk _=>Below.heap_alloc w o k hk⟩
theorem World.grownBy_drew (w:World):w.grownBy w.drew none:=⟨rfl,rfl,rfl,Nat.le_refl _,fun _ _ _=>rfl⟩
theorem bT.drew {N:Nat} {W:World} {G0:Gh} {A:Nat→Prop} {G:Gh} {g:Nat→S} {h:Nat→Option aA} {a:Act} {w:World} (s:bT N W G0 A G g h a w):bT N W G0 A G g h a w.drew:=by
 have K:iF G w G w.drew []:=⟨fun _ h=>h,fun _ _ _=>rfl,fun _ _=>rfl⟩
 refine⟨s.size,s.defers,fun t=>ar.keep K _ _ (by simp) (s.slots t),⟨fun l b hl=>bH.keep K (by simp) (World.grownBy_drew w) (by simp) (s.heap.rep l b hl),fun l b hl=>ik.keep K (by simp) (World.grownBy_drew w) (by simp) (s.heap.rep l b hl) (s.heap.inn l b hl),s.heap.sep,s.heap.inj,s.heap.fb⟩,?_⟩
 exact⟨s.frm.os,s.frm.tape,s.frm.output,s.frm.size,s.frm.block,s.frm.own,s.frm.fin,s.frm.fout,s.frm.same⟩
def e9 (G:Gh) (d:Nat) (v:Value) (f:Nat→Prop):Gh:=⟨G.F,zm G.β d v,qc G.φ d f⟩
theorem sE {G:Gh} {d k:Nat} {v:Value} {f:Nat→Prop}:(e9 G d v f).ft d k↔(aW v=some k∨f k):=by simp[Gh.ft,e9,dw,iv]
theorem km {G:Gh} {d l k:Nat} {v:Value} {f:Nat→Prop} (h:l≠d):(e9 G d v f).ft l k↔G.ft l k:=by simp[Gh.ft,e9,eN v h,fD f h]
theorem Ext.mkG {G:Gh} {w w':World} {h:Nat→Option aA} (hok:bn G w h) (row:Option Nat) (hg:w.grownBy w' row) (l0:Option Nat)
  (hl0:∀ l,l0=some l→∃ b0,h l=some b0)
  (hrow:∀ k,row=some k→∃ l,l0=some l∧G.ft l k) (d:Nat) (v:Value) (blk:aA) (f:Nat→Prop)
  (hd:l0=some d∨h d=none) (nw:List Nat) (hnw:nw=[d]∨(nw=[]∧v=G.β d)) (hfree:∀ k∈nw,∀ l b,h l=some b→b.free k=true) (hv:∀ k,(aW v=some k∨f k)→(∃ l,l0=some l∧G.ft l k)∨(w.heap.size≤k))
  (hrep:bH (e9 G d v f) w' blk v) (hinn:ik (e9 G d v f) w' blk v f) :
  Ext G w h (e9 G d v f) w' (fun k=>if k=d then some blk else if l0=some k then none else h k) nw:=by
 have hcell:∀ b o,G.F b→w'.cell? ⟨b,o,none⟩=w.cell? ⟨b,o,none⟩:=by
  intro b o hb
  refine bj (hg.block b (hok.fb b hb) ?_)
  intro e
  obtain⟨l,h1,h2⟩:=hrow b e.symm
  obtain⟨b0,h3⟩:=hl0 l h1
  exact hok.sep l b0 b h3 h2 hb
 have K:iF G w (e9 G d v f) w' nw:=by
  refine⟨fun _ h=>h,hcell,fun l hl=>?_⟩
  rcases hnw with rfl|⟨rfl,rfl⟩
  ·exact eN v (by simpa using hl)
  ·simp only[e9,zm]
   split
   ·subst_vars;rfl
   ·rfl
 have other:∀ l x,(if l=d then some blk else if l0=some l then none else h l)=some x→(l=d∧x=blk)∨(l≠d∧l0≠some l∧h l=some x):=by
  intro l x hx
  split at hx
  ·simp at hx;exact .inl ⟨‹_›,hx.symm⟩
  ·split at hx
   ·cases hx
   ·exact .inr ⟨‹_›,‹_›,hx⟩
 have cross:∀ l x k,l≠d→l0≠some l→h l=some x→G.ft l k→(aW v=some k∨f k)→False:=by
  intro l x k h1 h2 h3 h4 h5
  rcases hv k h5 with ⟨l',h6,h7⟩|h6
  ·obtain⟨b0,h8⟩:=hl0 l' h6
   have:=hok.inj l l' x b0 k h3 h8 h4 h7
   subst this
   exact h2 h6
  ·have:=hok.lt h3 h4
   omega
 have hrowN:∀ l x k,l≠d→l0≠some l→h l=some x→G.ft l k→row≠some k:=by
  intro l x k h1 h2 h3 hk e
  obtain⟨l',h4,h5⟩:=hrow k e
  obtain⟨b0,h6⟩:=hl0 l' h4
  have:=hok.inj l l' x b0 k h3 h6 hk h5
  subst this
  exact h2 h4
 refine⟨K,⟨?_,?_,?_,?_,?_⟩,hg.os,hg.tape,hg.output,hg.size,?_,?_,?_⟩
 ·intro l x hx
  rcases other l x hx with ⟨rfl,rfl⟩|⟨h1,h2,h3⟩
  ·simp only[e9,dw];exact hrep
  ·simp only[e9,eN v h1]
   exact bH.keep K (fun k hk=>hfree k hk l x h3) hg (fun k hk=>hrowN l x k h1 h2 h3 (.inl hk)) (hok.rep l x h3)
 ·intro l x hx
  rcases other l x hx with ⟨rfl,rfl⟩|⟨h1,h2,h3⟩
  ·simp only[e9,dw,iv];exact hinn
  ·simp only[e9,eN v h1,fD f h1]
   exact ik.keep K (fun k hk=>hfree k hk l x h3) hg (fun k hk=>hrowN l x k h1 h2 h3 hk) (hok.rep l x h3) (hok.inn l x h3)
 ·intro l x k hx hk
  rcases other l x hx with ⟨rfl,rfl⟩|⟨h1,h2,h3⟩
  ·rw[sE]at hk
   intro hF
   rcases hv k hk with ⟨l',h4,h5⟩|h4
   ·obtain⟨b0,h6⟩:=hl0 l' h4
    exact hok.sep l' b0 k h6 h5 hF
   ·have:=hok.fb k hF;omega
  ·rw[km h1]at hk
   exact hok.sep l x k h3 hk
 ·intro l l' x x' k hx hx' hk hk'
  rcases other l x hx with ⟨rfl,rfl⟩|⟨h1,h2,h3⟩<;>rcases other l' x' hx' with ⟨rfl,rfl⟩|⟨h1',h2',h3'⟩
  ·rfl
  ·rw[sE]at hk;rw[km h1']at hk'
   exact (cross l' x' k h1' h2' h3' hk' hk).elim
  ·rw[sE]at hk';rw[km h1]at hk
   exact (cross l x k h1 h2 h3 hk hk').elim
  ·rw[km h1]at hk;rw[km h1']at hk'
   exact hok.inj l l' x x' k h3 h3' hk hk'
 ·intro b hb
  exact Nat.lt_of_lt_of_le (hok.fb b hb) hg.size
 ·intro b hb hno
  refine hg.block b hb ?_
  intro e
  obtain⟨l,h1,h2⟩:=hrow b e.symm
  obtain⟨b0,h3⟩:=hl0 l h1
  exact hno l b0 h3 h2
 ·intro l x k hx hk
  rcases other l x hx with ⟨rfl,rfl⟩|⟨h1,h2,h3⟩
  ·rw[sE]at hk
   rcases hv k hk with ⟨l',h4,h5⟩|h4
   ·obtain⟨b0,h6⟩:=hl0 l' h4
    exact .inl ⟨l',b0,h6,h5⟩
   ·exact .inr h4
  ·rw[km h1]at hk
   exact .inl ⟨l,x,h3,hk⟩
 ·intro b hb;exact .inl hb
abbrev Cj:Nat→Prop:=fun _=>False
theorem Ext.mk' {G:Gh} {w w':World} {h:Nat→Option aA} (hok:bn G w h) (row:Option Nat) (hg:w.grownBy w' row) (l0:Option Nat)
  (hl0:∀ l,l0=some l→∃ b0,h l=some b0)
  (hrow:∀ k,row=some k→∃ l,l0=some l∧aW (G.β l)=some k) (d:Nat) (v:Value) (blk:aA)
  (hd:l0=some d∨h d=none) (nw:List Nat) (hnw:nw=[d]∨(nw=[]∧v=G.β d)) (hfree:∀ k∈nw,∀ l b,h l=some b→b.free k=true) (hv:∀ k,aW v=some k→(∃ l,l0=some l∧aW (G.β l)=some k)∨(w.heap.size≤k))
  (hrep:bH (e9 G d v Cj) w' blk v) (hinn:ik (e9 G d v Cj) w' blk v Cj) :
  Ext G w h (e9 G d v Cj) w' (fun k=>if k=d then some blk else if l0=some k then none else h k) nw:=
 Ext.mkG hok row hg l0 hl0 (fun k hk=>by obtain⟨l,h1,h2⟩:=hrow k hk;exact⟨l,h1,.inl h2⟩) d v blk Cj hd nw hnw hfree (fun k hk=>by
  rcases hk with hk|hk
  ·rcases hv k hk with ⟨l,h1,h2⟩|h1
   ·exact .inl ⟨l,h1,.inl h2⟩
   ·exact .inr h1
  ·exact hk.elim) hrep hinn
def J3 (G:Gh) (l:Nat):Gh:=⟨fun b=>G.F b∨G.ft l b,G.β,G.φ⟩
theorem Ext.freeze {G:Gh} {w:World} {h:Nat→Option aA} (hok:bn G w h) {l:Nat} {b0:aA} (hl:h l=some b0) :
  Ext G w h (J3 G l) w (cY h l none) []:=by
 have K:iF G w (J3 G l) w []:=⟨fun _ h=> .inl h,fun _ _ _=>rfl,fun _ _=>rfl⟩
 have other:∀ k x,cY h l none k=some x→k≠l∧h k=some x:=by
  intro k x hx
  unfold cY at hx
  split at hx
  ·cases hx
  ·exact⟨‹_›,hx⟩
 have hg:w.grownBy w none:=⟨rfl,rfl,rfl,Nat.le_refl _,fun _ _ _=>rfl⟩
 refine⟨K,⟨?_,?_,?_,?_,?_⟩,rfl,rfl,rfl,Nat.le_refl _,fun _ _ _=>rfl,?_,?_⟩
 ·intro k x hx
  exact bH.keep (row:=none) K (by simp) hg (by simp) (hok.rep k x (other k x hx).2)
 ·intro k x hx
  exact ik.keep (row:=none) K (by simp) hg (by simp) (hok.rep k x (other k x hx).2) (hok.inn k x (other k x hx).2)
 ·intro k x j hx hj hF
  have h1:=other k x hx
  rcases hF with hF|hF
  ·exact hok.sep k x j h1.2 hj hF
  ·exact h1.1 (hok.inj k l x b0 j h1.2 hl hj hF)
 ·intro k k' x x' j hx hx' hj hj'
  exact hok.inj k k' x x' j (other k x hx).2 (other k' x' hx').2 hj hj'
 ·intro b hb
  rcases hb with hb|hb
  ·exact hok.fb b hb
  ·exact hok.lt hl hb
 ·intro k x j hx hj
  exact .inl ⟨k,x,(other k x hx).2,hj⟩
 ·intro b hb
  rcases hb with hb|hb
  ·exact .inl hb
  ·exact .inr (.inl ⟨l,b0,hl,hb⟩)
theorem Du.of_own {F:Nat→Prop} {w:World} {e s n cap:Nat} {x:Option Addr} {cells:List Value} (h:w.ownsRow 0 e s (.slice x n cap) n cells) (hF:∀ b,aW (.slice x n cap)=some b→F b):Du F w x n cap s cells:=by
 have hl:=h.1
 rcases h.2 with ⟨hv,hn⟩|⟨g,cap',cur,hv,hB,hh,hc,hm,hs,ht⟩
 ·cases hv
  exact⟨Nat.le_refl _,by unfold maxLen;omega,hl,fun _=>rfl,.inl rfl⟩
 ·cases hv
  refine⟨hc,hm,hl,(fun e=>by cases e),.inr ⟨g,0,rfl,hF g rfl,fun j u hu=>?_⟩⟩
  rw[Nat.zero_add,cell_of_row w g j cur e (0,0) hh]
  rw[←ht,List.getElem?_take]at hu
  split at hu
  ·simpa using hu
  ·cases hu
theorem fJ {G:Gh} {w:World} {e s:Nat} {xs:List T} {u:Value} (h:bH G w (.list e s xs) u) {F:Nat→Prop} (hF:∀ b,G.F b→F b) (hu:∀ b,aW u=some b→F b):aO F w (.sl s xs) u:=by
 obtain⟨x,cap,cells,rfl,h2,h3,h4⟩:=h
 unfold aO
 exact⟨x,cap,cells,rfl,ay.mono hF (fun _ _ _=>rfl) xs cells h2,h3,Du.of_own h4 hu⟩
def T.at:T→List Nat→Option (Nat×T)
 | x,[]=>some (0,x)
 | .agg fs,k :: p=>match fs[k]? with
  | some y=>match T.at y p with
   | some (o,z)=>some (T.widths (fs.take k)+o,z)
   | none=>none
  | none=>none
 | _,_ :: _=>none
def T.set:T→List Nat→T→Option T
 | _,[],v=>some v
 | .agg fs,k :: p,v=>match fs[k]? with
  | some y=>match T.set y p v with
   | some y'=>some (.agg (fs.set k y'))
   | none=>none
  | none=>none
 | _,_ :: _,_=>none
def S.at:S→List Nat→Option (Nat×S)
 | .t x,p=>match T.at x p with
  | some (o,z)=>some (o,.t z)
  | none=>none
 | x,[]=>some (0,x)
 | .ag fs,k :: p=>match fs[k]? with
  | some y=>match S.at y p with
   | some (o,z)=>some (S.widths (fs.take k)+o,z)
   | none=>none
  | none=>none
 | _,_ :: _=>none
def S.set:S→List Nat→S→Option S
 | .t x,p,.t v=>match T.set x p v with
  | some y=>some (.t y)
  | none=>none
 | _,[],v=>some v
 | .ag fs,k :: p,v=>match fs[k]? with
  | some y=>match S.set y p v with
   | some y'=>some (.ag (fs.set k y'))
   | none=>none
  | none=>none
 | .t (.agg fs),k :: p,v=>match fs[k]? with
  | some y=>match S.set (.t y) p v with
   | some y'=>some (.ag ((fs.map S.t).set k y'))
   | none=>none
  | none=>none
 | _,_ :: _,_=>none
def bS (cs:List Value) (o:Nat) (us:List Value):List Value:=cs.take o++(us++cs.drop (o+us.length))
theorem bO {cs us:List Value} {o:Nat} (h:o+us.length≤cs.length):(bS cs o us).length=cs.length:=by
 simp[bS];omega
theorem iX {a m b us:List Value} {o k:Nat} (hk:a.length=k) (h:o+us.length≤m.length):bS (a++(m++b)) (k+o) us=a++(bS m o us++b):=by
 unfold bS
 rw[Nat.add_assoc,u9 hk,jX hk,List.take_append_of_le_length (by omega),List.drop_append_of_le_length h]
 simp
theorem uC {m us:List Value} (h:us.length=m.length):bS m 0 us=us:=by
 simp[bS,h]
section
variable {F:Nat→Prop} {w:World}
theorem T.at_spec:∀ {p:List Nat} {x z:T} {v:Value} {o:Nat},aO F w x v→x.at p=some (o,z)→
  ∃ u,aO F w z u∧o+z.width≤x.width∧∀ j c,u.cells.toList[j]? = some c→v.cells.toList[o+j]? = some c
 | [],x,z,v,o,h,e=>by
  cases x<;>simp[T.at]at e<;>obtain⟨rfl,rfl⟩:=e<;>exact⟨v,h,by omega,fun j c hj=>by rw[Nat.zero_add];exact hj⟩
 | k :: p,.lit _,z,v,o,h,e=>by simp[T.at]at e
 | k :: p,.sl _ _,z,v,o,h,e=>by simp[T.at]at e
 | k :: p,.agg fs,z,v,o,h,e=>by
  simp only[T.at]at e
  cases hk:fs[k]? with
  | none=>rw[hk]at e;simp at e
  | some y=>
   rw[hk]at e
   simp only at e
   cases hy:T.at y p with
   | none=>rw[hy]at e;simp at e
   | some q=>
    rw[hy]at e
    obtain⟨o',z'⟩:=q
    simp at e
    obtain⟨rfl,rfl⟩:=e
    unfold aO at h
    obtain⟨cells,rfl,h2⟩:=h
    obtain⟨u1,h3,h4,_⟩:=ay.get h2 hk
    obtain⟨u,h5,h6,h7⟩:=T.at_spec h3 hy
    refine⟨u,h5,?_,fun j c hj=>?_⟩
    ·have h8:=b9 hk
     have h9:T.widths fs=T.widths (fs.take (k+1))+T.widths (fs.drop (k+1)):=by rw[←dD,List.take_append_drop]
     simp only[T.width]
     omega
    ·have:=h4 _ _ (h7 j c hj)
     simpa [Value.cells,Nat.add_assoc] using this
theorem T.set_spec:∀ {p:List Nat} {x z y x':T} {v u:Value} {o:Nat},aO F w x v→x.at p=some (o,z)→aO F w y u→y.width=z.width→x.set p y=some x'→
  ∃ v',aO F w x' v'∧v'.cells.toList=bS v.cells.toList o u.cells.toList∧x'.width=x.width
 | [],x,z,y,x',v,u,o,h,e,hy,hw,e2=>by
  have h1:=aO.width x v h
  have h2:=aO.width y u hy
  cases x<;>simp[T.at]at e<;>obtain⟨rfl,rfl⟩:=e<;>simp[T.set]at e2<;>subst e2 <;>
   exact⟨u,hy,(uC (by simp only[Array.length_toList];omega)).symm,hw⟩
 | k :: p,.lit _,z,y,x',v,u,o,h,e,hy,hw,e2=>by simp[T.at]at e
 | k :: p,.sl _ _,z,y,x',v,u,o,h,e,hy,hw,e2=>by simp[T.at]at e
 | k :: p,.agg fs,z,y,x',v,u,o,h,e,hy,hw,e2=>by
  simp only[T.at]at e
  simp only[T.set]at e2
  cases hk:fs[k]? with
  | none=>rw[hk]at e;simp at e
  | some f=>
   rw[hk]at e e2
   simp only at e e2
   cases hf:T.at f p with
   | none=>rw[hf]at e;simp at e
   | some q=>
    cases hs:T.set f p y with
    | none=>rw[hs]at e2;simp at e2
    | some f'=>
     rw[hf]at e
     rw[hs]at e2
     obtain⟨o',z'⟩:=q
     simp at e e2
     obtain⟨rfl,rfl⟩:=e
     subst e2
     unfold aO at h
     obtain⟨cells,rfl,h2⟩:=h
     obtain⟨f1,h3,h4,h4'⟩:=ay.get h2 hk
     obtain⟨v',h5,h6,h7⟩:=T.set_spec h3 hf hy hw hs
     have h10:=ay.set h2 hk h5 h7
     have hcells:=ay.widths fs cells h2
     obtain⟨_,_,hle,_⟩:=T.at_spec h3 hf
     have hf1:=aO.width f f1 h3
     have hu:=aO.width y u hy
     refine⟨.agg (List.toArray _),by unfold aO;exact⟨_,rfl,h10⟩,?_,?_⟩
     ·show cells.take (T.widths (fs.take k))++(v'.cells.toList++cells.drop (T.widths (fs.take k)+f.width))=bS cells _ _
      have h8:=b9 hk
      have h9:T.widths fs=T.widths (fs.take (k+1))+T.widths (fs.drop (k+1)):=by rw[←dD,List.take_append_drop]
      have hdec:cells=cells.take (T.widths (fs.take k))++(f1.cells.toList++cells.drop (T.widths (fs.take k)+f.width)):=by
       rw[←h8,←h4',List.take_append_drop]
      rw[h6]
      conv=>rhs;rw[hdec]
      rw[iX (by rw[List.length_take];omega) (by simp only[Array.length_toList];omega)]
     ·simp only[T.width]
      have h11:=ay.widths _ _ h10
      have h12:=congrArg List.length h6
      rw[bO (by simp only[Array.length_toList];omega)]at h12
      have h8:=b9 hk
      have h9:T.widths fs=T.widths (fs.take (k+1))+T.widths (fs.drop (k+1)):=by rw[←dD,List.take_append_drop]
      rw[←h11]
      simp only[List.length_append,List.length_take,List.length_drop,h12,Array.length_toList]
      omega
end
def S.solid:S→Bool
 | .dead=>false
 | .tup _=>false
 | _=>true
section
variable {G:Gh} {w:World}
theorem aE.lens:∀ {fs:List S} {cs:List Value},aE G w fs cs→cs.length=S.widths fs∧∀ c∈cs,c.oneCell'=true
 | [],cs,h=>by unfold aE at h;subst h;exact⟨rfl,by simp⟩
 | x :: r,cs,h=>by
  unfold aE at h
  obtain⟨v,cs',rfl,h2,h3,h4,h5⟩:=h
  have h6:=aE.lens h5
  refine⟨by simp[S.widths,h6.1,h2],?_⟩
  intro c hc
  rcases List.mem_append.1 hc with hc|hc
  ·exact h3 c hc
  ·exact h6.2 c hc
theorem ar.lens:∀ {s:S} {u:Value},ar G w s u→s.solid=true→u.cells.size=s.width∧∀ c∈u.cells.toList,c.oneCell'=true
 | .dead,u,h,e=>by simp[S.solid]at e
 | .tup _,u,h,e=>by simp[S.solid]at e
 | .t x,u,h,e=>by unfold ar at h;exact⟨aO.width x u h,aO.one x u h⟩
 | .rp x,u,h,e=>by
  unfold ar at h
  obtain⟨b,off,v,rfl,_⟩:=h
  exact⟨rfl,by simp[Value.cells,Value.oneCell']⟩
 | .own l,u,h,e=>by
  unfold ar at h
  obtain⟨_,x,n,cap,rfl⟩:=h
  exact⟨rfl,by simp[Value.cells,Value.oneCell']⟩
 | .pt _ _ _,u,h,e=>by
  unfold ar at h
  obtain⟨b,_,rfl⟩:=h
  exact⟨rfl,by simp[Value.cells,Value.oneCell']⟩
 | .cl _ _,u,h,e=>by
  unfold ar at h
  obtain⟨x,cells,rfl,_⟩:=h
  exact⟨rfl,by simp[Value.cells,Value.oneCell']⟩
 | .wn _ _ _ _,u,h,e=>by
  unfold ar at h
  obtain⟨b,o,c,_,rfl,_⟩:=h
  exact⟨rfl,by simp[Value.cells,Value.oneCell']⟩
 | .fn _ _,u,h,e=>by
  unfold ar at h
  obtain⟨b,rfl,_⟩:=h
  exact⟨rfl,by simp[Value.cells,Value.oneCell']⟩
 | .fb _ _,u,h,e=>by
  unfold ar at h
  obtain⟨b,rfl,_⟩:=h
  exact⟨rfl,by simp[Value.cells,Value.oneCell']⟩
 | .ag fs,u,h,e=>by
  unfold ar at h
  obtain⟨cells,rfl,h2⟩:=h
  have:=aE.lens h2
  simpa [Value.cells,S.width] using this
theorem aE.append:∀ {xs ys:List S} {cs ds:List Value},aE G w xs cs→aE G w ys ds→aE G w (xs++ys) (cs++ds)
 | [],ys,cs,ds,h1,h2=>by unfold aE at h1;subst h1;exact h2
 | x :: r,ys,cs,ds,h1,h2=>by
  unfold aE at h1
  obtain⟨v,cs',rfl,h3,h4,h5,h6⟩:=h1
  show aE G w (x :: (r++ys)) _
  unfold aE
  exact⟨v,cs'++ds,by simp,h3,h4,h5,aE.append h6 h2⟩
theorem aE.split:∀ {xs:List S} {cs:List Value} (i:Nat),aE G w xs cs→aE G w (xs.take i) (cs.take (S.widths (xs.take i)))∧aE G w (xs.drop i) (cs.drop (S.widths (xs.take i)))
 | xs,cs,0,h=>by simp[S.widths];exact⟨by unfold aE;rfl,h⟩
 | [],cs,i+1,h=>by unfold aE at h;subst h;simp;unfold aE;rfl
 | x :: r,cs,i+1,h=>by
  unfold aE at h
  obtain⟨v,cs',rfl,hw,h1,h2,h3⟩:=h
  have hl:v.cells.toList.length=x.width:=by simpa using hw
  obtain⟨h4,h5⟩:=aE.split i h3
  simp only[List.take_succ_cons,List.drop_succ_cons,S.widths]
  rw[u9 hl,jX hl]
  refine⟨?_,h5⟩
  unfold aE
  exact⟨v,_,rfl,hw,h1,h2,h4⟩
theorem iY:∀ (xs ys:List S),S.widths (xs++ys)=S.widths xs+S.widths ys
 | [],ys=>by simp[S.widths]
 | x :: r,ys=>by simp[S.widths,iY r ys];omega
theorem cW {xs:List S} {i:Nat} {x:S} (h:xs[i]? = some x):S.widths (xs.take (i+1))=S.widths (xs.take i)+x.width:=by
 rw[bC h,iY];simp[S.widths]
theorem fq (xs:List S) (i:Nat):S.widths xs=S.widths (xs.take i)+S.widths (xs.drop i):=by rw[←iY,List.take_append_drop]
theorem aE.get {fs:List S} {cs:List Value} {i:Nat} {x:S} (h:aE G w fs cs) (hx:fs[i]? = some x) :
  ∃ v,ar G w x v∧v.cells.size=x.width∧(∀ c∈v.cells.toList,c.oneCell'=true)∧(cs.drop (S.widths (fs.take i))=v.cells.toList++cs.drop (S.widths (fs.take i)+x.width)):=by
 have h1:=(aE.split i h).2
 have hlt:=(List.getElem?_eq_some_iff.1 hx).1
 have he:fs.drop i=x :: fs.drop (i+1):=eu hx
 rw[he]at h1
 unfold aE at h1
 obtain⟨v,cs',h2,h3,h4,h5,h6⟩:=h1
 refine⟨v,h5,h3,h4,?_⟩
 have hl:v.cells.toList.length=x.width:=by simpa using h3
 have:cs.drop (S.widths (fs.take i)+x.width)=cs':=by
  rw[←List.drop_drop,h2]
  have:=jX hl (b:=cs') 0
  simpa using this
 rw[this];exact h2
theorem aE.set {xs:List S} {cs:List Value} {i:Nat} {x y:S} {u:Value} (h:aE G w xs cs) (hx:xs[i]? = some x) (hy:ar G w y u) (hw:u.cells.size=y.width) (h1:∀ c∈u.cells.toList,c.oneCell'=true) (hxy:y.width=x.width) :
  aE G w (xs.set i y) (cs.take (S.widths (xs.take i))++(u.cells.toList++cs.drop (S.widths (xs.take i)+x.width))):=by
 have h2:=(aE.split i h).1
 have h3:=(aE.split (i+1) h).2
 rw[cW hx]at h3
 have hlt:=(List.getElem?_eq_some_iff.1 hx).1
 rw[List.set_eq_take_append_cons_drop,if_pos hlt]
 refine aE.append h2 ?_
 unfold aE
 exact⟨u,_,rfl,hw,h1,hy,h3⟩
theorem zL {cs a b:List Value} {k:Nat} (h:cs.drop k=a++b) {j:Nat} {c:Value} (hj:a[j]? = some c):cs[k+j]? = some c:=by
 rw[←List.getElem?_drop,h,List.getElem?_append_left (List.getElem?_eq_some_iff.1 hj).1]
 exact hj
theorem S.at_spec:∀ {p:List Nat} {x z:S} {v:Value} {o:Nat},ar G w x v→v.cells.size=x.width→(∀ c∈v.cells.toList,c.oneCell'=true)→x.at p=some (o,z)→
  ∃ u,ar G w z u∧u.cells.size=z.width∧(∀ c∈u.cells.toList,c.oneCell'=true)∧o+z.width≤x.width∧∀ j c,u.cells.toList[j]? = some c→v.cells.toList[o+j]? = some c
 | p,.t x,z,v,o,h,hw,hs,e=>by
  simp only[S.at]at e
  cases hx:T.at x p with
  | none=>rw[hx]at e;simp at e
  | some q=>
   rw[hx]at e
   obtain⟨o',z'⟩:=q
   simp at e
   obtain⟨rfl,rfl⟩:=e
   unfold ar at h
   obtain⟨u,h1,h2,h3⟩:=T.at_spec h hx
   exact⟨u,by unfold ar;exact h1,aO.width _ _ h1,aO.one _ _ h1,h2,h3⟩
 | k :: p,.ag fs,z,v,o,h,hw,hs,e=>by
  simp only[S.at]at e
  cases hk:fs[k]? with
  | none=>rw[hk]at e;simp at e
  | some y=>
   rw[hk]at e
   simp only at e
   cases hy:S.at y p with
   | none=>rw[hy]at e;simp at e
   | some q=>
    rw[hy]at e
    obtain⟨o',z'⟩:=q
    simp at e
    obtain⟨rfl,rfl⟩:=e
    unfold ar at h
    obtain⟨cells,rfl,h2⟩:=h
    obtain⟨u1,h3,h4,h4',h4''⟩:=aE.get h2 hk
    obtain⟨u,h5,h6,h6',h7,h8⟩:=S.at_spec h3 h4 h4' hy
    refine⟨u,h5,h6,h6',?_,fun j c hj=>?_⟩
    ·have h8:=cW hk
     have h9:=fq fs (k+1)
     simp only[S.width]
     omega
    ·have:=zL h4'' (h8 j c hj)
     simpa [Value.cells,Nat.add_assoc] using this
 | [],.ag fs,z,v,o,h,hw,hs,e=>by simp[S.at]at e;obtain⟨rfl,rfl⟩:=e;exact⟨v,h,hw,hs,by omega,fun j c hj=>by rw[Nat.zero_add];exact hj⟩
 | [],.dead,z,v,o,h,hw,hs,e=>by simp[S.at]at e;obtain⟨rfl,rfl⟩:=e;exact⟨v,h,hw,hs,by omega,fun j c hj=>by rw[Nat.zero_add];exact hj⟩
 | [],.rp _,z,v,o,h,hw,hs,e=>by simp[S.at]at e;obtain⟨rfl,rfl⟩:=e;exact⟨v,h,hw,hs,by omega,fun j c hj=>by rw[Nat.zero_add];exact hj⟩
 | [],.own _,z,v,o,h,hw,hs,e=>by simp[S.at]at e;obtain⟨rfl,rfl⟩:=e;exact⟨v,h,hw,hs,by omega,fun j c hj=>by rw[Nat.zero_add];exact hj⟩
 | [],.pt _ _ _,z,v,o,h,hw,hs,e=>by simp[S.at]at e;obtain⟨rfl,rfl⟩:=e;exact⟨v,h,hw,hs,by omega,fun j c hj=>by rw[Nat.zero_add];exact hj⟩
 | [],.wn _ _ _ _,z,v,o,h,hw,hs,e=>by simp[S.at]at e;obtain⟨rfl,rfl⟩:=e;exact⟨v,h,hw,hs,by omega,fun j c hj=>by rw[Nat.zero_add];exact hj⟩
 | [],.cl _ _,z,v,o,h,hw,hs,e=>by simp[S.at]at e;obtain⟨rfl,rfl⟩:=e;exact⟨v,h,hw,hs,by omega,fun j c hj=>by rw[Nat.zero_add];exact hj⟩
 | [],.tup _,z,v,o,h,hw,hs,e=>by simp[S.at]at e;obtain⟨rfl,rfl⟩:=e;exact⟨v,h,hw,hs,by omega,fun j c hj=>by rw[Nat.zero_add];exact hj⟩
 | [],.fn _ _,z,v,o,h,hw,hs,e=>by simp[S.at]at e;obtain⟨rfl,rfl⟩:=e;exact⟨v,h,hw,hs,by omega,fun j c hj=>by rw[Nat.zero_add];exact hj⟩
 | [],.fb _ _,z,v,o,h,hw,hs,e=>by simp[S.at]at e;obtain⟨rfl,rfl⟩:=e;exact⟨v,h,hw,hs,by omega,fun j c hj=>by rw[Nat.zero_add];exact hj⟩
 | k :: p,.dead,z,v,o,h,hw,hs,e=>by simp[S.at]at e
 | k :: p,.rp _,z,v,o,h,hw,hs,e=>by simp[S.at]at e
 | k :: p,.own _,z,v,o,h,hw,hs,e=>by simp[S.at]at e
 | k :: p,.pt _ _ _,z,v,o,h,hw,hs,e=>by simp[S.at]at e
 | k :: p,.wn _ _ _ _,z,v,o,h,hw,hs,e=>by simp[S.at]at e
 | k :: p,.cl _ _,z,v,o,h,hw,hs,e=>by simp[S.at]at e
 | k :: p,.tup _,z,v,o,h,hw,hs,e=>by simp[S.at]at e
 | k :: p,.fn _ _,z,v,o,h,hw,hs,e=>by simp[S.at]at e
 | k :: p,.fb _ _,z,v,o,h,hw,hs,e=>by simp[S.at]at e
theorem S.widths_t:∀ (fs:List T),S.widths (fs.map S.t)=T.widths fs
 | []=>rfl
 | x :: r=>by simp[S.widths,S.width,T.widths,S.widths_t r]
theorem aE.of_t:∀ {fs:List T} {cs:List Value},ay G.F w fs cs→aE G w (fs.map S.t) cs
 | [],cs,h=>by unfold ay at h;simp only[List.map_nil];unfold aE;exact h
 | x :: r,cs,h=>by
  unfold ay at h
  obtain⟨v,cs',h1,h2,h3⟩:=h
  simp only[List.map_cons]
  unfold aE
  exact⟨v,cs',h1,by rw[aO.width _ _ h2];rfl,aO.one _ _ h2,by unfold ar;exact h2,aE.of_t h3⟩
theorem Kv {fs:List S} {cells:List Value} {k o:Nat} {f f':S} {u v' f1:Value} (h2:aE G w fs cells) (hk:fs[k]? = some f)
  (h4'':cells.drop (S.widths (fs.take k))=f1.cells.toList++cells.drop (S.widths (fs.take k)+f.width)) (hf1:f1.cells.size=f.width) (hle:o+u.cells.size≤f.width)
  (h5:ar G w f' v') (h6:v'.cells.toList=bS f1.cells.toList o u.cells.toList) (h7:f'.width=f.width) (h8:v'.cells.size=f'.width) (h9:∀ c∈v'.cells.toList,c.oneCell'=true) :
  ∃ cells',aE G w (fs.set k f') cells'∧cells'=bS cells (S.widths (fs.take k)+o) u.cells.toList:=by
 have h10:=aE.set h2 hk h5 h8 h9 h7
 have hl:=(aE.lens h2).1
 refine⟨_,h10,?_⟩
 have h11:=cW hk
 have h12:=fq fs (k+1)
 have hdec:cells=cells.take (S.widths (fs.take k))++(f1.cells.toList++cells.drop (S.widths (fs.take k)+f.width)):=by
  rw[←h4'',List.take_append_drop]
 rw[h6]
 conv=>rhs;rw[hdec]
 rw[iX (by rw[List.length_take];omega) (by simp only[Array.length_toList];omega)]
theorem S.set_spec:∀ {p:List Nat} {x z y x':S} {v u:Value} {o:Nat},ar G w x v→v.cells.size=x.width→(∀ c∈v.cells.toList,c.oneCell'=true)→x.at p=some (o,z)→
  ar G w y u→u.cells.size=y.width→(∀ c∈u.cells.toList,c.oneCell'=true)→y.width=z.width→x.set p y=some x'→
  ∃ v',ar G w x' v'∧v'.cells.toList=bS v.cells.toList o u.cells.toList∧x'.width=x.width∧v'.cells.size=x'.width∧∀ c∈v'.cells.toList,c.oneCell'=true:=by
 have base:∀ {x z y:S} {v u:Value} {o:Nat},v.cells.size=x.width→o=0→z.width=x.width→ar G w y u→u.cells.size=y.width→(∀ c∈u.cells.toList,c.oneCell'=true)→y.width=z.width→
   ∃ v',ar G w y v'∧v'.cells.toList=bS v.cells.toList o u.cells.toList∧y.width=x.width∧v'.cells.size=y.width∧∀ c∈v'.cells.toList,c.oneCell'=true:=by
  intro x z y v u o hv ho hz hy hu h1 hw
  subst ho
  exact⟨u,hy,(uC (by simp only[Array.length_toList];omega)).symm,by omega,hu,h1⟩
 intro p
 induction p with
 | nil=>
  intro x z y x' v u o h hw hs e hy hyw hy1 hyz e2
  have hz:o=0∧z=x:=by
   cases x with
   | t x=>cases x<;>simp[S.at,T.at]at e<;>exact⟨e.1.symm,e.2.symm⟩
   | _=>simp[S.at]at e;exact⟨e.1.symm,e.2.symm⟩
  obtain⟨rfl,rfl⟩:=hz
  have hx':x'=y:=by
   cases z<;>cases y<;>simp[S.set]at e2<;>first|exact e2.symm|(rename_i a b;cases a<;>simp[T.set]at e2<;>exact e2.symm)
  subst hx'
  exact base hw rfl rfl hy hyw hy1 hyz
 | cons k p ih=>
  intro x z y x' v u o h hw hs e hy hyw hy1 hyz e2
  cases x with
  | ag fs=>
   simp only[S.at]at e
   simp only[S.set]at e2
   cases hk:fs[k]? with
   | none=>rw[hk]at e;simp at e
   | some f=>
    rw[hk]at e e2
    simp only at e e2
    cases hf:S.at f p with
    | none=>rw[hf]at e;simp at e
    | some q=>
     cases hst:S.set f p y with
     | none=>rw[hst]at e2;simp at e2
     | some f'=>
      rw[hf]at e
      rw[hst]at e2
      obtain⟨o',z'⟩:=q
      simp at e e2
      obtain⟨rfl,rfl⟩:=e
      subst e2
      unfold ar at h
      obtain⟨cells,rfl,h2⟩:=h
      obtain⟨f1,h3,h4,h4',h4''⟩:=aE.get h2 hk
      obtain⟨v',h5,h6,h7,h8,h9⟩:=ih h3 h4 h4' hf hy hyw hy1 hyz hst
      obtain⟨_,_,_,_,hle,_⟩:=S.at_spec h3 h4 h4' hf
      obtain⟨cells',h10,h11⟩:=Kv (u:=u) h2 hk h4'' h4 (by omega) h5 h6 h7 h8 h9
      have h12:=aE.lens h10
      have h14:=aE.lens h2
      have h13:S.widths (fs.set k f')=S.widths fs:=by
       rw[←h12.1,←h14.1,h11]
       refine bO ?_
       have:=cW hk
       have:=fq fs (k+1)
       simp only[Array.length_toList];omega
      exact⟨.agg cells'.toArray,by unfold ar;exact⟨cells',rfl,h10⟩,h11,h13,by simpa [Value.cells,S.width] using h12.1,by simpa [Value.cells] using h12.2⟩
  | t x=>
   cases y with
   | t y=>
    simp only[S.at]at e
    simp only[S.set]at e2
    cases hx:T.at x (k :: p) with
    | none=>rw[hx]at e;simp at e
    | some q=>
     cases hst:T.set x (k :: p) y with
     | none=>rw[hst]at e2;simp at e2
     | some y'=>
      rw[hx]at e
      rw[hst]at e2
      obtain⟨o',z'⟩:=q
      simp at e e2
      obtain⟨rfl,rfl⟩:=e
      subst e2
      unfold ar at h hy
      obtain⟨v',h1,h2,h3⟩:=T.set_spec h hx hy hyz hst
      exact⟨v',by unfold ar;exact h1,h2,h3,aO.width _ _ h1,aO.one _ _ h1⟩
   | _=>
    cases x with
    | agg fs=>
     simp only[S.at,T.at]at e
     simp only[S.set]at e2
     cases hk:fs[k]? with
     | none=>rw[hk]at e;simp at e
     | some f=>
      rw[hk]at e e2
      simp only at e e2
      cases hf:T.at f p with
      | none=>rw[hf]at e;simp at e
      | some q=>
       cases hst:S.set (.t f) p _ with
       | none=>rw[hst]at e2;simp at e2
       | some f'=>
        rw[hf]at e
        rw[hst]at e2
        obtain⟨o',z'⟩:=q
        simp at e e2
        obtain⟨rfl,rfl⟩:=e
        subst e2
        unfold ar at h
        unfold aO at h
        obtain⟨cells,rfl,h2⟩:=h
        have h2':=aE.of_t (G:=G) h2
        have hk':(fs.map S.t)[k]? = some (.t f):=by simp[hk]
        obtain⟨f1,h3,h4,h4',h4''⟩:=aE.get h2' hk'
        have hf':S.at (.t f) p=some (o',.t z'):=by simp[S.at,hf]
        obtain⟨v',h5,h6,h7,h8,h9⟩:=ih h3 h4 h4' hf' hy hyw hy1 hyz hst
        obtain⟨_,_,_,_,hle,_⟩:=S.at_spec h3 h4 h4' hf'
        obtain⟨cells',h10,h11⟩:=Kv (u:=u) h2' hk' h4'' h4 (by omega) h5 h6 h7 h8 h9
        have h12:=aE.lens h10
        have h14:=aE.lens h2'
        have hwt:S.widths ((fs.map S.t).take k)=T.widths (fs.take k):=by rw[←List.map_take,S.widths_t]
        have h13:S.widths ((fs.map S.t).set k f')=T.widths fs:=by
         rw[←S.widths_t,←h12.1,←h14.1,h11]
         refine bO ?_
         have:=cW hk'
         have:=fq (fs.map S.t) (k+1)
         simp only[Array.length_toList];omega
        rw[hwt]at h11
        exact⟨.agg cells'.toArray,by unfold ar;exact⟨cells',rfl,h10⟩,h11,h13,by simpa [Value.cells,S.width] using h12.1,by simpa [Value.cells] using h12.2⟩
    | lit _=>simp[S.at,T.at]at e
    | sl _ _=>simp[S.at,T.at]at e
  | _=>simp[S.at]at e
end
structure aM where
 r:S
 u:List (Nat×Option aA)
 fp:List Nat
 nw:List Nat
def dK:List (Nat×Option aA)→(Nat→Option aA)→(Nat→Option aA)
 | [],h=>h
 | (l,b) :: r,h=>cY (dK r h) l b
def cS:Value→S
 | .agg cs=>if cs.toList.all (·.oneCell') then .t (.agg (cs.toList.map .lit)) else .dead
 | .tuple _=> .dead
 | v=> .t (.lit v)
def lg (g:Nat→S):Operand→S
 | .tmp t=>g t
 | .const v=>cS v
 | .global n=> .t (.lit (.pointer (some ⟨n,0,none⟩)))
 | .func f=> .fn f []
theorem xy {F:Nat→Prop} {w:World}:∀ {cs:List Value},(∀ c∈cs,c.oneCell'=true)→ay F w (cs.map .lit) cs
 | [],_=>by simp only[List.map_nil];unfold ay;rfl
 | c :: r,h=>by
  simp only[List.map_cons]
  unfold ay
  refine⟨c,r,by rw[dR (h c (by simp))];rfl,?_,xy fun x hx=>h x (by simp[hx])⟩
  unfold aO
  exact⟨rfl,h c (by simp)⟩
theorem Pg {G:Gh} {w:World} (v:Value):ar G w (cS v) v:=by
 cases v with
 | agg cs=>
  simp only[cS]
  split
  ·rename_i h
   unfold ar
   unfold aO
   refine⟨cs.toList,by simp,xy fun c hc=>?_⟩
   rw[List.all_eq_true]at h
   exact h c hc
  ·unfold ar;trivial
 | tuple _=>simp only[cS];unfold ar;trivial
 | _=>simp only[cS];unfold ar;unfold aO;exact⟨rfl,rfl⟩
theorem bT.eval {N:Nat} {W:World} {G0:Gh} {A:Nat→Prop} {G:Gh} {g:Nat→S} {h:Nat→Option aA} {a:Act} {w:World} (s:bT N W G0 A G g h a w) (x:Operand):ar G w (lg g x) (a.eval x):=by
 cases x with
 | tmp t=>exact s.slots t
 | const v=>exact Pg v
 | global n=>simp only[lg];unfold ar;unfold aO;exact⟨rfl,rfl⟩
 | func f=>simp only[lg];unfold ar;exact⟨[],rfl,by unfold aD;rfl⟩
def bm (N:Nat) (P:Program) (o:Oper) (R:Operand→S) (h:Nat→Option aA) (E:aM):Prop:=
 ∀ (W:World) (G0:Gh) (A:Nat→Prop) (G:Gh) (g:Nat→S) (h':Nat→Option aA) (a:Act) (w:World) (Q:Exit→Act→World→Prop) (K:Act→World→Prop),
  bT N W G0 A G g h' a w→(∀ x∈o.op.operands.toList,lg g x=R x)→(∀ l∈E.fp,h' l=h l)→
  (∀ l∈E.nw,h' l=none∧(∀ t,(g t).free l=true)∧∀ k b,h' k=some b→b.free l=true)→
  (∀ v G' w',Ext G w h' G' w' (dK E.u h') E.nw→ar G' w' E.r v→K (a.put o.dst v) w')→o.wp P a w K Q
section
variable {N:Nat} {P:Program} {o:Oper} {R:Operand→S} {h:Nat→Option aA}
theorem bh {s:Sem Value} {w w':World} {v:Value} (hs:s.run P w = .ok v w'):(do pure (Next.value (←s)):Sem Next).run P w = .ok (.value v) w':=by
 simp[hs]
theorem dm {a:Act} {w w':World} {v:Value} {K:Act→World→Prop} {Q:Exit→Act→World→Prop} (hr:(execOp a.eval o).run P w = .ok (.value v) w') (hK:K (a.put o.dst v) w'):o.wp P a w K Q:=by
 unfold Oper.wp;rw[hr];exact hK
theorem aH {r:S} {fp:List Nat} (H:∀ (G:Gh) (h':Nat→Option aA) (a:Act) (w:World),bn G w h'→(∀ x∈o.op.operands.toList,ar G w (R x) (a.eval x))→(∀ l∈fp,h' l=h l)→
  ∃ v,(execOp a.eval o).run P w = .ok (.value v) w∧ar G w r v):bm N P o R h ⟨r,[],fp,[]⟩:=by
 intro W G0 A G g h' a w Q K hs hop hfp _ hK
 obtain⟨v,h1,h2⟩:=H G h' a w hs.heap (fun x hx=>by rw[←hop x hx];exact hs.eval x) hfp
 exact dm h1 (hK v G w (Ext.refl hs.heap) h2)
def bY (P:Program) (t:TypeId):Option Nat:=(P.info? t).map (·.size)
def cM (P:Program) (t:TypeId):Option Bool:=(P.underlying t).map fun|.struct _|.array _ _=>true|_=>false
def aX (P:Program) (t:TypeId) (f:Nat):Option (Nat×TypeId):=match P.underlying t with
 | some (.struct fs)=>(fs[f]?).map fun x=>(x.offset,x.type)
 | _=>none
def aK (P:Program) (t:TypeId):Option TypeId:=match P.underlying t with|some (.slice e)=>some e|_=>none
def dn (P:Program) (t:TypeId):Option (Nat×TypeId):=match P.underlying t with|some (.array n e)=>some (n,e)|_=>none
def mV (P:Program) (t:TypeId):Option IntKind:=match P.underlying t with|some (.int k)=>some k|_=>none
def S.isAg:S→Bool
 | .ag _=>true
 | .t (.agg _)=>true
 | _=>false
def kO (P:Program) (t:TypeId) (s:S):Prop:=bY P t=some s.width∧cM P t=some s.isAg
theorem fA {t n:Nat} (hz:bY P t=some n) (w:World):(sizeOf t).run P w = .ok n w:=by
 obtain⟨i,hi,hn⟩:=Option.map_eq_some_iff.1 hz
 simp[sizeOf,typeInfo,hi,hn]
theorem oO {t:TypeId} {b:Bool} (hz:cM P t=some b) (w:World):(isAgg t).run P w = .ok b w:=by
 obtain⟨d,hd,hb⟩:=Option.map_eq_some_iff.1 hz
 simp only[isAgg,Sem.run_bind,run_underlying hd,Result.andThen_ok]
 cases d<;>simp_all
theorem bp {t e:TypeId} (hz:aK P t=some e):P.underlying t=some (.slice e):=by
 unfold aK at hz;split at hz<;>simp_all
theorem jv {t e:TypeId} {n:Nat} (hz:dn P t=some (n,e)):P.underlying t=some (.array n e):=by
 unfold dn at hz;split at hz<;>simp_all
theorem gN {t:TypeId} {k:IntKind} (hz:mV P t=some k):P.underlying t=some (.int k):=by
 unfold mV at hz;split at hz<;>simp_all
theorem F7 {t:TypeId} {f:Nat} {q:Nat×TypeId} (hz:aX P t f=some q):∃ fs fd,P.underlying t=some (.struct fs)∧fs[f]? = some fd∧fd.offset=q.1∧fd.type=q.2:=by
 unfold aX at hz
 split at hz
 ·rename_i fs hf
  obtain⟨fd,h1,h2⟩:=Option.map_eq_some_iff.1 hz
  exact⟨fs,fd,hf,h1,by rw[←h2],by rw[←h2]⟩
 ·cases hz
theorem uS {G:Gh} {w:World} {s:S} {v:Value} (hs:ar G w s v) (hi:s.isAg=true):v = .agg v.cells:=by
 cases s with
 | ag fs=>unfold ar at hs;obtain⟨c,rfl,_⟩:=hs;rfl
 | t x=>
  cases x with
  | agg fs=>unfold ar at hs;unfold aO at hs;obtain⟨c,rfl,_⟩:=hs;rfl
  | _=>simp[S.isAg]at hi
 | _=>simp[S.isAg]at hi
theorem q9 {G:Gh} {w:World} {s:S} {v:Value} (hs:ar G w s v) (hi:s.isAg=false) (hso:s.solid=true):v.oneCell'=true∧v.cells=#[v]:=by
 have key:v.oneCell'=true:=by
  cases s with
  | ag fs=>simp[S.isAg]at hi
  | t x=>
   cases x with
   | agg fs=>simp[S.isAg]at hi
   | lit u=>unfold ar at hs;unfold aO at hs;rw[hs.1];exact hs.2
   | sl _ _=>unfold ar at hs;unfold aO at hs;obtain⟨_,_,_,rfl,_⟩:=hs;rfl
  | rp _=>unfold ar at hs;obtain⟨_,_,_,rfl,_⟩:=hs;rfl
  | own _=>unfold ar at hs;obtain⟨_,_,_,_,rfl⟩:=hs;rfl
  | pt _ _ _=>unfold ar at hs;obtain⟨_,_,rfl⟩:=hs;rfl
  | wn _ _ _ _=>unfold ar at hs;obtain⟨_,_,_,_,rfl,_⟩:=hs;rfl
  | cl _ _=>unfold ar at hs;obtain⟨_,_,rfl,_⟩:=hs;rfl
  | fn _ _=>unfold ar at hs;obtain⟨_,rfl,_⟩:=hs;rfl
  | fb _ _=>unfold ar at hs;obtain⟨_,rfl,_⟩:=hs;rfl
  | dead=>simp[S.solid]at hso
  | tup _=>simp[S.solid]at hso
 exact⟨key,dR key⟩
theorem bU (b o n:Nat):(⟨b,o,none⟩:Addr).add n=⟨b,o+n,none⟩:=by
 unfold Addr.add;split<;>simp_all
theorem kI {G:Gh} {w:World} {t:TypeId} {s:S} {v:Value} {b off:Nat} (hs:ar G w s v) (hso:s.solid=true) (hok:kO P t s) (hc:∀ j c,v.cells.toList[j]? = some c→w.cell? ⟨b,off+j,none⟩=some c) :
  (Instr.loadAt t (.pointer (some ⟨b,off,none⟩))).run P w = .ok v w:=by
 obtain⟨h1,h2⟩:=hok
 simp only[Instr.loadAt,Instr.sureAddr,Sem.run_bind,Sem.run_pure,Result.andThen_ok,loadVar,oO h2]
 have hw:=(ar.lens hs hso).1
 cases hi:s.isAg with
 | true=>
  have hv:=uS hs hi
  have hl:=run_loadCells_list (P:=P) w ⟨b,off,none⟩ v.cells.toList (fun j c hj=>by rw[bU];exact hc j c hj)
  rw[Array.length_toList,hw]at hl
  simp[fA h1,hl]
  exact hv.symm
 | false=>
  have hv:=q9 hs hi hso
  have:=hc 0 v (by rw[hv.2];rfl)
  simp[load,Sem.run,this]at this ⊢
theorem xg {x:Operand} (ho:o.op = .move x):bm N P o R h ⟨R x,[],[],[]⟩:=
 aH fun G h' a w hh hop _=>⟨a.eval x,by simp[execOp,ho],hop x (by simp[ho,Op.operands])⟩
theorem zy {x:Operand} (ho:o.op = .assign x):bm N P o R h ⟨R x,[],[],[]⟩:=
 aH fun G h' a w hh hop _=>⟨a.eval x,by simp[execOp,ho],hop x (by simp[ho,Op.operands])⟩
theorem Hb {c x y:Operand} {b:Bool} (ho:o.op = .pick c x y) (hc:R c = .t (.lit (.bool b))):bm N P o R h ⟨if b=true then R x else R y,[],[],[]⟩:=
 aH fun G h' a w hh hop _=>by
  have h1:=hop c (by simp[ho,Op.operands])
  have h2:=hop x (by simp[ho,Op.operands])
  have h3:=hop y (by simp[ho,Op.operands])
  rw[hc]at h1
  unfold ar at h1;unfold aO at h1
  cases b
  ·exact⟨a.eval y,by simp[execOp,ho,h1.1,asBool],by simpa using h3⟩
  ·exact⟨a.eval x,by simp[execOp,ho,h1.1,asBool],by simpa using h2⟩
theorem zn {t:TypeId} {x:Operand} {y:T} (ho:o.op = .load t x) (hx:R x = .rp y) (hok:kO P t (.t y)):bm N P o R h ⟨.t y,[],[],[]⟩:=
 aH fun G h' a w hh hop _=>by
  have h1:=hop x (by simp[ho,Op.operands])
  rw[hx]at h1
  unfold ar at h1
  obtain⟨b,off,v,h2,h3,h4,h5⟩:=h1
  have h6:ar G w (.t y) v:=by unfold ar;exact h4
  refine⟨v,?_,h6⟩
  unfold execOp
  simp only[ho]
  exact bh (by rw[h2];exact kI h6 rfl hok h5)
def B6 (u:U) (c?:Option S):Option S:=match c? with
 | some c=>some c
 | none=>match u with
  | .t x=>some (.t x)
  | _=>none
def oZ (i:Nat):List (Nat×S)→List (Nat×S)
 | []=>[]
 | (k,c) :: r=>if k=i then oZ i r else (k,c) :: oZ i r
def yV (ex:List (Nat×S)) (i:Nat) (c:S):List (Nat×S):=(i,c) :: oZ i ex
theorem pf (i k:Nat):∀ (ex:List (Nat×S)),ko (oZ i ex) k=if k=i then none else ko ex k
 | []=>by simp[oZ,ko]
 | (j,b) :: r=>by
  have ih:=pf i k r
  simp only[oZ]
  by_cases e:j=i
  ·subst e
   rw[if_pos rfl,ih]
   by_cases e2:k=j
   ·rw[if_pos e2,if_pos e2]
   ·rw[if_neg e2,if_neg e2];simp[ko,e2]
  ·rw[if_neg e]
   simp only[ko,ih]
   by_cases e2:k=i
   ·subst e2
    rw[if_neg (fun h=>e h.symm),if_pos rfl,if_pos rfl]
   ·rw[if_neg e2,if_neg e2]
theorem sA (ex:List (Nat×S)) (i:Nat) (c:S) (k:Nat):ko (yV ex i c) k=if k=i then some c else ko ex k:=by
 simp only[yV,ko,pf]
 split<;>rfl
def aA.at:aA→List Nat→Option (Nat×S)
 | .box _ c,p=>S.at c p
 | .list _ s xs,i :: p=>match xs[i]? with
  | some y=>match T.at y p with
   | some (o,z)=>some (i * s+o,.t z)
   | none=>none
  | none=>none
 | .list _ _ _,[]=>none
 | .rows _ s us ex,i :: p=>match us[i]? with
  | some u=>match B6 u (ko ex i) with
   | some c=>match S.at c p with
    | some (o,z)=>some (i * s+o,z)
    | none=>none
   | none=>match u,p with
    | .fw fs _ _ _,k :: q=>match fs[k]? with
     | some y=>match T.at y q with
      | some (o,z)=>some (i * s+(T.widths (fs.take k)+o),.t z)
      | none=>none
     | none=>none
    | _,_=>none
  | none=>none
 | .rows _ _ _ _,[]=>none
def aA.set:aA→List Nat→S→Option aA
 | .box e c,p,v=>match S.set c p v with
  | some c'=>some (.box e c')
  | none=>none
 | .list e s xs,i :: p,.t v=>match xs[i]? with
  | some y=>match T.set y p v with
   | some y'=>some (.list e s (xs.set i y'))
   | none=>none
  | none=>none
 | .rows e s us ex,i :: p,v=>match us[i]? with
  | some u=>match B6 u (ko ex i) with
   | some c=>match S.set c p v with
    | some c'=>some (.rows e s us (yV ex i c'))
    | none=>none
   | none=>none
  | none=>none
 | _,_,_=>none
theorem iw {w:World} {e s n cap:Nat} {x:Option Addr} {cells:List Value} (h:w.ownsRow 0 e s (.slice x n cap) n cells) {b:Nat} (hb:aW (.slice x n cap)=some b) :
  x=some ⟨b,0,none⟩∧∃ cur,w.heap[b]? = some (.cells cur e (0,0))∧n≤cap∧cap≤maxLen∧cur.size=cap * s∧cur.toList.take (n * s)=cells:=by
 rcases h.2 with ⟨hv,hn⟩|⟨g,cap',cur,hv,hB,hh,hc,hm,hs,ht⟩
 ·simp only[Value.slice.injEq]at hv;rw[hv.1]at hb;simp[aW]at hb
 ·simp only[Value.slice.injEq]at hv
  obtain⟨h1,_,h3⟩:=hv
  subst h1 h3
  simp[aW]at hb
  subst hb
  exact⟨rfl,cur,hh,hc,hm,hs,ht⟩
theorem ui {cur:Array Value} {m j:Nat} {cells:List Value} {c:Value} (ht:cur.toList.take m=cells) (hj:cells[j]? = some c):cur[j]? = some c:=by
 rw[←ht,List.getElem?_take]at hj
 split at hj
 ·simpa using hj
 ·cases hj
theorem Fi {G:Gh} {w:World} {u:U} {c?:Option S} {s:Nat} {v:Value} {k:Option Nat} {c:S} (h:fV G w c? u s v k) (hv:v.cells.size=s) (hc:B6 u c? = some c):ar G w c v∧c.width=s∧k=none:=by
 unfold B6 at hc
 unfold fV at h
 split at hc
 ·cases hc;exact h
 ·split at hc
  ·cases hc
   simp only[jH]at h
   have:=aO.width _ _ h.1
   exact⟨by unfold ar;exact h.1,by simp only[S.width];omega,h.2⟩
  ·cases hc
theorem bH.at_spec {G:Gh} {w:World} {blk:aA} {u:Value} {p:List Nat} {off b:Nat} {y:S} {f:Nat→Prop} (hr:bH G w blk u) (hi:ik G w blk u f) (ha:blk.at p=some (off,y)) (hb:aW u=some b) :
  ∃ v,ar G w y v∧v.cells.size=y.width∧(∀ c∈v.cells.toList,c.oneCell'=true)∧∀ j c,v.cells.toList[j]? = some c→w.cell? ⟨b,off+j,none⟩=some c:=by
 cases blk with
 | box e c=>
  obtain⟨b',v,rfl,h2,h3,h4,h5⟩:=hr
  simp[aW]at hb
  subst hb
  simp only[aA.at]at ha
  obtain⟨x,h6,h7,h8,h9,h10⟩:=S.at_spec h2 h3 h4 ha
  refine⟨x,h6,h7,h8,fun j c hj=>?_⟩
  rw[cell_of_row w b' _ v.cells e (0,0) h5]
  have:=h10 j c hj
  simpa using this
 | list e s xs=>
  obtain⟨x,cap,cells,rfl,h2,h3,h4⟩:=hr
  obtain⟨rfl,cur,h5,_,_,_,h6⟩:=iw h4 hb
  cases p with
  | nil=>simp[aA.at]at ha
  | cons i p=>
   simp only[aA.at]at ha
   cases hi:xs[i]? with
   | none=>rw[hi]at ha;simp at ha
   | some f=>
    rw[hi]at ha
    simp only at ha
    cases hf:T.at f p with
    | none=>rw[hf]at ha;simp at ha
    | some q=>
     rw[hf]at ha
     obtain⟨o',z⟩:=q
     simp at ha
     obtain⟨rfl,rfl⟩:=ha
     obtain⟨f1,h7,h8,_⟩:=ay.get h2 hi
     obtain⟨v,h9,h10,h11⟩:=T.at_spec h7 hf
     refine⟨v,by unfold ar;exact h9,aO.width _ _ h9,aO.one _ _ h9,fun j c hj=>?_⟩
     have h12:=h8 _ _ (h11 j c hj)
     rw[aG h3 (Nat.le_of_lt (List.getElem?_eq_some_iff.1 hi).1)]at h12
     rw[cell_of_row w b _ cur e (0,0) h5]
     have:=ui h6 h12
     rw[Nat.add_assoc];exact this
 | rows e s us ex=>
  obtain⟨cells,κ,h1,h2,_,_,_,_⟩:=hi
  obtain⟨x,cap,_,rfl,_⟩:=hr
  obtain⟨rfl,cur,h5,_,_,_,h6⟩:=iw h1 hb
  cases p with
  | nil=>simp[aA.at]at ha
  | cons i p=>
   simp only[aA.at]at ha
   cases hu:us[i]? with
   | none=>rw[hu]at ha;simp at ha
   | some g=>
    rw[hu]at ha
    simp only at ha
    obtain⟨v,h7,h8,h9,h10⟩:=h2 i g hu
    cases hc:B6 g (ko ex i) with
    | some c=>
     rw[hc]at ha
     simp only at ha
     obtain⟨h11,h12,_⟩:=Fi h10 h8 hc
     cases hf:S.at c p with
     | none=>rw[hf]at ha;simp at ha
     | some q=>
      rw[hf]at ha
      obtain⟨o',z⟩:=q
      simp at ha
      obtain⟨rfl,rfl⟩:=ha
      obtain⟨x,h13,h14,h15,h16,h17⟩:=S.at_spec h11 (by omega) h9 hf
      refine⟨x,h13,h14,h15,fun j c hj=>?_⟩
      rw[cell_of_row w b _ cur e (0,0) h5,Nat.add_assoc]
      exact ui h6 (h7 _ _ (h17 j c hj))
    | none=>
     rw[hc]at ha
     simp only at ha
     split at ha
     ·rename_i fs e1 s1 xs1 k q
      cases hk:fs[k]? with
      | none=>rw[hk]at ha;simp at ha
      | some f1=>
       rw[hk]at ha
       simp only at ha
       cases hf:T.at f1 q with
       | none=>rw[hf]at ha;simp at ha
       | some qq=>
        rw[hf]at ha
        obtain⟨o',z⟩:=qq
        simp at ha
        obtain⟨rfl,rfl⟩:=ha
        have hl:ko ex i=none:=by
         unfold B6 at hc
         split at hc
         ·cases hc
         ·assumption
        rw[hl]at h10
        obtain⟨cs,v',rfl,h11,_,_⟩:=h10
        obtain⟨f2,h12,h13,_⟩:=ay.get h11 hk
        obtain⟨x,h14,h15,h16⟩:=T.at_spec h12 hf
        refine⟨x,by unfold ar;exact h14,aO.width _ _ h14,aO.one _ _ h14,fun j c hj=>?_⟩
        have h17:=h13 _ _ (h16 j c hj)
        have h18:(Value.agg (cs++[v']).toArray).cells.toList[T.widths (fs.take k)+(o'+j)]? = some c:=by
         simp only[Value.cells]
         rw[List.getElem?_append_left (List.getElem?_eq_some_iff.1 h17).1]
         exact h17
        rw[cell_of_row w b _ cur e (0,0) h5]
        have:=ui h6 (h7 _ _ h18)
        rw[Nat.add_assoc,Nat.add_assoc];exact this
     ·cases ha
theorem yz {t:TypeId} {x:Operand} {l off:Nat} {p:List Nat} {blk:aA} {y:S} (ho:o.op = .load t x) (hx:R x = .pt l p off) (hl:h l=some blk) (hp:blk.at p=some (off,y)) (hso:y.solid=true) (hok:kO P t y) :
  bm N P o R h ⟨y,[],[l],[]⟩:=
 aH fun G h' a w hh hop hfp=>by
  have h1:=hop x (by simp[ho,Op.operands])
  rw[hx]at h1
  unfold ar at h1
  obtain⟨b,h2,h3⟩:=h1
  have h4:=hh.rep l blk (by rw[hfp l (by simp)];exact hl)
  obtain⟨v,h5,h6,h7,h8⟩:=bH.at_spec h4 (hh.inn l blk (by rw[hfp l (by simp)];exact hl)) hp h2
  refine⟨v,?_,h5⟩
  unfold execOp
  simp only[ho]
  exact bh (by rw[h3];exact kI h5 hso hok h8)
theorem cj (w:World) (b:Nat) (cs:Array Value):w.grownBy (w.setRow b cs) (some b):=
 ⟨rfl,rfl,rfl,by simp,fun k _ hk=>setRow_other w b k _ (fun e=>hk (by simp[e]))⟩
theorem bH.set_spec {G:Gh} {w:World} {blk blk':aA} {u:Value} {p:List Nat} {off b:Nat} {y z:S} {v:Value} {f:Nat→Prop} (hr:bH G w blk u) (hinn:ik G w blk u f) (ha:blk.at p=some (off,y)) (hs:blk.set p z=some blk') (hb:aW u=some b)
  (hz:ar G w z v) (hzw:v.cells.size=z.width) (hz1:∀ c∈v.cells.toList,c.oneCell'=true) (hw:z.width=y.width) (hFb:¬ G.F b) (hlt:∀ b,G.F b→b < w.heap.size) :
  ∃ cur t cs',w.heap[b]? = some (.cells cur t (0,0))∧cs'=bS cur.toList off v.cells.toList∧off+v.cells.size≤cur.size∧bH G (w.setRow b cs'.toArray) blk' u∧ik G (w.setRow b cs'.toArray) blk' u f:=by
 have K:∀ cs:Array Value,iF G w G (w.setRow b cs) []:=fun cs=>⟨fun _ h=>h,fun b' o hb'=>bj ((cj w b cs).block b' (hlt b' hb') (fun e=>by simp at e;subst e;exact hFb hb')),fun _ _=>rfl⟩
 cases blk with
 | box e c=>
  obtain⟨b',v0,rfl,h2,h3,h4,h5⟩:=hr
  simp[aW]at hb
  subst hb
  simp only[aA.at]at ha
  simp only[aA.set]at hs
  cases hc:S.set c p z with
  | none=>rw[hc]at hs;simp at hs
  | some c'=>
   rw[hc]at hs
   simp at hs
   subst hs
   obtain⟨v',h6,h7,h8,h9,h10⟩:=S.set_spec h2 h3 h4 ha hz hzw hz1 hw hc
   obtain⟨_,_,_,_,hle,_⟩:=S.at_spec h2 h3 h4 ha
   refine⟨v0.cells,e,_,h5,rfl,by omega,⟨b',v',rfl,ar.keep (K _) c' v' (by simp) h6,h9,h10,?_⟩,hinn⟩
   rw[setRow_heap w b' v0.cells _ e (0,0) h5,←h7]
 | list e s xs=>
  obtain⟨x,cap,cells,rfl,h2,h3,h4⟩:=hr
  obtain⟨rfl,cur,h5,hnc,hcm,hcs,h6⟩:=iw h4 hb
  cases p with
  | nil=>simp[aA.at]at ha
  | cons i p=>
   simp only[aA.at]at ha
   cases z with
   | t z=>
    simp only[aA.set]at hs
    cases hi:xs[i]? with
    | none=>rw[hi]at ha;simp at ha
    | some f=>
     rw[hi]at ha hs
     simp only at ha hs
     cases hf:T.at f p with
     | none=>rw[hf]at ha;simp at ha
     | some q=>
      rw[hf]at ha
      cases hst:T.set f p z with
      | none=>rw[hst]at hs;simp at hs
      | some f'=>
       rw[hst]at hs
       obtain⟨o',y'⟩:=q
       simp at ha hs
       obtain⟨rfl,rfl⟩:=ha
       subst hs
       have hlt':=(List.getElem?_eq_some_iff.1 hi).1
       obtain⟨f1,h7,h8,h8'⟩:=ay.get h2 hi
       unfold ar at hz
       obtain⟨v',h9,h10,h11⟩:=T.set_spec h7 hf hz hw hst
       obtain⟨_,_,hle,_⟩:=T.at_spec h7 hf
       have hset:=ay.set h2 hi h9 h11
       have hcl:=ay.widths _ _ h2
       have hfs:f.width=s:=h3 f (List.mem_of_getElem? hi)
       have htk:T.widths (xs.take i)=i * s:=aG h3 (Nat.le_of_lt hlt')
       have htot:T.widths xs=xs.length * s:=bt h3
       have his:i * s+s≤xs.length * s:=by
        have:=Nat.mul_le_mul_right s (Nat.succ_le_of_lt hlt')
        rw[Nat.succ_mul]at this;exact this
       have hncs:xs.length * s≤cap * s:=Nat.mul_le_mul_right _ hnc
       have hf1:=aO.width _ _ h7
       have hzw':v.cells.toList.length=z.width:=by rw[Array.length_toList];exact hzw
       have hyw:z.width=y'.width:=hw
       have hzw2:v.cells.size=z.width:=hzw
       have hdec:cells=cells.take (i * s)++(f1.cells.toList++cells.drop (i * s+s)):=by
        rw[←htk,show T.widths (xs.take i)+s=T.widths (xs.take (i+1)) by rw[b9 hi,hfs],←h8',List.take_append_drop]
       have hnew:cells.take (i * s)++(v'.cells.toList++cells.drop (i * s+s))=bS cells (i * s+o') v.cells.toList:=by
        rw[h10]
        conv=>rhs;rw[hdec]
        rw[iX (by rw[List.length_take];omega) (by simp only[Array.length_toList];omega)]
       rw[htk,hfs,hnew]at hset
       refine⟨cur,e,_,h5,rfl,by omega,⟨some ⟨b,0,none⟩,cap,_,by rw[List.length_set],ay.mono (fun _ h=>h) (K _).fcell _ _ hset,?_,?_⟩,hinn⟩
       ·intro q hq
        rcases List.mem_or_eq_of_mem_set hq with hq|rfl
        ·exact h3 q hq
        ·rw[h11,hfs]
       ·rw[List.length_set]
        refine⟨by rw[bO (by omega)];exact h4.1,.inr ⟨b,cap,(bS cur.toList (i * s+o') v.cells.toList).toArray,rfl,Nat.zero_le _,setRow_heap w b cur (bS cur.toList (i * s+o') v.cells.toList).toArray e (0,0) h5,hnc,hcm,?_,?_⟩⟩
        ·simp only[List.size_toArray]
         have hcl3:cur.toList.length=cap * s:=by rw[Array.length_toList,hcs]
         rw[bO (by rw[Array.length_toList];omega),hcl3]
        ·have hcur:cur.toList=cells++cur.toList.drop (xs.length * s):=by rw[←h6,List.take_append_drop]
         have hcl2:cells.length=xs.length * s:=by omega
         conv=>lhs;rw[hcur]
         have:=iX (a:=[]) (m:=cells) (b:=cur.toList.drop (xs.length * s)) (us:=v.cells.toList) (o:=i * s+o') (k:=0) rfl (by omega)
         simp only[List.nil_append,Nat.zero_add]at this
         simp only[this]
         rw[List.take_left' (by rw[bO (by omega),hcl2])]
   | _=>simp[aA.set]at hs
 | rows e s us ex=>
  obtain⟨cells,κ,h1,h2,h3,h4,h4b,h4c⟩:=hinn
  obtain⟨x,cap,cells0,rfl,_⟩:=hr
  obtain⟨rfl,cur,h5,hnc,hcm,hcs,h6⟩:=iw h1 hb
  cases p with
  | nil=>simp[aA.at]at ha
  | cons i p=>
   simp only[aA.at]at ha
   simp only[aA.set]at hs
   cases hu:us[i]? with
   | none=>rw[hu]at ha;simp at ha
   | some g=>
    rw[hu]at ha hs
    simp only at ha hs
    obtain⟨v0,h7,h8,h9,h10⟩:=h2 i g hu
    cases hc:B6 g (ko ex i) with
    | none=>rw[hc]at hs;simp at hs
    | some c=>
     rw[hc]at ha hs
     simp only at ha hs
     obtain⟨h11,h12,hκ⟩:=Fi h10 h8 hc
     cases hf:S.at c p with
     | none=>rw[hf]at ha;simp at ha
     | some q=>
      rw[hf]at ha
      cases hst:S.set c p z with
      | none=>rw[hst]at hs;simp at hs
      | some c'=>
       rw[hst]at hs
       obtain⟨o',y'⟩:=q
       simp at ha hs
       obtain⟨rfl,rfl⟩:=ha
       subst hs
       obtain⟨v',h13,h14,h15,h16,h17⟩:=S.set_spec h11 (by omega) h9 hf hz hzw hz1 hw hst
       obtain⟨_,_,_,_,hle,_⟩:=S.at_spec h11 (by omega) h9 hf
       have hlt':=(List.getElem?_eq_some_iff.1 hu).1
       have his:i * s+s≤us.length * s:=by
        have:=Nat.mul_le_mul_right s (Nat.succ_le_of_lt hlt')
        rw[Nat.succ_mul]at this;exact this
       have hncs:us.length * s≤cap * s:=Nat.mul_le_mul_right _ hnc
       have hcl:cells.length=us.length * s:=h1.1
       have hzl:v.cells.toList.length=z.width:=by rw[Array.length_toList];exact hzw
       have hown:(w.setRow b (bS cur.toList (i * s+o') v.cells.toList).toArray).ownsRow 0 e s (.slice (some ⟨b,0,none⟩) us.length cap) us.length (bS cells (i * s+o') v.cells.toList):=by
        refine⟨by rw[bO (by omega)];exact hcl,.inr ⟨b,cap,(bS cur.toList (i * s+o') v.cells.toList).toArray,rfl,Nat.zero_le _,setRow_heap w b cur (bS cur.toList (i * s+o') v.cells.toList).toArray e (0,0) h5,hnc,hcm,?_,?_⟩⟩
        ·simp only[List.size_toArray]
         have hcl3:cur.toList.length=cap * s:=by rw[Array.length_toList,hcs]
         rw[bO (by omega),hcl3]
        ·have hcur:cur.toList=cells++cur.toList.drop (us.length * s):=by rw[←h6,List.take_append_drop]
         conv=>lhs;rw[hcur]
         have:=iX (a:=[]) (m:=cells) (b:=cur.toList.drop (us.length * s)) (us:=v.cells.toList) (o:=i * s+o') (k:=0) rfl (by omega)
         simp only[List.nil_append,Nat.zero_add]at this
         simp only[this]
         rw[List.take_left' (by rw[bO (by omega),hcl])]
       have hget:∀ j,(bS cells (i * s+o') v.cells.toList)[j]? = if i * s+o'≤j∧j < i * s+o'+v.cells.toList.length then v.cells.toList[j - (i * s+o')]? else cells[j]?:=by
        intro j
        unfold bS
        have e1:(cells.take (i * s+o')).length=i * s+o':=by rw[List.length_take];omega
        by_cases hj:j < i * s+o'
        ·rw[if_neg (by omega),List.getElem?_append_left (by omega),List.getElem?_take,if_pos hj]
        ·rw[List.getElem?_append_right (by omega),e1]
         by_cases hj2:j < i * s+o'+v.cells.toList.length
         ·rw[if_pos ⟨by omega,hj2⟩,List.getElem?_append_left (by omega)]
         ·rw[if_neg (by omega),List.getElem?_append_right (by omega),List.getElem?_drop]
          congr 1;omega
       refine⟨cur,e,_,h5,rfl,by omega,⟨some ⟨b,0,none⟩,cap,_,rfl,hown⟩,?_⟩
       refine⟨_,κ,hown,?_,h3,h4,h4b,h4c⟩
       intro j x hx
       by_cases hji:j=i
       ·subst hji
        refine⟨v',fun q c1 hq=>?_,by omega,h17,?_⟩
        ·rw[hget]
         rw[h14]at hq
         have hql:q < s:=by
          have:=(List.getElem?_eq_some_iff.1 hq).1
          rw[bO (by simp only[Array.length_toList];omega)]at this
          rw[Array.length_toList]at this
          omega
         have hv0:∀ q c1,v0.cells.toList[q]? = some c1→cells[j * s+q]? = some c1:=h7
         unfold bS at hq
         have e1:(v0.cells.toList.take o').length=o':=by rw[List.length_take,Array.length_toList];omega
         by_cases hq1:q < o'
         ·rw[if_neg (by omega)]
          rw[List.getElem?_append_left (by omega),List.getElem?_take,if_pos hq1]at hq
          exact hv0 q c1 hq
         ·rw[List.getElem?_append_right (by omega),e1]at hq
          by_cases hq2:q < o'+v.cells.toList.length
          ·rw[if_pos (by omega)]
           rw[List.getElem?_append_left (by omega)]at hq
           rw[show j * s+q - (j * s+o')=q - o' by omega]
           exact hq
          ·rw[if_neg (by omega)]
           rw[List.getElem?_append_right (by omega),List.getElem?_drop]at hq
           refine hv0 q c1 ?_
           rw[←hq];congr 1;omega
        ·unfold fV
         rw[sA,if_pos rfl]
         exact⟨ar.keep (K _) c' v' (by simp) h13,by omega,hκ⟩
       ·obtain⟨v1,g1,g2,g3,g4⟩:=h2 j x hx
        refine⟨v1,fun q c1 hq=>?_,g2,g3,?_⟩
        ·rw[hget]
         have hql:q < s:=by
          have:=(List.getElem?_eq_some_iff.1 hq).1
          rw[Array.length_toList]at this
          omega
         have:¬ (i * s+o'≤j * s+q∧j * s+q < i * s+o'+v.cells.toList.length):=by
          rintro ⟨a1,a2⟩
          rcases Nat.lt_or_gt_of_ne hji with hlt|hlt
          ·have h30:=Nat.mul_le_mul_right s (Nat.succ_le_of_lt hlt)
           rw[Nat.succ_mul]at h30
           omega
          ·have h30:=Nat.mul_le_mul_right s (Nat.succ_le_of_lt hlt)
           rw[Nat.succ_mul]at h30
           omega
         rw[if_neg this]
         exact g1 q c1 hq
        ·unfold fV at g4 ⊢
         rw[sA,if_neg hji]
         split at g4
         ·exact⟨ar.keep (K _) _ v1 (by simp) g4.1,g4.2⟩
         ·exact jH.keep2 (K _) (fun k hk=>(cj w b _).block k (g4.lt hk) (fun e=>h4b j k hk (by simp at e;subst e;rfl))) g4
end
end Go.Proofs.YtocndodilpimnaaGreat.Sy
