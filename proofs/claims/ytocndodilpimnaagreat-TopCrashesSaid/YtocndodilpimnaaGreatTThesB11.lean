/- Several texts of this proof, one behind the other. No condition. -/
import Derived.Test.YtocndodilpimnaaGreatTThesB10
import Derived.OrdersIn
import Derived.RangeFuncCalls
import Derived.LoopIn
import Derived.LoopNIn
import Derived.OwnWalkIn
import Derived.RangeFuncBox
import Derived.Shelf.Abstract
import Derived.Shelf.RegionOpen
import Derived.TacticsInMore
import Derived.WalkKit
set_option maxRecDepth 100000
set_option maxHeartbeats 16000000
set_option linter.unusedVariables false
set_option linter.unusedSimpArgs false
namespace Go.Proofs.YtocndodilpimnaaGreat.Sy
open Go.RowKit
theorem Oo {P:Program} {row:String} {args:Array Value} {w:World} {R:Value→World→Prop} {n l:Nat} (h:Rows P row args w R):RowsIn (Fence.wide.inRound l) n P row args w R:=
 fun c cs _=>let ⟨v,w',r,s⟩:=h c cs;⟨v,w',r,stepsIn_wide.2 s⟩
def xu (Q:Exit→Act→World→Prop):Exit→Act→World→Prop
 | .normal,a,w=>Q .normal a w
 | .panic c,a,w=>Q (.panic c) a w
 | _,_,_=>False
theorem qE (Q:Exit→Act→World→Prop):¬ LetsOut (xu Q):=fun h=>by
 obtain⟨a,w,h⟩:=h;exact h
theorem QI {P:Program} {o:Oper} {a:Act} {w:World} {K K':Act→World→Prop} {Q:Exit→Act→World→Prop} {l n:Nat} (hd:∀ c,o.op≠ .defer c) (hK:∀ a w,K a w→K' a w) (h:o.wp P a w K (xu Q)):o.wpIn (Fence.wide.inRound l) n P a w K' Q:=by
 refine⟨fun _ _=>trivial,?_⟩
 rw[Oper.semAt_eq _ _ _ hd]
 unfold Oper.wp at h
 generalize (execOp a.eval o).run P w=r at *
 cases r with
 | ok x w'=>
  cases x<;>simp only[Oper.upon,Oper.uponIn]at h ⊢
  case value=>exact hK _ _ h
  case skip=>exact hK _ _ h
  case defer=>exact hK _ _ h
  case enter f args=>
   refine⟨fun h=>by simp[Fence.wide]at h,CallsIn.inRound l (callsIn_wide.2 (Calls.mono h fun e w'' he=>?_))⟩
   cases e with
   | returned v=>exact hK _ _ he
   | panicked c=>exact he
   | outgrown=>exact (qE Q he).elim
  case row row args=>exact⟨fun h=>by simp[Fence.wide]at h,Oo (Rows.mono h fun v w'' he=>hK _ _ he)⟩
 | halt x w'=>cases x<;>simp only[Oper.upon,Oper.uponIn]at h ⊢<;>first|exact h|cases h
theorem Fj {P:Program} {ops:Array Oper} {Q:Exit→Act→World→Prop} {l n:Nat} (hd:∀ o∈ops.toList,∀ c,o.op≠ .defer c):∀ (fuel:Nat) (listed:Array Bool) (a:Act) (w:World),wpAny P .any ops (xu Q) fuel listed a w→wpAnyIn (Fence.wide.inRound l) n P .any ops Q fuel listed a w
 | 0,_,_,_,h=>h
 | fuel+1,listed,a,w,h=>by
  refine⟨h.1,fun i hi=>?_⟩
  have h2:=h.2 i hi
  unfold wpOp at h2
  unfold wpOpIn
  split
  ·rename_i ho
   rw[ho]at h2
   exact Fj hd fuel _ _ _ h2
  ·rename_i o ho
   rw[ho]at h2
   simp only at h2
   split
   ·rename_i hw
    rw[if_pos hw]at h2
    rcases h2 with h2|⟨_,h2⟩
    ·exact QI (hd o (by obtain⟨h,e⟩:=Array.getElem?_eq_some_iff.1 ho;rw[←e];simp)) (fun a w=>Fj hd fuel _ _ _) h2
    ·exact (qE Q h2).elim
   ·rename_i hw
    rw[if_neg hw]at h2
    exact⟨fun _ _=>trivial,Fj hd fuel _ _ _ h2⟩
theorem E3 {P:Program} {ops:Array Oper} {Q:Exit→Act→World→Prop} {r n:Nat} (hd:∀ o∈ops.toList,∀ c,o.op≠ .defer c):∀ (l:List Nat) (a:Act) (w:World),wpOps P ops (xu Q) l a w→wpOpsIn (Fence.wide.inRound r) n P ops Q l a w
 | [],a,w,h=>h
 | i :: l,a,w,h=>by
  unfold wpOps at h
  unfold wpOpsIn
  split
  ·rename_i ho
   rw[ho]at h
   exact E3 hd l a w h
  ·rename_i o ho
   rw[ho]at h
   simp only at h
   split
   ·rename_i hw
    rw[if_pos hw]at h
    rcases h with h|⟨_,h⟩
    ·exact QI (hd o (by obtain⟨h,e⟩:=Array.getElem?_eq_some_iff.1 ho;rw[←e];simp)) (fun a w=>E3 hd l a w) h
    ·exact (qE Q h).elim
   ·rename_i hw
    rw[if_neg hw]at h
    exact⟨fun _ _=>trivial,E3 hd l _ w h⟩
def N6 (ops:Array Oper):Bool:=ops.toList.all fun o=>match o.op with
 | .defer _=>false
 | _=>true
theorem tV {ops:Array Oper} (h:N6 ops=true):∀ o∈ops.toList,∀ c,o.op≠ .defer c:=fun o ho c e=>by
 have:=List.all_eq_true.1 h o ho
 rw[e]at this
 cases this
def fv:Code→Bool
 | .skip=>true
 | .region _ ops _=>N6 ops
 | .seq a b=>fv a && fv b
 | .cond _ a b=>fv a && fv b
 | .block _ c=>fv c
 | .exit _=>true
 | .ret=>true
 | _=>false
def CR (N:Nat) (P:Program) (r n:Nat) (c:Code) (Q:Exit→St→Prop) (σ:St):Prop:=
 ∀ (W:World) (G0:Gh) (A:Nat→Prop) (a:Act) (w:World),Sat N W G0 A σ a w→c.wpIn (Fence.wide.inRound r) n P (fun e a' w'=>∃ σ',Q e σ'∧Sat N W G0 A σ' a' w') a w
theorem iJ {N:Nat} {P:Program} (hm:P.follows .mixedOrders=true) (r n:Nat):∀ (c:Code) (Q:Exit→St→Prop) (σ:St),bE N c=true→fv c=true→nf N P [] c Q σ→CR N P r n c Q σ
 | .skip,Q,σ,_,_,h=>fun W G0 A a w hs=>wpIn_skip ⟨σ,h,hs⟩
 | .region id ops false,Q,σ,hc,hf,h=>by
  intro W G0 A a w hs
  obtain⟨G,hs⟩:=hs
  simp only[bE]at hc
  simp only[fv]at hf
  simp only[nf]at h
  obtain⟨es,σ',h1,h2⟩:=gv (iR hc) h
  refine wpIn_region (E3 (tV hf) _ _ _ ?_)
  have:=rf (N:=N) (W:=W) (G0:=G0) (A:=A) (Q:=xu fun e a' w'=>∃ σ',Q e σ'∧Sat N W G0 A σ' a' w') (k:=0) (fun j oj t hj ht=>jW hc (by simpa using hj) ht) h1 (fun j=>by simp) (fun G a w hs'=>⟨σ',h2,G,hs'⟩) G a w hs
  rw[Array.length_toList]at this
  rw[List.range_eq_range']
  exact this
 | .region id ops true,Q,σ,hc,hf,h=>by
  intro W G0 A a w hs
  obtain⟨G,hs⟩:=hs
  simp only[bE]at hc
  simp only[fv]at hf
  simp only[nf]at h
  obtain⟨es,σ',h1,h2,h3⟩:=gv (iR hc) h
  simp only[jx,List.append_nil,List.reverse_reverse,Bool.and_eq_true]at h2
  refine wpIn_region_any hm (Fj (tV hf) _ _ _ _ ?_)
  have:=wH (N:=N) (W:=W) (G0:=G0) (A:=A) (Q:=xu fun e a' w'=>∃ σ',Q e σ'∧Sat N W G0 A σ' a' w') (fun j oj t hj ht=>jW hc hj ht) h1 h2.1
   (fun e he l hl=>⟨vh h1 e he l hl,nR h2.2 e (by simpa using he) l hl⟩) (fun G a w hs'=>⟨σ',h3,G,hs'⟩) hs
  exact this
 | .seq x y,Q,σ,hc,hf,h=>by
  intro W G0 A a w hs
  simp only[bE,Bool.and_eq_true]at hc
  simp only[fv,Bool.and_eq_true]at hf
  have hst:stops [] x=false:=by unfold stops;split<;>simp
  simp only[nf,hst]at h
  refine wpIn_seq (wpIn_mono (iJ hm r n x _ σ hc.1 hf.1 h W G0 A a w hs) ?_)
  rintro e a w ⟨σ',h1,h2⟩
  cases e<;>first|exact iJ hm r n y Q σ' hc.2 hf.2 h1 W G0 A a w h2|exact⟨σ',h1,h2⟩
 | .cond c x y,Q,σ,hc,hf,h=>by
  intro W G0 A a w hs
  simp only[bE,Bool.and_eq_true]at hc
  simp only[fv,Bool.and_eq_true]at hf
  simp only[nf]at h
  split at h
  ·rename_i v hv
   obtain⟨G,hs'⟩:=hs
   have h1:=hs'.eval c
   rw[hv]at h1
   unfold ar at h1;unfold aO at h1
   refine wpIn_cond h1.1 ?_
   cases v
   ·exact iJ hm r n y Q σ hc.2 hf.2 h W G0 A a w ⟨G,hs'⟩
   ·exact iJ hm r n x Q σ hc.1 hf.1 h W G0 A a w ⟨G,hs'⟩
  ·exact h.elim
 | .block id c,Q,σ,hc,hf,h=>by
  intro W G0 A a w hs
  simp only[bE]at hc
  simp only[fv]at hf
  simp only[nf]at h
  refine wpIn_block (wpIn_mono (iJ hm r n c _ σ hc hf h W G0 A a w hs) ?_)
  rintro e a w ⟨σ',h1,h2⟩
  cases e with
  | exit i=>
   simp only[iH]at h1
   simp only[Exit.inBlock]
   split
   ·rename_i e;rw[if_pos e]at h1;exact⟨σ',h1,h2⟩
   ·rename_i e;rw[if_neg e]at h1;exact⟨σ',h1,h2⟩
  | _=>exact⟨σ',h1,h2⟩
 | .exit id,Q,σ,_,_,h=>fun W G0 A a w hs=>wpIn_exit ⟨σ,h,hs⟩
 | .ret,Q,σ,_,_,h=>fun W G0 A a w hs=>wpIn_ret ⟨σ,h,hs⟩
 | .loop _,Q,σ,_,hf,_=>by simp only[fv]at hf;cases hf
 | .scope _,Q,σ,_,hf,_=>by simp only[fv]at hf;cases hf
 | .rangeFunc _ _ _ _,Q,σ,_,hf,_=>by simp only[fv]at hf;cases hf
 | .label _,Q,σ,_,hf,_=>by simp only[fv]at hf;cases hf
 | .goto _,Q,σ,_,hf,_=>by simp only[fv]at hf;cases hf
 | .refuse _,Q,σ,_,hf,_=>by simp only[fv]at hf;cases hf
def IW (P:Program) (gf:FuncId) (lb:Array Value) (ys:List (List Value)) (F0:Nat→Prop) (Rd0 Rd:World→Prop):Prop:=
 ∀ (l:Nat) (J:Nat→World→Prop) (Jx:World→Prop) (W:World),Rd0 W→
  (∀ k A B,J k A→Below A.heap.size A B→J k B)→(∀ A B,Jx A→Below A.heap.size A B→Jx B)→(∀ k A,J k A→Rd A)→
  (∀ k y A,ys[k]? = some y→J k A→YieldAt Fence.wide 7 P l y.toArray A fun e B=>(∀ b o,F0 b→B.cell? ⟨b,o,none⟩=A.cell? ⟨b,o,none⟩)∧((e = .returned (.bool true)∧J (k+1) B)∨(e = .returned (.bool false)∧Jx B)))→
  J 0 W→CallsIn Fence.wide 8 P gf (#[.func (.yield l) #[] #[]]++lb) W fun e B=>(∃ v,e = .returned v)∧(J ys.length B∨Jx B)
def KA (l:Nat) (A W':World):Prop:=∀ (k:Nat) (o:Obj),k≠l→A.heap[k]? = some o→o.isCells=false→W'.heap[k]? = some o
def JV (l:Nat) (o':Obj) (F0:Nat→Prop) (A:World) (I:World→Prop) (Ix:Code→World→Prop) (e:Exit) (w':World):Prop:=
 KA l A w'∧w'.heap[l]? = some o'∧(∀ b o,F0 b→w'.cell? ⟨b,o,none⟩=A.cell? ⟨b,o,none⟩)∧match e with
  | .normal=>I w'
  | .ret=>Ix .ret w'
  | .exit id=>Ix (.exit id) w'
  | _=>False
theorem Eb {P:Program} {g:Operand} {ps:Array Tmp} {assign body:Code} {Q:Exit→Act→World→Prop} {a:Act} {w:World} {gf:FuncId} {lb:Array Value} {ys:List (List Value)} {F0:Nat→Prop} {Rd0 Rd:World→Prop}
  (hg:a.eval g = .func (.func gf) #[] lb) (eg:∀ args w,(callFunc gf args).run P w = .ok (.enter gf args) w) (hit:IW P gf lb ys F0 Rd0 Rd) (hps:∀ y∈ys,y.length=ps.size)
  (I:Nat→World→Prop) (Ix:Code→World→Prop)
  (hIb:∀ k A B,I k A→Below A.heap.size A B→I k B) (hIp:∀ k A D o o',I k A→A.heap[D]? = some o→o.isCells=false→o'.isCells=false→w.heap.size≤D→I k (A.putObj D o'))
  (hXb:∀ c A B,Ix c A→Below A.heap.size A B→Ix c B) (hXp:∀ c A D o o',Ix c A→A.heap[D]? = some o→o.isCells=false→o'.isCells=false→w.heap.size≤D→Ix c (A.putObj D o'))
  (hRd:∀ k A,I k A→Rd A) (hRd0:∀ B,Below w.heap.size w B→Rd0 B) (h0:I 0 w)
  (hround:∀ (l k:Nat) (y:List Value) (A:World),ys[k]? = some y→I k A→w.heap.size≤l→(∃ r,A.heap[l]? = some (.loop r))→
   assign.wpIn (Fence.wide.inRound l) 7 P (Exit.then (fun a1 w1=>KA l A w1∧w1.heap[l]? = A.heap[l]?∧∀ o':Obj,o'.isCells=false→body.wpIn (Fence.wide.inRound l) 7 P (fun e _ w'=>JV l o' F0 A (I (k+1)) Ix e w') a1 (w1.putObj l o')) (fun _ _ _=>False))
    {tmps:=(ps.zip y.toArray).foldl (fun t (p,v)=>t.setIfInBounds p v) a.tmps,defers:=[]} A)
  (hdone:∀ (D:Nat) (W:World),w.heap.size≤D→I ys.length W→W.heap[D]? = some (Obj.deferred (some []))→Q .normal {a with defers:={target:=.collected D,args:=#[]} :: a.defers} W)
  (hstop:∀ (D:Nat) (c:Code) (W:World),w.heap.size≤D→Ix c W→W.heap[D]? = some (Obj.deferred (some []))→c.wpIn Fence.wide 9 P Q {a with defers:={target:=.collected D,args:=#[]} :: a.defers} W) :
  (Code.rangeFunc g ps assign body).wpIn Fence.wide 9 P Q a w:=by
 refine wpIn_rangeFunc ?_
 intro fn hfn
 obtain⟨rec,hrec⟩:∃ rec:LoopState→Option Code→Loop,rec=fun st pe=>{state:=st,pending:=pe,fn,tmps:=a.tmps,params:=ps,assign,body,defers:=w.heap.size}:=⟨_,rfl⟩
 obtain⟨W1,hW1⟩:∃ W1,(w.alloc (.deferred (some []))).alloc (.loop (rec .ready none))=W1:=⟨_,rfl⟩
 have hL1:W1.heap[w.heap.size+1]? = some (Obj.loop (rec .ready none)):=by
  rw[←hW1];have:=World.alloc_heap_new (w.alloc (.deferred (some []))) (.loop (rec .ready none));rwa [World.size_alloc]at this
 have hK1:W1.heap[w.heap.size]? = some (Obj.deferred (some [])):=by
  rw[←hW1];exact (Below.heap_alloc _ _ _ (by simp)).trans (World.alloc_heap_new w _)
 have hb1:Below w.heap.size w W1:=by
  rw[←hW1];exact ((Below.refl _ w).alloc (Nat.le_refl _) _).alloc (by simp) _
 have hI1:I 0 W1:=hIb _ _ _ h0 hb1
 refine⟨w.heap.size+1,[{target:=.collected w.heap.size,args:=#[]}],W1,{target:=.fn (.func gf) lb,args:=#[.func (.yield (w.heap.size+1)) #[] #[]]},W1,gf,
  #[.func (.yield (w.heap.size+1)) #[] #[]]++lb,W1,?_,?_,?_,?_,fun _=>by omega,?_⟩
 ·rw[←hW1,hrec];exact run_enterLoop_outer _ _ _ _ _
 ·simp only[resolve,hg]
  simp[go_sem]
 ·intro f' hf';trivial
 ·simp[invoke,go_sem,eg]
 ·refine (
      hit (w.heap.size+1)
   (fun k W=>I k W∧W.heap[w.heap.size+1]? = some (Obj.loop (rec .ready none))∧W.heap[w.heap.size]? = some (Obj.deferred (some [])))
   (fun W=>∃ c,Ix c W∧W.heap[w.heap.size+1]? = some (Obj.loop (rec .done (some c)))∧W.heap[w.heap.size]? = some (Obj.deferred (some [])))
   W1 (hRd0 _ hb1)
   (fun k A B hs hb=>⟨hIb _ _ _ hs.1 hb,(hb.block _ (Array.getElem?_eq_some_iff.1 hs.2.1).1).trans hs.2.1,(hb.block _ (Array.getElem?_eq_some_iff.1 hs.2.2).1).trans hs.2.2⟩)
   (fun A B hs hb=>by
    obtain⟨c,hc,hl,hk⟩:=hs
    exact⟨c,hXb c _ _ hc hb,(hb.block _ (Array.getElem?_eq_some_iff.1 hl).1).trans hl,(hb.block _ (Array.getElem?_eq_some_iff.1 hk).1).trans hk⟩)
   (fun k A hs=>hRd k A hs.1) ?_ ⟨hI1,hL1,hK1⟩).mono ?_
  ·rintro k y W hy ⟨hi,hl,hk⟩
   have hlt:w.heap.size+1 < W.heap.size:=(Array.getElem?_eq_some_iff.1 hl).1
   have hys:=run_yield (P:=P) (args:=y.toArray) hl (by rw[hrec];simpa using hps y (List.mem_of_getElem? hy))
   rw[hrec]at hys
   refine⟨fn,_,assign,body,hys,roundIn_of_wpIn hfn (wpIn_mono (hround (w.heap.size+1) k y W hy hi (by omega) ⟨_,hl⟩) ?_)⟩
   rintro e a1 Wa hp
   cases e with
   | normal=>
    obtain⟨hkfa,hla,hbody⟩:=hp
    have hl1:=hla.trans hl
    have hk1:=hkfa _ _ (by omega) hk rfl
    have hlt1:w.heap.size+1 < Wa.heap.size:=(Array.getElem?_eq_some_iff.1 hl1).1
    refine⟨_,run_beginRound hl1 (by rw[hrec]),?_⟩
    have hl2:(Wa.putObj (w.heap.size+1) (.loop {rec .ready none with state:=.busy})).heap[w.heap.size+1]? = some (Obj.loop {rec .ready none with state:=.busy}):=World.putObj_heap_same hlt1
    have hk2:(Wa.putObj (w.heap.size+1) (.loop {rec .ready none with state:=.busy})).heap[w.heap.size]? = some (Obj.deferred (some [])):=(World.putObj_heap_other (by omega)).trans hk1
    refine wpIn_mono (hbody (.loop {rec .ready none with state:=.busy}) rfl) ?_
    have fin:∀ (jump:Option Code) (W3:World),W3.heap[w.heap.size+1]? = some (Obj.loop {rec .ready none with state:=.busy})→KA (w.heap.size+1) W W3→
      (Instr.endRound (w.heap.size+1) jump).run P W3 = .ok (.bool jump.isNone) (W3.putObj (w.heap.size+1) (.loop (rec (if jump.isNone then .ready else .done) jump)))∧
      (W3.putObj (w.heap.size+1) (.loop (rec (if jump.isNone then .ready else .done) jump))).heap[w.heap.size+1]? = some (Obj.loop (rec (if jump.isNone then .ready else .done) jump))∧
      (W3.putObj (w.heap.size+1) (.loop (rec (if jump.isNone then .ready else .done) jump))).heap[w.heap.size]? = some (Obj.deferred (some [])):=fun jump W3 hl3 hk3=>by
     have:=run_endRound (P:=P) jump hl3
     rw[hrec]at this ⊢
     exact⟨this,World.putObj_heap_same (Array.getElem?_eq_some_iff.1 hl3).1,(World.putObj_heap_other (by omega)).trans (hk3 _ _ (by omega) hk rfl)⟩
    have cellS:∀ (W3:World) (o':Obj),W3.heap[w.heap.size+1]? = some (Obj.loop {rec .ready none with state:=.busy})→o'.isCells=false→∀ b o,(W3.putObj (w.heap.size+1) o').cell? ⟨b,o,none⟩=W3.cell? ⟨b,o,none⟩:=fun W3 o' h1 h2 b o=>lS h1 rfl h2 b o
    rintro e a3 W3 ⟨hk3,hl3,hF3,hp⟩
    cases e with
    | normal=>
     obtain⟨hr,hl4,hk4⟩:=fin none W3 hl3 hk3
     exact⟨_,_,hr,fun b o hb=>(cellS W3 _ hl3 rfl b o).trans (hF3 b o hb),.inl ⟨rfl,hIp _ _ _ _ _ hp hl3 rfl rfl (by omega),hl4,hk4⟩⟩
    | ret=>
     obtain⟨hr,hl4,hk4⟩:=fin (some .ret) W3 hl3 hk3
     exact⟨_,_,hr,fun b o hb=>(cellS W3 _ hl3 rfl b o).trans (hF3 b o hb),.inr ⟨rfl,.ret,hXp _ _ _ _ _ hp hl3 rfl rfl (by omega),hl4,hk4⟩⟩
    | exit id=>
     obtain⟨hr,hl4,hk4⟩:=fin (some (.exit id)) W3 hl3 hk3
     exact⟨_,_,hr,fun b o hb=>(cellS W3 _ hl3 rfl b o).trans (hF3 b o hb),.inr ⟨rfl,.exit id,hXp _ _ _ _ _ hp hl3 rfl rfl (by omega),hl4,hk4⟩⟩
    | goto t=>exact hp.elim
    | panic ch=>exact hp.elim
    | outgrown=>exact hp.elim
   | _=>exact hp.elim
  ·rintro e W2 ⟨⟨v,rfl⟩,(⟨hi,hl,hk⟩|⟨c,hi,hl,hk⟩)⟩
   ·exact⟨none,_,by have:=run_endLoop (P:=P) hl (by rw[hrec];simp);rw[hrec]at this;exact this,hdone _ _ (Nat.le_refl _) (hIp _ _ _ _ _ hi hl rfl rfl (by omega)) ((World.putObj_heap_other (by omega)).trans hk)⟩
   ·exact⟨some c,_,by have:=run_endLoop (P:=P) hl (by rw[hrec];simp);rw[hrec]at this;exact this,hstop _ c _ (Nat.le_refl _) (hXp _ _ _ _ _ hi hl rfl rfl (by omega)) ((World.putObj_heap_other (by omega)).trans hk)⟩
theorem ef {w:World} {D:Nat} {o:Obj} {k:Nat} (hD:D < w.heap.size):(w.putObj D o).heap[k]? = if k=D then some o else w.heap[k]?:=by
 by_cases e:k=D
 ·subst e;rw[if_pos rfl];exact World.putObj_heap_same hD
 ·rw[if_neg e];exact World.putObj_heap_other e
theorem putObj_size (w:World) (D:Nat) (o:Obj):(w.putObj D o).heap.size=w.heap.size:=by simp[World.putObj]
theorem Af {w:World} {D:Nat} {o o':Obj} (h:w.heap[D]? = some o):(w.putObj D o').putObj D o=w:=by
 have hD:=(Array.getElem?_eq_some_iff.1 h).1
 have:(w.putObj D o').putObj D o={w with heap:=((w.putObj D o').putObj D o).heap}:=rfl
 rw[this]
 have:((w.putObj D o').putObj D o).heap=w.heap:=by
  apply Array.ext_getElem?
  intro k
  rw[ef (by rw[putObj_size];exact hD),ef hD]
  split
  ·rename_i e;subst e;exact h.symm
  ·rfl
 rw[this]
theorem bT.both {N:Nat} {W:World} {G0:Gh} {A:Nat→Prop} {G:Gh} {g:Nat→S} {h:Nat→Option aA} {a:Act} {w:World} (s:bT N W G0 A G g h a w) {l:Nat} {r:Loop} {o':Obj} (hl:w.heap[l]? = some (Obj.loop r)) (ho:o'.isCells=false) (hW:l < W.heap.size) :
  bT N (W.putObj l o') G0 A G g h a (w.putObj l o'):=by
 have sm:Same w (w.putObj l o'):=Same.putObj hl rfl ho
 have hlw:=(Array.getElem?_eq_some_iff.1 hl).1
 refine⟨s.size,?_,fun t=>ar.keep (sm.keep s.heap.fb) _ _ (by simp) (s.slots t),s.heap.same sm,⟨s.frm.os,s.frm.tape,s.frm.output,by rw[putObj_size,putObj_size];exact s.frm.size,?_,?_,s.frm.fin,?_,s.frm.same⟩⟩
 ·obtain⟨Ds,h1,h2,h3⟩:=s.defers
  refine⟨Ds,h1,h2,fun D hD=>?_⟩
  obtain⟨h4,h5⟩:=h3 D hD
  rw[putObj_size,ef hlw,if_neg (by rintro rfl;rw[hl]at h4;cases h4)]
  exact⟨h4,h5⟩
 ·intro b hb hA
  rw[putObj_size]at hb
  rw[ef hlw,ef hW,s.frm.block b hb hA]
 ·intro l' b k h1 h2;rw[putObj_size];exact s.frm.own l' b k h1 h2
 ·intro b hb;rw[putObj_size];exact s.frm.fout b hb
theorem bT.world {N:Nat} {W:World} {G0:Gh} {A:Nat→Prop} {G:Gh} {g:Nat→S} {h:Nat→Option aA} {a:Act} {w w':World} (s:bT N W G0 A G g h a w) (sm:jS W w w') (hd:kh W a.defers w'):bT N W G0 A G g h a w':=
 ⟨s.size,hd,fun t=>ar.keep (sm.toSame.keep s.heap.fb) _ _ (by simp) (s.slots t),s.heap.same sm.toSame,s.frm.same' sm⟩
def pN (P:Program) (l:Nat) (assign body:Code) (us:List Value) (w:World) (R:Ending→World→Prop):Prop:=
 ∀ r,w.heap[l]? = some (Obj.loop r)→assign.wpIn (Fence.wide.inRound l) 7 P (Exit.then (fun a1 w1=>KA l w w1∧w1.heap[l]? = w.heap[l]?∧∀ o':Obj,o'.isCells=false→body.wpIn (Fence.wide.inRound l) 7 P (fun e _ w'=>KA l w w'∧w'.heap[l]? = some o'∧match e with
   | .normal=>R (.returned (.bool true)) (w'.putObj l (.loop r))
   | _=>False) a1 (w1.putObj l o')) (fun _ _ _=>False)) {tmps:=us.toArray,defers:=[]} w
theorem pN.mono {P:Program} {l:Nat} {assign body:Code} (us:List Value) (w:World) (R R':Ending→World→Prop) (h:pN P l assign body us w R) (hR:∀ e w',R e w'→R' e w'):pN P l assign body us w R':=by
 intro r hr
 refine wpIn_mono (h r hr) ?_
 rintro e a1 w1 hp
 cases e with
 | normal=>
  refine⟨hp.1,hp.2.1,fun o' ho=>wpIn_mono (hp.2.2 o' ho) ?_⟩
  rintro e a2 w2 ⟨h1,h3,h2⟩
  refine⟨h1,h3,?_⟩
  cases e with
  | normal=>exact hR _ _ h2
  | _=>exact h2
 | _=>exact hp
def IU (post:List (Nat×aA)) (e:Exit) (τ:St):Prop:=match e with
 | .normal=>∃ ρ,eh ρ=true∧vR ρ (bc τ.h) post
 | _=>False
def Fv (N:Nat) (P:Program) (body:Code) (post:List (Nat×aA)) (e:Exit) (τ:St):Prop:=match e with
 | .normal=>nf N P [] body (IU post) τ
 | _=>False
theorem B9 (post:List (Nat×aA)) (τ:St):IU post .normal τ=∃ ρ,eh ρ=true∧vR ρ (bc τ.h) post:=rfl
theorem yx (N:Nat) (P:Program) (body:Code) (post:List (Nat×aA)) (τ:St):Fv N P body post .normal τ=nf N P [] body (IU post) τ:=rfl
theorem Qk {W w:World} {G0:Gh} {A:Nat→Prop} {G:Gh} {h:Nat→Option aA} (l:Nat) (f:lh W G0 A G w h) (hA:∀ b,A b→∃ cs e m,W.heap[b]? = some (Obj.cells cs e m)):KA l W w:=by
 intro k o _ ho hc
 rw[f.block k (Array.getElem?_eq_some_iff.1 ho).1,ho]
 intro hA'
 obtain⟨cs,e,m,h2⟩:=hA k hA'
 rw[ho]at h2;cases h2;cases hc
theorem JE {N:Nat} {P:Program} {l:Nat} {assign body:Code} {gg:List (Nat×S)} {pre post:List (Nat×aA)} (hm:P.follows .mixedOrders=true) (hok1:bE N assign=true) (hok2:bE N body=true) (hf1:fv assign=true) (hf2:fv body=true)
  (hkeys:gg.all (fun q=>Nat.blt q.1 N)=true) (h:nf N P [] assign (Fv N P body post) ⟨gg,pre⟩):N4 (pN P l assign body) ((List.range N).map (cQ gg)) pre (.t (.lit (.bool true))) post:=by
 intro G w us hh hr r hl
 have hlw:=(Array.getElem?_eq_some_iff.1 hl).1
 have hlen:=hr.length
 have hA:∀ b,l6 G pre b→∃ cs e m,w.heap[b]? = some (Obj.cells cs e m):=fun b ⟨l',x,h1,h2⟩=>hh.obj h1 h2
 have hs0:bT N w G (l6 G pre) G (cQ gg) (bc pre) {tmps:=us.toArray,defers:=[]} w:=by
  refine⟨by simpa using hlen,kh.nil _ _,fun t=>?_,hh,⟨rfl,rfl,rfl,Nat.le_refl _,fun _ _ _=>rfl,fun l b k h1 h2=> .inl ⟨l,b,h1,h2⟩,fun _ h=>h,fun _ h=> .inl h,fun _ _=>rfl⟩⟩
  by_cases ht:t < N
  ·obtain⟨u,h1,h2⟩:=aD.get (i:=t) (s:=cQ gg t) hr (by simp[ht])
   have:us.toArray.getD t undef=u:=by
    rw[Array.getD_eq_getD_getElem?];simp[h1]
   rw[this];exact h2
  ·have:cQ gg t = .dead:=by
    have key:∀ g:List (Nat×S),g.all (fun q=>Nat.blt q.1 N)=true→cQ g t = .dead:=by
     intro g
     induction g with
     | nil=>intro _;rfl
     | cons q r ih=>
      intro hq
      simp only[List.all_cons,Bool.and_eq_true]at hq
      obtain⟨k,s⟩:=q
      simp only[cQ]
      have hk:k < N:=by have:=hq.1;simp[Nat.blt]at this;omega
      rw[if_neg (by omega)]
      exact ih hq.2
    exact key gg hkeys
   rw[this];unfold ar;trivial
 refine wpIn_mono (iJ hm l 7 assign _ _ hok1 hf1 h w G (l6 G pre) _ w ⟨G,hs0⟩) ?_
 rintro e a1 w1 ⟨τ,hq,G1,hs1⟩
 cases e with
 | normal=>
  have hl1:w1.heap[l]? = some (Obj.loop r):=by
   rw[hs1.frm.block l hlw,hl]
   intro hA'
   obtain⟨cs,e,m,h2⟩:=hA l hA'
   rw[hl]at h2;cases h2
  refine⟨Qk l hs1.frm hA,by rw[hl1,hl],fun o' ho=>?_⟩
  have hl1w:=(Array.getElem?_eq_some_iff.1 hl1).1
  have hs2:=hs1.both hl1 ho hlw
  refine wpIn_mono (iJ hm l 7 body _ _ hok2 hf2 hq (w.putObj l o') G (l6 G pre) a1 (w1.putObj l o') ⟨G1,hs2⟩) ?_
  rintro e a2 w2 ⟨τ2,hq2,G2,hs3⟩
  have hA2:∀ b,l6 G pre b→∃ cs e m,(w.putObj l o').heap[b]? = some (Obj.cells cs e m):=by
   intro b hb
   obtain⟨cs,e,m,h2⟩:=hA b hb
   refine⟨cs,e,m,?_⟩
   rw[ef hlw,if_neg (by rintro rfl;rw[hl]at h2;cases h2)]
   exact h2
  have aW:∀ k,k < w.heap.size→¬ l6 G pre k→w2.heap[k]? = (w.putObj l o').heap[k]?:=fun k hk hk2=>hs3.frm.block k (by rw[putObj_size];exact hk) hk2
  have hno:∀ k,k < w.heap.size→∀ o,(w.putObj l o').heap[k]? = some o→o.isCells=false→¬ l6 G pre k:=by
   intro k hk o h1 h2 h3
   obtain⟨cs,e,m,h4⟩:=hA2 k h3
   rw[h1]at h4;cases h4;cases h2
  have hl2:w2.heap[l]? = some o':=by
   have e1:(w.putObj l o').heap[l]? = some o':=World.putObj_heap_same hlw
   rw[aW l hlw (hno l hlw o' e1 ho)];exact e1
  refine⟨?_,hl2,?_⟩
  ·intro k o hkl h1 h2
   have hk:=(Array.getElem?_eq_some_iff.1 h1).1
   have e1:(w.putObj l o').heap[k]? = some o:=by rw[ef hlw,if_neg hkl];exact h1
   rw[aW k hk (hno k hk o e1 h2)]
   exact e1
  ·cases e with
   | normal=>
    obtain⟨ρ,h1,h2⟩:=hq2
    have hs4:=hs3.frm
    have sm:Same w2 (w2.putObj l (.loop r)):=Same.putObj hl2 ho rfl
    have hf:lh w G (l6 G pre) G2 (w2.putObj l (.loop r)) (bc τ2.h):=by
     refine⟨hs4.os,hs4.tape,hs4.output,by rw[putObj_size];have:=hs4.size;rw[putObj_size]at this;exact this,?_,?_,hs4.fin,?_,hs4.same⟩
     ·intro b hb hAb
      rw[ef (Array.getElem?_eq_some_iff.1 hl2).1]
      split
      ·rename_i e;subst e;exact hl.symm
      ·rename_i hne
       rw[aW b hb hAb,ef hlw,if_neg hne]
     ·intro l' b k h3 h4;have:=hs4.own l' b k h3 h4;rw[putObj_size]at this;exact this
     ·intro b hb;have:=hs4.fout b hb;rw[putObj_size]at this;exact this
    exact⟨.bool true,eK ρ (bc τ2.h) G2,rfl,sr h1 h2 hf,pd h1 (hs3.heap.same sm) h2,by unfold ar aO;exact⟨rfl,rfl⟩⟩
   | _=>exact hq2.elim
 | _=>exact hq.elim
def OR (preI:List (Nat×aA)) (caps:List S) (lb:List Value) (F0:Nat→Prop) (W:World):Prop:=∃ G:Gh,G.F=F0∧bn G W (bc preI)∧aD G W caps lb
def D1 (P:Program) (gf:FuncId) (caps:List S) (preI:List (Nat×aA)) (ys:List (List Value)):Prop:=
 ∀ (lb:List Value) (F0:Nat→Prop),IW P gf lb.toArray ys F0 (OR preI caps lb F0) (fun W=>∃ F,OR preI caps lb F W)
def Cd (ps:List Tmp) (y:List Value):List (Nat×S):=(ps.zip y).map fun q=>(q.1,.t (.lit q.2))
def ku (gs:List (Nat×S)) (ρ:List (Nat×Nat)) (ps:List Tmp):List (Nat×S)→Prop
 | []=>True
 | (t,s) :: r=>ps.contains t=false∧cQ gs t=s.ren ρ∧ku gs ρ ps r
def Nv (ρ:List (Nat×Option Nat)) (h:List (Nat×aA)):Bool:=h.all fun q=>!mW q.1 ρ
theorem Cx {ρ:List (Nat×Option Nat)} {h:List (Nat×aA)} (hA:Nv ρ h=true) {l:Nat} {b:aA} (hl:bc h l=some b):mW l ρ=false:=by
 have:=List.all_eq_true.1 hA (l,b) (jl hl)
 simpa using this
theorem s8 {gs:List (Nat×S)} {ρ:List (Nat×Nat)} {ps:List Tmp} {t:Nat}:∀ {g1:List (Nat×S)},ku gs ρ ps g1→cQ g1 t = .dead∨cQ gs t=(cQ g1 t).ren ρ
 | [],_=> .inl rfl
 | (k,s) :: r,h=>by
  simp only[cQ]
  split
  ·rename_i e;subst e;exact .inr h.2.1
  ·exact s8 h.2.2
theorem EX {ps:List Tmp}:∀ {zs:List (Tmp×Value)} {arr:Array Value} {g1:List (Nat×S)} {t:Nat},(zs.map (·.1)).Nodup→(∀ q∈zs,q.1 < arr.size)→
  (t∉zs.map (·.1)→cQ (zs.map (fun q=>(q.1,S.t (.lit q.2)))++g1) t=cQ g1 t∧(zs.foldl (fun t (p,v)=>t.setIfInBounds p v) arr).getD t undef=arr.getD t undef)∧
  (∀ v,(t,v)∈zs→cQ (zs.map (fun q=>(q.1,S.t (.lit q.2)))++g1) t = .t (.lit v)∧(zs.foldl (fun t (p,v)=>t.setIfInBounds p v) arr).getD t undef=v)∧
  (zs.foldl (fun t (p,v)=>t.setIfInBounds p v) arr).size=arr.size
 | [],arr,g1,t,_,_=>⟨fun _=>⟨rfl,rfl⟩,fun v h=>(by cases h),rfl⟩
 | (k,u) :: zs,arr,g1,t,hn,hs=>by
  simp only[List.map_cons,List.nodup_cons]at hn
  have hk:k < arr.size:=hs (k,u) (by simp)
  obtain⟨h1,h2,h3⟩:=EX (ps:=ps) (zs:=zs) (arr:=arr.setIfInBounds k u) (g1:=g1) (t:=t) hn.2 (fun q hq=>by simpa using hs q (by simp[hq]))
  simp only[List.map_cons,List.cons_append,List.foldl_cons,cQ]
  refine⟨fun ht=>?_,fun v hv=>?_,by rw[h3];simp⟩
  ·simp only[List.mem_cons,not_or]at ht
   rw[if_neg ht.1]
   obtain⟨h4,h5⟩:=h1 ht.2
   refine⟨h4,?_⟩
   rw[h5,Array.getD_eq_getD_getElem?,Array.getD_eq_getD_getElem?,Array.getElem?_setIfInBounds_ne (fun e=>ht.1 e.symm)]
  ·rcases List.mem_cons.1 hv with hv|hv
   ·cases hv
    rw[if_pos rfl]
    refine⟨rfl,?_⟩
    rw[(h1 hn.1).2,Array.getD_eq_getD_getElem?]
    simp[hk]
   ·have hne:t≠k:=fun e=>hn.1 (by rw[←e];exact List.mem_map.2 ⟨(t,v),hv,rfl⟩)
    rw[if_neg hne]
    exact h2 v hv
theorem aD.ofFn {G:Gh} {w:World} {f:Nat→S}:∀ {n k:Nat} {us:List Value},us.length=n→(∀ i,i < n→ar G w (f (k+i)) (us.getD i undef))→aD G w ((List.range' k n).map f) us
 | 0,k,us,hl,_=>by
  have:=List.length_eq_zero_iff.1 hl
  subst this
  simp only[List.range'_zero,List.map_nil];unfold aD;rfl
 | n+1,k,us,hl,h=>by
  cases us with
  | nil=>simp at hl
  | cons u us=>
   simp only[List.range'_succ,List.map_cons]
   unfold aD
   refine⟨u,us,rfl,by simpa using h 0 (by omega),aD.ofFn (by simpa using hl) fun i hi=>?_⟩
   have:=h (i+1) (by omega)
   rw[show k+1+i=k+(i+1) by omega]
   simpa using this
theorem Jt (ρ:List (Nat×Nat)) (h:Nat→Option aA) (bor:List Nat) (s:S):im ρ h bor (s.ren ρ) s:=by
 cases s with
 | t x=>unfold S.ren im;exact bx x
 | _=>unfold S.ren im;simp[S.ren]
theorem xp (ρ:List (Nat×Nat)) (h:Nat→Option aA) (bor:List Nat) (f:Nat→S):∀ l:List Nat,fm ρ h bor (l.map fun t=>(f t).ren ρ) (l.map f)
 | []=>by simp only[List.map_nil];unfold fm;trivial
 | t :: r=>by
  simp only[List.map_cons]
  unfold fm
  exact⟨Jt ρ h bor (f t),xp ρ h bor f r⟩
theorem wM:∀ {a b:List Nat},a.map (fun D=>({target:=.collected D,args:=#[]}:Deferred))=b.map (fun D=>{target:=.collected D,args:=#[]})→a=b
 | [],[],_=>rfl
 | [],_ :: _,h=>by simp at h
 | _ :: _,[],h=>by simp at h
 | x :: a,y :: b,h=>by
  simp only[List.map_cons,List.cons.injEq,Deferred.mk.injEq,Target.collected.injEq]at h
  rw[h.1.1,wM h.2]
structure Round (N:Nat) (P:Program) (assign body:Code) (ps:List Tmp) (gs:List (Nat×S)) (h h':List (Nat×aA)) (y:List Value) (ρ:List (Nat×Nat)) (g1:List (Nat×S)) (pre post:List (Nat×aA)) (ρ2:List (Nat×Option Nat)):Prop where
 FZ:eD ρ [] pre post (.t (.lit (.bool true)))=true
 hpre:m0 ρ (bc h) pre
 slots:ku gs ρ ps g1
 keys:g1.all (fun q=>Nat.blt q.1 N)=true
 fresh:vP ⟨gs,h⟩ (eQ ρ [] [] pre post (.t (.lit (.bool true)))).nw=true
 run:nf N P [] assign (Fv N P body post) ⟨Cd ps y++g1,pre⟩
 wk:Wk ρ2 ⟨gs,mX (eQ ρ [] [] pre post (.t (.lit (.bool true)))).u h⟩ ⟨gs,h'⟩
theorem qM:∀ {l:List Tmp},di l=true→l.Nodup
 | [],_=>List.nodup_nil
 | t :: r,h=>by
  simp only[di,Bool.and_eq_true,Bool.not_eq_true',List.contains_eq_mem,decide_eq_false_iff_not]at h
  exact List.nodup_cons.2 ⟨h.1,qM h.2⟩
theorem CW.rangeF {N:Nat} {P:Program} {Q:Exit→St→Prop} {g:Operand} {ps:Array Tmp} {assign body:Code} {σ:St} (gs:List (Nat×S)) (hs:Nat→List (Nat×aA)) (ρ0:List (Nat×Option Nat)) {gf:FuncId} {caps:List S} (preI:List (Nat×aA)) (ys:List (List Value)) (ρI:List (Nat×Option Nat))
  (hstart:Wk ρ0 σ ⟨gs,hs 0⟩) (hg:lg (cQ gs) g = .fn gf caps) (he:aw P gf=true) (hok1:bE N assign=true) (hok2:bE N body=true) (hf1:fv assign=true) (hf2:fv body=true)
  (hpsN:di ps.toList=true) (hpsl:ps.toList.all (fun t=>Nat.blt t N)=true) (hps:∀ y∈ys,y.length=ps.size) (hone:∀ y∈ys,∀ v∈y,v.oneCell'=true)
  (hit:D1 P gf caps preI ys) (hrI:eh ρI=true) (hI:∀ k,k≤ys.length→vR ρI (bc (hs k)) preI∧ie ρI (bc (hs k)) caps caps∧Nv ρI (hs k)=true)
  (round:∀ k y,ys[k]? = some y→∃ ρ g1 pre post ρ2,Round N P assign body ps.toList gs (hs k) (hs (k+1)) y ρ g1 pre post ρ2)
  (done:Q .normal ⟨gs,hs ys.length⟩):CW N P (.rangeFunc g ps assign body) Q σ:=by
 intro hm _ W0 G0 A a w hsat
 obtain⟨G,hsat⟩:=hsat.weak hstart
 have hgv:=hsat.eval g
 rw[hg]at hgv
 unfold ar at hgv
 obtain⟨us,hgv,hcaps⟩:=hgv
 obtain⟨Ds,hD1,hD2,hD3⟩:=hsat.defers
 have hDlt:∀ D∈Ds,D < w.heap.size:=fun D hD=>(Array.getElem?_eq_some_iff.1 (hD3 D hD).1).1
 have defs:∀ {W:World} (hW:kh W0 a.defers W),∀ D∈Ds,W.heap[D]? = some (Obj.deferred (some [])):=by
  intro W hW D hD
  obtain⟨Ds',h1,_,h3⟩:=hW
  rw[hD1]at h1
  have:=wM h1
  subst this
  exact (h3 D hD).1
 have mk:∀ {W:World},(∀ D∈Ds,W.heap[D]? = some (Obj.deferred (some [])))→kh W0 a.defers W:=fun h=>⟨Ds,hD1,hD2,fun D hD=>⟨h D hD,(hD3 D hD).2⟩⟩
 have hW0:W0.heap.size≤w.heap.size:=hsat.frm.size
 let I:Nat→World→Prop:=fun k W=>k≤ys.length∧∃ G',bT N W0 G0 A G' (cQ gs) (bc (hs k)) a W∧∀ b,G.F b→G'.F b
 have cY:∀ k W D o o',I k W→W.heap[D]? = some o→o.isCells=false→o'.isCells=false→w.heap.size≤D→I k (W.putObj D o'):=by
  rintro k W D o o' ⟨hk,G',h1,h2⟩ hD ho ho' hDw
  refine⟨hk,G',h1.world (jS.putObj hD ho ho' (by omega)) (mk fun D' hD'=>?_),h2⟩
  have:=hDlt D' hD'
  rw[World.putObj_heap_other (by omega)]
  exact defs h1.defers D' hD'
 have rd:∀ k W G',k≤ys.length→bT N W0 G0 A G' (cQ gs) (bc (hs k)) a W→OR preI caps us G'.F W:=by
  intro k W G' hk h1
  obtain⟨i1,i2,i3⟩:=hI k hk
  have h3:=h1.eval g
  rw[hg]at h3
  unfold ar at h3
  obtain⟨us',h4,h5⟩:=h3
  rw[hgv]at h4
  have e:us'=us:=by simpa using h4.symm
  subst e
  refine⟨eK ρI (bc (hs k)) G',?_,pd hrI h1.heap i1,jU h1.heap _ _ _ i2 h5⟩
  funext b
  refine propext ⟨fun h=>?_,fun h=> .inl h⟩
  rcases h with h|⟨l,x,h6,h7,_⟩
  ·exact h
  ·rw[Cx i3 h6]at h7;cases h7
 refine wpIn_wide.1 (Eb hgv (fun args w=>ig he args w) (hit us G.F) hps I (fun _ _=>False) ?_ cY (fun _ _ _ h _=>h) (fun _ _ _ _ _ h _ _ _ _=>h) ?_ ?_ ⟨Nat.zero_le _,G,hsat,fun _ h=>h⟩ ?_ ?_ (fun _ _ _ _ h _=>h.elim))
 ·rintro k A' B ⟨hk,G',h1,h2⟩ hb
  refine⟨hk,G',h1.world (jS.below hb h1.frm.size) (mk fun D hD=>?_),h2⟩
  have h3:=defs h1.defers D hD
  rw[hb.block D (Array.getElem?_eq_some_iff.1 h3).1];exact h3
 ·rintro k A' ⟨hk,G',h1,h2⟩
  exact⟨_,rd k A' G' hk h1⟩
 ·intro B hb
  refine rd 0 B G (Nat.zero_le _) (hsat.world (jS.below hb hW0) (mk fun D hD=>?_))
  rw[hb.block D (hDlt D hD)];exact (hD3 D hD).1
 ·rintro l k y A' hy ⟨hk,G',h1,h2⟩ hwl ⟨r,hr⟩
  have hkl:k < ys.length:=(List.getElem?_eq_some_iff.1 hy).1
  have hym:=List.mem_of_getElem? hy
  obtain⟨ρ,g1,pre,post,ρ2,R⟩:=round k y hy
  have hlen:=hps y hym
  have hzn:((ps.toList.zip y).map (·.1)).Nodup:=by
   have e:(ps.toList.zip y).map (·.1)=ps.toList:=by
    rw[List.map_fst_zip];simp[hlen]
   rw[e];exact qM hpsN
  have hzs:∀ q∈ps.toList.zip y,q.1 < a.tmps.size:=by
   intro q hq
   have h3:=List.all_eq_true.1 hpsl q.1 (List.of_mem_zip hq).1
   rw[h1.size]
   exact (by simpa [Nat.blt] using h3:q.1+1≤N)
  have hfold:(ps.zip y.toArray).foldl (fun t (p,v)=>t.setIfInBounds p v) a.tmps=(ps.toList.zip y).foldl (fun t (p,v)=>t.setIfInBounds p v) a.tmps:=by
   rw[←Array.foldl_toList];simp
  have hkeys:(Cd ps.toList y++g1).all (fun q=>Nat.blt q.1 N)=true:=by
   rw[List.all_append,Bool.and_eq_true]
   refine⟨?_,R.keys⟩
   unfold Cd
   rw[List.all_eq_true]
   intro q hq
   obtain⟨z,hz,rfl⟩:=List.mem_map.1 hq
   exact List.all_eq_true.1 hpsl z.1 (List.of_mem_zip hz).1
  obtain⟨hcall,hnw⟩:=r8.fn (C:=pN P l assign body) pN.mono (JE (l:=l) hm hok1 hok2 hf1 hf2 hkeys R.run) ρ [] [] (h:=bc (hs k)) R.FZ (xp ρ (bc (hs k)) _ (cQ (Cd ps.toList y++g1)) (List.range N)) R.hpre trivial (.inl rfl)
  have hz:=fun t=>EX (ps:=ps.toList) (zs:=ps.toList.zip y) (arr:=a.tmps) (g1:=g1) (t:=t) hzn hzs
  have hrep:aD G' A' ((List.range N).map fun t=>(cQ (Cd ps.toList y++g1) t).ren ρ) ((ps.toList.zip y).foldl (fun t (p,v)=>t.setIfInBounds p v) a.tmps).toList:=by
   rw[List.range_eq_range']
   refine aD.ofFn (by rw[Array.length_toList,(hz 0).2.2,h1.size]) fun t ht=>?_
   rw[Nat.zero_add]
   have e:((ps.toList.zip y).foldl (fun t (p,v)=>t.setIfInBounds p v) a.tmps).toList.getD t undef=((ps.toList.zip y).foldl (fun t (p,v)=>t.setIfInBounds p v) a.tmps).getD t undef:=by
    rw[Array.getD_eq_getD_getElem?,List.getD_eq_getElem?_getD,Array.getElem?_toList]
   rw[e]
   by_cases htm:t∈(ps.toList.zip y).map (·.1)
   ·obtain⟨⟨t',v⟩,hv,rfl⟩:=List.mem_map.1 htm
    obtain⟨h4,h5⟩:=(hz t').2.1 v hv
    show ar G' A' ((cQ (Cd ps.toList y++g1) t').ren ρ) _
    rw[show cQ (Cd ps.toList y++g1) t' = .t (.lit v) from h4]
    rw[h5]
    unfold S.ren ar aO
    exact⟨rfl,hone y hym v (List.of_mem_zip hv).2⟩
   ·obtain⟨h4,h5⟩:=(hz t).1 htm
    show ar G' A' ((cQ (Cd ps.toList y++g1) t).ren ρ) _
    rw[show cQ (Cd ps.toList y++g1) t=cQ g1 t from h4,h5]
    rcases s8 (t:=t) R.slots with h6|h6
    ·rw[h6];unfold S.ren ar;trivial
    ·rw[←h6];exact h1.slots t
  have hfr:=kb R.fresh
  have hC:=hcall G' (bc (hs k)) A' _ h1.heap hrep (fun _ _=>rfl) (fun l hl=>⟨(hfr l hl).1,(hfr l hl).2.2⟩) r hr
  rw[hfold]
  rw[Array.toArray_toList]at hC
  refine wpIn_mono hC ?_
  rintro e a1 w1 hp
  cases e with
  | normal=>
   refine⟨hp.1,hp.2.1,fun o' ho=>wpIn_mono (hp.2.2 o' ho) ?_⟩
   rintro e a2 w2 ⟨k1,k2,hp2⟩
   cases e with
   | normal=>
    obtain⟨v,G1,_,hx,_⟩:=hp2
    have s1:bT N W0 G0 A G1 (cQ gs) (dK (eQ ρ [] [] pre post (.t (.lit (.bool true)))).u (bc (hs k))) a (w2.putObj l (.loop r)):=
     ⟨h1.size,hx.defs h1.heap h1.defers,fun t=>ar.keep hx.keep _ _ (fun l hl=>(hfr l hl).2.1 t) (h1.slots t),hx.heap,h1.frm.ext hx hnw⟩
    have s2:Sat N W0 G0 A ⟨gs,mX (eQ ρ [] [] pre post (.t (.lit (.bool true)))).u (hs k)⟩ a (w2.putObj l (.loop r)):=by
     refine⟨G1,?_⟩
     have e:bc (mX (eQ ρ [] [] pre post (.t (.lit (.bool true)))).u (hs k))=dK (eQ ρ [] [] pre post (.t (.lit (.bool true)))).u (bc (hs k)):=by funext j;rw[lN]
     show bT N W0 G0 A G1 (cQ gs) (bc (mX _ (hs k))) a _
     rw[e];exact s1
    have hw:=R.wk
    obtain⟨q1,q2,q3⟩:=hw
    have s3:bT N W0 G0 A (eK ρ2 (bc (mX (eQ ρ [] [] pre post (.t (.lit (.bool true)))).u (hs k))) G1) (cQ gs) (bc (hs (k+1))) a (w2.putObj l (.loop r)):=by
     have e:bc (mX (eQ ρ [] [] pre post (.t (.lit (.bool true)))).u (hs k))=dK (eQ ρ [] [] pre post (.t (.lit (.bool true)))).u (bc (hs k)):=by funext j;rw[lN]
     have s1':=s1
     rw[←e]at s1'
     exact⟨s1.size,s1.defers,fun t=>iQ s1'.heap _ _ _ (yp t q2) (s1.slots t),pd q1 s1'.heap q3,sr q1 q3 s1'.frm⟩
    have hl2:w2.heap[l]? = some o':=k2
    have hl2w:=(Array.getElem?_eq_some_iff.1 hl2).1
    have i1:I (k+1) (w2.putObj l (.loop r)):=⟨hkl,_,s3,fun b hb=> .inl (hx.keep.fsub b (h2 b hb))⟩
    have i2:=cY (k+1) _ l (.loop r) o' i1 (World.putObj_heap_same hl2w) rfl ho hwl
    rw[Af hl2]at i2
    refine⟨k1,k2,fun b o hb=>?_,i2⟩
    rw[←hx.keep.fcell b o (h2 b hb)]
    exact (lS hl2 ho rfl b o).symm
   | _=>exact hp2.elim
  | _=>exact hp.elim
 ·rintro D W hD ⟨hk,G',h1,h2⟩ hWD
  refine⟨_,done,G',⟨h1.size,?_,h1.slots,h1.heap,h1.frm⟩⟩
  refine⟨D :: Ds,by simp[hD1],List.nodup_cons.2 ⟨fun hm=>?_,hD2⟩,fun D' hD'=>?_⟩
  ·have:=hDlt D hm;omega
  ·rcases List.mem_cons.1 hD' with rfl|hD'
   ·exact⟨hWD,by omega⟩
   ·exact⟨defs h1.defers D' hD',(hD3 D' hD').2⟩
end Go.Proofs.YtocndodilpimnaaGreat.Sy
namespace Go.Proofs.YtocndodilpimnaaGreat
open Go.RowKit Sy
def vT (a b r:Int):Int:=if r < 0 then b else a
def vU (a b r:Int):Int:=if r < 0 then a else b
theorem L5 (nm v7:Value) (h1:nm.oneCell'=true) (h7:v7.oneCell'=true) (a b c d e r:Int):aj Tryz.prog 254 [.t (.agg [.lit nm,.int a,.int b,.int c,.int d,.int e,.lit v7]),.t (.int r)] [] (.tup [.t (.int (vT a b r)),.t (.int (vU a b r))]) []:=by
 refine nI Tryz.func254 rfl Tryz.ntmps254 ?_
 by_cases hr:r < 0
 ·have e1:vT a b r=b:=if_pos hr
  have e2:vU a b r=a:=if_pos hr
  refine ah ?_
  exact BJ e1 e2 []
 ·have e1:vT a b r=a:=if_neg hr
  have e2:vU a b r=b:=if_neg hr
  refine ah ?_
  exact BJ e1 e2 []
theorem IF {P:Program} {f:FuncId} {ss:List S} {r:S} {us:List Value} {w:World} (h:aj P f ss [] r []) (hr:aD (Er w) w ss us) :
  Calls P f us.toArray w fun e w'=>∃ v G',e = .returned v∧Below w.heap.size w w'∧ar G' w' r v:=by
 refine (h (Er w) w us ⟨fun l b h=>by simp[bc]at h,fun l b h=>by simp[bc]at h,fun l b k h=>by simp[bc]at h,fun l l' b b' k h=>by simp[bc]at h,fun b h=>h⟩ hr).mono ?_
 rintro e w' ⟨v,G',rfl,h1,_,h3⟩
 exact⟨v,G',rfl,⟨h1.os,h1.tape,h1.output,h1.size,fun k hk=>h1.block k hk (fun⟨l,x,h4,_⟩=>by simp[bc]at h4)⟩,h3⟩
theorem HT (nm v7:Value) (h1:nm.oneCell'=true) (h7:v7.oneCell'=true) (a b c d e r:Int) (w:World) :
  Calls Tryz.prog 254 #[.agg #[nm,.int .i64 a,.int .i64 b,.int .i64 c,.int .i64 d,.int .i64 e,v7],.int .i64 r] w fun e w'=>e = .returned (.tuple #[.int .i64 (vT a b r),.int .i64 (vU a b r)])∧Below w.heap.size w w':=by
 refine (IF (us:=[_,_]) (L5 nm v7 h1 h7 a b c d e r) ?_).mono ?_
 ·refine qz ?_ (qz (L4 rfl) A9)
  unfold ar aO
  refine⟨[nm,.int .i64 a,.int .i64 b,.int .i64 c,.int .i64 d,.int .i64 e,v7],rfl,?_⟩
  have one:∀ {F:Nat→Prop} {w:World} {v:Value} {xs:List T} {cs:List Value},v.oneCell'=true→ay F w xs cs→ay F w (.lit v :: xs) (v :: cs):=fun {F w v xs cs} hv hx=>by
   show ay _ _ (.lit v :: xs) _
   unfold ay aO
   exact⟨v,cs,by rw[dR hv];rfl,⟨rfl,hv⟩,hx⟩
  exact one h1 (one rfl (one rfl (one rfl (one rfl (one rfl (one h7 (by unfold ay;rfl)))))))
 ·rintro e' w' ⟨v,G',rfl,hb,hr⟩
  unfold ar at hr
  obtain⟨us,rfl,hr⟩:=hr
  unfold aD at hr
  obtain⟨v1,r1,rfl,k1,hr⟩:=hr
  unfold aD at hr
  obtain⟨v2,r2,rfl,k2,hr⟩:=hr
  unfold aD at hr
  subst hr
  unfold ar aO at k1 k2
  rw[k1.1,k2.1]
  exact⟨rfl,hb⟩
attribute [local go_sem] Oper.semAt_some
abbrev jz:=List Nat×Int×Int
def gn (r:Int):Int:=max r (-r)
def cd (node:Int) (inn:Bool):Nat→List jz→List Int→List (Nat×Int)
 | k,p :: ps,r :: rs=>if p.2.1=node∧r≠0∧decide (r > 0)=inn then (k,gn r) :: cd node inn (k+1) ps rs else cd node inn (k+1) ps rs
 | _,_,_=>[]
def dF (y:Nat×Int):List Value:=[.int .i64 y.1,.int .i64 y.2]
structure QG (b1 b2 b3:Nat) (node:Int) (inn:Bool) (rates:List Int) (A:World) (xb:Nat) (rb ro rc:Nat):Prop where
 c1:A.cell? ⟨b1,0,none⟩=some (.pointer (some ⟨xb,0,none⟩))
 c2:A.cell? ⟨b2,0,none⟩=some (.int .i64 node)
 c3:A.cell? ⟨b3,0,none⟩=some (.bool inn)
 c7:A.cell? ⟨xb,7,none⟩=some (.slice (some ⟨rb,ro,none⟩) rates.length rc)
 le:rates.length≤rc
 rs:∀ i r,rates[i]? = some r→A.cell? ⟨rb,ro+i,none⟩=some (.int .i64 r)
def oY (pb po:Nat) (ports:List jz) (A:World):Prop:=∀ i p,ports[i]? = some p→A.cell? ⟨pb,po+i * 3,none⟩=some (.string (str p.1))∧A.cell? ⟨pb,po+i * 3+1,none⟩=some (.int .i64 p.2.1)∧A.cell? ⟨pb,po+i * 3+2,none⟩=some (.int .i64 p.2.2)
theorem fH {A:World} (o2:Obj) {b o:Nat} {v:Value} (h:A.cell? ⟨b,o,none⟩=some v):(A.alloc o2).cell? ⟨b,o,none⟩=some v:=by
 rw[bj (Below.heap_alloc A _ b ?_)]
 ·exact h
 ·obtain⟨oo,h1,_⟩:=cells_of_cell h
  exact (Array.getElem?_eq_some_iff.1 h1).1
theorem oY.more {pb po:Nat} {ports:List jz} {A:World} (h:oY pb po ports A) (o2:Obj):oY pb po ports (A.alloc o2):=fun i p hp=>by
 obtain⟨h1,h2,h3⟩:=h i p hp
 exact⟨fH o2 h1,fH o2 h2,fH o2 h3⟩
theorem oY.keep {pb po:Nat} {ports:List jz} {A B:World} (h:oY pb po ports A) {F0:Nat→Prop} (hF:F0 pb) (hk:∀ b o,F0 b→B.cell? ⟨b,o,none⟩=A.cell? ⟨b,o,none⟩):oY pb po ports B:=fun i p hp=>by
 obtain⟨h1,h2,h3⟩:=h i p hp
 exact⟨(hk pb _ hF).trans h1,(hk pb _ hF).trans h2,(hk pb _ hF).trans h3⟩
theorem G3 (l:Nat) (b1 b2 b3:Nat) (node:Int) (inn:Bool) (ports:List jz) (rates:List Int) (hlen:rates.length=ports.length) (hl2:ports.length≤1000) (hrate:∀ r∈rates,-1000000000≤r∧r≤1000000000) (F0:Nat→Prop)
  (J:Nat→World→Prop) (Jx:World→Prop) (W:World) (hJ:∀ k A B,J k A→Below A.heap.size A B→J k B) (hJx:∀ A B,Jx A→Below A.heap.size A B→Jx B)
  (hRd:∀ k A,J k A→∃ xb rb ro rc,QG b1 b2 b3 node inn rates A xb rb ro rc)
  (hY:∀ k y A,(cd node inn 0 ports rates)[k]? = some y→J k A→YieldAt Fence.wide 7 Tryz.prog l (dF y).toArray A fun e B=>(∀ b o,F0 b→B.cell? ⟨b,o,none⟩=A.cell? ⟨b,o,none⟩)∧((e = .returned (.bool true)∧J (k+1) B)∨(e = .returned (.bool false)∧Jx B)))
  (h0:J 0 W) (xb pb po pc:Nat) (g1:W.cell? ⟨b1,0,none⟩=some (.pointer (some ⟨xb,0,none⟩))) (g2:W.cell? ⟨xb,2,none⟩=some (.slice (some ⟨pb,po,none⟩) ports.length pc)) (g3:ports.length≤pc) (g4:F0 pb)
  (g5:oY pb po ports W) :
  CallsIn Fence.wide 8 Tryz.prog 264 #[.func (.yield l) #[] #[],.pointer (some ⟨b1,0,none⟩),.pointer (some ⟨b2,0,none⟩),.pointer (some ⟨b3,0,none⟩)] W fun e B=>(∃ v,e = .returned v)∧(J (cd node inn 0 ports rates).length B∨Jx B):=by
 obtain⟨ys,hys⟩:∃ ys,cd node inn 0 ports rates=ys:=⟨_,rfl⟩
 rw[hys]at hY ⊢
 have hn:(8:Nat) - 1=7:=rfl
 refine callsIn_of_wp Tryz.func264 rfl trivial ?_ rfl
 simp only[Tryz.ntmps264,List.size_toArray,List.length_cons,List.length_nil,Nat.reduceAdd,Nat.reduceSub,Array.replicate_succ,Array.replicate_zero,List.push_toArray,List.append_toArray,List.nil_append,List.cons_append]
 gi_wp2
 gi_loopw [14] (fun i wr=>∃ (k kk:Nat),k≤ports.length∧i = .int .i64 k∧ys.drop kk=cd node inn k (ports.drop k) (rates.drop k)∧kk≤ys.length∧J kk wr∧oY pb po ports wr)
  (fun i _=>ports.length - (intOf i).toNat)
 case atStart=>exact⟨0,0,Nat.zero_le _,rfl,by simpa using hys.symm,Nat.zero_le _,h0,g5⟩
 case round=>
  obtain⟨k,kk,hk,rfl,hdr,hkk,hJk,hF⟩:=hrel
  obtain⟨xb',rb,ro,rc,R⟩:=hRd kk wr hJk
  have c1:=R.c1
  have c2:=R.c2
  have c3:=R.c3
  have c7:=R.c7
  have hle:=R.le
  by_cases hlt:k < ports.length
  ·obtain⟨⟨nm,nd,pr⟩,hp⟩:=aa hlt
   obtain⟨r,hr⟩:∃ r,rates[k]? = some r:=aa (by omega)
   have q1:=R.rs k r hr
   obtain⟨p1,p2,p3⟩:=hF k _ hp
   dsimp only at p1 p2 p3
   have hd1:ports.drop k=(nm,nd,pr) :: ports.drop (k+1):=eu hp
   have hd2:rates.drop k=r :: rates.drop (k+1):=eu hr
   rw[hd1,hd2]at hdr
   obtain⟨o2,ho2⟩:∃ o2:Obj,o2 = .cells #[.string (str nm),.int .i64 nd,.int .i64 pr] 101:=⟨_,rfl⟩
   have n1:(wr.alloc o2).cell? ⟨wr.heap.size,1,none⟩=some (.int .i64 nd):=by
    have:=World.alloc_heap_new wr o2
    rw[ho2]at this ⊢
    rw[cell_of_row _ _ 1 _ _ (0,0) this];rfl
   have a1:=fH o2 c1
   have a2:=fH o2 c2
   have a3:=fH o2 c3
   have a7:=fH o2 c7
   have aq:=fH o2 q1
   have hF2:=hF.more o2
   have hb2:Below wr.heap.size wr (wr.alloc o2):=(Below.refl _ wr).alloc (Nat.le_refl _) _
   have hJ2:=hJ kk _ _ hJk hb2
   rw[ho2]at a1 a2 a3 a7 aq n1 hF2 hJ2
   have hrb:=hrate r (List.mem_of_getElem? hr)
   have hng:IntKind.i64.wrap (0 - r)=- r:=by rw[IntKind.wrap_i64];omega
   have hng2:IntKind.i64.wrap (-r)=- r:=by rw[IntKind.wrap_i64];omega
   by_cases hnd:nd=node
   ·subst hnd
    by_cases hr0:r=0
    ·subst hr0
     gi_wp2
     go_roundw
     case rel=>exact⟨k+1,kk,by omega,by simp,by simpa [cd] using hdr,hkk,hJ2,hF2⟩
     case measure=>simp[intOf];omega
    ·by_cases hsg:0 < r
     ·have hx1:¬ r < -r:=by omega
      cases inn with
      | true=>
       have hab:gn r=r:=by unfold gn;omega
       have hdr2:ys.drop kk=(k,r) :: cd nd true (k+1) (ports.drop (k+1)) (rates.drop (k+1)):=by rw[hdr];simp only[cd];rw[if_pos (by simp[hr0,hsg]),hab]
       have hyk:ys[kk]? = some (k,r):=by
        have:=congrArg (fun l=>l[0]?) hdr2
        simpa using this
       have hkl:kk < ys.length:=(List.getElem?_eq_some_iff.1 hyk).1
       obtain⟨fn,tmps,assign,body,hy,hR⟩:=hY kk _ _ hyk hJ2
       unfold dF at hy
       dsimp only at hy
       gi_wp2
       refine hR.mono ?_
       rintro e W3 ⟨hk3,⟨rfl,hJ3⟩|⟨rfl,hJx3⟩⟩
       ·gi_wp2
        go_roundw
        case rel=>exact⟨k+1,kk+1,by omega,by simp,by rw[←List.drop_drop,hdr2];rfl,hkl,hJ3,hF2.keep g4 hk3⟩
        case measure=>simp[intOf];omega
       ·gi_wp2
        refine bodyPost_ret (results_none rfl _ _ _) rfl ?_
        exact⟨⟨_,rfl⟩,.inr hJx3⟩
      | false=>
       gi_wp2
       go_roundw
       case rel=>exact⟨k+1,kk,by omega,by simp,by rw[hdr];simp only[cd];rw[if_neg (by simp;try omega)],hkk,hJ2,hF2⟩
       case measure=>simp[intOf];omega
     ·have hx1:r < -r:=by omega
      cases inn with
      | true=>
       gi_wp2
       go_roundw
       case rel=>exact⟨k+1,kk,by omega,by simp,by rw[hdr];simp only[cd];rw[if_neg (by simp;try omega)],hkk,hJ2,hF2⟩
       case measure=>simp[intOf];omega
      | false=>
       have hab:gn r=(-r):=by unfold gn;omega
       have hdr2:ys.drop kk=(k,(-r)) :: cd nd false (k+1) (ports.drop (k+1)) (rates.drop (k+1)):=by rw[hdr];simp only[cd];rw[if_pos (by simp[hr0,hsg]),hab]
       have hyk:ys[kk]? = some (k,(-r)):=by
        have:=congrArg (fun l=>l[0]?) hdr2
        simpa using this
       have hkl:kk < ys.length:=(List.getElem?_eq_some_iff.1 hyk).1
       obtain⟨fn,tmps,assign,body,hy,hR⟩:=hY kk _ _ hyk hJ2
       unfold dF at hy
       dsimp only at hy
       gi_wp2
       refine hR.mono ?_
       rintro e W3 ⟨hk3,⟨rfl,hJ3⟩|⟨rfl,hJx3⟩⟩
       ·gi_wp2
        go_roundw
        case rel=>exact⟨k+1,kk+1,by omega,by simp,by rw[←List.drop_drop,hdr2];rfl,hkl,hJ3,hF2.keep g4 hk3⟩
        case measure=>simp[intOf];omega
       ·gi_wp2
        refine bodyPost_ret (results_none rfl _ _ _) rfl ?_
        exact⟨⟨_,rfl⟩,.inr hJx3⟩
   ·gi_wp2
    go_roundw
    case rel=>exact⟨k+1,kk,by omega,by simp,by simpa [cd,hnd] using hdr,hkk,hJ2,hF2⟩
    case measure=>simp[intOf];omega
  ·obtain rfl:k=ports.length:=by omega
   have hkl:kk=ys.length:=by
    rw[List.drop_length]at hdr
    have:=congrArg List.length hdr
    simp[cd]at this
    omega
   gi_wp2
   go_end0
   exact⟨⟨_,rfl⟩,.inl (by rw[←hkl];exact hJk)⟩
end Go.Proofs.YtocndodilpimnaaGreat
