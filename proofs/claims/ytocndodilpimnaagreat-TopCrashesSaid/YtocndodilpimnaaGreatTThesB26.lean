/- Several texts of this proof, one behind the other. No condition. -/
import Derived.Test.YtocndodilpimnaaGreatTThesB25
import Derived.Test.YtocndodilpimnaaGreatTThesB11
import Derived.MapKept
import Derived.WalkKit
import Derived.Test.YtocndodilpimnaaGreatTThesB18
import Derived.Test.YtocndodilpimnaaGreatTThesB23
import Derived.Test.YtocndodilpimnaaGreatTThesB19
import Derived.Test.YtocndodilpimnaaGreatTThesB17
import Derived.Test.YtocndodilpimnaaGreatTThesB21
import Derived.Test.YtocndodilpimnaaGreatTThesB24
set_option maxRecDepth 100000
set_option maxHeartbeats 16000000
set_option linter.unusedVariables false
set_option linter.unusedSimpArgs false
namespace Go.Proofs.YtocndodilpimnaaGreat
open Go.RowKit Go.MapKept Sy
open Go.IntWalk renaming iteOmega → iO, toNatUp → tN
@[go_sem] theorem run_makeMap_none (P:Program) (t:TypeId) (w:World):(Instr.makeMap t none).run P w=.ok (.map (some w.heap.size)) (w.alloc (.map #[] 0)):=by
 simp[Instr.makeMap]
theorem yf (w:World) (o o':Obj):{(w.alloc o) with heap:=(w.alloc o).heap.setIfInBounds w.heap.size o'}=w.alloc o':=by
 have h:(w.heap.push o).setIfInBounds w.heap.size o'=w.heap.push o':=by
  apply Array.toList_inj.1
  simp
 show {(w.alloc o) with heap:=(w.heap.push o).setIfInBounds w.heap.size o'}=w.alloc o'
 rw[h];rfl
theorem qf {P:Program} {t kt vt:TypeId} (ht:P.underlying t=some (.map kt vt)) (hk:P.underlying kt=some (.int .i64)) (w:World) (es:Array MapEntry) (clk:Nat) (s:Int) (v:Value) (hf:Instr.findNow (.int .i64) (.int .i64 s) es.toList 0=some none) :
  (Instr.mapUpdate t (.map (some w.heap.size)) (.int .i64 s) v).run P (w.alloc (.map es clk)) = .ok () (w.alloc (.map (es.push {key:=.int .i64 s,val:=v,born:=clk}) (clk+1))):=by
 have hb:=World.alloc_heap_new w (.map es clk)
 have h1:=run_checkKey (P:=P) (w:=w.alloc (.map es clk)) (k:=.int .i64 s) hk (by simp[IsKey]) false 9999
 have h2:=run_findKey (P:=P) (w:=w.alloc (.map es clk)) hk hf
 have h3:=run_setObj_map (P:=P) (.map (es.push {key:=.int .i64 s,val:=v,born:=clk}) (clk+1)) hb
 rw[yf]at h3
 simp[Instr.mapUpdate,run_underlying ht,Go.MapKept.run_getObj_map hb,h1,h2,h3]
theorem Il {P:Program} {t kt vt:TypeId} (ht:P.underlying t=some (.map kt vt)) (hk:P.underlying kt=some (.int .i64)) (w:World) (r:Nat) (es:Array MapEntry) (clk:Nat) (hb:w.heap[r]? = some (.map es clk)) (s:Int) (i:Nat) (v:Value)
  (hf:Instr.findNow (.int .i64) (.int .i64 s) es.toList 0=some (some (i,v))):(Instr.lookup t (.map (some r)) (.int .i64 s) true).run P w = .ok (.tuple #[v,.bool true]) w:=by
 have h1:=run_checkKey (P:=P) (w:=w) (k:=.int .i64 s) hk (by simp[IsKey]) es.isEmpty 9999
 have h2:=run_findKey (P:=P) (w:=w) hk hf
 simp[Instr.lookup,run_underlying ht,Go.MapKept.run_getObj_map hb,h1,h2]
theorem mE:Tryz.prog.underlying 177=some (.map 3 176):=by kernel_rfl
theorem gN:Tryz.prog.underlying 3=some (.int .i64):=by kernel_rfl
def Q3 (Q:Act→World→Prop) (e:Exit) (a:Act) (w:World):Prop:=match e with|.normal=>Q a w|_=>False
theorem CW.two {N:Nat} {P:Program} {x y c:Code} {Q:Exit→St→Prop} {σ:St} (new:List (Nat×S)) (p:St→Prop) (hp:p σ)
  (hx:∀ σ:St,p σ→∀ (W:World) (G0:Gh) (A:Nat→Prop) (a:Act) (w:World),Sat N W G0 A σ a w→∀ Q1:Act→World→Prop,(∀ a' w',Sat N W G0 A ⟨new++σ.g,σ.h⟩ a' w'→Q1 a' w')→x.wp P (Q3 fun a w=>y.wp P (Q3 Q1) a w) a w)
  (h:CW N P c Q ⟨new++σ.g,σ.h⟩):CW N P (.seq x (.seq y c)) Q σ:=by
 intro hm hc W G0 A a w hs
 simp only[bE,Bool.and_eq_true]at hc
 refine wp_seq (wp_mono (hx σ hp W G0 A a w hs (fun a w=>c.wp P (fun e a' w'=>∃ σ',Q e σ'∧Sat N W G0 A σ' a' w') a w) (fun a' w' hs'=>h hm hc.2.2 W G0 A a' w' hs')) ?_)
 intro e a w hq
 cases e with
 | normal=>
  refine wp_seq (wp_mono hq ?_)
  intro e a w hq
  cases e with
  | normal=>exact hq
  | _=>exact hq.elim
 | _=>exact hq.elim
def pK:Array MapEntry:=#[{key:=.int .i64 1,val:=.func (.func 87) #[] #[],born:=0},{key:=.int .i64 2,val:=.func (.func 88) #[] #[],born:=1},{key:=.int .i64 3,val:=.func (.func 89) #[] #[],born:=2}]
theorem tG (t:Nat) (r:S) (g:List (Nat×S)):cQ ((t,r) :: g)=jM (cQ g) (some t) r:=by
 funext k
 rfl
theorem m7 {N:Nat} {W:World} {G0:Gh} {A:Nat→Prop} {G:Gh} {g:Nat→S} {h:Nat→Option aA} {a:Act} {w:World} {t:Nat} {r:S} {v:Value} (s:bT N W G0 A G g h a w) (ht:t < N) (hr:ar G w r v):bT N W G0 A G (jM g (some t) r) h {a with tmps:=a.tmps.setIfInBounds t v} w:=
 s.step (d:=some t) (Ext.refl s.heap) (by simp) (by simp) hr (by rintro _ ⟨⟩;exact ht)
theorem vJ {N:Nat} {W:World} {G0:Gh} {A:Nat→Prop} {G:Gh} {g:Nat→S} {h:Nat→Option aA} {a:Act} {w:World} {t:Nat} {v:Value} (s:bT N W G0 A G g h a w) (ht:t < N):bT N W G0 A G (jM g (some t) .dead) h {a with tmps:=a.tmps.setIfInBounds t v} w:=
 m7 s ht (by unfold ar;trivial)
def ID (c k:Ce) (e:Int):Ce:=if e=0 then ⟨k.dk,k.ts,k.ac,c.n+1⟩ else c
theorem mz (d:aB) (c:Ce) (h:Lo c) (hn:¬ c.n=1000) (hn9:0≤c.n∧c.n≤1000) (r:Rc) (f:FuncId) (hkf:(r.kd=1∧f=87)∨(r.kd=2∧f=88)∨(r.kd=3∧f=89))
  (k:Ce) (hk:k.n=c.n) (e:Int) (cF:aj Tryz.prog f [.t (.agg d.l),.pt 0 [] 0,.t (dH r)] (JX c) (.t (.int e)) (AK k)):aj Tryz.prog 34 [.t (.agg d.l),.t (bw c),.t (dH r)] [] (.tup [.t (bw (ID c k e)),.t (.int e)]) []:=by
 have cC:=zM c h
 clear h
 obtain⟨⟨vs,rs,ps,pm⟩,ts,ac,cn⟩:=c
 obtain⟨kd,rv,⟨sk,si,sv,i,o,hs,pr⟩,sh,ek,ev⟩:=r
 obtain⟨⟨vs',rs',ps',pm'⟩,ts',ac',cn'⟩:=k
 dsimp only at hn hkf hk hn9
 subst hk
 refine nI Tryz.func34 rfl Tryz.ntmps34 ?_
 iterate 3 (refine af rfl ?_;simp[go_sem,↓iO,iO,tN,hn];(repeat (refine ba ?_));try (refine⟨aZ,?_⟩))
 refine et [] Code.skip _ _ ?_
 show CW _ _ _ _ _
 refine CW.two [(10,.t (.bool true)),(9,.fn f []),(26,.dead),(25,.dead),(20,.dead),(24,.dead),(23,.dead),(22,.dead),(21,.dead),(8,.dead),(19,.dead),(18,.dead)] (fun σ=>cQ σ.g 5 = .pt 105 [] 0∧∃ fs,bc σ.h 105=some (.box 63 (.t (.agg (.int kd :: fs))))) ⟨rfl,_,rfl⟩ ?_ ?_
 clear cF cC hn hn9 d e vs' rs' ps' pm' ts' ac' ts ac cn' vs rs ps pm rv sk si sv i o hs pr sh ek ev
 intro σ ⟨e5,fs,e105⟩ W G0 A a w hs Q hQ
 obtain⟨G,hs⟩:=hs
 have s5:=hs.slots 5
 rw[e5]at s5
 unfold ar at s5
 obtain⟨b5,hb5,h5⟩:=s5
 obtain⟨b',v,hβ,hrep,hvz,hone,hheap⟩:=hs.heap.rep 105 _ e105
 rw[hβ]at hb5
 simp[aW]at hb5
 subst hb5
 unfold ar aO at hrep
 obtain⟨cells,rfl,hcells⟩:=hrep
 unfold ay at hcells
 obtain⟨v0,cs',rfl,hv0,_⟩:=hcells
 unfold aO at hv0
 obtain⟨rfl,_⟩:=hv0
 have hcell:w.cell? ⟨b',0,none⟩=some (.int .i64 kd):=by
  simp[World.cell?,hheap,Value.cells]
 have hlt:b' < w.heap.size:=(Array.getElem?_eq_some_iff.1 hheap).1
 have hcell1:(w.alloc (.map pK 3)).cell? ⟨b',0,none⟩=some (.int .i64 kd):=(bj (Below.heap_alloc _ _ _ hlt)).trans hcell
 obtain⟨ki,hki⟩:∃ i,Instr.findNow (.int .i64) (.int .i64 kd) pK.toList 0=some (some (i,.func (.func f) #[] #[])):=by
  rcases hkf with ⟨h1,h2⟩|⟨h1,h2⟩|⟨h1,h2⟩<;>rw[h1,h2]
  ·exact⟨0,by kernel_rfl⟩
  ·exact⟨1,by kernel_rfl⟩
  ·exact⟨2,by kernel_rfl⟩
 have look:=Il mE gN (w.alloc (.map pK 3)) w.heap.size _ 3 (World.alloc_heap_new w _) kd ki _ hki
 unfold pK at hcell1 look
 have hs2:bT 47 W G0 A G _ _ a (w.alloc (.map pK 3)):=hs.world (jS.below (Below.alloc (Below.refl _ w) (Nat.le_refl _) _) hs.frm.size) (hs.defers.keep fun D hD=>Below.heap_alloc _ _ _ (Array.getElem?_eq_some_iff.1 hD).1)
 unfold pK at hs2
 obtain⟨at',ad⟩:=a
 have hsz:=hs.size
 dsimp only at h5 hsz
 have g5:at'[5]'(by omega) = .pointer (some ⟨b',0,none⟩):=by
  rw[Array.getD_eq_getD_getElem?,Array.getElem?_eq_getElem (by omega)]at h5;exact h5
 refine wp_region_list ?_
 go_wp2
 rw[qf mE gN _ _ _ 1 _ (by kernel_rfl)]
 simp only[Result.andThen,Oper.upon_skip]
 go_wp2
 rw[qf mE gN _ _ _ 2 _ (by kernel_rfl)]
 simp only[Result.andThen,Oper.upon_skip]
 go_wp2
 rw[qf mE gN _ _ _ 3 _ (by kernel_rfl)]
 simp only[Result.andThen,Oper.upon_skip]
 go_wp2
 simp only[Q3]
 refine wp_region_list ?_
 go_wp2
 refine hQ _ _ ⟨G,?_⟩
 simp only[List.cons_append,List.nil_append,tG]
 replace hs2:=vJ (t:=18) (v:=.map (some w.heap.size)) hs2 (by decide)
 replace hs2:=vJ (t:=19) (v:=.map (some w.heap.size)) hs2 (by decide)
 replace hs2:=vJ (t:=8) (v:=.map (some w.heap.size)) hs2 (by decide)
 replace hs2:=vJ (t:=21) (v:=.map (some w.heap.size)) hs2 (by decide)
 replace hs2:=vJ (t:=22) (v:=.pointer (some ⟨b',0,none⟩)) hs2 (by decide)
 replace hs2:=vJ (t:=23) (v:=.int .i64 kd) hs2 (by decide)
 replace hs2:=vJ (t:=24) (v:=.tuple #[.func (.func f) #[] #[],.bool true]) hs2 (by decide)
 replace hs2:=vJ (t:=20) (v:=.tuple #[.func (.func f) #[] #[],.bool true]) hs2 (by decide)
 replace hs2:=vJ (t:=25) (v:=.func (.func f) #[] #[]) hs2 (by decide)
 replace hs2:=vJ (t:=26) (v:=.bool true) hs2 (by decide)
 replace hs2:=m7 (t:=9) (r:=.fn f []) (v:=.func (.func f) #[] #[]) hs2 (by decide) (by unfold ar;exact⟨[],rfl,by unfold aD;rfl⟩)
 replace hs2:=m7 (t:=10) (r:=.t (.bool true)) (v:=.bool true) hs2 (by decide) (by unfold ar aO;exact⟨rfl,rfl⟩)
 dsimp only at hs2
 exact hs2
 rcases hkf with ⟨_,rfl⟩|⟨_,rfl⟩|⟨_,rfl⟩
 all_goals
  refine ah ?_
  refine ax cC [(1000,150)] ?_
  refine ah ?_
  refine ax cF [(0,111),(1,150)] ?_
  by_cases e0:e=0
  ·subst e0
   refine ah ?_
   first|rw[av]|rw[ae]
   refine⟨[],?_⟩
   simp[go_sem,↓iO,iO,tN,bZ,ID]
  ·refine aJ e0 ?_
   refine ax cC [(1000,151)] ?_
   refine ah ?_
   first|rw[av]|rw[ae]
   refine⟨[],?_⟩
   simp[go_sem,↓iO,iO,tN,bZ,ID,e0]
theorem xK (d:aB) (hd:bq d) (c:Ce) (h:nS d c) (hn:c.n≤9) (r:Rc) (c':Ce) (hr:AR d c r c'):aj Tryz.prog 34 [.t (.agg d.l),.t (bw c),.t (dH r)] [] (.tup [.t (bw c'),.t (.int 0)]) []:=by
 have h0:=h.n
 have hz:=h.sz hd
 cases hr with
 | tele t l ht hv hl=>exact mz d c hz (by omega) (by omega) _ _ (.inl ⟨rfl,rfl⟩) ⟨c.dk,l,c.ac,c.n⟩ rfl 0 (GJ d c hz t ht hv l hl)
 | step s k hs=>exact mz d c hz (by omega) (by omega) _ _ (.inr (.inl ⟨rfl,rfl⟩)) ⟨k,c.ts,c.ac,c.n⟩ rfl 0 (Ec d hd c h s k hs)
 | entry e l he hl=>exact mz d c hz (by omega) (by omega) _ _ (.inr (.inr ⟨rfl,rfl⟩)) ⟨c.dk,c.ts,l,c.n⟩ rfl 0 (LO d c h hn e he l hl)
theorem IP {ks:List Int} (h:m5 ks) {t:Int} {i:Nat} (hi:ks[i]? = some t):kY ks t i:=by
 obtain⟨g1,e1⟩:=List.getElem?_eq_some_iff.1 hi
 refine⟨by omega,fun j x hj hx=>?_,fun j x hj hx=>?_⟩
 ·obtain⟨g2,e2⟩:=List.getElem?_eq_some_iff.1 hx
  have:=List.pairwise_iff_getElem.1 h j i g2 g1 hj
  omega
 ·obtain⟨g2,e2⟩:=List.getElem?_eq_some_iff.1 hx
  rcases Nat.eq_or_lt_of_le hj with rfl|hj
  ·omega
  ·have:=List.pairwise_iff_getElem.1 h i j g1 g2 hj
   omega
theorem ND.has {ts l:List Tg} {t:Tg} (h:ND ts t l):∃ i:Nat,l[i]? = some t:=by
 cases h with
 | set c x hp hx he hb=>exact⟨c,List.getElem?_set_self (List.getElem?_eq_some_iff.1 hx).1⟩
 | ins c hp hx=>
  have hi:c≤ts.length:=by simpa [eV] using hp.le
  refine⟨c,?_⟩
  rw[List.getElem?_append_right (by rw[List.length_take];omega),List.length_take,Nat.min_eq_left hi,Nat.sub_self]
  rfl
theorem Dh (d:aB) (c:Ce) (h:Lo c) (t:Tg) (ht:gy t) (hv:t.vs.length≤3) (i:Nat) (hp:kY (eV c.ts) t.st i) (hx:c.ts[i]? = some t):aj Tryz.prog 87 [.t (.agg d.l),.pt 0 [] 0,.t (dH ⟨1,jK t,gX,oG⟩)] (JX c) (.t (.int 6)) (AK c):=by
 have cN:=nT
 have cL:=DI t.vs (by omega)
 have cV:=tE t (by omega) true (decide_eq_true ht)
 have hts:=h.t
 obtain⟨dk,ts,ac,n⟩:=c
 dsimp only at hx hp hts ⊢
 have cF:=uo ts hts t.st i hp true ⟨fun _=>rfl,fun _=>⟨t,hx,rfl⟩⟩
 have cB:=xc t t false (by unfold yQ;exact decide_eq_false (by omega))
 have hil:=(List.getElem?_eq_some_iff.1 hx).1
 obtain⟨t1,t2,t3,t4,t5,t6⟩:=t
 dsimp only at cL cF hv
 have q1:¬ ((t6.length:Int)+1+1+1+1+1 < 5):=by omega
 have htk:List.take t6.length (t6.map aC)=t6.map aC:=List.take_of_length_le (by simp)
 refine nI Tryz.func87 rfl Tryz.ntmps87 ?_
 repeat (first|(refine af rfl ?_;simp[go_sem,↓iO,iO,tN,jK,q1,htk])|refine ba ?_|refine⟨aZ,?_⟩|refine iP ?_|refine iN ?_)
 refine ax cN [] ?_
 repeat (first|(refine af rfl ?_;simp[go_sem,↓iO,iO,tN,jK,q1,htk])|refine ba ?_|refine⟨aZ,?_⟩|refine iP ?_|refine iN ?_)
 refine dr htk cL [] ?_
 refine aJ htk ?_
 refine dr htk cV [] ?_
 refine aJ htk ?_
 refine gj cF [] [1] [] ?_
 refine aJ hx ?_
 refine dr hx cB [] ?_
 refine aJ hx ?_
 first|rw[av]|rw[ae]
 refine⟨[(0,some 0)],?_⟩
 simp[go_sem,↓iO,iO,tN,bZ]
theorem C6 (d:aB) (c:Ce) (h:Lo c) (hn:0≤c.n∧c.n≤10) (t:Tg) (ht:gy t) (hv:t.vs.length≤3) (hg:m5 (eV c.ts)) (hx:∃ i:Nat,c.ts[i]? = some t):aj Tryz.prog 34 [.t (.agg d.l),.t (bw c),.t (dH ⟨1,jK t,gX,oG⟩)] [] (.tup [.t (bw c),.t (.int 6)]) []:=by
 obtain⟨i,hi⟩:=hx
 have hp:kY (eV c.ts) t.st i:=IP hg (by unfold eV;rw[List.getElem?_map,hi];rfl)
 exact mz d c h (by omega) (by omega) _ _ (.inl ⟨rfl,rfl⟩) c rfl 6 (Dh d c h t ht hv i hp hi)
structure Bv (d:aB):Prop where
 net:eE d
 s1:1≤d.segs.length
 p1:1≤d.ports.length
 num:d.ports.length+d.segs.length≤64
theorem sx {S:List eH} {i:Nat} {s:eH} (h:S[i]? = some s):gC S i=s.1.fr∧gE S i=s.1.to∧LM S i=s.1.cp:=by simp[gC,gE,LM,h]
theorem mv {l:List Int} {x:Int} (h:x∈l):∃ i,i < l.length∧l.getD i 0=x:=by
 obtain⟨i,hi,e⟩:=List.getElem_of_mem h
 exact⟨i,hi,by rw[List.getD_eq_getElem?_getD,List.getElem?_eq_getElem hi,e];rfl⟩
theorem Bv.nodes {d:aB} (h:Bv d) {i:Nat} (hi:i < d.segs.length):(0≤gC d.segs i∧gC d.segs i < d.nn.length)∧(0≤gE d.segs i∧gE d.segs i < d.nn.length)∧0≤LM d.segs i:=by
 obtain⟨s,hs⟩:∃ s,d.segs[i]? = some s:=aa hi
 obtain⟨e1,e2,e3⟩:=sx hs
 have h1:=h.net.knS s (List.mem_of_getElem? hs)
 have h2:=(h.net.pipe s (List.mem_of_getElem? hs)).cap
 rw[e1,e2,e3]
 omega
theorem Cw (n:Nat) (ρ:Nat→Nat) (A:Nat→Prop) (h:∃ k,k < n∧A k):∃ k,k < n∧A k∧∀ j,j < n→A j→ρ k≤ρ j:=by
 classical
 induction n with
 | zero=>obtain⟨k,hk,_⟩:=h;omega
 | succ n ih=>
  by_cases h2:∃ k,k < n∧A k
  ·obtain⟨k,h3,h4,h5⟩:=ih h2
   by_cases hn:A n∧ρ n < ρ k
   ·refine⟨n,by omega,hn.1,fun j hj ha=>?_⟩
    by_cases e:j=n
    ·subst e;exact Nat.le_refl _
    ·have:=h5 j (by omega) ha;omega
   ·refine⟨k,by omega,h4,fun j hj ha=>?_⟩
    by_cases e:j=n
    ·subst e
     by_cases h6:ρ j < ρ k
     ·exact absurd ⟨ha,h6⟩ hn
     ·omega
    ·exact h5 j (by omega) ha
  ·obtain⟨k,hk,ha⟩:=h
   have e:k=n:=by
    by_cases e:k=n
    ·exact e
    ·exact absurd ⟨k,by omega,ha⟩ h2
   subst e
   refine⟨k,hk,ha,fun j hj hb=>?_⟩
   by_cases e:j=k
   ·subst e;exact Nat.le_refl _
   ·exact absurd ⟨j,by omega,hb⟩ h2
structure Qo (F:fR) (n:Nat) (out:List Nat):Prop where
 nd:out.Nodup
 lt:∀ k∈out,k < n
 top:∀ (i:Nat) k,out[i]? = some k→lD F (out.take i) k=true
theorem KR {F:fR} {n:Nat} {out:List Nat} (h:Qo F n out) {k:Nat} (hk:k < n) (hn:k∉out) (hr:lD F out k=true):Qo F n (out++[k]):=by
 refine⟨List.nodup_append.2 ⟨h.nd,by simp,fun a ha b hb e=>by simp at hb;subst hb;subst e;exact hn ha⟩,fun j hj=>?_,fun i j hi=>?_⟩
 ·rcases List.mem_append.1 hj with hj|hj
  ·exact h.lt j hj
  ·simp at hj;subst hj;exact hk
 ·rcases ux hi with ⟨hl,hi⟩|⟨rfl,rfl⟩
  ·rw[List.take_append_of_le_length (by omega)]
   exact h.top i j hi
  ·rw[List.take_left];exact hr
theorem Nm {n:Nat} {out:List Nat} (hn:out.Nodup) (hl:out.length < n):∃ k,k < n∧k∉out:=by
 by_cases h:∃ k,k < n∧k∉out
 ·exact h
 ·exfalso
  have hsub:∀ k∈List.range n,k∈out:=fun k hk=>by
   by_cases hm:k∈out
   ·exact hm
   ·exact absurd ⟨k,List.mem_range.1 hk,hm⟩ h
  have:=List.Nodup.length_le_of_subset (List.nodup_range (n:=n)) hsub
  simp at this;omega
theorem Qt {F:fR} {n:Nat} {ρ:Nat→Nat} (hF:∀ x∈F,x.2.2≠0→(0≤mU x.1 x.2.1 x.2.2∧mU x.1 x.2.1 x.2.2 < n)∧ρ (mU x.1 x.2.1 x.2.2).toNat < ρ (rE x.1 x.2.1 x.2.2).toNat):∀ (f:Nat) (out:List Nat),Qo F n out→out.length+f=n→Qo F n (kf F n f out)∧(kf F n f out).length=n
 | 0,out,h,hl=>⟨h,by simpa [kf] using hl⟩
 | f+1,out,h,hl=>by
  obtain⟨k,hk,hka,hkm⟩:=Cw n ρ (fun k=>k∉out) (Nm h.nd (by omega))
  have hr:lD F out k=true:=by
   unfold lD
   rw[List.all_eq_true]
   intro x hx
   simp only[lU]
   by_cases hz:x.2.2=0
   ·simp[hz]
   ·by_cases ht:rE x.1 x.2.1 x.2.2=(k:Int)
    ·obtain⟨h1,h2⟩:=hF x hx hz
     have hin:(mU x.1 x.2.1 x.2.2).toNat∈out:=by
      by_cases hm:(mU x.1 x.2.1 x.2.2).toNat∈out
      ·exact hm
      ·have:=hkm (mU x.1 x.2.1 x.2.2).toNat (by omega) hm
       rw[ht]at h2
       simp only[Int.toNat_natCast]at h2
       omega
     simp[List.contains_eq_mem,hin]
    ·simp[ht]
  simp only[kf]
  cases hq:nv F n out with
  | none=>
   exfalso
   unfold nv at hq
   have:=List.find?_eq_none.1 hq k (List.mem_range.2 hk)
   apply this
   simp[List.contains_eq_mem,hka,hr]
  | some j=>
   unfold nv at hq
   have h1:=List.find?_some hq
   have h2:=List.mem_range.1 (List.mem_of_find?_eq_some hq)
   simp only[Bool.and_eq_true,Bool.not_eq_true',List.contains_eq_mem,decide_eq_false_iff_not]at h1
   exact Qt hF f (out++[j]) (KR h h2 h1.1 h1.2) (by simp;omega)
theorem IT {S:List eH} {rs:List Int} {x:Int×Int×Int} (hl:rs.length=S.length) (h:x∈cg S rs):∃ i,i < S.length∧x=(gC S i,gE S i,rs.getD i 0):=by
 obtain⟨⟨s,r⟩,hz,rfl⟩:=List.mem_map.1 h
 obtain⟨i,hi,e⟩:=List.getElem_of_mem hz
 rw[List.getElem_zip]at e
 simp only[Prod.mk.injEq]at e
 rw[List.length_zip]at hi
 have h1:S[i]? = some s:=by rw[←e.1];exact List.getElem?_eq_getElem (by omega)
 have h2:rs[i]? = some r:=by rw[←e.2];exact List.getElem?_eq_getElem (by omega)
 obtain⟨q1,q2,_⟩:=sx h1
 refine⟨i,by omega,?_⟩
 rw[q1,q2,List.getD_eq_getElem?_getD,h2];rfl
theorem PD {d:aB} (h:Bv d) {ρ:Nat→Nat} {rs pr:List Int} (hp:N8 d.segs d.ports ρ rs pr):Qo (cg d.segs rs) d.nn.length (kf (cg d.segs rs) d.nn.length d.nn.length [])∧(kf (cg d.segs rs) d.nn.length d.nn.length []).length=d.nn.length:=by
 refine Qt (ρ:=ρ) (fun x hx hz=>?_) _ [] ⟨List.nodup_nil,by simp,fun i k hi=>by simp at hi⟩ (by simp)
 obtain⟨i,hi,rfl⟩:=IT hp.lr hx
 have hn:=h.nodes hi
 refine⟨?_,hp.dir i hi hz⟩
 dsimp only
 unfold mU
 split<;>omega
theorem FR {d:aB} (h:Bv d) {ρ:Nat→Nat} {rs pr:List Int} (pumps:List T) (hl:pumps.length=d.stns.length) (hp:N8 d.segs d.ports ρ rs pr):Dp d rs pr pumps:=by
 refine⟨⟨hp.lr,hp.lp,fun r hr=>?_,fun r hr=>?_⟩,fun k s r hs hr=>?_,hl,hp.flow h.net,(PD h hp).2⟩
 ·obtain⟨i,hi,rfl⟩:=mv hr
  have:=hp.bR i (by rw[←hp.lr];exact hi)
  omega
 ·obtain⟨i,hi,rfl⟩:=mv hr
  exact hp.bP i (by rw[←hp.lp];exact hi)
 ·have hk:=(List.getElem?_eq_some_iff.1 hs).1
  have:=hp.bR k hk
  rw[(sx hs).2.2,List.getD_eq_getElem?_getD,hr]at this
  simp only[Option.getD_some]at this
  omega
theorem Mm (d:aB) (hd:bq d) (h1:1≤d.segs.length):gT d (qs d):=by
 have hg:Bv d:=⟨hd.ok,h1,hd.p1,by have:=hd.s;have:=hd.p;omega⟩
 have z:∀ n i:Nat,(List.replicate n (0:Int)).getD i 0=0:=fY
 have hz:∀ (n:Nat) (f:Nat→Int),(∀ i,f i=0)→dt n f=0:=fun n f hf=>by
  induction n with
  | zero=>rfl
  | succ n ih=>simp only[dt,ih,hf];rfl
 have hp:N8 d.segs d.ports (fun k=>k) (uv d).rs (uv d).ps:=by
  refine⟨by simp,by simp,fun i hi=>?_,fun i hi=>?_,fun i hi hr=>absurd (z _ _) hr,fun v=>?_⟩
  ·have:=(hg.nodes hi).2.2
   rw[z];omega
  ·rw[z];omega
  ·rw[hz,hz]
   ·rfl
   ·intro i;rw[z];simp
   ·intro i;rw[z];simp
 have hf:jE d (uv d):=FR hg _ (by simp) hp
 refine⟨by simp,fun v hv=>?_,hf,fun i v hv hn=>?_,fun i s hs hm=>?_⟩
 ·obtain⟨_,rfl⟩:=List.mem_replicate.1 hv
  exact⟨by decide,by decide,by decide,by decide⟩
 ·have hx:=au hn
  simp only[jo,mZ,List.mem_append,List.mem_map]at hx
  rcases hx with ⟨y,hy,e⟩|⟨y,hy,e⟩<;>(obtain⟨_,rfl⟩:=List.mem_replicate.1 hy;simp at e)
 ·have:=au hm
  obtain⟨_,e⟩:=List.mem_replicate.1 this
  cases e
abbrev Rr (t:Tg) (l:Nat):S:=.ag [.t (.int t.st),.t (.int t.ep),.t (.int t.sq),.t (.int t.tm),.t (.int t.kd),.own l]
def iter {α:Type} (f:α→α):Nat→α→α
 | 0,s=>s
 | j+1,s=>f (iter f j s)
theorem AL {α:Type} {f:α→α} {s:α} {C:Nat→α→Prop} (h0:C 0 s) (hs:∀ j t,C j t→C (j+1) (f t)):∀ j,C j (iter f j s)
 | 0=>h0
 | j+1=>hs j _ (AL h0 hs j)
theorem Ld {l:List Int} {k:Nat} (h:aV l k) (xs:List Int) (h1:1≤xs.length) (h2:xs.length≤1000000) :
  ∃ (K:Nat→Nat) (V:Nat→List Int) (x:Nat→Int),K 0=k∧V 0=[]∧∀ j,K (j+1)=ai l (K j)∧V (j+1)=V j++[x j]∧aV l (K j)∧(V j).length=j∧(∀ v∈V j,v∈xs)∧
   aj Tryz.prog 26 [.pt 0 [] 0,.t (bB xs)] [(0,bu l (K j))] (.t (.int (x j))) [(0,bu l (K (j+1)))]:=by
 have hs:∀ j,aV l (iter (ai l) j k):=AL (C:=fun _ k=>aV l k) h fun j t ht=>ht.next
 refine⟨fun j=>iter (ai l) j k,fun j=>(List.range j).map fun i=>cU l (iter (ai l) i k) xs,fun j=>cU l (iter (ai l) j k) xs,rfl,rfl,?_⟩
 intro j
 refine⟨rfl,by dsimp only;rw[List.range_succ,List.map_append];rfl,hs j,by simp,?_,dC (hs j) xs h1 h2⟩
 intro v hv
 obtain⟨i,_,rfl⟩:=List.mem_map.1 hv
 exact dV h1
theorem Bh {l:List Int} {k:Nat} (h:aV l k) (st:Int) (hst:0≤st∧st≤255) :
  ∃ k' t,aV l k'∧gy t∧t.st=st∧t.vs.length≤3∧aj Tryz.prog 78 [.pt 0 [] 0,.t (.int st)] [(0,bu l k)] (Rr t 1000) [(0,bu l k'),(1000,gm t.vs)]:=by
 obtain⟨ep,hep,c1⟩:=gB h 3 (by omega) (by omega)
 obtain⟨sq,hsq,c2⟩:=gB h.next 6 (by omega) (by omega)
 obtain⟨tm,htm,c3⟩:=gO h.next.next [0,125,63,62,1099511627776] (by simp) (by simp)
 obtain⟨kd,hkd,c4⟩:=gB h.next.next.next 64 (by omega) (by omega)
 obtain⟨n,hn,c5⟩:=gB h.next.next.next.next 4 (by omega) (by omega)
 obtain⟨K,V,x,K0,V0,hj⟩:=Ld h.next.next.next.next.next [0,-1,62,63,-63,-62,9007199254740992,-9007199254740992,126,1000] (by simp) (by simp)
 obtain⟨_,_,f3,f4,f5,_⟩:=hj n.toNat
 refine⟨K n.toNat,⟨st,ep,sq,tm,kd,V n.toNat⟩,f3,⟨hst,by dsimp only;omega,by dsimp only;omega,?_,by dsimp only;omega,by dsimp only;omega,?_⟩,rfl,by dsimp only;omega,?_⟩
 ·simp only[List.mem_cons,List.not_mem_nil,or_false]at htm
  dsimp only
  omega
 ·intro v hv
  have:=f5 v hv
  simp only[List.mem_cons,List.not_mem_nil,or_false]at this
  unfold yt
  omega
 clear f3 f4 f5 htm
 refine nI Tryz.func78 rfl Tryz.ntmps78 ?_
 refine ah ?_
 refine ax c1 [(0,0)] ?_
 refine ax c2 [(0,0)] ?_
 refine gj c3 [(0,0)] [] [113] ?_
 refine ax c4 [(0,0)] ?_
 refine ah ?_
 refine ax c5 [(0,0)] ?_
 refine ah ?_
 refine oP ?_
 refine CW.loop (ι:=Nat) (fun j=>⟨[(0,.pt 0 [] 0),(4,.pt 504 [] 0),(5,.pt 505 [] 0),(6,.t (.int (n - j)))],[(0,bu l (K j)),(504,.box 126 (.t (.agg [.int 0,.int 0,.int 0,.int 0,.int 0,.nil]))),(505,.box 126 (Rr ⟨st,ep,sq,tm,kd,V j⟩ 500)),(500,gm (V j))]⟩) (fun j=>(j:Int)≤n) (fun j=>n.toNat - j) 0 [(0,some 0),(504,some 104),(505,some 105),(500,none)] (by omega) ?_ ?_
 ·simp[go_sem,↓iO,iO,tN,V0,K0,bZ]
 intro j hjn
 obtain⟨e1,e2,e3,e4,e5,ce⟩:=hj j
 by_cases hb:(j:Int) < n
 ·refine ah ?_
  refine gj ce [(0,0)] [] [127] ?_
  refine ah ?_
  refine nX (j+1) [(0,some 0),(504,some 504),(505,some 505),(500,some 130)] ?_ ?_ ?_
  ·omega
  ·omega
  simp[go_sem,↓iO,iO,tN,e2]
  omega
 ·have hjn2:n.toNat=j:=by omega
  refine ah ?_
  exact l9 hjn2 [(0,some 0),(1000,some 500)]
theorem DC (d:aB) (hd:bq d):aj Tryz.prog 77 [.t (.agg d.l),.t (.int 2)] [] (.tup [.t (db (qs d)),.t (.int 0)]) []:=by
 have c1:=jk d hd.ok
 have c2:=np d hd
 have s1:=hd.s
 have s2:=hd.p
 have s3:=hd.t
 obtain⟨m,hm⟩:∃ m,d.segs.length+d.ports.length=m:=⟨_,rfl⟩
 have hm2:(d.segs.length:Int)+d.ports.length=m:=by omega
 rw[hm2]at c2
 have hR:∀ k,(List.replicate (k+1) Oy).map bL=(List.replicate k Oy).map bL++[bL Oy]:=fun k=>by rw[List.replicate_succ'];simp
 refine nI Tryz.func77 rfl Tryz.ntmps77 ?_
 refine ah ?_
 refine ax c1 [] ?_
 refine ah ?_
 refine oP ?_
 refine CW.loop (ι:=Nat) (fun k=>⟨[(1,.t (.int 2)),(2,.pt 502 [] 0),(4,.pt 504 [] 0),(7,.pt 507 [] 0),(8,.t (.int k))],[(502,.box 32 (.t (.agg d.l))),(504,.box 39 (.t (.agg [.sl 4 [],.agg [.sl 1 [],.sl 1 [],.sl 1 []]]))),(507,.box 39 (.ag [.own 508,.t (bW (uv d))])),(508,vM (List.replicate k Oy))]⟩) (fun k=>k≤m) (fun k=>m - k) 0 [(502,some 102),(504,some 104),(507,some 107),(508,none)] (by omega) ?_ ?_
 ·simp[go_sem,↓iO,iO,tN,bZ]
 intro k hk
 by_cases hb:k < m
 ·refine ah ?_
  refine ax c2 [] ?_
  refine ah ?_
  refine nX (k+1) [(502,some 502),(504,some 504),(507,some 507),(508,some 147)] ?_ ?_ ?_
  ·omega
  ·omega
  simp[go_sem,↓iO,iO,tN]
  rw[List.replicate_succ']
 ·obtain rfl:k=m:=by omega
  refine ah ?_
  refine ax c2 [] ?_
  refine ah ?_
  first|rw[av]|rw[ae]
  refine⟨[],?_⟩
  simp[go_sem,↓iO,iO,tN,hm,bZ]
abbrev Na (d:aB):Ce:=⟨qs d,[],[],0⟩
theorem Ph (d:aB) (hd:bq d) (h1:1≤d.segs.length):nS d (Na d):=⟨Mm d hd h1,by simp,by simp[m5,eV],by simp,by simp[m5,fN],by simp,by simp,by simp⟩
theorem LR (d:aB) (hd:bq d):aj Tryz.prog 30 [.t (.agg d.l),.t (.int 2)] [] (.tup [.t (bw (Na d)),.t (.int 0)]) []:=by
 have c:=DC d hd
 obtain⟨k,hk⟩:∃ k,qs d=k:=⟨_,rfl⟩
 have e:Na d=⟨k,[],[],0⟩:=by rw[←hk]
 rw[hk]at c
 rw[e]
 obtain⟨vs,rs,ps,pm⟩:=k
 refine nI Tryz.func30 rfl Tryz.ntmps30 ?_
 refine ah ?_
 refine ax c [] ?_
 refine ah ?_
 exact aF []
theorem Fw (d:aB) (hd:bq d):aj Tryz.prog 9 [.t (.agg d.l),.t (.int 2)] [] (.tup [.t (bw (Na d)),.t (.int 0)]) []:=by
 have c:=IH d hd
 obtain⟨k,hk⟩:∃ k,qs d=k:=⟨_,rfl⟩
 have e:Na d=⟨k,[],[],0⟩:=by rw[←hk]
 rw[hk]at c
 rw[e]
 obtain⟨vs,rs,ps,pm⟩:=k
 refine nI Tryz.func9 rfl Tryz.ntmps9 ?_
 refine ah ?_
 refine ax c [] ?_
 refine ah ?_
 exact aF []
theorem Mh {l:List Int} {k:Nat} (h:aV l k):∃ s∈oa,aj Tryz.prog 149 [.pt 0 [] 0,.t (.sl 1 (oa.map aI))] [(0,bu l k)] (.t (aI s)) [(0,bu l (ai l k))]:=by
 obtain⟨n,hn,c⟩:=gB h 5 (by omega) (by omega)
 obtain⟨j,rfl⟩:∃ j:Nat,n=(j:Int):=⟨n.toNat,by omega⟩
 obtain⟨s,hs⟩:∃ s,oa[j]? = some s:=aa (by simp[oa];omega)
 have hl:oa.length=5:=rfl
 refine⟨s,au hs,?_⟩
 obtain⟨N,hN⟩:∃ N,N=oa:=⟨_,rfl⟩
 rw[←hN]at hs hl ⊢
 refine nI Tryz.func149 rfl Tryz.ntmps149 ?_
 refine aJ hl ?_
 refine lf hs hl c [(0,0)] ?_
 refine c9 hs hl ?_
 exact aF [(0,some 0)]
def Rn (l:List Int) (k k':Nat) (e:En):Prop:=∃ (k1 k2 k3 k4:Nat) (kd w vl:Int),(0≤kd∧kd < 4)∧(0≤vl∧vl≤1073741824)∧
 aj Tryz.prog 149 [.pt 0 [] 0,.t (.sl 1 (oa.map aI))] [(0,bu l k)] (.t (aI e.sh)) [(0,bu l k1)]∧
 aj Tryz.prog 13 [.pt 0 [] 0,.t (.int 4)] [(0,bu l k1)] (.t (.int kd)) [(0,bu l k2)]∧
 aj Tryz.prog 13 [.pt 0 [] 0,.t (.int 1000)] [(0,bu l k2)] (.t (.int w)) [(0,bu l k3)]∧
 aj Tryz.prog 26 [.pt 0 [] 0,.t (bB [0,1,50,w,1073741824])] [(0,bu l k3)] (.t (.int vl)) [(0,bu l k4)]∧
 e.kd=1+kd∧((kd≠3∧e.vl=vl∧k'=k4)∨(kd=3∧∃ q:Int,aj Tryz.prog 13 [.pt 0 [] 0,.t (.int 2)] [(0,bu l k4)] (.t (.int q)) [(0,bu l k')]∧((q=0∧e.vl=-vl)∨(q≠0∧e.vl=vl))))
theorem O5 {l:List Int} {k:Nat} (h:aV l k):∃ (k':Nat) (e:En),aV l k'∧Gi e∧Rn l k k' e:=by
 obtain⟨s,hs,c1⟩:=Mh h
 obtain⟨kd,hkd,c2⟩:=gB h.next 4 (by omega) (by omega)
 obtain⟨w,hw,c3⟩:=gB h.next.next 1000 (by omega) (by omega)
 obtain⟨vl,hvl,c4⟩:=gO h.next.next.next [0,1,50,w,1073741824] (by simp) (by simp)
 have hv:0≤vl∧vl≤1073741824:=by
  simp only[List.mem_cons,List.not_mem_nil,or_false]at hvl
  omega
 by_cases h3:kd=3
 ·obtain⟨q,hq,c5⟩:=gB h.next.next.next.next 2 (by omega) (by omega)
  by_cases q0:q=0
  ·exact⟨_,⟨s,1+kd,-vl⟩,h.next.next.next.next.next,⟨hs,by dsimp only;omega,by dsimp only;omega,fun z=>by dsimp only at z;omega⟩,_,_,_,_,kd,w,vl,hkd,hv,c1,c2,c3,c4,rfl,.inr ⟨h3,q,c5,.inl ⟨q0,rfl⟩⟩⟩
  ·exact⟨_,⟨s,1+kd,vl⟩,h.next.next.next.next.next,⟨hs,by dsimp only;omega,by dsimp only;omega,fun _=>hv.1⟩,_,_,_,_,kd,w,vl,hkd,hv,c1,c2,c3,c4,rfl,.inr ⟨h3,q,c5,.inr ⟨q0,rfl⟩⟩⟩
 ·exact⟨_,⟨s,1+kd,vl⟩,h.next.next.next.next,⟨hs,by dsimp only;omega,by dsimp only;omega,fun _=>hv.1⟩,_,_,_,_,kd,w,vl,hkd,hv,c1,c2,c3,c4,rfl,.inl ⟨h3,rfl,rfl⟩⟩
theorem BF {α β:Type} {P:α→Prop} {R:α→α→β→Prop} {a:α} (ha:P a) (h:∀ x,P x→∃ y b,P y∧R x y b):∃ (A:Nat→α) (B:Nat→β),A 0=a∧∀ j,P (A j)∧R (A j) (A (j+1)) (B j):=by
 have h2:∀ x:{x // P x},∃ p:{x // P x}×β,R x.1 p.1.1 p.2:=fun x=>by
  obtain⟨y,b,hy,hr⟩:=h x.1 x.2
  exact⟨(⟨y,hy⟩,b),hr⟩
 obtain⟨F,hF⟩:=Classical.axiomOfChoice h2
 exact⟨fun j=>(iter (fun x=>(F x).1) j ⟨a,ha⟩).1,fun j=>(F (iter (fun x=>(F x).1) j ⟨a,ha⟩)).2,rfl,fun j=>⟨(iter (fun x=>(F x).1) j ⟨a,ha⟩).2,hF _⟩⟩
theorem Ed {l:List Int} {k:Nat} (h:aV l k):∃ (k':Nat) (es:List En),aV l k'∧(∀ e∈es,Gi e)∧es.length≤2∧aj Tryz.prog 79 [.pt 0 [] 0,.t (.int 2)] [(0,bu l k)] (.t (.sl 3 (es.map jb))) [(0,bu l k')]:=by
 obtain⟨n,hn,c0⟩:=gB h 3 (by omega) (by omega)
 obtain⟨m,rfl⟩:∃ m:Nat,n=(m:Int):=⟨n.toNat,by omega⟩
 obtain⟨A,B,A0,AB⟩:=BF (P:=aV l) (R:=fun k k' e=>Gi e∧Rn l k k' e) h.next fun k hk=>by
  obtain⟨k',e,a,b,c⟩:=O5 hk
  exact⟨k',e,a,b,c⟩
 obtain⟨E,hE⟩:∃ E:Nat→List En,∀ j,E j=(List.range j).map B:=⟨_,fun _=>rfl⟩
 have E0:E 0=[]:=by rw[hE];rfl
 have Es:∀ j,E (j+1)=E j++[B j]:=fun j=>by rw[hE,hE,List.range_succ,List.map_append];rfl
 have El:∀ j,(E j).length=j:=fun j=>by rw[hE];simp
 refine⟨A m,E m,(AB m).1,fun e he=>?_,by rw[El];omega,?_⟩
 ·rw[hE]at he
  obtain⟨j,_,rfl⟩:=List.mem_map.1 he
  exact (AB j).2.1
 refine nI Tryz.func79 rfl Tryz.ntmps79 ?_
 refine ah ?_
 refine ax c0 [(0,0)] ?_
 refine ah ?_
 refine oP ?_
 refine CW.loop (ι:=Nat) (fun j=>⟨[(0,.pt 0 [] 0),(5,.own 505),(6,.t (.int ((m:Int) - j)))],[(0,bu l (A j)),(505,.list 61 3 ((E j).map jb))]⟩) (fun j=>j≤m) (fun j=>m - j) 0 [(0,some 0),(505,none)] (by omega) ?_ ?_
 ·exact sw A0 E0
 intro j hj
 by_cases hb:j < m
 ·obtain⟨_,_,k1,k2,k3,k4,kd,w,vl,hkd,hvl,c1,c2,c3,c4,ek,hc⟩:=AB j
  have e1:=Es j
  have e2:=El j
  have hpos:0 < (m:Int) - j:=by omega
  obtain⟨e,he⟩:∃ e,B j=e:=⟨_,rfl⟩
  rw[he]at c1 ek hc e1
  obtain⟨sh,k0,v0⟩:=e
  dsimp only at c1 ek hc
  simp only[oa,List.map_cons,List.map_nil]at c1
  subst ek
  rcases hc with ⟨k3',rfl,hA⟩|⟨rfl,q,c5,⟨rfl,rfl⟩|⟨q0,rfl⟩⟩
  ·have k3'':¬ 1+kd=4:=by omega
   refine aJ hpos ?_
   refine aY.fn (c1) [(0,0)] [] [117] (by kernel_rfl) ?_ ?_ ?_ (Or.inl rfl) ?_<;>simp[go_sem,↓iO,iO,tN]
   repeat (refine ba ?_)
   try (refine⟨aZ,?_⟩)
   ·exact⟨rfl,rfl,rfl,rfl,rfl⟩
   refine ax c2 [(0,0)] ?_
   refine ax c3 [(0,0)] ?_
   refine gj c4 [(0,0)] [] [125] ?_
   refine aJ k3'' ?_
   refine nX (j+1) [(0,some 0),(505,some 143)] ?_ ?_ ?_
   ·omega
   ·omega
   simp[go_sem,↓iO,iO,tN,e1,hA]
   omega
  ·refine aJ hpos ?_
   refine aY.fn (c1) [(0,0)] [] [117] (by kernel_rfl) ?_ ?_ ?_ (Or.inl rfl) ?_<;>simp[go_sem,↓iO,iO,tN]
   repeat (refine ba ?_)
   try (refine⟨aZ,?_⟩)
   ·exact⟨rfl,rfl,rfl,rfl,rfl⟩
   refine ax c2 [(0,0)] ?_
   refine ax c3 [(0,0)] ?_
   refine gj c4 [(0,0)] [] [125] ?_
   refine ah ?_
   refine ax c5 [(0,0)] ?_
   refine ah ?_
   refine nX (j+1) [(0,some 0),(505,some 143)] ?_ ?_ ?_
   ·omega
   ·omega
   simp[go_sem,↓iO,iO,tN,e1]
   omega
  ·refine aJ hpos ?_
   refine aY.fn (c1) [(0,0)] [] [117] (by kernel_rfl) ?_ ?_ ?_ (Or.inl rfl) ?_<;>simp[go_sem,↓iO,iO,tN]
   repeat (refine ba ?_)
   try (refine⟨aZ,?_⟩)
   ·exact⟨rfl,rfl,rfl,rfl,rfl⟩
   refine ax c2 [(0,0)] ?_
   refine ax c3 [(0,0)] ?_
   refine gj c4 [(0,0)] [] [125] ?_
   refine ah ?_
   refine ax c5 [(0,0)] ?_
   refine aJ q0 ?_
   refine nX (j+1) [(0,some 0),(505,some 143)] ?_ ?_ ?_
   ·omega
   ·omega
   simp[go_sem,↓iO,iO,tN,e1]
   omega
 ·obtain rfl:j=m:=by omega
  have hpos:¬ 0 < (j:Int) - j:=by omega
  refine aJ hpos ?_
  exact aF [(0,some 0)]
theorem wj {n k:Nat} {p:Nat→Bool} (hk:k < n) (h:∀ i,i < k→p i=false) (hp:p k=true):(List.range n).find? p=some k:=by
 rw[List.find?_range_eq_some]
 exact⟨hp,by simpa using hk,fun j hj=>by simp[h j hj]⟩
theorem wi {n:Nat} {p:Nat→Bool} (h:∀ i,i < n→p i=false):(List.range n).find? p=none:=by
 rw[List.find?_eq_none]
 intro x hx
 simp[h x (List.mem_range.1 hx)]
def Nr (d:aB) (ps:List Int) (a:Int) (i:Nat):Bool:=decide (je d.ports i=a∧ps.getD i 0 < 0)
def PO (d:aB) (ps:List Int) (a:Int):Option Nat:=(List.range ps.length).find? (Nr d ps a)
def NL (d:aB) (rs:List Int) (a:Int) (i:Nat):Bool:=decide ((0 < rs.getD i 0∧gC d.segs i=a)∨(rs.getD i 0 < 0∧gE d.segs i=a))
def Nk (d:aB) (rs:List Int) (a:Int):Option Nat:=(List.range rs.length).find? (NL d rs a)
def OZ (rs:List Int):Option Nat→Hp
 | none=>⟨0,false⟩
 | some g=>⟨g,decide (rs.getD g 0 < 0)⟩
def AO (d:aB) (rs ps:List Int) (x:Int):Nat→Int→List Hp→Int→Pa×Bool
 | 0,_,hs,r=>(⟨x,0,hs,r⟩,false)
 | f+1,a,hs,r=>match PO d ps a with
  | some j=>(⟨x,j,hs,min r (-(ps.getD j 0))⟩,true)
  | none=>match Nk d rs a with
   | none=>(⟨x,0,hs,r⟩,false)
   | some g=>AO d rs ps x f (CE d (OZ rs (some g))) (hs++[OZ rs (some g)]) (min r (mr (rs.getD g 0)))
theorem df {l:List Int} {i:Nat} {x:Int} (h:l[i]? = some x):l.getD i 0=x:=by rw[List.getD_eq_getElem?_getD,h];rfl
theorem xR (d:aB) (hd:bq d) (rs:List Int) (hl:rs.length=d.segs.length) (a:Int):aj Tryz.prog 274 [.t (.agg d.l),.t (bB rs),.t (.int a)] [] (.tup [.t (gV (OZ rs (Nk d rs a))),.t (.bool (Nk d rs a).isSome)]) []:=by
 have s1:=hd.s
 refine nI Tryz.func274 rfl Tryz.ntmps274 ?_
 refine ah ?_
 refine oP ?_
 refine lP (ι:=Nat) (fun k=>⟨[(1,.t (bB rs)),(2,.t (.int a)),(3,.pt 503 [] 0),(6,.pt 506 [] 0),(8,.t (.int k))],[(503,.box 32 (.t (.agg d.l))),(506,.box 112 (.t (.agg [.int 0,.bool false])))]⟩) (fun k=>k≤rs.length∧∀ i,i < k→NL d rs a i=false) (fun k=>rs.length - k) 0 [(503,some 103),(506,some 106)] ⟨by omega,by omega⟩ ?_
 rintro k ⟨hk,hg⟩
 by_cases hb:k < rs.length
 ·obtain⟨r,hr⟩:=aa hb
  obtain⟨s,hs⟩:∃ s,d.segs[k]? = some s:=aa (by omega)
  obtain⟨e1,e2⟩:=EE hs
  have hp:NL d rs a k=decide ((0 < r∧s.1.fr=a)∨(r < 0∧s.1.to=a)):=by unfold NL;rw[df hr,e1,e2]
  have yes:NL d rs a k=true→Nk d rs a=some k∧OZ rs (some k)=⟨k,decide (r < 0)⟩:=fun h=>⟨wj hb hg h,by show (⟨(k:Int),decide (rs.getD k 0 < 0)⟩:Hp)=_;rw[df hr]⟩
  have nxt:NL d rs a k=false→(k+1≤rs.length∧∀ i,i < k+1→NL d rs a i=false):=fun h=>⟨by omega,fun i hi=>by
   by_cases e:i=k
   ·rw[e];exact h
   ·exact hg i (by omega)⟩
  have hks:k < d.segs.length:=by omega
  obtain⟨⟨nm,fr,to,cp,rs',wv⟩,pts⟩:=s
  dsimp only at hp
  by_cases r1:0 < r
  ·have r2:¬ r < 0:=by omega
   by_cases f1:fr=a
   ·obtain⟨y1,y2⟩:=yes (by rw[hp];simp[r1,f1])
    rw[y1,y2]
    repeat (first|(refine af rfl ?_;simp[go_sem,↓iO,iO,tN,hr,hs,r1,r2,f1])|refine ba ?_|refine⟨aZ,?_⟩|refine iP ?_|refine iN ?_)
    first|rw[av]|rw[ae]
    refine⟨[],?_⟩
    simp[go_sem,↓iO,iO,tN,r2]
   ·repeat (first|(refine af rfl ?_;simp[go_sem,↓iO,iO,tN,hr,hs,r1,r2,f1])|refine ba ?_|refine⟨aZ,?_⟩|refine iP ?_|refine iN ?_)
    refine nX (k+1) [(503,some 503),(506,some 506)] ?_ ?_ ?_
    ·exact nxt (by rw[hp];simp[r2,f1])
    ·omega
    exact dY
  ·by_cases r2:r < 0
   ·by_cases t1:to=a
    ·obtain⟨y1,y2⟩:=yes (by rw[hp];simp[r2,t1])
     rw[y1,y2]
     repeat (first|(refine af rfl ?_;simp[go_sem,↓iO,iO,tN,hr,hs,r1,r2,t1])|refine ba ?_|refine⟨aZ,?_⟩|refine iP ?_|refine iN ?_)
     first|rw[av]|rw[ae]
     refine⟨[],?_⟩
     simp[go_sem,↓iO,iO,tN,r2]
    ·repeat (first|(refine af rfl ?_;simp[go_sem,↓iO,iO,tN,hr,hs,r1,r2,t1])|refine ba ?_|refine⟨aZ,?_⟩|refine iP ?_|refine iN ?_)
     refine nX (k+1) [(503,some 503),(506,some 506)] ?_ ?_ ?_
     ·exact nxt (by rw[hp];simp[r1,t1])
     ·omega
     exact dY
   ·repeat (first|(refine af rfl ?_;simp[go_sem,↓iO,iO,tN,hr,hs,r1,r2])|refine ba ?_|refine⟨aZ,?_⟩|refine iP ?_|refine iN ?_)
    refine nX (k+1) [(503,some 503),(506,some 506)] ?_ ?_ ?_
    ·exact nxt (by rw[hp];simp[r1,r2])
    ·omega
    exact dY
 ·obtain rfl:k=rs.length:=by omega
  have y1:Nk d rs a=none:=wi hg
  rw[y1]
  refine ah ?_
  first|rw[av]|rw[ae]
  refine⟨[],?_⟩
  simp[go_sem,↓iO,iO,tN,OZ]
theorem yJ (r:Int) (h:-10000000≤r∧r≤10000000):aj Tryz.prog 275 [.t (.int r)] [] (.t (.int (mr r))) []:=by
 have e:mr r=max r (-r):=by unfold mr;split<;>omega
 rw[e]
 refine nI Tryz.func275 rfl Tryz.ntmps275 ?_
 refine ah ?_
 exact aF []
abbrev paS (x:Pa) (l:Nat):S:=.ag [.t (.int x.i),.t (.int x.o),.own l,.t (.int x.r)]
structure Rj (d:aB) (rs ps:List Int) (x:Int) (R:Pa×Bool) (k:Nat) (a:Int) (hs:List Hp) (r:Int):Prop where
 kn:k≤d.nn.length+1
 e:AO d rs ps x (d.nn.length+1 - k) a hs r=R
 l:hs.length=k
 r:1≤r∧r≤1000
theorem Jl {d:aB} {rs:List Int} {a:Int} {g:Nat} (h:Nk d rs a=some g):g < rs.length∧rs.getD g 0≠0:=by
 unfold Nk at h
 rw[List.find?_range_eq_some]at h
 obtain⟨h1,h2,_⟩:=h
 refine⟨by simpa using h2,fun e=>?_⟩
 unfold NL at h1
 rw[e]at h1
 simp at h1
theorem Oi {d:aB} {ps:List Int} {a:Int} {g:Nat} (h:PO d ps a=some g):g < ps.length∧ps.getD g 0 < 0:=by
 unfold PO at h
 rw[List.find?_range_eq_some]at h
 obtain⟨h1,h2,_⟩:=h
 refine⟨by simpa using h2,?_⟩
 unfold Nr at h1
 exact (of_decide_eq_true h1).2
theorem F9 (d:aB) (hd:bq d) (rs ps:List Int) (l1:rs.length=d.segs.length) (l2:ps.length=d.ports.length) (b1:∀ r∈rs,-10000000≤r∧r≤10000000) (b2:∀ r∈ps,-1000≤r∧r≤1000) (i:Nat) (v:Int) (hi:ps[i]? = some v) (hv:0 < v)
  (R:Pa×Bool) (hR:AO d rs ps i (d.nn.length+1) (je d.ports i) [] v=R):aj Tryz.prog 231 [.t (.agg d.l),.t (bB rs),.t (bB ps),.t (.int i)] [] (.tup [paS R.1 1000,.t (.bool R.2)]) [(1000,An R.1.hs)]:=by
 have s1:=hd.s
 have s2:=hd.p
 have s3:=hd.n
 have hil:=(List.getElem?_eq_some_iff.1 hi).1
 obtain⟨u,hu⟩:∃ u,d.ports[i]? = some u:=aa (by omega)
 rw[mA hu]at hR
 have hip:i < d.ports.length:=by omega
 have hv2:=b2 v (au hi)
 obtain⟨u1,u2,u3⟩:=u
 dsimp only at hR
 refine nI Tryz.func231 rfl Tryz.ntmps231 ?_
 refine c9 hi hu ?_
 refine oP ?_
 refine CW.loop (ι:=Nat×Int×List Hp×Int) (fun st=>⟨[(1,.t (bB rs)),(2,.t (bB ps)),(4,.pt 504 [] 0),(8,.pt 508 [] 0),(10,.pt 510 [] 0),(11,.t (.int st.2.1)),(12,.t (.int st.1))],[(504,.box 32 (.t (.agg d.l))),(508,.box 57 (.t (.agg [.int 0,.int 0,.sl 2 [],.int 0]))),(510,.box 57 (.ag [.t (.int i),.t (.int 0),.own 511,.t (.int st.2.2.2)])),(511,An st.2.2.1)]⟩) (fun st=>Rj d rs ps i R st.1 st.2.1 st.2.2.1 st.2.2.2) (fun st=>d.nn.length+1 - st.1) (0,u2,[],v) [(504,some 104),(508,some 108),(510,some 110),(511,none)] ⟨by dsimp only;omega,hR,rfl,by dsimp only;omega⟩ ?_ ?_
 ·simp[go_sem,↓iO,iO,tN,bZ]
 rintro ⟨k,a,hs,r⟩ ⟨hk,hf,hl,hr⟩
 dsimp only at hk hf hl hr ⊢
 by_cases hb:k < d.nn.length+1
 ·obtain⟨f,hff⟩:∃ f,d.nn.length+1 - k=f+1:=⟨d.nn.length - k,by omega⟩
  have hf1:f=d.nn.length+1 - (k+1):=by omega
  rw[hff,AO]at hf
  have hkn:(k:Int)≤d.nn.length:=by omega
  refine aJ hkn ?_
  refine oP ?_
  refine lP (ι:=Nat) (fun j=>⟨[(1,.t (bB rs)),(2,.t (bB ps)),(4,.pt 504 [] 0),(8,.pt 508 [] 0),(10,.pt 510 [] 0),(11,.t (.int a)),(12,.t (.int k)),(13,.t (.int j))],[(504,.box 32 (.t (.agg d.l))),(508,.box 57 (.t (.agg [.int 0,.int 0,.sl 2 [],.int 0]))),(510,.box 57 (.ag [.t (.int i),.t (.int 0),.own 511,.t (.int r)])),(511,An hs)]⟩) (fun j=>j≤ps.length∧∀ q,q < j→Nr d ps a q=false) (fun j=>ps.length - j) 0 [(504,some 504),(508,some 508),(510,some 510),(511,some 511)] ⟨by omega,by omega⟩ ?_
  rintro j ⟨hj,hg⟩
  by_cases hjb:j < ps.length
  ·obtain⟨p,hp⟩:=aa hjb
   obtain⟨q,hq⟩:∃ q,d.ports[j]? = some q:=aa (by omega)
   have hjp:j < d.ports.length:=by omega
   have hp2:=b2 p (au hp)
   have hP:Nr d ps a j=decide (q.2.1=a∧p < 0):=by unfold Nr;rw[df hp,mA hq]
   have nxt:Nr d ps a j=false→(j+1≤ps.length∧∀ q,q < j+1→Nr d ps a q=false):=fun h=>⟨by omega,fun q hq=>by
    by_cases e:q=j
    ·rw[e];exact h
    ·exact hg q (by omega)⟩
   have yes:Nr d ps a j=true→(⟨(i:Int),(j:Int),hs,min r (-p)⟩,true)=R:=fun h=>by
    have e:PO d ps a=some j:=wj hjb hg h
    rw[e]at hf
    simp only[df hp]at hf
    exact hf
   obtain⟨q1,q2,q3⟩:=q
   dsimp only at hP
   by_cases n1:q2=a
   ·by_cases n2:p < 0
    ·have e:=yes (by rw[hP];simp[n1,n2])
     subst e
     obtain⟨w,hw⟩:∃ w,min r (-p)=w:=⟨_,rfl⟩
     rw[hw]
     refine yB hq hp n1 n2 hw ?_
     exact aF [(1000,some 511)]
    ·refine lO hq hp n1 n2 ?_
     refine nX (j+1) [(504,some 504),(508,some 508),(510,some 510),(511,some 511)] ?_ ?_ ?_
     ·exact nxt (by rw[hP];simp[n2])
     ·omega
     exact dY
   ·refine fg hq hp n1 ?_
    refine nX (j+1) [(504,some 504),(508,some 508),(510,some 510),(511,some 511)] ?_ ?_ ?_
    ·exact nxt (by rw[hP];simp[n1])
    ·omega
    exact dY
  ·obtain rfl:j=ps.length:=by omega
   have e0:PO d ps a=none:=wi hg
   rw[e0]at hf
   have cL:=xR d hd rs l1 a
   dsimp only at hf
   cases hlv:Nk d rs a with
   | none=>
    rw[hlv]at hf cL
    dsimp only at hf
    subst hf
    refine ah ?_
    refine ax cL [] ?_
    refine ah ?_
    exact aF [(1000,some 511)]
   | some g=>
    rw[hlv]at hf cL
    dsimp only at hf
    obtain⟨g1,g2⟩:=Jl hlv
    obtain⟨y,hy⟩:=aa g1
    rw[df hy]at g2 hf
    have hy2:=b1 y (au hy)
    have cA:=yJ y hy2
    have hH:OZ rs (some g)=⟨g,decide (y < 0)⟩:=by show (⟨(g:Int),decide (rs.getD g 0 < 0)⟩:Hp)=_;rw[df hy]
    rw[hH]at cL hf
    have cE:=qA d ⟨g,decide (y < 0)⟩ (by dsimp only;omega) (by dsimp only;omega) _ (.inl rfl)
    have hya:1≤mr y∧mr y≤10000000:=by unfold mr;split<;>omega
    obtain⟨z,hz⟩:∃ z,mr y=z:=⟨_,rfl⟩
    obtain⟨t,ht⟩:∃ t,CE d ⟨g,decide (y < 0)⟩=t:=⟨_,rfl⟩
    obtain⟨fr,hfr⟩:∃ t,NG d ⟨g,decide (y < 0)⟩=t:=⟨_,rfl⟩
    obtain⟨w,hw⟩:∃ w,min r z=w:=⟨_,rfl⟩
    rw[hz]at cA hya
    rw[ht,hfr]at cE
    rw[ht,hz,hw]at hf
    have hs32:hs.length≤30:=by omega
    refine ah ?_
    refine ax cL [] ?_
    refine aJ hy ?_
    refine dr hy cA [] ?_
    refine c9 hw hy ?_
    refine ax cE [] ?_
    refine ah ?_
    refine nX (k+1,t,hs++[⟨g,decide (y < 0)⟩],w) [(504,some 504),(508,some 508),(510,some 510),(511,some 182)] ?_ ?_ ?_
    ·exact⟨by dsimp only;omega,by rw[←hf1];exact hf,by simp[hl],by dsimp only;omega⟩
    ·show d.nn.length+1 - (k+1) < d.nn.length+1 - k
     omega
    exact dY
 ·obtain rfl:k=d.nn.length+1:=by omega
  rw[Nat.sub_self,AO]at hf
  subst hf
  have hkn:¬ ((d.nn.length+1:Nat):Int)≤d.nn.length:=by omega
  refine aJ hkn ?_
  exact aF [(1000,some 511)]
structure Qy (d:aB) (rs ps:List Int) (i r0:Int) (x:Pa):Prop where
 i:x.i=i
 o:∃ o:Nat,x.o=o∧o < ps.length∧ps.getD o 0 < 0∧x.r≤-(ps.getD o 0)
 r:1≤x.r∧x.r≤r0
 h:∀ h∈x.hs,0≤h.sg∧h.sg < rs.length
theorem Jw {d:aB} {rs ps:List Int} {i:Int}:∀ {f:Nat} {a:Int} {hs:List Hp} {r:Int} {x:Pa} {b:Bool},AO d rs ps i f a hs r=(x,b)→1≤r→(∀ h∈hs,0≤h.sg∧h.sg < rs.length)→hs.length≤x.hs.length∧x.hs.length≤hs.length+f∧(b=true→Qy d rs ps i r x)
 | 0,a,hs,r,x,b,e,hr,hh=>by
  simp only[AO,Prod.mk.injEq]at e
  obtain⟨rfl,rfl⟩:=e
  exact⟨by simp,by simp,nofun⟩
 | f+1,a,hs,r,x,b,e,hr,hh=>by
  rw[AO]at e
  cases hf:PO d ps a with
  | some j=>
   rw[hf]at e
   simp only[Prod.mk.injEq]at e
   obtain⟨rfl,rfl⟩:=e
   obtain⟨j1,j2⟩:=Oi hf
   exact⟨by simp,by simp,fun _=>⟨rfl,⟨j,rfl,j1,j2,by dsimp only;omega⟩,by dsimp only;omega,hh⟩⟩
  | none=>
   rw[hf]at e
   cases hl:Nk d rs a with
   | none=>
    rw[hl]at e
    simp only[Prod.mk.injEq]at e
    obtain⟨rfl,rfl⟩:=e
    exact⟨by simp,by simp,nofun⟩
   | some g=>
    rw[hl]at e
    dsimp only at e
    obtain⟨g1,g2⟩:=Jl hl
    have hz:1≤mr (rs.getD g 0):=by unfold mr;split<;>omega
    have:=Jw e (by omega) fun h hm=>by
     rcases List.mem_append.1 hm with hm|hm
     ·exact hh h hm
     ·obtain rfl:=List.mem_singleton.1 hm
      simp only[OZ]
      omega
    rw[List.length_append]at this
    refine⟨by simp at this;omega,by simp at this;omega,fun hb=>?_⟩
    obtain⟨q1,q2,q3,q4⟩:=this.2.2 hb
    exact⟨q1,q2,by omega,q4⟩
def Ls (ps:List Int) (x:Pa):List Int:=(ps.set x.i.toNat (ps.getD x.i.toNat 0 - x.r)).set x.o.toNat (ps.getD x.o.toNat 0+x.r)
def dvd (d:aB):Nat→Nat→List Int→List Int→List Pa→List Pa×Int
 | 0,_,_,_,out=>(out,0)
 | f+1,i,rs,ps,out=>if i < ps.length then (if 0 < ps.getD i 0 then (if (AO d rs ps i (d.nn.length+1) (je d.ports i) [] (ps.getD i 0)).2=false∨out.length=64∨32 < (AO d rs ps i (d.nn.length+1) (je d.ports i) [] (ps.getD i 0)).1.hs.length then ([],23)
   else dvd d f i (pO (-(AO d rs ps i (d.nn.length+1) (je d.ports i) [] (ps.getD i 0)).1.r) rs (AO d rs ps i (d.nn.length+1) (je d.ports i) [] (ps.getD i 0)).1.hs) (Ls ps (AO d rs ps i (d.nn.length+1) (je d.ports i) [] (ps.getD i 0)).1) (out++[(AO d rs ps i (d.nn.length+1) (je d.ports i) [] (ps.getD i 0)).1])) else dvd d f (i+1) rs ps out) else (out,0)
structure QN (x:Pa):Prop where
 hs:x.hs.length≤32
 r:1≤x.r∧x.r≤1000
structure Ib (d:aB) (R:List Pa×Int) (i:Nat) (rs ps:List Int) (out:List Pa):Prop where
 il:i≤ps.length
 e:dvd d (ps.length - i+(64 - out.length)+1) i rs ps out=R
 l1:rs.length=d.segs.length
 l2:ps.length=d.ports.length
 b1:∀ r∈rs,-(1000+33000 * (out.length:Int))≤r∧r≤1000+33000 * (out.length:Int)
 b2:∀ r∈ps,-1000≤r∧r≤1000
 ol:out.length≤64
 ok:∀ x∈out,QN x
theorem Oa {v:Int} {rs:List Int} {h:Hp} {B:Int} (hB:0≤B) (hb:∀ r∈rs,-B≤r∧r≤B) (hv:-1000≤v∧v≤1000):∀ r∈GO v rs h,-(B+1000)≤r∧r≤B+1000:=by
 intro x hx
 rcases List.mem_or_eq_of_mem_set hx with hx|rfl
 ·have:=hb x hx;omega
 ·have h1:-B≤rs.getD h.sg.toNat 0∧rs.getD h.sg.toNat 0≤B:=by
   by_cases hl:h.sg.toNat < rs.length
   ·obtain⟨y,hy⟩:=aa hl
    rw[df hy];exact hb y (au hy)
   ·rw[List.getD_eq_getElem?_getD,List.getElem?_eq_none (by omega)]
    simp only[Option.getD_none];omega
  unfold mG;split<;>omega
theorem yq {v:Int} (hv:-1000≤v∧v≤1000):∀ {hs:List Hp} {rs:List Int} {B:Int},0≤B→(∀ r∈rs,-B≤r∧r≤B)→∀ r∈pO v rs hs,-(B+1000 * (hs.length:Int))≤r∧r≤B+1000 * (hs.length:Int)
 | [],rs,B,_,hb=>by simpa [pO] using hb
 | h :: t,rs,B,hB,hb=>by
  intro x hx
  have:=yq hv (hs:=t) (rs:=GO v rs h) (B:=B+1000) (by omega) (Oa hB hb hv) x hx
  simp only[List.length_cons]
  omega
theorem Ib.push {d:aB} (hd:bq d) {R:List Pa×Int} {i:Nat} {rs ps:List Int} {out:List Pa} (h:Ib d R i rs ps out) {v:Int} (hi:ps[i]? = some v) (hv:0 < v) {x:Pa} {b:Bool} (hx:AO d rs ps i (d.nn.length+1) (je d.ports i) [] v=(x,b)) :
  ((b=false∨out.length=64∨32 < x.hs.length)→R=([],23))∧(¬ (b=false∨out.length=64∨32 < x.hs.length)→Qy d rs ps i v x∧Ib d R i (pO (-x.r) rs x.hs) (Ls ps x) (out++[x])):=by
 have hil:=(List.getElem?_eq_some_iff.1 hi).1
 obtain⟨f,hf⟩:∃ f,ps.length - i+(64 - out.length)=f:=⟨_,rfl⟩
 have e:=h.e
 rw[hf,dvd,if_pos hil,df hi,if_pos hv,hx]at e
 dsimp only at e
 constructor
 ·intro hc
  rw[if_pos hc]at e
  exact e.symm
 ·intro hc
  rw[if_neg hc]at e
  have hb:b=true:=by cases b<;>simp_all
  have hF:=(Jw hx (by omega) (by simp)).2.2 hb
  have ho:=h.ol
  have ho2:out.length≠64:=fun z=>hc (.inr (.inl z))
  have h32:x.hs.length≤32:=by
   have:¬ 32 < x.hs.length:=fun z=>hc (.inr (.inr z))
   omega
  have hv2:=h.b2 v (au hi)
  refine⟨hF,⟨by simp[Ls];exact h.il,?_,by rw[mN];exact h.l1,by simp[Ls];exact h.l2,?_,?_,by simp;omega,?_⟩⟩
  ·have:(Ls ps x).length - i+(64 - (out++[x]).length)+1=f:=by simp[Ls];omega
   rw[this];exact e
  ·intro y hy
   have:=yq (v:=-x.r) (by have:=hF.r;omega) (B:=1000+33000 * (out.length:Int)) (by omega) h.b1 y hy
   simp only[List.length_append,List.length_cons,List.length_nil]
   omega
  ·intro y hy
   obtain⟨o,o1,o2,o3,o4⟩:=hF.o
   have hr:=hF.r
   have e1:x.i.toNat=i:=by rw[hF.i];simp
   obtain⟨w,hw⟩:=aa o2
   rw[df hw]at o3 o4
   have hw2:=h.b2 w (au hw)
   unfold Ls at hy
   rw[e1,df hi,o1,Int.toNat_natCast,df hw]at hy
   rcases List.mem_or_eq_of_mem_set hy with hy|rfl
   ·rcases List.mem_or_eq_of_mem_set hy with hy|rfl
    ·exact h.b2 y hy
    ·omega
   ·omega
  ·intro y hy
   rcases List.mem_append.1 hy with hy|hy
   ·exact h.ok y hy
   ·obtain rfl:=List.mem_singleton.1 hy
    exact⟨h32,by have:=hF.r;omega⟩
theorem Ib.skip {d:aB} {R:List Pa×Int} {i:Nat} {rs ps:List Int} {out:List Pa} (h:Ib d R i rs ps out) {v:Int} (hi:ps[i]? = some v) (hv:¬ 0 < v):Ib d R (i+1) rs ps out:=by
 have hil:=(List.getElem?_eq_some_iff.1 hi).1
 have e:=h.e
 obtain⟨f,hf⟩:∃ f,ps.length - i+(64 - out.length)=f:=⟨_,rfl⟩
 rw[hf,dvd,if_pos hil,df hi,if_neg hv]at e
 exact⟨by omega,by rw[show ps.length - (i+1)+(64 - out.length)+1=f by omega];exact e,h.l1,h.l2,h.b1,h.b2,h.ol,h.ok⟩
theorem Ib.done {d:aB} {R:List Pa×Int} {rs ps:List Int} {out:List Pa} (h:Ib d R ps.length rs ps out):R=(out,0):=by
 have e:=h.e
 rw[dvd,if_neg (by omega)]at e
 exact e.symm
@[go_sem] theorem Ej:∀ l:List Hp,dG (l.map gV)
 | []=>by simp only[List.map_nil];unfold dG;trivial
 | x :: r=>by
  simp only[List.map_cons]
  unfold dG
  refine⟨?_,Ej r⟩
  unfold gV jj dG jj dG jj dG
  exact⟨trivial,trivial,trivial⟩
theorem Ht (d:aB) (hd:bq d) (p:Pn) (h:jE d p):∃ (l:List Pa) (e:Int),((∀ x∈l,QN x)∧l.length≤64)∧aj Tryz.prog 151 [.t (.agg d.l),.t (bW p)] [] (.tup [.t (.sl 4 (l.map dS)),.t (.int e)]) []:=by
 obtain⟨R,hR⟩:∃ R,dvd d (p.ps.length+64+1) 0 p.rs p.ps []=R:=⟨_,rfl⟩
 have cC:=mf d hd p h
 have s1:=hd.s
 have s2:=hd.p
 have hI:Ib d R 0 p.rs p.ps []:=⟨by omega,by simpa using hR,h.pln.l1,h.pln.l2,fun r hr=>by have:=h.pln.b1 r hr;simp;omega,h.pln.b2,by simp,by simp⟩
 suffices hs:((∀ x∈R.1,QN x)∧R.1.length≤64)∧aj Tryz.prog 151 [.t (.agg d.l),.t (bW p)] [] (.tup [.t (.sl 4 (R.1.map dS)),.t (.int R.2)]) [] from ⟨R.1,R.2,hs.1,hs.2⟩
 constructor
 ·clear cC hR
  have gen:∀ (n i:Nat) (rs ps:List Int) (out:List Pa),ps.length - i+(64 - out.length)=n→Ib d R i rs ps out→(∀ x∈R.1,QN x)∧R.1.length≤64:=by
   intro n
   induction n with
   | zero=>
    intro i rs ps out hn hI
    have:i=ps.length:=by have:=hI.il;omega
    subst this
    rw[hI.done];exact⟨hI.ok,hI.ol⟩
   | succ n ih=>
    intro i rs ps out hn hI
    by_cases hil:i < ps.length
    ·obtain⟨v,hv⟩:=aa hil
     by_cases hp:0 < v
     ·rcases hx:AO d rs ps i (d.nn.length+1) (je d.ports i) [] v with ⟨x,b⟩
      obtain⟨a1,a2⟩:=hI.push hd hv hp hx
      by_cases hc:b=false∨out.length=64∨32 < x.hs.length
      ·rw[a1 hc];simp
      ·refine ih i _ _ _ ?_ (a2 hc).2
       have:out.length≠64:=fun z=>hc (.inr (.inl z))
       have:=hI.ol
       simp[Ls];omega
     ·exact ih (i+1) rs ps out (by omega) (hI.skip hv hp)
    ·have:i=ps.length:=by have:=hI.il;omega
     subst this
     rw[hI.done];exact⟨hI.ok,hI.ol⟩
  exact gen _ 0 p.rs p.ps [] rfl hI
 clear hR
 have q1:=h.pln.l1
 have q2:=h.pln.l2
 obtain⟨rs,ps,pm⟩:=p
 dsimp only at hI q1 q2
 obtain⟨m,hm⟩:∃ m,ps.length=m:=⟨_,rfl⟩
 refine nI Tryz.func151 rfl Tryz.ntmps151 ?_
 refine ah ?_
 refine ax cC [] ?_
 refine ah ?_
 refine oP ?_
 refine lP (ι:=Nat×List Int×List Int×List Pa) (fun st=>⟨[(2,.pt 502 [] 0),(7,.own 507),(8,.own 508),(9,.own 509),(10,.t (.int st.1))],[(502,.box 32 (.t (.agg d.l))),(507,gm st.2.1),(508,gm st.2.2.1),(509,.list 57 4 (st.2.2.2.map dS))]⟩) (fun st=>Ib d R st.1 st.2.1 st.2.2.1 st.2.2.2∧st.2.2.1.length=m) (fun st=>m - st.1) (0,rs,ps,[]) [(502,some 102),(507,some 124),(508,some 128),(509,none)] ⟨hI,hm⟩ ?_
 rintro ⟨i,rs',ps',out⟩ ⟨hI,hpm⟩
 dsimp only at hI hpm ⊢
 by_cases hil:i < ps'.length
 ·refine ah ?_
  refine oP ?_
  refine lP (ι:=List Int×List Int×List Pa) (fun st=>⟨[(2,.pt 502 [] 0),(7,.own 507),(8,.own 508),(9,.own 509),(10,.t (.int i))],[(502,.box 32 (.t (.agg d.l))),(507,gm st.1),(508,gm st.2.1),(509,.list 57 4 (st.2.2.map dS))]⟩) (fun st=>Ib d R i st.1 st.2.1 st.2.2∧st.2.1.length=m) (fun st=>64 - st.2.2.length) (rs',ps',out) [(502,some 502),(507,some 507),(508,some 508),(509,some 509)] ⟨hI,hpm⟩ ?_
  have him0:i < m:=by omega
  clear hI hpm
  rintro ⟨rs,ps,out⟩ ⟨hI,hpm⟩
  dsimp only at hI hpm ⊢
  have him:i < ps.length:=by rw[hpm];exact him0
  obtain⟨v,hv⟩:=aa him
  by_cases hp:0 < v
  ·rcases hx:AO d rs ps i (d.nn.length+1) (je d.ports i) [] v with ⟨x,b⟩
   obtain⟨a1,a2⟩:=hI.push hd hv hp hx
   have hol:=hI.ol
   have cF:=F9 d hd rs ps hI.l1 hI.l2 (fun r hr=>by have:=hI.b1 r hr;omega) hI.b2 i v hv hp _ hx
   dsimp only at cF
   by_cases c1:b=false
   ·subst c1
    obtain rfl:=a1 (.inl rfl)
    refine c9 hv hp ?_
    refine gj cF [(1000,150)] [507,508] [] ?_
    refine ah ?_
    exact aF []
   have c1:b=true:=by simpa using c1
   subst c1
   by_cases c2:out.length=64
   ·obtain rfl:=a1 (.inr (.inl c2))
    refine c9 hv hp ?_
    refine gj cF [(1000,150)] [507,508] [] ?_
    repeat (first|(refine af rfl ?_;simp[go_sem,↓iO,iO,tN,c2])|refine ba ?_|refine⟨aZ,?_⟩|refine iP ?_|refine iN ?_)
    exact aF []
   have c2':¬ (out.length:Int)=64:=by omega
   by_cases c3:32 < x.hs.length
   ·obtain rfl:=a1 (.inr (.inr c3))
    have c3':(32:Int) < x.hs.length:=by omega
    refine c9 hv hp ?_
    refine gj cF [(1000,150)] [507,508] [] ?_
    refine c9 c2' c3' ?_
    exact aF []
   have c3':¬ (32:Int) < x.hs.length:=by omega
   obtain⟨hF,hN⟩:=a2 (by simp[c2,c3])
   obtain⟨fi,⟨o,fo,ol,on,ox⟩,fr,fh⟩:=hF
   obtain⟨w,hw⟩:=aa ol
   rw[df hw]at on ox
   have hvb:=hI.b2 v (au hv)
   have hwb:=hI.b2 w (au hw)
   have hio:¬ i=o:=fun e=>by subst e;rw[hv]at hw;cases hw;omega
   obtain⟨PS,hPS⟩:∃ P,P=Ls ps x:=⟨_,rfl⟩
   have hPS2:PS=(ps.set i (v - x.r)).set o (w+x.r):=by rw[hPS,Ls,fi,fo,Int.toNat_natCast,Int.toNat_natCast,df hv,df hw]
   have PSm:((ps.map aC).set i (.int (v - x.r))).set o (.int (w+x.r))=PS.map aC:=by rw[hPS2,List.map_set,List.map_set];rfl
   have hX:∃ X:Nat→List Int,X 0=rs∧X x.hs.length=pO (-x.r) rs x.hs∧∀ k h,x.hs[k]? = some h→∃ r,(X k)[h.sg.toNat]? = some r∧(-10000000≤r∧r≤10000000)∧X (k+1)=(X k).set h.sg.toNat (r+mG h (-x.r))∧0≤h.sg∧h.sg < (rs.length:Int)∧(X k).length=rs.length:=by
    refine⟨fun k=>pO (-x.r) rs (x.hs.take k),rfl,by dsimp only;rw[List.take_length],fun k h hk=>?_⟩
    have hr:=fh h (au hk)
    obtain⟨r,hr'⟩:∃ r,(pO (-x.r) rs (x.hs.take k))[h.sg.toNat]? = some r:=aa (by rw[mN];omega)
    have hbd:=yq (v:=-x.r) (by omega) (B:=1000+33000 * (out.length:Int)) (by omega) hI.b1 r (au hr')
    have hlt:(x.hs.take k).length≤x.hs.length:=by rw[List.length_take];omega
    refine⟨r,hr',by omega,?_,hr.1,hr.2,mN _ _ _⟩
    dsimp only
    rw[bC hk,pO,List.foldl_append,List.foldl_cons,List.foldl_nil]
    show GO (-x.r) (pO (-x.r) rs (x.hs.take k)) h=_
    rw[GO,df hr']
   obtain⟨X,X0,Xl,Xs⟩:=hX
   rw[←hPS]at hN
   obtain⟨xi,xo,hs,r⟩:=x
   dsimp only at fi fo fr ox Xl Xs cF c3' hN PSm
   subst fi fo
   refine c9 hv hp ?_
   refine gj cF [(1000,150)] [507,508] [] ?_
   refine yB c2' c3' hv hw hio ?_
   refine oP ?_
   refine CW.loop (ι:=Nat) (fun k=>⟨[(2,.pt 502 [] 0),(7,.own 507),(8,.own 508),(9,.own 509),(10,.t (.int i)),(11,.pt 511 [] 0),(13,.t (.int k))],[(502,.box 32 (.t (.agg d.l))),(507,gm (X k)),(508,gm PS),(509,.list 57 4 (out.map dS)),(511,.box 57 (.ag [.t (.int i),.t (.int o),.own 512,.t (.int r)])),(512,An hs)]⟩) (fun k=>k≤hs.length) (fun k=>hs.length - k) 0 [(502,some 502),(507,some 507),(508,some 508),(509,some 509),(511,some 111),(512,some 150)] (by omega) ?_ ?_
   ·exact sw X0 PSm
   intro k hk
   by_cases hb:k < hs.length
   ·obtain⟨h',hh'⟩:=aa hb
    obtain⟨y,y1,y2,y3,y4,y5,y6⟩:=Xs k h' hh'
    obtain⟨g,bk⟩:=h'
    dsimp only at y1 y3 y4 y5
    cases bk
    ·have e5:y - r=y+-r:=by omega
     simp only[mG,Bool.false_eq_true,if_false]at y3
     refine lO hh' y1 y4 y6 ?_
     refine nX (k+1) [(502,some 502),(507,some 507),(508,some 508),(509,some 509),(511,some 511),(512,some 512)] ?_ ?_ ?_
     ·omega
     ·omega
     simp[go_sem,↓iO,iO,tN,y3,List.map_set,e5]
    ·simp only[mG,if_true,Int.neg_neg]at y3
     refine lO hh' y1 y4 y6 ?_
     refine nX (k+1) [(502,some 502),(507,some 507),(508,some 508),(509,some 509),(511,some 511),(512,some 512)] ?_ ?_ ?_
     ·omega
     ·omega
     simp[go_sem,↓iO,iO,tN,y3,List.map_set]
   ·obtain rfl:k=hs.length:=by omega
    rw[Xl]
    refine ah ?_
    refine nX (pO (-r) rs hs,PS,out++[⟨i,o,hs,r⟩]) [(502,some 502),(507,some 507),(508,some 508),(509,some 226)] ?_ ?_ ?_
    ·exact⟨hN,by rw[hPS2];simpa using hpm⟩
    ·simp only[List.length_append,List.length_cons,List.length_nil]
     omega
    exact dY
  ·have hN:=hI.skip hv hp
   refine c9 hv hp ?_
   refine nX (i+1,rs,ps,out) [(502,some 502),(507,some 507),(508,some 508),(509,some 509)] ?_ ?_ ?_
   ·exact⟨hN,hpm⟩
   ·show m - (i+1) < m - i
    omega
   exact dY
 ·have hi:i=ps'.length:=by have:=hI.il;omega
  subst hi
  obtain rfl:=hI.done
  refine ah ?_
  exact aF []
end Go.Proofs.YtocndodilpimnaaGreat
