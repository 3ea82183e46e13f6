import Derived.Test.YtdjmklobfjigoaaGreatDoorTCvesB8
import Derived.Test.YtdjmklobfjigoaaGreatDoorTCvesB11
import Derived.Test.YtdjmklobfjigoaaGreatDoorTCvesB12
import Derived.Test.YtdjmklobfjigoaaGreatDoorTCvesB14
set_option maxRecDepth 100000
set_option maxHeartbeats 16000000
set_option linter.unusedVariables false
set_option linter.unusedSimpArgs false
namespace Go.Proofs.YtdjmklobfjigoaaGreatDoor.Sy
open Go.RowKit
def RoundCX (P:Program) (l:Nat) (assign body:Code) (us:List Value) (w:World) (R:Ending→World→Prop):Prop:=
 ∀ r,w.heap[l]? = some (Obj.loop r)→assign.wpIn (Fence.wide.inRound l) 7 P (Exit.then (fun a1 w1=>KA l w w1∧w1.heap[l]? = w.heap[l]?∧∀ o':Obj,o'.isCells=false→body.wpIn (Fence.wide.inRound l) 7 P (fun e _ w'=>KA l w w'∧w'.heap[l]? = some o'∧match e with
   | .ret=>R (.returned (.bool false)) (w'.putObj l (.loop r))
   | _=>False) a1 (w1.putObj l o')) (fun _ _ _=>False)) {tmps:=us.toArray,defers:=[]} w
theorem RoundCX.mono {P:Program} {l:Nat} {assign body:Code} (us:List Value) (w:World) (R R':Ending→World→Prop) (h:RoundCX P l assign body us w R) (hR:∀ e w',R e w'→R' e w'):RoundCX P l assign body us w R':=by
 intro r hr
 refine wpIn_mono (h r hr) ?_
 rintro e a1 w1 hp
 cases e with
 | normal=>
  refine⟨hp.1,hp.2.1,fun o' ho=>wpIn_mono (hp.2.2 o' ho) ?_⟩
  rintro e a2 w2 ⟨h1,h3,h2⟩
  refine⟨h1,h3,?_⟩
  cases e with
  | ret=>exact hR _ _ h2
  | _=>exact h2
 | _=>exact hp
def EndX (post:List (Nat×Blk)) (e:Exit) (τ:St):Prop:=match e with
 | .ret=>∃ ρ,rhoOk ρ=true∧wkH ρ (lkB τ.h) post
 | _=>False
def ThenX (N:Nat) (P:Program) (body:Code) (post:List (Nat×Blk)) (e:Exit) (τ:St):Prop:=match e with
 | .normal=>nf N P [] body (EndX post) τ
 | _=>False
theorem EndX_ret (post:List (Nat×Blk)) (τ:St):EndX post .ret τ=∃ ρ,rhoOk ρ=true∧wkH ρ (lkB τ.h) post:=rfl
theorem round_fnX {N:Nat} {P:Program} {l:Nat} {assign body:Code} {gg:List (Nat×S)} {pre post:List (Nat×Blk)} (hm:P.follows .mixedOrders=true) (hok1:okCode N assign=true) (hok2:okCode N body=true) (hf1:flatC assign=true) (hf2:flatC body=true)
  (hkeys:gg.all (fun q=>Nat.blt q.1 N)=true) (h:nf N P [] assign (ThenX N P body post) ⟨gg,pre⟩):FnOkG (RoundCX P l assign body) ((List.range N).map (lkS gg)) pre (.t (.lit (.bool false))) post:=by
 intro G w us hh hr r hl
 have hlw:=(Array.getElem?_eq_some_iff.1 hl).1
 have hlen:=hr.length
 have hA:∀ b,ownA G pre b→∃ cs e m,w.heap[b]? = some (Obj.cells cs e m):=fun b ⟨l',x,h1,h2⟩=>hh.obj h1 h2
 have hs0:SatG N w G (ownA G pre) G (lkS gg) (lkB pre) {tmps:=us.toArray,defers:=[]} w:=by
  refine⟨by simpa using hlen,DefOk.nil _ _,fun t=>?_,hh,⟨rfl,rfl,rfl,Nat.le_refl _,fun _ _ _=>rfl,fun l b k h1 h2=> .inl ⟨l,b,h1,h2⟩,fun _ h=>h,fun _ h=> .inl h,fun _ _=>rfl⟩⟩
  by_cases ht:t < N
  ·obtain⟨u,h1,h2⟩:=RepPs.get (i:=t) (s:=lkS gg t) hr (by simp[ht])
   have:us.toArray.getD t undef=u:=by
    rw[Array.getD_eq_getD_getElem?];simp[h1]
   rw[this];exact h2
  ·have:lkS gg t = .dead:=by
    have key:∀ g:List (Nat×S),g.all (fun q=>Nat.blt q.1 N)=true→lkS g t = .dead:=by
     intro g
     induction g with
     | nil=>intro _;rfl
     | cons q r ih=>
      intro hq
      simp only[List.all_cons,Bool.and_eq_true]at hq
      obtain⟨k,s⟩:=q
      simp only[lkS]
      have hk:k < N:=by have:=hq.1;simp[Nat.blt]at this;omega
      rw[if_neg (by omega)]
      exact ih hq.2
    exact key gg hkeys
   rw[this];unfold RepS;trivial
 refine wpIn_mono (nf_round hm l 7 assign _ _ hok1 hf1 h w G (ownA G pre) _ w ⟨G,hs0⟩) ?_
 rintro e a1 w1 ⟨τ,hq,G1,hs1⟩
 cases e with
 | normal=>
  have hl1:w1.heap[l]? = some (Obj.loop r):=by
   rw[hs1.frm.block l hlw,hl]
   intro hA'
   obtain⟨cs,e,m,h2⟩:=hA l hA'
   rw[hl]at h2;cases h2
  refine⟨ka_of l hs1.frm hA,by rw[hl1,hl],fun o' ho=>?_⟩
  have hl1w:=(Array.getElem?_eq_some_iff.1 hl1).1
  have hs2:=hs1.both hl1 ho hlw
  refine wpIn_mono (nf_round hm l 7 body _ _ hok2 hf2 hq (w.putObj l o') G (ownA G pre) a1 (w1.putObj l o') ⟨G1,hs2⟩) ?_
  rintro e a2 w2 ⟨τ2,hq2,G2,hs3⟩
  have hA2:∀ b,ownA G pre b→∃ cs e m,(w.putObj l o').heap[b]? = some (Obj.cells cs e m):=by
   intro b hb
   obtain⟨cs,e,m,h2⟩:=hA b hb
   refine⟨cs,e,m,?_⟩
   rw[putObj_get hlw,if_neg (by rintro rfl;rw[hl]at h2;cases h2)]
   exact h2
  have hblk:∀ k,k < w.heap.size→¬ ownA G pre k→w2.heap[k]? = (w.putObj l o').heap[k]?:=fun k hk hk2=>hs3.frm.block k (by rw[putObj_size];exact hk) hk2
  have hno:∀ k,k < w.heap.size→∀ o,(w.putObj l o').heap[k]? = some o→o.isCells=false→¬ ownA G pre k:=by
   intro k hk o h1 h2 h3
   obtain⟨cs,e,m,h4⟩:=hA2 k h3
   rw[h1]at h4;cases h4;cases h2
  have hl2:w2.heap[l]? = some o':=by
   have e1:(w.putObj l o').heap[l]? = some o':=World.putObj_heap_same hlw
   rw[hblk l hlw (hno l hlw o' e1 ho)];exact e1
  refine⟨?_,hl2,?_⟩
  ·intro k o hkl h1 h2
   have hk:=(Array.getElem?_eq_some_iff.1 h1).1
   have e1:(w.putObj l o').heap[k]? = some o:=by rw[putObj_get hlw,if_neg hkl];exact h1
   rw[hblk k hk (hno k hk o e1 h2)]
   exact e1
  ·cases e with
   | ret=>
    obtain⟨ρ,h1,h2⟩:=hq2
    have hs4:=hs3.frm
    have sm:Same w2 (w2.putObj l (.loop r)):=Same.putObj hl2 ho rfl
    have hf:From w G (ownA G pre) G2 (w2.putObj l (.loop r)) (lkB τ2.h):=by
     refine⟨hs4.os,hs4.tape,hs4.output,by rw[putObj_size];have:=hs4.size;rw[putObj_size]at this;exact this,?_,?_,hs4.fin,?_,hs4.same⟩
     ·intro b hb hAb
      rw[putObj_get (Array.getElem?_eq_some_iff.1 hl2).1]
      split
      ·rename_i e;subst e;exact hl.symm
      ·rename_i hne
       rw[hblk b hb hAb,putObj_get hlw,if_neg hne]
     ·intro l' b k h3 h4;have:=hs4.own l' b k h3 h4;rw[putObj_size]at this;exact this
     ·intro b hb;have:=hs4.fout b hb;rw[putObj_size]at this;exact this
    exact⟨.bool false,wkGh ρ (lkB τ2.h) G2,rfl,wk_from h1 h2 hf,wk_heap h1 (hs3.heap.same sm) h2,by unfold RepS Rep;exact⟨rfl,rfl⟩⟩
   | _=>exact hq2.elim
 | _=>exact hq.elim
structure RoundX (N:Nat) (P:Program) (assign body:Code) (ps:List Tmp) (gs:List (Nat×S)) (h h':List (Nat×Blk)) (y:List Value) (ρ:List (Nat×Nat)) (g1:List (Nat×S)) (pre post:List (Nat×Blk)) (ρ2:List (Nat×Option Nat)):Prop where
 chk:callChk ρ [] pre post (.t (.lit (.bool false)))=true
 hpre:preR ρ (lkB h) pre
 slots:slotsR gs ρ ps g1
 keys:g1.all (fun q=>Nat.blt q.1 N)=true
 fresh:nwOk ⟨gs,h⟩ (callE ρ [] [] pre post (.t (.lit (.bool false)))).nw=true
 run:nf N P [] assign (ThenX N P body post) ⟨psS ps y++g1,pre⟩
 wk:Wk ρ2 ⟨gs,updB (callE ρ [] [] pre post (.t (.lit (.bool false)))).u h⟩ ⟨gs,h'⟩
theorem CW.rangeFX {N:Nat} {P:Program} {Q:Exit→St→Prop} {g:Operand} {ps:Array Tmp} {assign body:Code} {σ:St} (gs:List (Nat×S)) (hs:Nat→List (Nat×Blk)) (kx:Nat) (hX:List (Nat×Blk)) (ρ0:List (Nat×Option Nat)) {gf:FuncId} {caps:List S} (preI:List (Nat×Blk)) (ys:List (List Value)) (ρI:List (Nat×Option Nat))
  (hstart:Wk ρ0 σ ⟨gs,hs 0⟩) (hg:rdS (lkS gs) g = .fn gf caps) (he:entB P gf=true) (hok1:okCode N assign=true) (hok2:okCode N body=true) (hf1:flatC assign=true) (hf2:flatC body=true)
  (hpsN:nodupB ps.toList=true) (hpsl:ps.toList.all (fun t=>Nat.blt t N)=true) (hps:∀ y∈ys,y.length=ps.size) (hone:∀ y∈ys,∀ v∈y,v.oneCell'=true)
  (hit:IterSy P gf caps preI ys) (hrI:rhoOk ρI=true) (hI:∀ k,k≤kx→wkH ρI (lkB (hs k)) preI∧wkPs ρI (lkB (hs k)) caps caps∧allIn ρI (hs k)=true)
  (hkx:kx < ys.length) (round:∀ k y,k < kx→ys[k]? = some y→∃ ρ g1 pre post ρ2,Round N P assign body ps.toList gs (hs k) (hs (k+1)) y ρ g1 pre post ρ2)
  (last:∀ y,ys[kx]? = some y→∃ ρ g1 pre post ρ2,RoundX N P assign body ps.toList gs (hs kx) hX y ρ g1 pre post ρ2)
  (done:Q .ret ⟨gs,hX⟩):CW N P (.rangeFunc g ps assign body) Q σ:=by
 intro hm _ W0 G0 A a w hsat
 obtain⟨G,hsat⟩:=hsat.weak hstart
 have hgv:=hsat.eval g
 rw[hg]at hgv
 unfold RepS at hgv
 obtain⟨us,hgv,hcaps⟩:=hgv
 obtain⟨Ds,hD1,hD2,hD3⟩:=hsat.defers
 have hDlt:∀ D∈Ds,D < w.heap.size:=fun D hD=>(Array.getElem?_eq_some_iff.1 (hD3 D hD).1).1
 have defs:∀ {W:World} (hW:DefOk W0 a.defers W),∀ D∈Ds,W.heap[D]? = some (Obj.deferred (some [])):=by
  intro W hW D hD
  obtain⟨Ds',h1,_,h3⟩:=hW
  rw[hD1]at h1
  have:=marks_inj h1
  subst this
  exact (h3 D hD).1
 have mk:∀ {W:World},(∀ D∈Ds,W.heap[D]? = some (Obj.deferred (some [])))→DefOk W0 a.defers W:=fun h=>⟨Ds,hD1,hD2,fun D hD=>⟨h D hD,(hD3 D hD).2⟩⟩
 have hW0:W0.heap.size≤w.heap.size:=hsat.frm.size
 let I:Nat→World→Prop:=fun k W=>k≤kx∧∃ G',SatG N W0 G0 A G' (lkS gs) (lkB (hs k)) a W∧∀ b,G.F b→G'.F b
 have hput:∀ k W D o o',I k W→W.heap[D]? = some o→o.isCells=false→o'.isCells=false→w.heap.size≤D→I k (W.putObj D o'):=by
  rintro k W D o o' ⟨hk,G',h1,h2⟩ hD ho ho' hDw
  refine⟨hk,G',h1.world (SameW.putObj hD ho ho' (by omega)) (mk fun D' hD'=>?_),h2⟩
  have:=hDlt D' hD'
  rw[World.putObj_heap_other (by omega)]
  exact defs h1.defers D' hD'
 let Ix:Code→World→Prop:=fun c W=>c = .ret∧∃ G',SatG N W0 G0 A G' (lkS gs) (lkB hX) a W∧∀ b,G.F b→G'.F b
 have hputX:∀ c W D o o',Ix c W→W.heap[D]? = some o→o.isCells=false→o'.isCells=false→w.heap.size≤D→Ix c (W.putObj D o'):=by
  rintro k W D o o' ⟨hk,G',h1,h2⟩ hD ho ho' hDw
  refine⟨hk,G',h1.world (SameW.putObj hD ho ho' (by omega)) (mk fun D' hD'=>?_),h2⟩
  have:=hDlt D' hD'
  rw[World.putObj_heap_other (by omega)]
  exact defs h1.defers D' hD'
 have rd:∀ k W G',k≤kx→SatG N W0 G0 A G' (lkS gs) (lkB (hs k)) a W→RdI preI caps us G'.F W:=by
  intro k W G' hk h1
  obtain⟨i1,i2,i3⟩:=hI k hk
  have h3:=h1.eval g
  rw[hg]at h3
  unfold RepS at h3
  obtain⟨us',h4,h5⟩:=h3
  rw[hgv]at h4
  have e:us'=us:=by simpa using h4.symm
  subst e
  refine⟨wkGh ρI (lkB (hs k)) G',?_,wk_heap hrI h1.heap i1,wkPs_spec h1.heap _ _ _ i2 h5⟩
  funext b
  refine propext ⟨fun h=>?_,fun h=> .inl h⟩
  rcases h with h|⟨l,x,h6,h7,_⟩
  ·exact h
  ·rw[allIn_spec i3 h6]at h7;cases h7
 refine wpIn_wide.1 (wpIn_range hgv (fun args w=>run_callFunc he args w) (hit us G.F) hps I Ix ?_ hput ?_ hputX ?_ ?_ ⟨Nat.zero_le _,G,hsat,fun _ h=>h⟩ ?_ ?_ ?_)
 ·rintro k A' B ⟨hk,G',h1,h2⟩ hb
  refine⟨hk,G',h1.world (SameW.below hb h1.frm.size) (mk fun D hD=>?_),h2⟩
  have h3:=defs h1.defers D hD
  rw[hb.block D (Array.getElem?_eq_some_iff.1 h3).1];exact h3
 ·rintro c A' B ⟨hk,G',h1,h2⟩ hb
  refine⟨hk,G',h1.world (SameW.below hb h1.frm.size) (mk fun D hD=>?_),h2⟩
  have h3:=defs h1.defers D hD
  rw[hb.block D (Array.getElem?_eq_some_iff.1 h3).1];exact h3
 ·rintro k A' ⟨hk,G',h1,h2⟩
  exact⟨_,rd k A' G' hk h1⟩
 ·intro B hb
  refine rd 0 B G (Nat.zero_le _) (hsat.world (SameW.below hb hW0) (mk fun D hD=>?_))
  rw[hb.block D (hDlt D hD)];exact (hD3 D hD).1
 ·rintro l k y A' hy ⟨hk,G',h1,h2⟩ hwl ⟨r,hr⟩
  by_cases hlt:k < kx
  ·have hym:=List.mem_of_getElem? hy
   obtain⟨ρ,g1,pre,post,ρ2,R⟩:=round k y hlt hy
   have hlen:=hps y hym
   have hzn:((ps.toList.zip y).map (·.1)).Nodup:=by
    have e:(ps.toList.zip y).map (·.1)=ps.toList:=by
     rw[List.map_fst_zip];simp[hlen]
    rw[e];exact nodupB_list hpsN
   have hzs:∀ q∈ps.toList.zip y,q.1 < a.tmps.size:=by
    intro q hq
    have h3:=List.all_eq_true.1 hpsl q.1 (List.of_mem_zip hq).1
    rw[h1.size]
    exact (by simpa [Nat.blt] using h3:q.1+1≤N)
   have hfold:(ps.zip y.toArray).foldl (fun t (p,v)=>t.setIfInBounds p v) a.tmps=(ps.toList.zip y).foldl (fun t (p,v)=>t.setIfInBounds p v) a.tmps:=by
    rw[←Array.foldl_toList];simp
   have hkeys:(psS ps.toList y++g1).all (fun q=>Nat.blt q.1 N)=true:=by
    rw[List.all_append,Bool.and_eq_true]
    refine⟨?_,R.keys⟩
    unfold psS
    rw[List.all_eq_true]
    intro q hq
    obtain⟨z,hz,rfl⟩:=List.mem_map.1 hq
    exact List.all_eq_true.1 hpsl z.1 (List.of_mem_zip hz).1
   obtain⟨hcall,hnw⟩:=CallOkG.fn (C:=RoundC P l assign body) RoundC.mono (round_fn (l:=l) hm hok1 hok2 hf1 hf2 hkeys R.run) ρ [] [] (h:=lkB (hs k)) R.chk (argPs_ren ρ (lkB (hs k)) _ (lkS (psS ps.toList y++g1)) (List.range N)) R.hpre trivial (.inl rfl)
   have hz:=fun t=>zip_get (ps:=ps.toList) (zs:=ps.toList.zip y) (arr:=a.tmps) (g1:=g1) (t:=t) hzn hzs
   have hrep:RepPs G' A' ((List.range N).map fun t=>(lkS (psS ps.toList y++g1) t).ren ρ) ((ps.toList.zip y).foldl (fun t (p,v)=>t.setIfInBounds p v) a.tmps).toList:=by
    rw[List.range_eq_range']
    refine RepPs.ofFn (by rw[Array.length_toList,(hz 0).2.2,h1.size]) fun t ht=>?_
    rw[Nat.zero_add]
    have e:((ps.toList.zip y).foldl (fun t (p,v)=>t.setIfInBounds p v) a.tmps).toList.getD t undef=((ps.toList.zip y).foldl (fun t (p,v)=>t.setIfInBounds p v) a.tmps).getD t undef:=by
     rw[Array.getD_eq_getD_getElem?,List.getD_eq_getElem?_getD,Array.getElem?_toList]
    rw[e]
    by_cases htm:t∈(ps.toList.zip y).map (·.1)
    ·obtain⟨⟨t',v⟩,hv,rfl⟩:=List.mem_map.1 htm
     obtain⟨h4,h5⟩:=(hz t').2.1 v hv
     show RepS G' A' ((lkS (psS ps.toList y++g1) t').ren ρ) _
     rw[show lkS (psS ps.toList y++g1) t' = .t (.lit v) from h4]
     rw[h5]
     unfold S.ren RepS Rep
     exact⟨rfl,hone y hym v (List.of_mem_zip hv).2⟩
    ·obtain⟨h4,h5⟩:=(hz t).1 htm
     show RepS G' A' ((lkS (psS ps.toList y++g1) t).ren ρ) _
     rw[show lkS (psS ps.toList y++g1) t=lkS g1 t from h4,h5]
     rcases slotsR_get (t:=t) R.slots with h6|h6
     ·rw[h6];unfold S.ren RepS;trivial
     ·rw[←h6];exact h1.slots t
   have hfr:=nwOk_spec R.fresh
   have hC:=hcall G' (lkB (hs k)) A' _ h1.heap hrep (fun _ _=>rfl) (fun l hl=>⟨(hfr l hl).1,(hfr l hl).2.2⟩) r hr
   rw[hfold]
   rw[Array.toArray_toList]at hC
   refine wpIn_mono hC ?_
   rintro e a1 w1 hp
   cases e with
   | normal=>
    refine⟨hp.1,hp.2.1,fun o' ho=>wpIn_mono (hp.2.2 o' ho) ?_⟩
    rintro e a2 w2 ⟨k1,k2,hp2⟩
    cases e with
    | normal=>
     obtain⟨v,G1,_,hx,_⟩:=hp2
     have s1:SatG N W0 G0 A G1 (lkS gs) (hupd (callE ρ [] [] pre post (.t (.lit (.bool true)))).u (lkB (hs k))) a (w2.putObj l (.loop r)):=
      ⟨h1.size,hx.defs h1.heap h1.defers,fun t=>RepS.keep hx.keep _ _ (fun l hl=>(hfr l hl).2.1 t) (h1.slots t),hx.heap,h1.frm.ext hx hnw⟩
     have s2:Sat N W0 G0 A ⟨gs,updB (callE ρ [] [] pre post (.t (.lit (.bool true)))).u (hs k)⟩ a (w2.putObj l (.loop r)):=by
      refine⟨G1,?_⟩
      have e:lkB (updB (callE ρ [] [] pre post (.t (.lit (.bool true)))).u (hs k))=hupd (callE ρ [] [] pre post (.t (.lit (.bool true)))).u (lkB (hs k)):=by funext j;rw[lkB_updB]
      show SatG N W0 G0 A G1 (lkS gs) (lkB (updB _ (hs k))) a _
      rw[e];exact s1
     have hw:=R.wk
     obtain⟨q1,q2,q3⟩:=hw
     have s3:SatG N W0 G0 A (wkGh ρ2 (lkB (updB (callE ρ [] [] pre post (.t (.lit (.bool true)))).u (hs k))) G1) (lkS gs) (lkB (hs (k+1))) a (w2.putObj l (.loop r)):=by
      have e:lkB (updB (callE ρ [] [] pre post (.t (.lit (.bool true)))).u (hs k))=hupd (callE ρ [] [] pre post (.t (.lit (.bool true)))).u (lkB (hs k)):=by funext j;rw[lkB_updB]
      have s1':=s1
      rw[←e]at s1'
      exact⟨s1.size,s1.defers,fun t=>wkS_spec s1'.heap _ _ _ (wkG_get t q2) (s1.slots t),wk_heap q1 s1'.heap q3,wk_from q1 q3 s1'.frm⟩
     have hl2:w2.heap[l]? = some o':=k2
     have hl2w:=(Array.getElem?_eq_some_iff.1 hl2).1
     have i1:I (k+1) (w2.putObj l (.loop r)):=⟨hlt,_,s3,fun b hb=> .inl (hx.keep.fsub b (h2 b hb))⟩
     have i2:=hput (k+1) _ l (.loop r) o' i1 (World.putObj_heap_same hl2w) rfl ho hwl
     rw[putObj_self hl2]at i2
     refine⟨k1,k2,fun b o hb=>?_,i2⟩
     rw[←hx.keep.fcell b o (h2 b hb)]
     exact (cell_putObj hl2 ho rfl b o).symm
    | _=>exact hp2.elim
   | _=>exact hp.elim
  ·obtain rfl:k=kx:=by omega
   have hym:=List.mem_of_getElem? hy
   obtain⟨ρ,g1,pre,post,ρ2,R⟩:=last y hy
   have hlen:=hps y hym
   have hzn:((ps.toList.zip y).map (·.1)).Nodup:=by
    have e:(ps.toList.zip y).map (·.1)=ps.toList:=by
     rw[List.map_fst_zip];simp[hlen]
    rw[e];exact nodupB_list hpsN
   have hzs:∀ q∈ps.toList.zip y,q.1 < a.tmps.size:=by
    intro q hq
    have h3:=List.all_eq_true.1 hpsl q.1 (List.of_mem_zip hq).1
    rw[h1.size]
    exact (by simpa [Nat.blt] using h3:q.1+1≤N)
   have hfold:(ps.zip y.toArray).foldl (fun t (p,v)=>t.setIfInBounds p v) a.tmps=(ps.toList.zip y).foldl (fun t (p,v)=>t.setIfInBounds p v) a.tmps:=by
    rw[←Array.foldl_toList];simp
   have hkeys:(psS ps.toList y++g1).all (fun q=>Nat.blt q.1 N)=true:=by
    rw[List.all_append,Bool.and_eq_true]
    refine⟨?_,R.keys⟩
    unfold psS
    rw[List.all_eq_true]
    intro q hq
    obtain⟨z,hz,rfl⟩:=List.mem_map.1 hq
    exact List.all_eq_true.1 hpsl z.1 (List.of_mem_zip hz).1
   obtain⟨hcall,hnw⟩:=CallOkG.fn (C:=RoundCX P l assign body) RoundCX.mono (round_fnX (l:=l) hm hok1 hok2 hf1 hf2 hkeys R.run) ρ [] [] (h:=lkB (hs k)) R.chk (argPs_ren ρ (lkB (hs k)) _ (lkS (psS ps.toList y++g1)) (List.range N)) R.hpre trivial (.inl rfl)
   have hz:=fun t=>zip_get (ps:=ps.toList) (zs:=ps.toList.zip y) (arr:=a.tmps) (g1:=g1) (t:=t) hzn hzs
   have hrep:RepPs G' A' ((List.range N).map fun t=>(lkS (psS ps.toList y++g1) t).ren ρ) ((ps.toList.zip y).foldl (fun t (p,v)=>t.setIfInBounds p v) a.tmps).toList:=by
    rw[List.range_eq_range']
    refine RepPs.ofFn (by rw[Array.length_toList,(hz 0).2.2,h1.size]) fun t ht=>?_
    rw[Nat.zero_add]
    have e:((ps.toList.zip y).foldl (fun t (p,v)=>t.setIfInBounds p v) a.tmps).toList.getD t undef=((ps.toList.zip y).foldl (fun t (p,v)=>t.setIfInBounds p v) a.tmps).getD t undef:=by
     rw[Array.getD_eq_getD_getElem?,List.getD_eq_getElem?_getD,Array.getElem?_toList]
    rw[e]
    by_cases htm:t∈(ps.toList.zip y).map (·.1)
    ·obtain⟨⟨t',v⟩,hv,rfl⟩:=List.mem_map.1 htm
     obtain⟨h4,h5⟩:=(hz t').2.1 v hv
     show RepS G' A' ((lkS (psS ps.toList y++g1) t').ren ρ) _
     rw[show lkS (psS ps.toList y++g1) t' = .t (.lit v) from h4]
     rw[h5]
     unfold S.ren RepS Rep
     exact⟨rfl,hone y hym v (List.of_mem_zip hv).2⟩
    ·obtain⟨h4,h5⟩:=(hz t).1 htm
     show RepS G' A' ((lkS (psS ps.toList y++g1) t).ren ρ) _
     rw[show lkS (psS ps.toList y++g1) t=lkS g1 t from h4,h5]
     rcases slotsR_get (t:=t) R.slots with h6|h6
     ·rw[h6];unfold S.ren RepS;trivial
     ·rw[←h6];exact h1.slots t
   have hfr:=nwOk_spec R.fresh
   have hC:=hcall G' (lkB (hs k)) A' _ h1.heap hrep (fun _ _=>rfl) (fun l hl=>⟨(hfr l hl).1,(hfr l hl).2.2⟩) r hr
   rw[hfold]
   rw[Array.toArray_toList]at hC
   refine wpIn_mono hC ?_
   rintro e a1 w1 hp
   cases e with
   | normal=>
    refine⟨hp.1,hp.2.1,fun o' ho=>wpIn_mono (hp.2.2 o' ho) ?_⟩
    rintro e a2 w2 ⟨k1,k2,hp2⟩
    cases e with
    | ret=>
     obtain⟨v,G1,_,hx,_⟩:=hp2
     have s1:SatG N W0 G0 A G1 (lkS gs) (hupd (callE ρ [] [] pre post (.t (.lit (.bool false)))).u (lkB (hs k))) a (w2.putObj l (.loop r)):=
      ⟨h1.size,hx.defs h1.heap h1.defers,fun t=>RepS.keep hx.keep _ _ (fun l hl=>(hfr l hl).2.1 t) (h1.slots t),hx.heap,h1.frm.ext hx hnw⟩
     have s2:Sat N W0 G0 A ⟨gs,updB (callE ρ [] [] pre post (.t (.lit (.bool false)))).u (hs k)⟩ a (w2.putObj l (.loop r)):=by
      refine⟨G1,?_⟩
      have e:lkB (updB (callE ρ [] [] pre post (.t (.lit (.bool false)))).u (hs k))=hupd (callE ρ [] [] pre post (.t (.lit (.bool false)))).u (lkB (hs k)):=by funext j;rw[lkB_updB]
      show SatG N W0 G0 A G1 (lkS gs) (lkB (updB _ (hs k))) a _
      rw[e];exact s1
     have hw:=R.wk
     obtain⟨q1,q2,q3⟩:=hw
     have s3:SatG N W0 G0 A (wkGh ρ2 (lkB (updB (callE ρ [] [] pre post (.t (.lit (.bool false)))).u (hs k))) G1) (lkS gs) (lkB hX) a (w2.putObj l (.loop r)):=by
      have e:lkB (updB (callE ρ [] [] pre post (.t (.lit (.bool false)))).u (hs k))=hupd (callE ρ [] [] pre post (.t (.lit (.bool false)))).u (lkB (hs k)):=by funext j;rw[lkB_updB]
      have s1':=s1
      rw[←e]at s1'
      exact⟨s1.size,s1.defers,fun t=>wkS_spec s1'.heap _ _ _ (wkG_get t q2) (s1.slots t),wk_heap q1 s1'.heap q3,wk_from q1 q3 s1'.frm⟩
     have hl2:w2.heap[l]? = some o':=k2
     have hl2w:=(Array.getElem?_eq_some_iff.1 hl2).1
     have i1:Ix .ret (w2.putObj l (.loop r)):=⟨rfl,_,s3,fun b hb=> .inl (hx.keep.fsub b (h2 b hb))⟩
     have i2:=hputX .ret _ l (.loop r) o' i1 (World.putObj_heap_same hl2w) rfl ho hwl
     rw[putObj_self hl2]at i2
     refine⟨k1,k2,fun b o hb=>?_,i2⟩
     rw[←hx.keep.fcell b o (h2 b hb)]
     exact (cell_putObj hl2 ho rfl b o).symm
    | _=>exact hp2.elim
   | _=>exact hp.elim
 ·rintro D W hD ⟨hk,G',h1,h2⟩ hWD
  omega
 ·rintro D c W hD ⟨rfl,G',h1,h2⟩ hWD
  refine wpIn_ret ⟨_,done,G',⟨h1.size,?_,h1.slots,h1.heap,h1.frm⟩⟩
  refine⟨D :: Ds,by simp[hD1],List.nodup_cons.2 ⟨fun hm=>?_,hD2⟩,fun D' hD'=>?_⟩
  ·have:=hDlt D hm;omega
  ·rcases List.mem_cons.1 hD' with rfl|hD'
   ·exact⟨hWD,by omega⟩
   ·exact⟨defs h1.defers D' hD',(hD3 D' hD').2⟩
end Go.Proofs.YtdjmklobfjigoaaGreatDoor.Sy
namespace Go.Proofs.YtdjmklobfjigoaaGreatDoor
open Go.RowKit Sy
open Go.IntWalk renaming iteOmega → iO, toNatUp → tN
namespace Sy
def ThenKX (N:Nat) (P:Program) (body:Code) (post:List (Nat×Blk)) (e:Exit) (τ:St):Prop:=match e with
 | .normal=>NfK N P body (EndX post) τ
 | _=>False
@[go_sem] theorem ThenKX_normal (N:Nat) (P:Program) (body:Code) (post:List (Nat×Blk)) (τ:St):ThenKX N P body post .normal τ=NfK N P body (EndX post) τ:=rfl
attribute [go_sem] EndX_ret
theorem ThenKX_eq (N:Nat) (P:Program) (body:Code) (post:List (Nat×Blk)):ThenKX N P body post=ThenX N P body post:=by
 funext e τ
 cases e with
 | normal=>show NfK N P body (EndX post) τ=nf N P [] body (EndX post) τ;unfold NfK;rfl
 | _=>rfl
theorem nfK0X {N:Nat} {P:Program} {a b:Code} {post:List (Nat×Blk)} {σ:St} (h:nfS N P a (ThenKX N P b post) σ):nf N P [] a (ThenX N P b post) σ:=by
 rw[ThenKX_eq]at h
 exact nfS_sound a _ σ h
end Sy
theorem apush_err (d:LineD) (hd:LineOk d) (order:T) (w6:order.width=1) (fi gi oo:List (Option (List (Int×Int)))) (hg:gi.length=d.segs.length) (hfl:fi.length=d.segs.length) (s:Nat) (r:Int) (f l:List (Int×Int)) (hr:d.rates[s]? = some r) (hf:fi[s]? = some (some f))
  (hf6:f.length≤1000000) (hl6:l.length≤1000000) (he:pushE f l (decide (r < 0))≠0) :
  FnOk Tryz.prog 71 [.pt 0 [] 0,.t (.int s),.t (encPs l)] [(0,lineB d.net d.plan (.sl 1 (d.feeds.map encI)) order),(1,blkG fi),(2,blkG gi),(3,blkG oo)]
   (.t (.int 4)) [(0,lineB d.net d.plan (.sl 1 (d.feeds.map encI)) order),(1,blkG fi),(2,blkG gi),(3,blkG oo)]:=by
 have w1:=hd.w1
 have w2:=hd.w2
 have w3:=hd.w3
 have w4:=hd.w4
 have w5:=hd.w5
 have q1:s < d.rates.length:=(List.getElem?_eq_some_iff.1 hr).1
 have q2:s < fi.length:=(List.getElem?_eq_some_iff.1 hf).1
 have q3:s < gi.length:=by omega
 have hmx:=hd.maxS
 have r2:d.rates[s]=r:=(List.getElem?_eq_some_iff.1 hr).2
 have f2:fi[s]=some f:=(List.getElem?_eq_some_iff.1 hf).2
 have hlr:=hd.lenR
 refine FnOk.intro fact_mixed Tryz.func71 rfl Tryz.ntmps71 (by rfl) (by simp) ?_
 by_cases hn:r < 0
 ·have e0:decide (r < 0)=true:=by simpa using hn
  rw[e0]at he
  unfold pushE at he
  simp only[if_true]at he
  have p1:=push_fn f l true hf6 hl6
  obtain⟨E,hE⟩:∃ E,(Pc.push f l true).2.2=E:=⟨_,rfl⟩
  obtain⟨F',hF⟩:∃ F',(Pc.push f l true).1=F':=⟨_,rfl⟩
  obtain⟨O,hO⟩:∃ O,(Pc.push f l true).2.1=O:=⟨_,rfl⟩
  rw[hE]at he
  rw[hF,hO,hE]at p1
  repeat (first|(refine n1s rfl ?_;simp[go_sem,↓iO,iO,tN,hr,r2,hn,hf,f2,w1,w2,w3,w4,w5,w6,q1,q2,widths_gv,width_gv])|refine anI ?_|refine⟨dcK,?_⟩|refine iP ?_|refine iN ?_)
  refine cF (p1) [(1000,600),(1001,601)] ?_ ?_ ?_ ?_<;>simp[go_sem,↓iO,iO,tN,hr,r2,hn,hf,f2,w1,w2,w3,w4,w5,w6,q1,q2,widths_gv,width_gv]
  repeat (first|(refine n1s rfl ?_;simp[go_sem,↓iO,iO,tN,he])|refine anI ?_|refine⟨dcK,?_⟩|refine iP ?_|refine iN ?_)
  first|rw[TqR]|rw[TqN]
  refine⟨[(0,some 0),(1,some 1),(2,some 2),(3,some 3)],?_⟩
  simp[go_sem,↓iO,iO,tN]
 ·have e0:decide (r < 0)=false:=by simpa using hn
  rw[e0]at he
  unfold pushE at he
  simp only[if_false,Bool.false_eq_true]at he
  have p1:=push_fn f l.reverse false hf6 (by simpa using hl6)
  obtain⟨E,hE⟩:∃ E,(Pc.push f l.reverse false).2.2=E:=⟨_,rfl⟩
  obtain⟨F',hF⟩:∃ F',(Pc.push f l.reverse false).1=F':=⟨_,rfl⟩
  obtain⟨O,hO⟩:∃ O,(Pc.push f l.reverse false).2.1=O:=⟨_,rfl⟩
  rw[hE]at he
  rw[hF,hO,hE]at p1
  have t1:=aturned_fn l hl6
  obtain⟨L,hL⟩:∃ L,l.reverse=L:=⟨_,rfl⟩
  rw[hL]at p1 t1
  repeat (first|(refine n1s rfl ?_;simp[go_sem,↓iO,iO,tN,hr,r2,hn,hf,f2,w1,w2,w3,w4,w5,w6,q1,q2,widths_gv,width_gv])|refine anI ?_|refine⟨dcK,?_⟩|refine iP ?_|refine iN ?_)
  refine cF (t1) [(1000,602)] ?_ ?_ ?_ ?_<;>simp[go_sem,↓iO,iO,tN,hr,r2,hn,hf,f2,w1,w2,w3,w4,w5,w6,q1,q2,widths_gv,width_gv]
  repeat (first|(refine n1s rfl ?_;simp[go_sem,↓iO,iO,tN,hr,r2,hn,hf,f2,w1,w2,w3,w4,w5,w6,q1,q2,widths_gv,width_gv])|refine anI ?_|refine⟨dcK,?_⟩|refine iP ?_|refine iN ?_)
  refine CallK.fn (p1) [(1000,600),(1001,601)] [602] [] (by kernel_rfl) ?_ ?_ ?_ (Or.inr ⟨?_,?_⟩) ?_<;>simp[go_sem,↓iO,iO,tN,hr,r2,hn,hf,f2,w1,w2,w3,w4,w5,w6,q1,q2,widths_gv,width_gv]
  repeat (first|(refine n1s rfl ?_;simp[go_sem,↓iO,iO,tN,he])|refine anI ?_|refine⟨dcK,?_⟩|refine iP ?_|refine iN ?_)
  first|rw[TqR]|rw[TqN]
  refine⟨[(0,some 0),(1,some 1),(2,some 2),(3,some 3)],?_⟩
  simp[go_sem,↓iO,iO,tN]
end Go.Proofs.YtdjmklobfjigoaaGreatDoor
namespace Go.Proofs.YtdjmklobfjigoaaGreatDoor
open Go.RowKit Sy Dl
open Go.IntWalk renaming iteOmega → iO, toNatUp → tN
theorem node_all (d:LineD) (hd:LineOk d) (order:T) (w6:order.width=1) (fi gi oo:List (Option (List (Int×Int)))) (node:Int) (hg:gi.length=d.segs.length) (hfl:fi.length=d.segs.length) (hol:oo.length=d.ports.length) (hS:Pc.Sane (comesV d gi node)) (hnz:∀ z∈segYs node true 0 (d.segs.map (·.1)) d.rates,∀ p∈gvAt gi z,p.2≠0)
  (l:List (Int×Int)) (hl:Pc.join (comesV d gi node)=l) (hne:l≠[]) (hl2:l.length≤200) (P Sg:List (Nat×Int)) (hP:prtYs node false 0 d.ports d.prates=P) (hSg:segYs node false 0 (d.segs.map (·.1)) d.rates=Sg) (x:List (List (Int×Int))) (hx:dealV l (P.map (·.2)++Sg.map (·.2))=(x,0)) (hxl:x.length=P.length+Sg.length)
  (K:Nat) (hK:K≤Sg.length) (E:Int) (hE:(K=Sg.length∧E=0)∨(K < Sg.length∧E=4)) (hpush:∀ (k:Nat) (y:Nat×Int),k < K→Sg[k]? = some y→(∃ f,fi[y.1]? = some (some f)∧f.length≤1000000)∧(x.getD (P.length+k) []).length≤1000000∧(outV (gvAt fi y) (x.getD (P.length+k) []) (backAt d.rates y)).length≤1000000∧pushE (gvAt fi y) (x.getD (P.length+k) []) (backAt d.rates y)=0)
  (hfail:∀ y:Nat×Int,Sg[K]? = some y→(∃ f,fi[y.1]? = some (some f)∧f.length≤1000000)∧(x.getD (P.length+K) []).length≤1000000∧pushE (gvAt fi y) (x.getD (P.length+K) []) (backAt d.rates y)≠0) :
  FnOk Tryz.prog 51 [.pt 0 [] 0,.t (.int node)] [(0,lineB d.net d.plan (.sl 1 (d.feeds.map encI)) order),(1,blkG fi),(2,blkG gi),(3,blkG oo)]
   (.t (.int E)) [(0,lineB d.net d.plan (.sl 1 (d.feeds.map encI)) order),(1,blkG (setK fi Sg (nodeF d.rates fi x P.length) K)),(2,blkG (setK gi Sg (nodeG d.rates fi x P.length) K)),(3,blkG (outO oo P x P.length))]:=by
 have s1:=stream_fn d hd order w6 fi gi oo node hg hS hnz
 rw[hl]at s1
 have P_len:∀ k,((P.take k).map (·.2)).length≤1000:=fun k=>by
  have:=prtYs_len2 node false 0 d.ports d.prates
  have:=hd.maxP
  rw[hP]at *
  simp;omega
 have S_len:∀ k,(P.map (·.2)++(Sg.take k).map (·.2)).length≤2000:=fun k=>by
  have:=prtYs_len2 node false 0 d.ports d.prates
  have:=segYs_len2 node false 0 (d.segs.map (·.1)) d.rates
  have:=hd.maxP
  have:=hd.maxS
  rw[hP]at *
  rw[hSg]at *
  simp at *;omega
 have hPl:P.length≤1000:=by
  have:=prtYs_len2 node false 0 d.ports d.prates
  have:=hd.maxP
  rw[hP]at *
  omega
 have hSl:Sg.length≤1000:=by
  have:=segYs_len2 node false 0 (d.segs.map (·.1)) d.rates
  have:=hd.maxS
  rw[hSg]at *
  simp at *;omega
 have hPg:∀ y∈P,y.1 < d.ports.length:=fun y hy=>by
  rw[←hP]at hy
  have:=(prtYs_get hy).2.1
  omega
 have hSGg:∀ y∈Sg,y.1 < d.segs.length:=fun y hy=>by
  rw[←hSg]at hy
  have:=(segYs_get hy).2.1
  simpa using this
 have hinc:Sg.Pairwise (fun a b=>a.1 < b.1):=by rw[←hSg];exact segYs_inc _ _ _ _ _
 have w1:=hd.w1
 have w2:=hd.w2
 have w3:=hd.w3
 have w4:=hd.w4
 have w5:=hd.w5
 have dl:=deal_fn l (P.map (·.2)++Sg.map (·.2)) (by omega) (by simp;omega) x 0 hx
 have hlp:0 < l.length:=List.length_pos_iff.2 hne
 refine FnOk.intro fact_mixed Tryz.func51 rfl Tryz.ntmps51 (by rfl) (by simp) ?_
 repeat (first|(refine n1s rfl ?_;simp[go_sem,↓iO,iO,tN])|refine anI ?_|refine⟨dcK,?_⟩|refine iP ?_|refine iN ?_)
 refine cF (s1) [(0,0),(1,1),(2,2),(3,3),(1000,510)] ?_ ?_ ?_ ?_<;>simp[go_sem,↓iO,iO,tN]
 repeat (first|(refine n1s rfl ?_;simp[go_sem,↓iO,iO,tN])|refine anI ?_|refine⟨dcK,?_⟩|refine iP ?_|refine iN ?_)
 refine cF (ports_fn d.net d.plan (.sl 1 (d.feeds.map encI)) order fi gi oo node false) [(0,0),(1,1),(2,2),(3,3),(1000,500),(1001,501),(1002,502)] ?_ ?_ ?_ ?_<;>simp[go_sem,↓iO,iO,tN]
 repeat (refine anI ?_)
 try (refine⟨dcK,?_⟩)
 refine nf1_sound' _ _ _ ?_;simp only[nf1]
 refine CW.rangeF (N:=87) [(0,.pt 0 [] 0),(1,.t (.int node)),(2,.pt 102 [] 0),(4,.pt 104 [] 0),(5,.own 510),(6,.pt 106 [] 0),(28,.fn 98 [.pt 500 [] 0,.pt 501 [] 0,.pt 502 [] 0])]
  (fun k=>[(0,lineB d.net d.plan (.sl 1 (d.feeds.map encI)) order),(1,blkG fi),(2,blkG gi),(3,blkG oo),(102,.box 71 (.pt 0 [] 0)),(104,.box 46 (.t (.int 0))),(510,blkP l),(106,.box 22 (.own 520)),(520,.list 3 1 (((P.take k).map (·.2)).map encI)),(500,.box 71 (.pt 0 [] 0)),(501,.box 3 (.t (.int node))),(502,.box 4 (.t (.bool false)))])
  [(0,some 0),(1,some 1),(2,some 2),(3,some 3),(102,some 102),(104,some 104),(510,some 510),(106,some 106),(520,none),(500,some 500),(501,some 501),(502,some 502)]
  (lineI 500 501 502 0 (.t (.int node)) (.t (.bool false)) 3 4 d.net d.plan [.t (.sl 1 (d.feeds.map encI)),.t order,.own 1,.own 2,.own 3]) (P.map encY)
  [(0,some 0),(1,some 1),(2,some 2),(3,some 3),(102,some 102),(104,some 104),(510,some 510),(106,some 106),(520,some 520),(500,some 500),(501,some 501),(502,some 502)]
  ?_ rfl (by kernel_rfl) (by kernel_rfl) (by kernel_rfl) (by kernel_rfl) (by kernel_rfl) (by kernel_rfl) (by kernel_rfl) ?_ ?_ ?_ rfl ?_ ?_ ?_
 ·simp[go_sem,↓iO,iO,tN]
 ·intro y hy
  obtain⟨z,_,rfl⟩:=List.mem_map.1 hy
  rfl
 ·intro y hy v hv
  obtain⟨z,_,rfl⟩:=List.mem_map.1 hy
  simp[encY]at hv
  rcases hv with rfl|rfl<;>rfl
 ·rw[←hP]
  exact ports_iter 500 501 502 0 rfl node false d.nodes (.sl 7 (d.segs.map encSg)) d.stat d.ports d.vap d.stl (.sl 1 (d.rates.map encI)) d.pumps d.prates _ hd.w1 rfl rfl hd.w2 hd.w3 hd.w4 hd.lenP hd.neP hd.maxP (fun r hr=>by have:=hd.bP r hr;omega)
 ·intro k hk
  simp[go_sem,↓iO,iO,tN,lineI]
  rfl
 ·intro k y hy
  obtain⟨z,hz,rfl⟩:∃ z,P[k]? = some z∧y=encY z:=by
   rw[List.getElem?_map]at hy
   obtain⟨z,h1,h2⟩:=Option.map_eq_some_iff.1 hy
   exact⟨z,h1,h2.symm⟩
  have hkl:k < P.length:=(List.getElem?_eq_some_iff.1 hz).1
  obtain⟨z1,z2⟩:=z
  have e1:((P.take k).map (·.2)).map encI++[.int z2]=((P.take (k+1)).map (·.2)).map encI:=by
   obtain⟨hk,e⟩:=List.getElem?_eq_some_iff.1 hz
   rw[List.take_succ_eq_append_getElem hk,e];simp[encI]
  have hlen:=P_len k
  refine⟨[(0,106),(1,520),(1000,521)],[(6,.pt 0 [] 0)],[(0,.box 22 (.own 1)),(1,.list 3 1 (((P.take k).map (·.2)).map encI))],[(0,.box 22 (.own 1000)),(1000,.list 3 1 (((P.take (k+1)).map (·.2)).map encI))],[(0,some 0),(1,some 1),(2,some 2),(3,some 3),(102,some 102),(104,some 104),(510,some 510),(106,some 106),(520,some 521),(500,some 500),(501,some 501),(502,some 502)],?_⟩
  refine⟨by kernel_rfl,?_,?_,rfl,by kernel_rfl,?_,?_⟩
  ·simp[go_sem,↓iO,iO,tN]
  ·simp[go_sem,↓iO,iO,tN,slotsR,S.ren]
  ·rw[←e1]
   obtain⟨V,hV⟩:∃ V,(P.take k).map (·.2)=V:=⟨_,rfl⟩
   rw[hV]at hlen ⊢
   simp[go_sem,↓iO,iO,tN,psS,encY]
   repeat (refine anI ?_)
   refine⟨[(0,some 0),(1000,some 134)],?_⟩
   simp[go_sem,↓iO,iO,tN]
  ·simp[go_sem,↓iO,iO,tN]
 ·have hpl:(P.map encY).length=P.length:=by simp
  rw[hpl]
  simp[go_sem,↓iO,iO,tN,List.take_length]
  repeat (first|(refine n1s rfl ?_;simp[go_sem,↓iO,iO,tN])|refine anI ?_|refine⟨dcK,?_⟩|refine iP ?_|refine iN ?_)
  refine cF (segments_fn d.net d.plan (.sl 1 (d.feeds.map encI)) order fi gi oo node false) [(0,0),(1,1),(2,2),(3,3),(1000,530),(1001,531),(1002,532)] ?_ ?_ ?_ ?_<;>simp[go_sem,↓iO,iO,tN]
  repeat (refine anI ?_)
  try (refine⟨dcK,?_⟩)
  refine nf1_sound' _ _ _ ?_;simp only[nf1]
  refine CW.rangeF (N:=87) [(0,.pt 0 [] 0),(1,.t (.int node)),(2,.pt 102 [] 0),(4,.pt 104 [] 0),(5,.own 510),(6,.pt 106 [] 0),(37,.fn 99 [.pt 530 [] 0,.pt 531 [] 0,.pt 532 [] 0])]
   (fun k=>[(0,lineB d.net d.plan (.sl 1 (d.feeds.map encI)) order),(1,blkG fi),(2,blkG gi),(3,blkG oo),(102,.box 71 (.pt 0 [] 0)),(104,.box 46 (.t (.int 0))),(510,blkP l),(106,.box 22 (.own 520)),(520,.list 3 1 ((P.map (·.2)++(Sg.take k).map (·.2)).map encI)),(530,.box 71 (.pt 0 [] 0)),(531,.box 4 (.t (.bool false))),(532,.box 3 (.t (.int node)))])
   [(0,some 0),(1,some 1),(2,some 2),(3,some 3),(102,some 102),(104,some 104),(510,some 510),(106,some 106),(520,some 520),(530,some 530),(531,some 531),(532,some 532)]
   (lineI 530 531 532 0 (.t (.bool false)) (.t (.int node)) 4 3 d.net d.plan [.t (.sl 1 (d.feeds.map encI)),.t order,.own 1,.own 2,.own 3]) (Sg.map encY)
   [(0,some 0),(1,some 1),(2,some 2),(3,some 3),(102,some 102),(104,some 104),(510,some 510),(106,some 106),(520,some 520),(530,some 530),(531,some 531),(532,some 532)]
   ?_ rfl (by kernel_rfl) (by kernel_rfl) (by kernel_rfl) (by kernel_rfl) (by kernel_rfl) (by kernel_rfl) (by kernel_rfl) ?_ ?_ ?_ rfl ?_ ?_ ?_
  ·simp[go_sem,↓iO,iO,tN]
  ·intro y hy
   obtain⟨z,_,rfl⟩:=List.mem_map.1 hy
   rfl
  ·intro y hy v hv
   obtain⟨z,_,rfl⟩:=List.mem_map.1 hy
   simp[encY]at hv
   rcases hv with rfl|rfl<;>rfl
  ·rw[←hSg]
   exact segs_iter 530 531 532 0 rfl node false d.nodes (.sl 3 (d.ports.map encPr)) d.stat d.segs d.vap d.stl (.sl 1 (d.prates.map encI)) d.pumps d.rates _ hd.w1 rfl hd.w2 hd.w3 hd.w4 hd.lenR hd.neS hd.maxS (fun r hr=>by have:=hd.bR r hr;omega)
  ·intro k hk
   simp[go_sem,↓iO,iO,tN,lineI]
   rfl
  ·intro k y hy
   obtain⟨z,hz,rfl⟩:∃ z,Sg[k]? = some z∧y=encY z:=by
    rw[List.getElem?_map]at hy
    obtain⟨z,h1,h2⟩:=Option.map_eq_some_iff.1 hy
    exact⟨z,h1,h2.symm⟩
   have hkl:k < Sg.length:=(List.getElem?_eq_some_iff.1 hz).1
   obtain⟨z1,z2⟩:=z
   have e1:(P.map (·.2)++(Sg.take k).map (·.2)).map encI++[.int z2]=(P.map (·.2)++(Sg.take (k+1)).map (·.2)).map encI:=by
    obtain⟨hk,e⟩:=List.getElem?_eq_some_iff.1 hz
    rw[List.take_succ_eq_append_getElem hk,e];simp[encI]
   have hlen:=S_len k
   refine⟨[(0,106),(1,520),(1000,521)],[(6,.pt 0 [] 0)],[(0,.box 22 (.own 1)),(1,.list 3 1 ((P.map (·.2)++(Sg.take k).map (·.2)).map encI))],[(0,.box 22 (.own 1000)),(1000,.list 3 1 ((P.map (·.2)++(Sg.take (k+1)).map (·.2)).map encI))],[(0,some 0),(1,some 1),(2,some 2),(3,some 3),(102,some 102),(104,some 104),(510,some 510),(106,some 106),(520,some 521),(530,some 530),(531,some 531),(532,some 532)],?_⟩
   refine⟨by kernel_rfl,?_,?_,rfl,by kernel_rfl,?_,?_⟩
   ·simp[go_sem,↓iO,iO,tN]
   ·simp[go_sem,↓iO,iO,tN,slotsR,S.ren]
   ·rw[←e1]
    obtain⟨V,hV⟩:∃ V,P.map (·.2)++(Sg.take k).map (·.2)=V:=⟨_,rfl⟩
    rw[hV]at hlen ⊢
    simp[go_sem,↓iO,iO,tN,psS,encY]
    repeat (refine anI ?_)
    refine⟨[(0,some 0),(1000,some 143)],?_⟩
    simp[go_sem,↓iO,iO,tN]
   ·simp[go_sem,↓iO,iO,tN]
  ·have hsl:(Sg.map encY).length=Sg.length:=by simp
   rw[hsl]
   obtain⟨R,hR⟩:∃ R,P.map (·.2)++Sg.map (·.2)=R:=⟨_,rfl⟩
   rw[hR]at dl
   simp only[List.take_length,hR]
   refine CW.weak (ρ:=[(0,some 0),(1,some 1),(2,some 2),(3,some 3),(102,some 102),(104,some 104),(106,some 106)]) (σ':=⟨[(0,.pt 0 [] 0),(1,.t (.int node)),(2,.pt 102 [] 0),(4,.pt 104 [] 0),(5,.t (encPs l)),(6,.pt 106 [] 0)],[(0,lineB d.net d.plan (.sl 1 (d.feeds.map encI)) order),(1,blkG fi),(2,blkG gi),(3,blkG oo),(102,.box 71 (.pt 0 [] 0)),(104,.box 46 (.t (.int 0))),(106,.box 22 (.t (encIs R)))]⟩) ?_ ?_
   ·simp[go_sem,↓iO,iO,tN]
   repeat (first|(refine n1s rfl ?_;simp[go_sem,↓iO,iO,tN])|refine anI ?_|refine⟨dcK,?_⟩|refine iP ?_|refine iN ?_)
   refine cF (dl) [] ?_ ?_ ?_ ?_<;>simp[go_sem,↓iO,iO,tN]
   repeat (first|(refine n1s rfl ?_;simp[go_sem,↓iO,iO,tN])|refine anI ?_|refine⟨dcK,?_⟩|refine iP ?_|refine iN ?_)
   refine cF (ports_fn d.net d.plan (.sl 1 (d.feeds.map encI)) order fi gi oo node false) [(0,0),(1,1),(2,2),(3,3),(1000,540),(1001,541),(1002,542)] ?_ ?_ ?_ ?_<;>simp[go_sem,↓iO,iO,tN]
   repeat (refine anI ?_)
   try (refine⟨dcK,?_⟩)
   refine nf1_sound' _ _ _ ?_;simp only[nf1]
   refine CW.rangeF (N:=87) [(0,.pt 0 [] 0),(1,.t (.int node)),(2,.pt 102 [] 0),(4,.pt 104 [] 0),(11,.pt 111 [] 0),(13,.pt 113 [] 0),(55,.fn 98 [.pt 540 [] 0,.pt 541 [] 0,.pt 542 [] 0])]
    (fun k=>[(0,lineB d.net d.plan (.sl 1 (d.feeds.map encI)) order),(1,blkG fi),(2,blkG gi),(3,blkG (outO oo P x k)),(102,.box 71 (.pt 0 [] 0)),(104,.box 46 (.t (.int 0))),(111,.box 42 (.t (.sl 1 (x.map encPs)))),(113,.box 3 (.t (.int k))),(540,.box 71 (.pt 0 [] 0)),(541,.box 3 (.t (.int node))),(542,.box 4 (.t (.bool false)))])
    [(0,some 0),(1,some 1),(2,some 2),(3,some 3),(102,some 102),(104,some 104),(111,some 111),(113,some 113),(540,some 540),(541,some 541),(542,some 542)]
    (lineI 540 541 542 0 (.t (.int node)) (.t (.bool false)) 3 4 d.net d.plan [.t (.sl 1 (d.feeds.map encI)),.t order,.own 1,.own 2,.own 3]) (P.map encY)
    [(0,some 0),(1,some 1),(2,some 2),(3,some 3),(102,some 102),(104,some 104),(111,some 111),(113,some 113),(540,some 540),(541,some 541),(542,some 542)]
    ?_ rfl (by kernel_rfl) (by kernel_rfl) (by kernel_rfl) (by kernel_rfl) (by kernel_rfl) (by kernel_rfl) (by kernel_rfl) ?_ ?_ ?_ rfl ?_ ?_ ?_
   ·simp[go_sem,↓iO,iO,tN,outO]
   ·intro y hy
    obtain⟨z,_,rfl⟩:=List.mem_map.1 hy
    rfl
   ·intro y hy v hv
    obtain⟨z,_,rfl⟩:=List.mem_map.1 hy
    simp[encY]at hv
    rcases hv with rfl|rfl<;>rfl
   ·rw[←hP]
    exact ports_iter 540 541 542 0 rfl node false d.nodes (.sl 7 (d.segs.map encSg)) d.stat d.ports d.vap d.stl (.sl 1 (d.rates.map encI)) d.pumps d.prates _ hd.w1 rfl rfl hd.w2 hd.w3 hd.w4 hd.lenP hd.neP hd.maxP (fun r hr=>by have:=hd.bP r hr;omega)
   ·intro k hk
    simp[go_sem,↓iO,iO,tN,lineI]
    rfl
   ·intro k y hy
    obtain⟨z,hz,rfl⟩:∃ z,P[k]? = some z∧y=encY z:=by
     rw[List.getElem?_map]at hy
     obtain⟨z,h1,h2⟩:=Option.map_eq_some_iff.1 hy
     exact⟨z,h1,h2.symm⟩
    have hkl:k < P.length:=(List.getElem?_eq_some_iff.1 hz).1
    obtain⟨z1,z2⟩:=z
    have hzl:=hPg _ (List.mem_of_getElem? hz)
    dsimp only at hzl
    have hol2:=outO_len oo P x k
    obtain⟨s,hs⟩:∃ s,x[k]? = some s:=has_get (by omega)
    have hos:outO oo P x (k+1)=(outO oo P x k).set z1 (some s):=by
     simp only[outO,List.getD_eq_getElem?_getD,hz,hs,Option.getD_some]
    refine⟨[(0,0),(1,1),(2,2),(3,3),(4,102),(5,111),(6,113)],[(2,.pt 4 [] 0),(11,.pt 5 [] 0),(13,.pt 6 [] 0)],
     [(0,lineB d.net d.plan (.sl 1 (d.feeds.map encI)) order),(1,blkG fi),(2,blkG gi),(3,blkG (outO oo P x k)),(4,.box 71 (.pt 0 [] 0)),(5,.box 42 (.t (.sl 1 (x.map encPs)))),(6,.box 3 (.t (.int k)))],
     [(0,lineB d.net d.plan (.sl 1 (d.feeds.map encI)) order),(1,blkG fi),(2,blkG gi),(3,blkG (outO oo P x (k+1))),(4,.box 71 (.pt 0 [] 0)),(5,.box 42 (.t (.sl 1 (x.map encPs)))),(6,.box 3 (.t (.int (k+1))))],
     [(0,some 0),(1,some 1),(2,some 2),(3,some 3),(102,some 102),(104,some 104),(111,some 111),(113,some 113),(540,some 540),(541,some 541),(542,some 542)],?_⟩
    refine⟨by kernel_rfl,?_,?_,rfl,by kernel_rfl,?_,?_⟩
    ·simp[go_sem,↓iO,iO,tN]
    ·simp[go_sem,↓iO,iO,tN,slotsR,S.ren]
    ·rw[hos]
     obtain⟨V,hV⟩:∃ V,outO oo P x k=V:=⟨_,rfl⟩
     rw[hV]at hol2 ⊢
     obtain⟨og,hgo⟩:∃ og,V[z1]? = some og:=has_get (by omega)
     have hvz:z1 < V.length:=by omega
     have hsx:k < x.length:=by omega
     have hs2:x[k]=s:=(List.getElem?_eq_some_iff.1 hs).2
     have hv2:V[z1]=og:=(List.getElem?_eq_some_iff.1 hgo).2
     refine nfK0 ?_;simp[go_sem,↓iO,iO,tN,psS,encY];(repeat (refine anI ?_));try (refine⟨dcK,?_⟩)
     repeat (first|(refine nfK1 ?_;simp (maxSteps:=1000000) [go_sem,↓iO,iO,tN,hs,hgo,hvz,hv2,hsx,hs2,w1,w2,w3,w4,w5,w6,widths_gv,width_gv];(repeat (refine anI ?_));try (refine⟨dcK,?_⟩))|((first|refine itePos (by omega) ?_|refine iteNeg (by omega) ?_);try simp[go_sem,↓iO,iO,tN,hs,hgo,hvz,hv2,hsx,hs2,w1,w2,w3,w4,w5,w6,widths_gv,width_gv])|(refine⟨dcK,?_⟩))
     refine⟨by cases og<;>rfl,?_⟩
     repeat (refine anI ?_)
     refine⟨dcK,?_⟩
     repeat (first|(refine nfK1 ?_;simp (maxSteps:=1000000) [go_sem,↓iO,iO,tN];(repeat (refine anI ?_));try (refine⟨dcK,?_⟩))|((first|refine itePos (by omega) ?_|refine iteNeg (by omega) ?_);try simp[go_sem,↓iO,iO,tN])|(refine⟨dcK,?_⟩))
     refine⟨[(0,some 0),(1,some 1),(2,some 2),(3,some 3),(4,some 4),(5,some 5),(6,some 6)],?_⟩
     simp[go_sem,↓iO,iO,tN,List.map_set]
    ·simp[go_sem,↓iO,iO,tN]
   ·have hpl:(P.map encY).length=P.length:=by simp
    rw[hpl]
    obtain⟨O,hO⟩:∃ O,outO oo P x P.length=O:=⟨_,rfl⟩
    rw[hO]
    repeat (first|(refine n1s rfl ?_;simp[go_sem,↓iO,iO,tN])|refine anI ?_|refine⟨dcK,?_⟩|refine iP ?_|refine iN ?_)
    refine cF (segments_fn d.net d.plan (.sl 1 (d.feeds.map encI)) order fi gi O node false) [(0,0),(1,1),(2,2),(3,3),(1000,550),(1001,551),(1002,552)] ?_ ?_ ?_ ?_<;>simp[go_sem,↓iO,iO,tN]
    repeat (refine anI ?_)
    try (refine⟨dcK,?_⟩)
    rcases hE with ⟨rfl,rfl⟩|⟨hKl,rfl⟩
    ·refine nf1_sound' _ _ _ ?_;simp only[nf1]
     refine CW.rangeF (N:=87) [(0,.pt 0 [] 0),(1,.t (.int node)),(2,.pt 102 [] 0),(4,.pt 104 [] 0),(11,.pt 111 [] 0),(13,.pt 113 [] 0),(72,.fn 99 [.pt 550 [] 0,.pt 551 [] 0,.pt 552 [] 0])]
      (fun k=>[(0,lineB d.net d.plan (.sl 1 (d.feeds.map encI)) order),(1,blkG (setK fi Sg (nodeF d.rates fi x P.length) k)),(2,blkG (setK gi Sg (nodeG d.rates fi x P.length) k)),(3,blkG O),(102,.box 71 (.pt 0 [] 0)),(104,.box 46 (.t (.int 0))),(111,.box 42 (.t (.sl 1 (x.map encPs)))),(113,.box 3 (.t (.int ((P.length+k:Nat):Int)))),(550,.box 71 (.pt 0 [] 0)),(551,.box 4 (.t (.bool false))),(552,.box 3 (.t (.int node)))])
      [(0,some 0),(1,some 1),(2,some 2),(3,some 3),(102,some 102),(104,some 104),(111,some 111),(113,some 113),(550,some 550),(551,some 551),(552,some 552)]
      (lineI 550 551 552 0 (.t (.bool false)) (.t (.int node)) 4 3 d.net d.plan [.t (.sl 1 (d.feeds.map encI)),.t order,.own 1,.own 2,.own 3]) (Sg.map encY)
      [(0,some 0),(1,some 1),(2,some 2),(3,some 3),(102,some 102),(104,some 104),(111,some 111),(113,some 113),(550,some 550),(551,some 551),(552,some 552)]
      ?_ rfl (by kernel_rfl) (by kernel_rfl) (by kernel_rfl) (by kernel_rfl) (by kernel_rfl) (by kernel_rfl) (by kernel_rfl) ?_ ?_ ?_ rfl ?_ ?_ ?_
     ·simp[go_sem,↓iO,iO,tN,setK]
     ·intro y hy
      obtain⟨z,_,rfl⟩:=List.mem_map.1 hy
      rfl
     ·intro y hy v hv
      obtain⟨z,_,rfl⟩:=List.mem_map.1 hy
      simp[encY]at hv
      rcases hv with rfl|rfl<;>rfl
     ·rw[←hSg]
      exact segs_iter 550 551 552 0 rfl node false d.nodes (.sl 3 (d.ports.map encPr)) d.stat d.segs d.vap d.stl (.sl 1 (d.prates.map encI)) d.pumps d.rates _ hd.w1 rfl hd.w2 hd.w3 hd.w4 hd.lenR hd.neS hd.maxS (fun r hr=>by have:=hd.bR r hr;omega)
     ·intro k hk
      simp[go_sem,↓iO,iO,tN,lineI]
      rfl
     ·intro k y hy
      obtain⟨z,hz,rfl⟩:∃ z,Sg[k]? = some z∧y=encY z:=by
       rw[List.getElem?_map]at hy
       obtain⟨z,h1,h2⟩:=Option.map_eq_some_iff.1 hy
       exact⟨z,h1,h2.symm⟩
      have hkl:k < Sg.length:=(List.getElem?_eq_some_iff.1 hz).1
      obtain⟨z1,z2⟩:=z
      have hzl:=hSGg _ (List.mem_of_getElem? hz)
      dsimp only at hzl
      obtain⟨⟨f,hf,hf6⟩,hl6,ho6,he⟩:=hpush k _ hkl hz
      have hf0:gvAt fi (z1,z2)=f:=by unfold gvAt;rw[List.getD_eq_getElem?_getD,hf];rfl
      obtain⟨r,hr⟩:∃ r,d.rates[z1]? = some r:=has_get (by rw[hd.lenR];exact hzl)
      have hb0:backAt d.rates (z1,z2)=decide (r < 0):=by unfold backAt;rw[List.getD_eq_getElem?_getD,hr];rfl
      obtain⟨s,hs⟩:∃ s,x[P.length+k]? = some s:=has_get (by omega)
      have hs0:x.getD (P.length+k) []=s:=by rw[List.getD_eq_getElem?_getD,hs];rfl
      rw[hs0]at hl6
      rw[hf0,hs0,hb0]at ho6 he
      have hgd:Sg.getD k (0,0)=(z1,z2):=by rw[List.getD_eq_getElem?_getD,hz];rfl
      have hF1:setK fi Sg (nodeF d.rates fi x P.length) (k+1)=(setK fi Sg (nodeF d.rates fi x P.length) k).set z1 (some (fillV f s (decide (r < 0)))):=by
       rw[←hf0,←hs0,←hb0,setK,hgd];rfl
      have hG1:setK gi Sg (nodeG d.rates fi x P.length) (k+1)=(setK gi Sg (nodeG d.rates fi x P.length) k).set z1 (some (outV f s (decide (r < 0)))):=by
       rw[←hf0,←hs0,←hb0,setK,hgd];rfl
      have hfk:=setK_at fi Sg (nodeF d.rates fi x P.length) hinc k (z1,z2) hz k (Nat.le_refl _)
      dsimp only at hfk
      rw[hf]at hfk
      have hfl2:=setK_len fi Sg (nodeF d.rates fi x P.length) k
      have hgl2:=setK_len gi Sg (nodeG d.rates fi x P.length) k
      have j1:=apush_fn d hd order w6 (setK fi Sg (nodeF d.rates fi x P.length) k) (setK gi Sg (nodeG d.rates fi x P.length) k) O (by omega) (by omega) z1 r f s hr hfk hf6 hl6 ho6 he
      rw[←hF1,←hG1]at j1
      refine⟨[(0,0),(1,1),(2,2),(3,3),(4,102),(5,111),(6,113)],[(2,.pt 4 [] 0),(11,.pt 5 [] 0),(13,.pt 6 [] 0)],
       [(0,lineB d.net d.plan (.sl 1 (d.feeds.map encI)) order),(1,blkG (setK fi Sg (nodeF d.rates fi x P.length) k)),(2,blkG (setK gi Sg (nodeG d.rates fi x P.length) k)),(3,blkG O),(4,.box 71 (.pt 0 [] 0)),(5,.box 42 (.t (.sl 1 (x.map encPs)))),(6,.box 3 (.t (.int ((P.length+k:Nat):Int))))],
       [(0,lineB d.net d.plan (.sl 1 (d.feeds.map encI)) order),(1,blkG (setK fi Sg (nodeF d.rates fi x P.length) (k+1))),(2,blkG (setK gi Sg (nodeG d.rates fi x P.length) (k+1))),(3,blkG O),(4,.box 71 (.pt 0 [] 0)),(5,.box 42 (.t (.sl 1 (x.map encPs)))),(6,.box 3 (.t (.int ((P.length+(k+1):Nat):Int))))],
       [(0,some 0),(1,some 1),(2,some 2),(3,some 3),(102,some 102),(104,some 104),(111,some 111),(113,some 113),(550,some 550),(551,some 551),(552,some 552)],?_⟩
      refine⟨by kernel_rfl,?_,?_,rfl,by kernel_rfl,?_,?_⟩
      ·simp[go_sem,↓iO,iO,tN]
      ·simp[go_sem,↓iO,iO,tN,slotsR,S.ren]
      ·obtain⟨F1,hF1'⟩:∃ F1,setK fi Sg (nodeF d.rates fi x P.length) k=F1:=⟨_,rfl⟩
       obtain⟨F2,hF2'⟩:∃ F2,setK fi Sg (nodeF d.rates fi x P.length) (k+1)=F2:=⟨_,rfl⟩
       obtain⟨G1,hG1'⟩:∃ G1,setK gi Sg (nodeG d.rates fi x P.length) k=G1:=⟨_,rfl⟩
       obtain⟨G2,hG2'⟩:∃ G2,setK gi Sg (nodeG d.rates fi x P.length) (k+1)=G2:=⟨_,rfl⟩
       rw[hF1',hF2',hG1',hG2']at j1
       rw[hF1',hF2',hG1',hG2']
       have hsx:P.length+k < x.length:=by omega
       have hs2:x[P.length+k]=s:=(List.getElem?_eq_some_iff.1 hs).2
       have e3:((P.length:Int)+(k:Int)).toNat=P.length+k:=by omega
       refine nfK0 ?_;simp[go_sem,↓iO,iO,tN,psS,encY];(repeat (refine anI ?_));try (refine⟨dcK,?_⟩)
       repeat (first|(refine nfK1 ?_;simp (maxSteps:=1000000) [go_sem,↓iO,iO,tN,hs,e3,hsx,hs2,w1,w2,w3,w4,w5,w6,widths_gv,width_gv];(repeat (refine anI ?_));try (refine⟨dcK,?_⟩))|((first|refine itePos (by omega) ?_|refine iteNeg (by omega) ?_);try simp[go_sem,↓iO,iO,tN,hs,e3,hsx,hs2,w1,w2,w3,w4,w5,w6,widths_gv,width_gv])|(refine⟨dcK,?_⟩))
       refine cF (j1) [(0,0),(1,1),(2,2),(3,3)] ?_ ?_ ?_ ?_<;>simp[go_sem,↓iO,iO,tN,hs,e3,hsx,hs2,w1,w2,w3,w4,w5,w6,widths_gv,width_gv]
       repeat (first|(refine nfK1 ?_;simp (maxSteps:=1000000) [go_sem,↓iO,iO,tN,e3];(repeat (refine anI ?_));try (refine⟨dcK,?_⟩))|((first|refine itePos (by omega) ?_|refine iteNeg (by omega) ?_);try simp[go_sem,↓iO,iO,tN,e3])|(refine⟨dcK,?_⟩))
       refine⟨[(0,some 0),(1,some 1),(2,some 2),(3,some 3),(4,some 4),(5,some 5),(6,some 6)],?_⟩
       simp[go_sem,↓iO,iO,tN]
       omega
      ·simp[go_sem,↓iO,iO,tN]
     ·have hsl:(Sg.map encY).length=Sg.length:=by simp
      rw[hsl]
      obtain⟨F1,hF1'⟩:∃ F1,setK fi Sg (nodeF d.rates fi x P.length) Sg.length=F1:=⟨_,rfl⟩
      obtain⟨G1,hG1'⟩:∃ G1,setK gi Sg (nodeG d.rates fi x P.length) Sg.length=G1:=⟨_,rfl⟩
      rw[hF1',hG1']
      repeat (first|(refine n1s rfl ?_;simp[go_sem,↓iO,iO,tN])|refine anI ?_|refine⟨dcK,?_⟩|refine iP ?_|refine iN ?_)
      first|rw[TqR]|rw[TqN]
      refine⟨[(0,some 0),(1,some 1),(2,some 2),(3,some 3)],?_⟩
      simp[go_sem,↓iO,iO,tN]
    ·refine nf1_sound' _ _ _ ?_;simp only[nf1]
     refine CW.rangeFX (N:=87) [(0,.pt 0 [] 0),(1,.t (.int node)),(2,.pt 102 [] 0),(4,.pt 104 [] 0),(11,.pt 111 [] 0),(13,.pt 113 [] 0),(72,.fn 99 [.pt 550 [] 0,.pt 551 [] 0,.pt 552 [] 0])]
      (fun k=>[(0,lineB d.net d.plan (.sl 1 (d.feeds.map encI)) order),(1,blkG (setK fi Sg (nodeF d.rates fi x P.length) k)),(2,blkG (setK gi Sg (nodeG d.rates fi x P.length) k)),(3,blkG O),(102,.box 71 (.pt 0 [] 0)),(104,.box 46 (.t (.int 0))),(111,.box 42 (.t (.sl 1 (x.map encPs)))),(113,.box 3 (.t (.int ((P.length+k:Nat):Int)))),(550,.box 71 (.pt 0 [] 0)),(551,.box 4 (.t (.bool false))),(552,.box 3 (.t (.int node)))])
      K
      [(0,lineB d.net d.plan (.sl 1 (d.feeds.map encI)) order),(1,blkG (setK fi Sg (nodeF d.rates fi x P.length) K)),(2,blkG (setK gi Sg (nodeG d.rates fi x P.length) K)),(3,blkG O),(102,.box 71 (.pt 0 [] 0)),(104,.box 46 (.t (.int 4))),(111,.box 42 (.t (.sl 1 (x.map encPs)))),(113,.box 3 (.t (.int ((P.length+K:Nat):Int)))),(550,.box 71 (.pt 0 [] 0)),(551,.box 4 (.t (.bool false))),(552,.box 3 (.t (.int node)))]
      [(0,some 0),(1,some 1),(2,some 2),(3,some 3),(102,some 102),(104,some 104),(111,some 111),(113,some 113),(550,some 550),(551,some 551),(552,some 552)]
      (lineI 550 551 552 0 (.t (.bool false)) (.t (.int node)) 4 3 d.net d.plan [.t (.sl 1 (d.feeds.map encI)),.t order,.own 1,.own 2,.own 3]) (Sg.map encY)
      [(0,some 0),(1,some 1),(2,some 2),(3,some 3),(102,some 102),(104,some 104),(111,some 111),(113,some 113),(550,some 550),(551,some 551),(552,some 552)]
      ?_ rfl (by kernel_rfl) (by kernel_rfl) (by kernel_rfl) (by kernel_rfl) (by kernel_rfl) (by kernel_rfl) (by kernel_rfl) ?_ ?_ ?_ rfl ?_ (by simpa using hKl) ?_ ?_ ?_
     ·simp[go_sem,↓iO,iO,tN,setK]
     ·intro y hy
      obtain⟨z,_,rfl⟩:=List.mem_map.1 hy
      rfl
     ·intro y hy v hv
      obtain⟨z,_,rfl⟩:=List.mem_map.1 hy
      simp[encY]at hv
      rcases hv with rfl|rfl<;>rfl
     ·rw[←hSg]
      exact segs_iter 550 551 552 0 rfl node false d.nodes (.sl 3 (d.ports.map encPr)) d.stat d.segs d.vap d.stl (.sl 1 (d.prates.map encI)) d.pumps d.rates _ hd.w1 rfl hd.w2 hd.w3 hd.w4 hd.lenR hd.neS hd.maxS (fun r hr=>by have:=hd.bR r hr;omega)
     ·intro k hk
      simp[go_sem,↓iO,iO,tN,lineI]
      rfl
     ·intro k y hkK hy
      obtain⟨z,hz,rfl⟩:∃ z,Sg[k]? = some z∧y=encY z:=by
       rw[List.getElem?_map]at hy
       obtain⟨z,h1,h2⟩:=Option.map_eq_some_iff.1 hy
       exact⟨z,h1,h2.symm⟩
      have hkl:k < Sg.length:=(List.getElem?_eq_some_iff.1 hz).1
      obtain⟨z1,z2⟩:=z
      have hzl:=hSGg _ (List.mem_of_getElem? hz)
      dsimp only at hzl
      obtain⟨⟨f,hf,hf6⟩,hl6,ho6,he⟩:=hpush k _ hkK hz
      have hf0:gvAt fi (z1,z2)=f:=by unfold gvAt;rw[List.getD_eq_getElem?_getD,hf];rfl
      obtain⟨r,hr⟩:∃ r,d.rates[z1]? = some r:=has_get (by rw[hd.lenR];exact hzl)
      have hb0:backAt d.rates (z1,z2)=decide (r < 0):=by unfold backAt;rw[List.getD_eq_getElem?_getD,hr];rfl
      obtain⟨s,hs⟩:∃ s,x[P.length+k]? = some s:=has_get (by omega)
      have hs0:x.getD (P.length+k) []=s:=by rw[List.getD_eq_getElem?_getD,hs];rfl
      rw[hs0]at hl6
      rw[hf0,hs0,hb0]at ho6 he
      have hgd:Sg.getD k (0,0)=(z1,z2):=by rw[List.getD_eq_getElem?_getD,hz];rfl
      have hF1:setK fi Sg (nodeF d.rates fi x P.length) (k+1)=(setK fi Sg (nodeF d.rates fi x P.length) k).set z1 (some (fillV f s (decide (r < 0)))):=by
       rw[←hf0,←hs0,←hb0,setK,hgd];rfl
      have hG1:setK gi Sg (nodeG d.rates fi x P.length) (k+1)=(setK gi Sg (nodeG d.rates fi x P.length) k).set z1 (some (outV f s (decide (r < 0)))):=by
       rw[←hf0,←hs0,←hb0,setK,hgd];rfl
      have hfk:=setK_at fi Sg (nodeF d.rates fi x P.length) hinc k (z1,z2) hz k (Nat.le_refl _)
      dsimp only at hfk
      rw[hf]at hfk
      have hfl2:=setK_len fi Sg (nodeF d.rates fi x P.length) k
      have hgl2:=setK_len gi Sg (nodeG d.rates fi x P.length) k
      have j1:=apush_fn d hd order w6 (setK fi Sg (nodeF d.rates fi x P.length) k) (setK gi Sg (nodeG d.rates fi x P.length) k) O (by omega) (by omega) z1 r f s hr hfk hf6 hl6 ho6 he
      rw[←hF1,←hG1]at j1
      refine⟨[(0,0),(1,1),(2,2),(3,3),(4,102),(5,111),(6,113)],[(2,.pt 4 [] 0),(11,.pt 5 [] 0),(13,.pt 6 [] 0)],
       [(0,lineB d.net d.plan (.sl 1 (d.feeds.map encI)) order),(1,blkG (setK fi Sg (nodeF d.rates fi x P.length) k)),(2,blkG (setK gi Sg (nodeG d.rates fi x P.length) k)),(3,blkG O),(4,.box 71 (.pt 0 [] 0)),(5,.box 42 (.t (.sl 1 (x.map encPs)))),(6,.box 3 (.t (.int ((P.length+k:Nat):Int))))],
       [(0,lineB d.net d.plan (.sl 1 (d.feeds.map encI)) order),(1,blkG (setK fi Sg (nodeF d.rates fi x P.length) (k+1))),(2,blkG (setK gi Sg (nodeG d.rates fi x P.length) (k+1))),(3,blkG O),(4,.box 71 (.pt 0 [] 0)),(5,.box 42 (.t (.sl 1 (x.map encPs)))),(6,.box 3 (.t (.int ((P.length+(k+1):Nat):Int))))],
       [(0,some 0),(1,some 1),(2,some 2),(3,some 3),(102,some 102),(104,some 104),(111,some 111),(113,some 113),(550,some 550),(551,some 551),(552,some 552)],?_⟩
      refine⟨by kernel_rfl,?_,?_,rfl,by kernel_rfl,?_,?_⟩
      ·simp[go_sem,↓iO,iO,tN]
      ·simp[go_sem,↓iO,iO,tN,slotsR,S.ren]
      ·obtain⟨F1,hF1'⟩:∃ F1,setK fi Sg (nodeF d.rates fi x P.length) k=F1:=⟨_,rfl⟩
       obtain⟨F2,hF2'⟩:∃ F2,setK fi Sg (nodeF d.rates fi x P.length) (k+1)=F2:=⟨_,rfl⟩
       obtain⟨G1,hG1'⟩:∃ G1,setK gi Sg (nodeG d.rates fi x P.length) k=G1:=⟨_,rfl⟩
       obtain⟨G2,hG2'⟩:∃ G2,setK gi Sg (nodeG d.rates fi x P.length) (k+1)=G2:=⟨_,rfl⟩
       rw[hF1',hF2',hG1',hG2']at j1
       rw[hF1',hF2',hG1',hG2']
       have hsx:P.length+k < x.length:=by omega
       have hs2:x[P.length+k]=s:=(List.getElem?_eq_some_iff.1 hs).2
       have e3:((P.length:Int)+(k:Int)).toNat=P.length+k:=by omega
       refine nfK0 ?_;simp[go_sem,↓iO,iO,tN,psS,encY];(repeat (refine anI ?_));try (refine⟨dcK,?_⟩)
       repeat (first|(refine nfK1 ?_;simp (maxSteps:=1000000) [go_sem,↓iO,iO,tN,hs,e3,hsx,hs2,w1,w2,w3,w4,w5,w6,widths_gv,width_gv];(repeat (refine anI ?_));try (refine⟨dcK,?_⟩))|((first|refine itePos (by omega) ?_|refine iteNeg (by omega) ?_);try simp[go_sem,↓iO,iO,tN,hs,e3,hsx,hs2,w1,w2,w3,w4,w5,w6,widths_gv,width_gv])|(refine⟨dcK,?_⟩))
       refine cF (j1) [(0,0),(1,1),(2,2),(3,3)] ?_ ?_ ?_ ?_<;>simp[go_sem,↓iO,iO,tN,hs,e3,hsx,hs2,w1,w2,w3,w4,w5,w6,widths_gv,width_gv]
       repeat (first|(refine nfK1 ?_;simp (maxSteps:=1000000) [go_sem,↓iO,iO,tN,e3];(repeat (refine anI ?_));try (refine⟨dcK,?_⟩))|((first|refine itePos (by omega) ?_|refine iteNeg (by omega) ?_);try simp[go_sem,↓iO,iO,tN,e3])|(refine⟨dcK,?_⟩))
       refine⟨[(0,some 0),(1,some 1),(2,some 2),(3,some 3),(4,some 4),(5,some 5),(6,some 6)],?_⟩
       simp[go_sem,↓iO,iO,tN]
       omega
      ·simp[go_sem,↓iO,iO,tN]
     ·intro y hy
      obtain⟨z,hz,rfl⟩:∃ z,Sg[K]? = some z∧y=encY z:=by
       rw[List.getElem?_map]at hy
       obtain⟨z,h1,h2⟩:=Option.map_eq_some_iff.1 hy
       exact⟨z,h1,h2.symm⟩
      have hkl:K < Sg.length:=hKl
      obtain⟨z1,z2⟩:=z
      have hzl:=hSGg _ (List.mem_of_getElem? hz)
      dsimp only at hzl
      obtain⟨⟨f,hf,hf6⟩,hl6,he⟩:=hfail _ hz
      have hf0:gvAt fi (z1,z2)=f:=by unfold gvAt;rw[List.getD_eq_getElem?_getD,hf];rfl
      obtain⟨r,hr⟩:∃ r,d.rates[z1]? = some r:=has_get (by rw[hd.lenR];exact hzl)
      have hb0:backAt d.rates (z1,z2)=decide (r < 0):=by unfold backAt;rw[List.getD_eq_getElem?_getD,hr];rfl
      obtain⟨s,hs⟩:∃ s,x[P.length+K]? = some s:=has_get (by omega)
      have hs0:x.getD (P.length+K) []=s:=by rw[List.getD_eq_getElem?_getD,hs];rfl
      rw[hs0]at hl6
      rw[hf0,hs0,hb0]at he
      have hfk:=setK_at fi Sg (nodeF d.rates fi x P.length) hinc K (z1,z2) hz K (Nat.le_refl _)
      dsimp only at hfk
      rw[hf]at hfk
      have hfl2:=setK_len fi Sg (nodeF d.rates fi x P.length) K
      have hgl2:=setK_len gi Sg (nodeG d.rates fi x P.length) K
      have j1:=apush_err d hd order w6 (setK fi Sg (nodeF d.rates fi x P.length) K) (setK gi Sg (nodeG d.rates fi x P.length) K) O (by omega) (by omega) z1 r f s hr hfk hf6 hl6 he
      refine⟨[(0,0),(1,1),(2,2),(3,3),(4,102),(5,111),(6,113),(7,104)],[(2,.pt 4 [] 0),(11,.pt 5 [] 0),(13,.pt 6 [] 0),(4,.pt 7 [] 0)],
       [(0,lineB d.net d.plan (.sl 1 (d.feeds.map encI)) order),(1,blkG (setK fi Sg (nodeF d.rates fi x P.length) K)),(2,blkG (setK gi Sg (nodeG d.rates fi x P.length) K)),(3,blkG O),(4,.box 71 (.pt 0 [] 0)),(5,.box 42 (.t (.sl 1 (x.map encPs)))),(6,.box 3 (.t (.int ((P.length+K:Nat):Int)))),(7,.box 46 (.t (.int 0)))],
       [(0,lineB d.net d.plan (.sl 1 (d.feeds.map encI)) order),(1,blkG (setK fi Sg (nodeF d.rates fi x P.length) K)),(2,blkG (setK gi Sg (nodeG d.rates fi x P.length) K)),(3,blkG O),(4,.box 71 (.pt 0 [] 0)),(5,.box 42 (.t (.sl 1 (x.map encPs)))),(6,.box 3 (.t (.int ((P.length+K:Nat):Int)))),(7,.box 46 (.t (.int 4)))],
       [(0,some 0),(1,some 1),(2,some 2),(3,some 3),(102,some 102),(104,some 104),(111,some 111),(113,some 113),(550,some 550),(551,some 551),(552,some 552)],?_⟩
      refine⟨by kernel_rfl,?_,?_,rfl,by kernel_rfl,?_,?_⟩
      ·simp[go_sem,↓iO,iO,tN]
      ·simp[go_sem,↓iO,iO,tN,slotsR,S.ren]
      ·obtain⟨F1,hF1'⟩:∃ F1,setK fi Sg (nodeF d.rates fi x P.length) K=F1:=⟨_,rfl⟩
       obtain⟨G1,hG1'⟩:∃ G1,setK gi Sg (nodeG d.rates fi x P.length) K=G1:=⟨_,rfl⟩
       rw[hF1',hG1']at j1
       rw[hF1',hG1']
       have hsx:P.length+K < x.length:=by omega
       have hs2:x[P.length+K]=s:=(List.getElem?_eq_some_iff.1 hs).2
       have e3:((P.length:Int)+(K:Int)).toNat=P.length+K:=by omega
       refine nfK0X ?_
       simp[go_sem,↓iO,iO,tN,psS,encY]
       repeat (first|(refine nfK1 ?_;simp (maxSteps:=1000000) [go_sem,↓iO,iO,tN,hs,e3,hsx,hs2,w1,w2,w3,w4,w5,w6,widths_gv,width_gv];(repeat (refine anI ?_));try (refine⟨dcK,?_⟩))|((first|refine itePos (by omega) ?_|refine iteNeg (by omega) ?_);try simp[go_sem,↓iO,iO,tN,hs,e3,hsx,hs2,w1,w2,w3,w4,w5,w6,widths_gv,width_gv])|(refine⟨dcK,?_⟩))
       refine cF (j1) [(0,0),(1,1),(2,2),(3,3)] ?_ ?_ ?_ ?_<;>simp[go_sem,↓iO,iO,tN,hs,e3,hsx,hs2,w1,w2,w3,w4,w5,w6,widths_gv,width_gv]
       repeat (first|(refine nfK1 ?_;simp (maxSteps:=1000000) [go_sem,↓iO,iO,tN,e3];(repeat (refine anI ?_));try (refine⟨dcK,?_⟩))|((first|refine itePos (by omega) ?_|refine iteNeg (by omega) ?_);try simp[go_sem,↓iO,iO,tN,e3])|(refine⟨dcK,?_⟩))
       refine⟨[(0,some 0),(1,some 1),(2,some 2),(3,some 3),(4,some 4),(5,some 5),(6,some 6),(7,some 7)],?_⟩
       simp[go_sem,↓iO,iO,tN]
      ·simp[go_sem,↓iO,iO,tN]
     ·simp only[BlockQ_ret,SeqQ_ret]
      first|rw[TqR]|rw[TqN]
      refine⟨[(0,some 0),(1,some 1),(2,some 2),(3,some 3)],?_⟩
      simp[go_sem,↓iO,iO,tN]
theorem push_all {f g:List (Int×Int)} (hf:Pc.Vd f) (hg:Pc.Vd g) (back:Bool) (hs:(Pc.shift f g back).1.length≤200∧(Pc.shift f g back).2.length≤200):∃ n o,PushOk f g back n o:=by
 have vf:=vol_litres hf.canon
 have vg:=vol_litres hg.canon
 have bf:=hf.vol
 have bg:=hg.vol
 cases back with
 | true=>
  have hc:=cut_ok (sane_app hf hg) (Pc.litres g).length
  rw[←vg]at hc
  have la:=hc.la
  have lb:=hc.lb
  rw[Pc.litres_append]at la lb
  have na:=hc.na
  have nb:=hc.nb
  rw[List.length_append]at na nb
  have hsh:Pc.shift f g true=(Pc.join (Pc.tails (f++g) (Pc.vol g)),Pc.join (Pc.heads (f++g) (Pc.vol g))):=rfl
  refine⟨_,_,?_,?_,?_,lb,la,nb,na⟩
  ·rw[push_ok (Pc.valid_t hf) (Pc.valid_t hg) hs,hsh]
  ·refine vd_part hf hg hc.cb (fun x hx=>?_) (by have h:=hs;rw[hsh]at h;dsimp only at h;omega) (by rw[lb,List.length_drop,List.length_append];omega)
   rw[lb]at hx;exact List.mem_append.1 (List.mem_of_mem_drop hx)
  ·refine vd_part hf hg hc.ca (fun x hx=>?_) (by have h:=hs;rw[hsh]at h;dsimp only at h;omega) (by rw[la,List.length_take,List.length_append];omega)
   rw[la]at hx;exact List.mem_append.1 (List.mem_of_mem_take hx)
 | false=>
  have hc:=cut_ok (sane_app hg hf) (Pc.litres f).length
  rw[←vf]at hc
  have la:=hc.la
  have lb:=hc.lb
  rw[Pc.litres_append]at la lb
  have na:=hc.na
  have nb:=hc.nb
  rw[List.length_append]at na nb
  have hsh:Pc.shift f g false=(Pc.join (Pc.heads (g++f) (Pc.vol f)),Pc.join (Pc.tails (g++f) (Pc.vol f))):=rfl
  refine⟨_,_,?_,?_,?_,la,lb,by omega,by omega⟩
  ·rw[push_ok (Pc.valid_t hf) (Pc.valid_t hg) hs,hsh]
  ·refine vd_part hg hf hc.ca (fun x hx=>?_) (by have h:=hs;rw[hsh]at h;dsimp only at h;omega) (by rw[la,List.length_take,List.length_append];omega)
   rw[la]at hx;exact List.mem_append.1 (List.mem_of_mem_take hx)
  ·refine vd_part hg hf hc.cb (fun x hx=>?_) (by have h:=hs;rw[hsh]at h;dsimp only at h;omega) (by rw[lb,List.length_drop,List.length_append];omega)
   rw[lb]at hx;exact List.mem_append.1 (List.mem_of_mem_drop hx)
theorem push_cases {f g:List (Int×Int)} (hf:Pc.Vd f) (hg:Pc.Vd g) (back:Bool):(∃ n o,PushOk f g back n o)∨(Pc.push f g back).2.2≠0:=by
 by_cases hs:(Pc.shift f g back).1.length≤200∧(Pc.shift f g back).2.length≤200
 ·exact Or.inl (push_all hf hg back hs)
 ·refine Or.inr ?_
  unfold Pc.push
  rw[if_pos ⟨Pc.valid_t hf,Pc.valid_t hg⟩,if_neg hs]
  decide
def NodeE (d:LineD) (order:T) (node:Int) (f0 g0 o0 f1 g1 o1:List (Option (List (Int×Int)))):Prop:=
 FnOk Tryz.prog 51 [.pt 0 [] 0,.t (.int node)] [(0,lineB d.net d.plan (.sl 1 (d.feeds.map encI)) order),(1,blkG f0),(2,blkG g0),(3,blkG o0)]
   (.t (.int 4)) [(0,lineB d.net d.plan (.sl 1 (d.feeds.map encI)) order),(1,blkG f1),(2,blkG g1),(3,blkG o1)]
theorem node_long (d:LineD) (hd:LineOk d) (order:T) (w6:order.width=1) (fi gi oo:List (Option (List (Int×Int)))) (node:Int) (hg:gi.length=d.segs.length) (hS:Pc.Sane (comesV d gi node)) (hnz:∀ z∈segYs node true 0 (d.segs.map (·.1)) d.rates,∀ p∈gvAt gi z,p.2≠0) (hl:200 < (Pc.join (comesV d gi node)).length) :
  NodeE d order node fi gi oo fi gi oo:=by
 have s1:=stream_fn d hd order w6 fi gi oo node hg hS hnz
 have hj:=Pc.join_length (comesV d gi node)
 have hl2:=hS.len
 obtain⟨l,hl3⟩:∃ l,Pc.join (comesV d gi node)=l:=⟨_,rfl⟩
 rw[hl3]at s1 hl hj
 have hne:l≠[]:=fun e=>by rw[e]at hl;simp at hl
 unfold NodeE
 refine FnOk.intro fact_mixed Tryz.func51 rfl Tryz.ntmps51 (by rfl) (by simp) ?_
 repeat (first|(refine n1s rfl ?_;simp[go_sem,↓iO,iO,tN])|refine anI ?_|refine⟨dcK,?_⟩|refine iP ?_|refine iN ?_)
 refine cF (s1) [(0,0),(1,1),(2,2),(3,3),(1000,510)] ?_ ?_ ?_ ?_<;>simp[go_sem,↓iO,iO,tN,hne]
 repeat (first|(refine n1s rfl ?_;simp[go_sem,↓iO,iO,tN,hne])|refine anI ?_|refine⟨dcK,?_⟩|refine iP ?_|refine iN ?_)
 first|rw[TqR]|rw[TqN]
 refine⟨[(0,some 0),(1,some 1),(2,some 2),(3,some 3)],?_⟩
 simp[go_sem,↓iO,iO,tN]
theorem tick_err (d:LineD) (hd:LineOk d) (ord:List Int) (hol:ord.length≤1000) (gi oo:List (Option (List (Int×Int)))) (F G O:Nat→List (Option (List (Int×Int)))) (hG0:G 0=List.replicate d.segs.length none) (hO0:O 0=List.replicate d.ports.length none)
  (K:Nat) (nodeK:Int) (hK:ord[K]? = some nodeK) (f1 g1 o1:List (Option (List (Int×Int)))) (hE:NodeE d (.sl 1 (ord.map encI)) nodeK (F K) (G K) (O K) f1 g1 o1)
  (hN:∀ k node,k < K→ord[k]? = some node→NodeC d (.sl 1 (ord.map encI)) node (F k) (G k) (O k) (F (k+1)) (G (k+1)) (O (k+1))) :
  FnOk Tryz.prog 26 [.pt 0 [] 0] [(0,lineX d.net d.plan (.sl 1 (d.feeds.map encI)) (.sl 1 (ord.map encI)) (.own 2) (.own 3)),(1,blkG (F 0)),(2,blkG gi),(3,blkG oo)]
   (.t (.int 4)) [(0,lineX d.net d.plan (.sl 1 (d.feeds.map encI)) (.sl 1 (ord.map encI)) (.own 1000) (.own 1001)),(1,blkG f1),(1000,blkG g1),(1001,blkG o1)]:=by
 have w1:=hd.w1
 have w2:=hd.w2
 have w3:=hd.w3
 have w4:=hd.w4
 have w5:=hd.w5
 have hmS:=hd.maxS
 have hmP:=hd.maxP
 have hKl:K < ord.length:=(List.getElem?_eq_some_iff.1 hK).1
 refine FnOk.intro fact_mixed Tryz.func26 rfl Tryz.ntmps26 (by rfl) (by simp) ?_
 repeat (first|(refine n1s rfl ?_;simp[go_sem,↓iO,iO,tN,w1,w2,w3,w4,w5])|refine anI ?_|refine⟨dcK,?_⟩|refine iP ?_|refine iN ?_)
 refine nf1_sound' _ _ _ ?_;simp only[nf1]
 refine CW.loop (ι:=Nat) (fun k=>⟨[(0,.pt 0 [] 0),(29,.t (.sl 1 (ord.map encI))),(30,.t (.int ord.length)),(31,.t (.int k))],[(0,lineX d.net d.plan (.sl 1 (d.feeds.map encI)) (.sl 1 (ord.map encI)) (.own 500) (.own 501)),(1,blkG (F k)),(500,blkG (G k)),(501,blkG (O k))]⟩) (fun k=>k≤K) (fun k=>K - k) 0 [(0,some 0),(1,some 1),(500,some 114),(501,some 121)] (by omega) ?_ ?_
 ·simp[go_sem,↓iO,iO,tN,hG0,hO0,gv_none]
 intro k hk
 by_cases hb:k < K
 ·obtain⟨node,hn⟩:∃ n,ord[k]? = some n:=has_get (by omega)
  have c1:=hN k node hb hn
  have hn2:ord[k]=node:=(List.getElem?_eq_some_iff.1 hn).2
  unfold NodeC at c1
  obtain⟨F0,hF0⟩:∃ F0,F k=F0:=⟨_,rfl⟩
  obtain⟨G0,hG0⟩:∃ G0,G k=G0:=⟨_,rfl⟩
  obtain⟨O0,hO0⟩:∃ O0,O k=O0:=⟨_,rfl⟩
  obtain⟨F1,hF1⟩:∃ F1,F (k+1)=F1:=⟨_,rfl⟩
  obtain⟨G1,hG1⟩:∃ G1,G (k+1)=G1:=⟨_,rfl⟩
  obtain⟨O1,hO1⟩:∃ O1,O (k+1)=O1:=⟨_,rfl⟩
  rw[hF0,hG0,hO0,hF1,hG1,hO1]at c1
  rw[hF0,hG0,hO0]
  repeat (first|(refine n1s rfl ?_;simp[go_sem,↓iO,iO,tN,hn,hn2,hb])|refine anI ?_|refine⟨dcK,?_⟩|refine iP ?_|refine iN ?_)
  refine cF (c1) [(0,0),(1,1),(2,500),(3,501)] ?_ ?_ ?_ ?_<;>simp[go_sem,↓iO,iO,tN]
  repeat (first|(refine n1s rfl ?_;simp[go_sem,↓iO,iO,tN])|refine anI ?_|refine⟨dcK,?_⟩|refine iP ?_|refine iN ?_)
  rw[RqN];refine⟨k+1,[(0,some 0),(1,some 1),(500,some 500),(501,some 501)],?_,?_,?_⟩
  ·omega
  ·omega
  simp[go_sem,↓iO,iO,tN,hF1,hG1,hO1]
 ·obtain rfl:k=K:=by omega
  have hn2:ord[k]=nodeK:=(List.getElem?_eq_some_iff.1 hK).2
  unfold NodeE at hE
  obtain⟨F0,hF0⟩:∃ F0,F k=F0:=⟨_,rfl⟩
  obtain⟨G0,hG0⟩:∃ G0,G k=G0:=⟨_,rfl⟩
  obtain⟨O0,hO0⟩:∃ O0,O k=O0:=⟨_,rfl⟩
  rw[hF0,hG0,hO0]at hE
  rw[hF0,hG0,hO0]
  repeat (first|(refine n1s rfl ?_;simp[go_sem,↓iO,iO,tN,hK,hn2,hKl])|refine anI ?_|refine⟨dcK,?_⟩|refine iP ?_|refine iN ?_)
  refine cF (hE) [(0,0),(1,1),(2,500),(3,501)] ?_ ?_ ?_ ?_<;>simp[go_sem,↓iO,iO,tN]
  repeat (first|(refine n1s rfl ?_;simp[go_sem,↓iO,iO,tN])|refine anI ?_|refine⟨dcK,?_⟩|refine iP ?_|refine iN ?_)
  first|rw[TqR]|rw[TqN]
  refine⟨[(0,some 0),(1,some 1),(1000,some 500),(1001,some 501)],?_⟩
  simp[go_sem,↓iO,iO,tN]
end Go.Proofs.YtdjmklobfjigoaaGreatDoor
