import Derived.Test.YtdjmklobfjigoaaGreatDoorTCvesB17
import Derived.Test.YtdjmklobfjigoaaGreatDoorTCvesB15
set_option maxRecDepth 100000
set_option maxHeartbeats 16000000
set_option linter.unusedVariables false
set_option linter.unusedSimpArgs false
namespace Go.Proofs.YtdjmklobfjigoaaGreatDoor
open Go.RowKit Sy
def FillF (d:LineD) (F:Fi):Prop:=F.length=d.segs.length∧∀ s,s < d.segs.length→∃ f,F[s]? = some (some f)∧Pc.Vd f∧Pc.vol f=capN d s
theorem sumN_nil {f:Nat→Int} {n:Nat} (h:∀ i,i < n→f i=0):sumN n f=0:=by rw[sumN_congr (g:=fun _=>0) h];exact sumN_zero n
def inA (d:LineD) (b:Int):Int:=sumN d.ports.length fun p=>if 0 < d.prates.getD p 0 then (if d.feeds.getD p 0=b then d.prates.getD p 0 else 0) else 0
theorem Sw_none (m:Nat) (w:Nat→Bool) (b:Int) (n:Nat):Sw m w (List.replicate n none) b=0:=by
 unfold Sw
 refine sumN_nil fun s hs=>?_
 have:gvO (List.replicate n none) s=[]:=by
  unfold gvO
  rw[List.getD_eq_getElem?_getD,List.getElem?_replicate]
  split<;>rfl
 rw[this]
 split<;>rfl
theorem tk_start (d:LineD) {F0:Fi} (h:FillF d F0):TkI d [] F0 F0 (List.replicate d.segs.length none) (List.replicate d.ports.length none):=by
 refine⟨h.1,by simp,by simp,h.2,fun s hs _ hh=>by simp at hh,fun s hs _=>by simp[hs],fun p hp=>Or.inl (by simp[hp]),fun p hp _=>by simp[hp],fun b=>?_⟩
 rw[Sw_none,Sw_none]
 have:inK d [] b=0:=by
  unfold inK
  exact sumN_nil fun p hp=>by rw[if_neg (by simp)]
 rw[this];omega
theorem tk_end (d:LineD) {ord:List Int} (hf:FlD d ord) {F0 F G O:Fi} (h:TkI d ord F0 F G O) (b:Int):Sw d.segs.length wA F b+Sw d.ports.length wA O b=Sw d.segs.length wA F0 b+inA d b:=by
 have hs:=h.sum b
 have e1:Sw d.segs.length (wG d ord) G b=0:=by
  unfold Sw
  refine sumN_nil fun s hs=>?_
  by_cases hr:d.rates.getD s 0=0
  ·rw[gvO_none (h.gN s hs (fun hh=>hh.1 hr))]
   split<;>rfl
  ·obtain⟨i,j,_,_,h2⟩:=hf.seg s hs hr
   have:wG d ord s=false:=by simp[wG,List.mem_of_getElem? h2]
   rw[this,if_neg (by simp)]
 have e2:inK d ord b=inA d b:=by
  unfold inK inA
  refine sumN_congr fun p hp=>?_
  by_cases hr:0 < d.prates.getD p 0
  ·rw[if_pos (decide_eq_true ⟨hr,hf.inp p hp hr⟩),if_pos hr]
  ·rw[if_neg (fun hh=>hr (of_decide_eq_true hh).1),if_neg hr]
 omega
def OutF (d:LineD) (O:Fi):Prop:=O.length=d.ports.length∧∀ p,p < d.ports.length→O[p]? = some none∨∃ q,O[p]? = some (some q)∧Pc.Vd q∧Pc.vol q≤1000
theorem tick_all (d:LineD) (hd:LineOk d) {ord:List Int} (hol:ord.length≤1000) (hf:FlD d ord) {F0:Fi} (h0:FillF d F0) :
  TickE d ord F0∨∃ F1 G1 O1,TickC d ord F0 F1 G1 O1∧FillF d F1∧OutF d O1∧∀ b,Sw d.segs.length wA F1 b+Sw d.ports.length wA O1 b=Sw d.segs.length wA F0 b+inA d b:=by
 have key:∀ k,k≤ord.length→TickE d ord F0∨∃ F G O:Nat→Fi,F 0=F0∧G 0=List.replicate d.segs.length none∧O 0=List.replicate d.ports.length none∧
   (∀ j node,j < k→ord[j]? = some node→NodeC d (.sl 1 (ord.map encI)) node (F j) (G j) (O j) (F (j+1)) (G (j+1)) (O (j+1)))∧TkI d (ord.take k) F0 (F k) (G k) (O k):=by
  intro k
  induction k with
  | zero=>exact fun _=>Or.inr ⟨fun _=>F0,fun _=>List.replicate d.segs.length none,fun _=>List.replicate d.ports.length none,rfl,rfl,rfl,fun j node h=>by omega,tk_start d h0⟩
  | succ k ih=>
   intro hk
   rcases ih (by omega) with he|⟨F,G,O,f0,g0,o0,hN,hI⟩
   ·exact Or.inl he
   ·obtain⟨v,hv⟩:∃ v,ord[k]? = some v:=has_get (by omega)
    rcases tk_step d hd hf hv hI with ⟨f1,g1,o1,hE⟩|⟨F1,G1,O1,hC,hI2⟩
    ·left
     intro gi oo
     have:=tick_err d hd ord hol gi oo F G O g0 o0 k v hv f1 g1 o1 hE (fun j node hj hn=>hN j node hj hn)
     rw[f0]at this
     exact⟨f1,g1,o1,this⟩
    ·right
     have ite:∀ {α:Type} (A:Nat→α) (a:α) (j:Nat),j≤k→(fun j=>if j≤k then A j else a) j=A j:=fun A a j hj=>if_pos hj
     refine⟨fun j=>if j≤k then F j else F1,fun j=>if j≤k then G j else G1,fun j=>if j≤k then O j else O1,by simp[f0],by simp[g0],by simp[o0],fun j node hj hn=>?_,?_⟩
     ·by_cases hjk:j < k
      ·simp only[if_pos (show j≤k by omega),if_pos (show j+1≤k by omega)]
       exact hN j node hjk hn
      ·obtain rfl:j=k:=by omega
       rw[hv]at hn;cases hn
       simp only[if_pos (Nat.le_refl j),if_neg (show ¬ j+1≤j by omega)]
       exact hC
     ·simp only[if_neg (show ¬ k+1≤k by omega)]
      exact hI2
 rcases key ord.length (Nat.le_refl _) with he|⟨F,G,O,f0,g0,o0,hN,hI⟩
 ·exact Or.inl he
 ·right
  rw[List.take_length]at hI
  refine⟨F ord.length,G ord.length,O ord.length,fun gi oo=>?_,⟨hI.lF,hI.fF⟩,⟨hI.lO,hI.oO⟩,tk_end d hf hI⟩
  have:=tick_fn d hd ord hol gi oo F G O g0 o0 (fun j node hn=>hN j node (List.getElem?_eq_some_iff.1 hn).1 hn)
  rw[f0]at this
  exact this
theorem allV_len {d:LineD} {O:Nat→Fi} (i:Nat):∀ k,(∀ j,j < k→OutF d (O (j+1)))→(allV O k i).length≤200 * k∧∀ p∈allV O k i,(0≤p.1∧p.1 < 1000)∧1≤p.2∧p.2≤1000000
 | 0,_=>by simp[allV]
 | k+1,h=>by
  obtain⟨h1,h2⟩:=allV_len i k fun j hj=>h j (by omega)
  obtain⟨hl,ho⟩:=h k (by omega)
  have hq:(((O (k+1)).getD i none).getD []).length≤200∧∀ p∈((O (k+1)).getD i none).getD [],(0≤p.1∧p.1 < 1000)∧1≤p.2∧p.2≤1000000:=by
   rw[List.getD_eq_getElem?_getD]
   by_cases hi:i < d.ports.length
   ·rcases ho i hi with e|⟨q,e,hv,_⟩
    ·rw[e];simp
    ·rw[e]
     simp only[Option.getD_some]
     exact⟨hv.len,hv.each⟩
   ·rw[List.getElem?_eq_none (by omega)];simp
  simp only[allV,List.length_append]
  refine⟨by omega,fun p hp=>?_⟩
  rcases List.mem_append.1 hp with hp|hp
  ·exact h2 p hp
  ·exact hq.2 p hp
theorem allV_of {O:Nat→Fi} (n:Nat) (b:Int):∀ k,sumN n (fun i=>Pc.of_ (allV O k i) b)=sumN k fun j=>Sw n wA (O (j+1)) b
 | 0=>by
  simp only[sumN,allV,Pc.of_]
  exact sumN_zero n
 | k+1=>by
  simp only[sumN]
  rw[←allV_of n b k]
  unfold Sw
  rw[←sumN_add]
  refine sumN_congr fun i hi=>?_
  simp only[allV,Pc.of_append]
  rfl
theorem vol_elem':∀ {m:List (Int×Int)} {p:Int×Int},(∀ q∈m,0≤q.2)→p∈m→p.2≤Pc.vol m
 | [],p,_,h=>by simp at h
 | a :: r,p,hn,h=>by
  have h0:=hn a (by simp)
  have h1:=(fun q hq=>hn q (List.mem_cons_of_mem _ hq):∀ q∈r,0≤q.2)
  have h2:=Pc.litres_length r h1
  simp only[Pc.vol]
  rcases List.mem_cons.1 h with rfl|h
  ·omega
  ·have:=vol_elem' h1 h;omega
theorem run_all (d:LineD) (hd:LineOk d) (hn:NetC d) {ord:List Int} (hol:ord.length≤1000) (hf:FlD d ord) (fills:List (List (Int×Int))) (hfi:FillsOk d fills)
  (ho:FnOk Tryz.prog 48 [.t (.agg d.net),.t (.agg d.plan)] [] (.tup [.t (.sl 1 (ord.map encI)),.t (.int 0)]) []) (hfd:∀ b∈d.feeds,0≤b∧b < 1000) (ticks:Nat) (ht:ticks≤400) :
  FnOk Tryz.prog 16 [.t (.agg d.net),.t (.sl 1 (fills.map encPs)),.t (.agg d.plan),.t (.sl 1 (d.feeds.map encI)),.t (.int ticks)] [] (.tup [.t (.lit (.slice none 0 0)),.t (.lit (.slice none 0 0)),.t (.int 4)]) []∨
  ∃ (F1:Fi) (out:Nat→List (Int×Int)),FillF d F1∧(∀ i,(out i).length≤200∧∀ p∈out i,0≤p.2∧p.2≤1000000)∧(∀ b,Sw d.segs.length wA F1 b+sumN d.ports.length (fun i=>Pc.of_ (out i) b)=Sw d.segs.length wA (fills.map some) b+ticks * inA d b)∧
   FnOk Tryz.prog 16 [.t (.agg d.net),.t (.sl 1 (fills.map encPs)),.t (.agg d.plan),.t (.sl 1 (d.feeds.map encI)),.t (.int ticks)] []
    (.tup [.own 1000,.t (.sl 1 ((List.range d.ports.length).map fun i=>encPs (out i))),.t (.int 0)]) [(1000,blkG F1)]:=by
 have h0:FillF d (fills.map some):=by
  refine⟨by rw[List.length_map];exact hfi.len,fun s hs=>?_⟩
  obtain⟨f,hff⟩:∃ f,fills[s]? = some f:=has_get (by rw[hfi.len];exact hs)
  obtain⟨sg,hsg⟩:∃ g,d.segs[s]? = some g:=has_get hs
  refine⟨f,by rw[List.getElem?_map,hff];rfl,hfi.vd f (List.mem_of_getElem? hff),?_⟩
  rw[hfi.cap s f sg hff hsg]
  simp[capN,hsg]
 have sane:∀ (O:Nat→Fi) k i,k≤ticks→(∀ j,j < k→OutF d (O (j+1)))→Pc.Sane (allV O k i):=fun O k i hk h=>by
  obtain⟨h1,h2⟩:=allV_len i k h
  exact⟨by omega,fun p hp=>by have:=h2 p hp;omega⟩
 have key:∀ k,k≤ticks→FnOk Tryz.prog 16 [.t (.agg d.net),.t (.sl 1 (fills.map encPs)),.t (.agg d.plan),.t (.sl 1 (d.feeds.map encI)),.t (.int ticks)] [] (.tup [.t (.lit (.slice none 0 0)),.t (.lit (.slice none 0 0)),.t (.int 4)]) []∨
   ∃ F G O:Nat→Fi,F 0=fills.map some∧G 0=[]∧O 0=[]∧(∀ j,(O (j+1)).length=d.ports.length)∧(∀ j,j < k→TickC d ord (F j) (F (j+1)) (G (j+1)) (O (j+1)))∧(∀ j,j < k→OutF d (O (j+1)))∧(∀ j i,j < k→(Pc.join (allV O (j+1) i)).length≤200)∧FillF d (F k)∧
    ∀ b,Sw d.segs.length wA (F k) b+(sumN k fun j=>Sw d.ports.length wA (O (j+1)) b)=Sw d.segs.length wA (fills.map some) b+k * inA d b:=by
  intro k
  induction k with
  | zero=>
   intro _
   refine Or.inr ⟨fun _=>fills.map some,fun _=>[],fun j=>if j=0 then [] else List.replicate d.ports.length none,rfl,rfl,rfl,fun j=>by simp,fun j h=>by omega,fun j h=>by omega,fun j i h=>by omega,h0,fun b=>?_⟩
   simp only[sumN]
   omega
  | succ k ih=>
   intro hk
   rcases ih (by omega) with he|⟨F,G,O,f0,g0,o0,ol,hT,hO,hL,hFk,hs⟩
   ·exact Or.inl he
   ·have nz:∀ (O:Nat→Fi) j i p,OutF d (O (j+1))→p∈((O (j+1)).getD i none).getD []→p.2≠0:=fun O j i p hq hp=>by
     rw[List.getD_eq_getElem?_getD]at hp
     by_cases hi:i < d.ports.length
     ·rcases hq.2 i hi with e|⟨q,e,hv,_⟩
      ·rw[e]at hp;simp at hp
      ·rw[e]at hp
       have:=(hv.each p hp).2
       omega
     ·rw[List.getElem?_eq_none (by have:=hq.1;omega)]at hp;simp at hp
    rcases tick_all d hd hol hf hFk with hE|⟨F1,G1,O1,hC,hF1,hO1,hs1⟩
    ·left
     exact arun_err d hd hn fills hfi ord ho hfd ticks ht F G O f0 g0 o0 ol k (by omega) hT (fun j i hj=>sane O (j+1) i (by omega) fun q hq=>hO q (by omega)) (fun j i p hj hp=>nz O j i p (hO j hj) hp) hL (Or.inl hE)
    ·obtain⟨F',hF'⟩:∃ F':Nat→Fi,F'=fun j=>if j≤k then F j else F1:=⟨_,rfl⟩
     obtain⟨G',hG'⟩:∃ F':Nat→Fi,F'=fun j=>if j≤k then G j else G1:=⟨_,rfl⟩
     obtain⟨O',hO'⟩:∃ F':Nat→Fi,F'=fun j=>if j≤k then O j else O1:=⟨_,rfl⟩
     have eF:∀ j,j≤k→F' j=F j:=fun j hj=>by rw[hF'];exact if_pos hj
     have eG:∀ j,j≤k→G' j=G j:=fun j hj=>by rw[hG'];exact if_pos hj
     have eO:∀ j,j≤k→O' j=O j:=fun j hj=>by rw[hO'];exact if_pos hj
     have eF1:F' (k+1)=F1:=by rw[hF'];exact if_neg (by omega)
     have eG1:G' (k+1)=G1:=by rw[hG'];exact if_neg (by omega)
     have eO1:O' (k+1)=O1:=by rw[hO'];exact if_neg (by omega)
     have ol':∀ j,(O' (j+1)).length=d.ports.length:=fun j=>by
      rw[hO']
      dsimp only
      split
      ·exact ol j
      ·exact hO1.1
     have hT':∀ j,j < k→TickC d ord (F' j) (F' (j+1)) (G' (j+1)) (O' (j+1)):=fun j hj=>by
      rw[eF j (by omega),eF (j+1) (by omega),eG (j+1) (by omega),eO (j+1) (by omega)]
      exact hT j hj
     have hC':TickC d ord (F' k) (F' (k+1)) (G' (k+1)) (O' (k+1)):=by
      rw[eF k (Nat.le_refl _),eF1,eG1,eO1];exact hC
     have hOo:∀ j,j < k+1→OutF d (O' (j+1)):=fun j hj=>by
      by_cases hjk:j < k
      ·rw[eO (j+1) (by omega)];exact hO j hjk
      ·obtain rfl:j=k:=by omega
       rw[eO1];exact hO1
     have eV:∀ j i,j≤k→allV O' j i=allV O j i:=fun j i=>by
      induction j with
      | zero=>intro _;rfl
      | succ j ihj=>
       intro hj
       simp only[allV,ihj (by omega),eO (j+1) hj]
     have hL':∀ j i,j < k→(Pc.join (allV O' (j+1) i)).length≤200:=fun j i hj=>by rw[eV (j+1) i (by omega)];exact hL j i hj
     have sane':∀ j i,j < k+1→Pc.Sane (allV O' (j+1) i):=fun j i hj=>sane O' (j+1) i (by omega) fun q hq=>hOo q (by omega)
     obtain⟨Ki,hKi,hKo,hKb⟩:=first_fail d.ports.length fun i=>200 < (Pc.join (allV O' (k+1) i)).length
     by_cases hKl:Ki < d.ports.length
     ·left
      exact arun_err d hd hn fills hfi ord ho hfd ticks ht F' G' O' (by rw[eF 0 (by omega)];exact f0) (by rw[eG 0 (by omega)];exact g0) (by rw[eO 0 (by omega)];exact o0) ol' k (by omega) hT' (fun j i hj=>sane' j i (by omega)) (fun j i p hj hp=>nz O' j i p (hOo j (by omega)) hp) hL'
       (Or.inr ⟨hC',fun i=>sane' k i (by omega),fun i p hp=>nz O' k i p (hOo k (by omega)) hp,Ki,hKl,fun i hi=>by have:=hKo i hi;omega,hKb hKl⟩)
     ·right
      obtain rfl:Ki=d.ports.length:=by omega
      refine⟨F',G',O',by rw[eF 0 (by omega)];exact f0,by rw[eG 0 (by omega)];exact g0,by rw[eO 0 (by omega)];exact o0,ol',fun j hj=>?_,hOo,fun j i hj=>?_,by rw[eF1];exact hF1,fun b=>?_⟩
      ·by_cases hjk:j < k
       ·exact hT' j hjk
       ·obtain rfl:j=k:=by omega
        exact hC'
      ·by_cases hjk:j < k
       ·exact hL' j i hjk
       ·obtain rfl:j=k:=by omega
        by_cases hi:i < d.ports.length
        ·have:=hKo i hi;omega
        ·have e:allV O' (j+1) i=[]:=by
          have gen:∀ q,q≤j+1→allV O' q i=[]:=by
           intro q
           induction q with
           | zero=>intro _;rfl
           | succ q ihq=>
            intro hq
            simp only[allV,ihq (by omega),List.nil_append]
            rw[List.getD_eq_getElem?_getD,List.getElem?_eq_none (by rw[ol' q];omega)];rfl
          exact gen (j+1) (Nat.le_refl _)
         rw[e];simp[Pc.join]
      ·have h1:=hs b
       have h2:=hs1 b
       rw[eF1]
       simp only[sumN]
       rw[eO1,sumN_congr (f:=fun j=>Sw d.ports.length wA (O' (j+1)) b) (g:=fun j=>Sw d.ports.length wA (O (j+1)) b) fun j hj=>by rw[eO (j+1) (by omega)]]
       have e3:((k+1:Nat):Int) * inA d b=(k:Int) * inA d b+inA d b:=by rw[Int.natCast_succ,Int.add_mul,Int.one_mul]
       omega
 rcases key ticks (Nat.le_refl _) with he|⟨F,G,O,f0,g0,o0,ol,hT,hO,hL,hFk,hs⟩
 ·exact Or.inl he
 ·right
  have nn:∀ i,∀ p∈allV O ticks i,0≤p.2:=fun i p hp=>by have:=(allV_len i ticks hO).2 p hp;omega
  have hz:∀ k i p,k < ticks→p∈((O (k+1)).getD i none).getD []→p.2≠0:=fun k i p hk hp=>by
   have:=(allV_len i (k+1) fun j hj=>hO j (by omega)).2 p (by simp only[allV];exact List.mem_append.2 (Or.inr hp))
   omega
  refine⟨F ticks,fun i=>Pc.join (allV O ticks i),hFk,fun i=>⟨?_,fun p hp=>?_⟩,fun b=>?_,?_⟩
  ·cases ticks with
   | zero=>simp[allV,Pc.join]
   | succ t=>exact hL t i (by omega)
  ·have h1:=(Pc.join_canon (nn i)).pos p hp
   have h2:=allV_len i ticks hO
   have h3:Pc.vol (Pc.join (allV O ticks i))≤1000000:=by
    rw[Pc.join_vol (nn i)]
    have gen:∀ k,k≤ticks→Pc.vol (allV O k i)≤1000 * (k:Int):=by
     intro k
     induction k with
     | zero=>intro _;simp[allV,Pc.vol]
     | succ k ih=>
      intro hk
      simp only[allV]
      rw[vol_app',List.getD_eq_getElem?_getD]
      have h4:=ih (by omega)
      by_cases hi:i < d.ports.length
      ·rcases (hO k (by omega)).2 i hi with e|⟨q,e,_,hq⟩
       ·rw[e];simp[Pc.vol];omega
       ·rw[e];simp only[Option.getD_some];omega
      ·rw[List.getElem?_eq_none (by rw[ol k];omega)];simp[Pc.vol];omega
    have:=gen ticks (Nat.le_refl _)
    omega
   have hv:=vol_elem' (fun q hq=>Int.le_of_lt ((Pc.join_canon (nn i)).pos q hq)) hp
   omega
  ·have h1:=hs b
   rw[←allV_of]at h1
   rw[sumN_congr (g:=fun i=>Pc.of_ (allV O ticks i) b) fun i hi=>Dl.of_join b (nn i)]
   exact h1
  ·exact arun_fn d hd hn fills hfi ord ho hfd ticks ht F G O f0 g0 o0 ol hT (fun k i hk=>sane O (k+1) i (by omega) fun j hj=>hO j (by omega)) hz (fun k i hk=>hL k i hk)
def sFr (S:List Sgm) (i:Nat):Int:=((S[i]?).map (·.1.fr)).getD 0
def sTo (S:List Sgm) (i:Nat):Int:=((S[i]?).map (·.1.to)).getD 0
def sCp (S:List Sgm) (i:Nat):Int:=((S[i]?).map (·.1.cp)).getD 0
def pNd (P:List Prt) (i:Nat):Int:=((P[i]?).map (·.2.1)).getD 0
def scC (P:List Prt) (pr:List Int) (a:Nat) (at' rate:Int) (w:Bool) (j:Nat):Bool:=decide (pNd P j=at'∧j≠a∧pr.getD j 0≤0∧-1000≤pr.getD j 0 - rate) && w
def scS (l:List Int) (P:List Prt) (pr:List Int) (a:Nat) (at' rate:Int) (w:Bool) (k:Nat):Nat→Nat×Int
 | 0=>(k,-1)
 | j+1=>if scC P pr a at' rate w j=true then (nextK l (scS l P pr a at' rate w k j).1,if nV l (scS l P pr a at' rate w k j).1 2=0 then (j:Int) else (scS l P pr a at' rate w k j).2) else scS l P pr a at' rate w k j
def ouC (S:List Sgm) (rs:List Int) (at' rate:Int) (i:Nat):Bool:=decide ((sFr S i=at'∨sTo S i=at')∧at' < sFr S i+sTo S i - at'∧max (rs.getD i 0) (-(rs.getD i 0))+rate≤min 1000 (sCp S i))
def ouL (S:List Sgm) (rs:List Int) (at' rate:Int):Nat→List Nat
 | 0=>[]
 | i+1=>if ouC S rs at' rate i=true then ouL S rs at' rate i++[i] else ouL S rs at' rate i
def wayG (l:List Int) (S:List Sgm) (P:List Prt) (rs pr:List Int) (a:Nat) (rate:Int):Nat→Nat×List Nat×Int→Nat×List Nat×Int
 | 0,x=>(x.1,x.2.1,-1)
 | f+1,x=>
  if 0≤(scS l P pr a x.2.2 rate (!x.2.1.isEmpty) x.1 P.length).2 then ((scS l P pr a x.2.2 rate (!x.2.1.isEmpty) x.1 P.length).1,x.2.1,(scS l P pr a x.2.2 rate (!x.2.1.isEmpty) x.1 P.length).2)
  else if ouL S rs x.2.2 rate S.length=[] then ((scS l P pr a x.2.2 rate (!x.2.1.isEmpty) x.1 P.length).1,x.2.1,-1)
  else wayG l S P rs pr a rate f (nextK l (scS l P pr a x.2.2 rate (!x.2.1.isEmpty) x.1 P.length).1,
   x.2.1++[(ouL S rs x.2.2 rate S.length).getD (nV l (scS l P pr a x.2.2 rate (!x.2.1.isEmpty) x.1 P.length).1 (ouL S rs x.2.2 rate S.length).length).toNat 0],
   sFr S ((ouL S rs x.2.2 rate S.length).getD (nV l (scS l P pr a x.2.2 rate (!x.2.1.isEmpty) x.1 P.length).1 (ouL S rs x.2.2 rate S.length).length).toNat 0)+sTo S ((ouL S rs x.2.2 rate S.length).getD (nV l (scS l P pr a x.2.2 rate (!x.2.1.isEmpty) x.1 P.length).1 (ouL S rs x.2.2 rate S.length).length).toNat 0) - x.2.2)
def addW (S:List Sgm) (rate:Int) (rs:List Int) (c:Nat):List Int:=rs.set c (if sFr S c < sTo S c then rs.getD c 0+rate else rs.getD c 0 - rate)
def addWs (S:List Sgm) (rate:Int) (rs:List Int):List Nat→List Int
 | []=>rs
 | c :: w=>addWs S rate (addW S rate rs c) w
def setP (pr:List Int) (a e:Nat) (rate:Int):List Int:=(pr.set a (pr.getD a 0+rate)).set e (pr.getD e 0 - rate)
def strV (l:List Int) (S:List Sgm) (P:List Prt) (x:Nat×List Int×List Int):Nat×List Int×List Int:=
 let a:=(nV l x.1 P.length).toNat
 let rate:=rangeV l (nextK l (nextK l x.1)) 1 (pickV l (nextK l x.1) [1,5,30,300])
 let k:=nextK l (nextK l (nextK l x.1))
 if x.2.2.getD a 0 < 0∨1000 < x.2.2.getD a 0+rate then (k,x.2.1,x.2.2)
 else
  let w:=wayG l S P x.2.1 x.2.2 a rate 30 (k,[],pNd P a)
  if w.2.2 < 0 then (w.1,x.2.1,x.2.2) else (w.1,addWs S rate x.2.1 w.2.1,setP x.2.2 a w.2.2.toNat rate)
def ind (p:Prop) [Decidable p]:Int:=if p then 1 else 0
structure PlI (S:List Sgm) (P:List Prt) (rs pr:List Int):Prop where
 lr:rs.length=S.length
 lp:pr.length=P.length
 bR:∀ i,i < S.length→-(min 1000 (sCp S i))≤rs.getD i 0∧rs.getD i 0≤min 1000 (sCp S i)
 bP:∀ i,i < P.length→-1000≤pr.getD i 0∧pr.getD i 0≤1000
 dir:∀ i,i < S.length→(0 < rs.getD i 0→sFr S i < sTo S i)∧(rs.getD i 0 < 0→sTo S i < sFr S i)
 bal:∀ v:Int,sumN P.length (fun i=>pr.getD i 0 * ind (pNd P i=v))+sumN S.length (fun i=>rs.getD i 0 * (ind (sTo S i=v) - ind (sFr S i=v)))=0
theorem getD_set {l:List Int} {i j:Nat} {x:Int} (h:i < l.length):(l.set i x).getD j 0=if j=i then x else l.getD j 0:=by
 simp only[List.getD_eq_getElem?_getD,List.getElem?_set]
 by_cases e:i=j
 ·subst e;simp[h]
 ·have:¬ j=i:=fun q=>e q.symm
  simp[e,this]
theorem scS_ok {l:List Int} {P:List Prt} {pr:List Int} {a:Nat} {at' rate:Int} {w:Bool} {k:Nat} (h:SrcOk l k):∀ j,SrcOk l (scS l P pr a at' rate w k j).1∧((scS l P pr a at' rate w k j).2=-1∨∃ e:Nat,(scS l P pr a at' rate w k j).2=(e:Int)∧e < j∧scC P pr a at' rate w e=true)
 | 0=>⟨h,Or.inl rfl⟩
 | j+1=>by
  obtain⟨h1,h2⟩:=scS_ok (P:=P) (pr:=pr) (a:=a) (at':=at') (rate:=rate) (w:=w) h j
  simp only[scS]
  split
  ·rename_i hc
   refine⟨h1.next,?_⟩
   dsimp only
   split
   ·exact Or.inr ⟨j,rfl,by omega,hc⟩
   ·rcases h2 with e|⟨e,q1,q2,q3⟩
    ·exact Or.inl e
    ·exact Or.inr ⟨e,q1,by omega,q3⟩
  ·refine⟨h1,?_⟩
   rcases h2 with e|⟨e,q1,q2,q3⟩
   ·exact Or.inl e
   ·exact Or.inr ⟨e,q1,by omega,q3⟩
theorem ouL_mem {S:List Sgm} {rs:List Int} {at' rate:Int} {c:Nat}:∀ {n:Nat},c∈ouL S rs at' rate n→c < n∧ouC S rs at' rate c=true
 | 0,h=>by simp[ouL]at h
 | n+1,h=>by
  simp only[ouL]at h
  split at h
  ·rename_i hc
   rcases List.mem_append.1 h with h|h
   ·have:=ouL_mem h;exact⟨by omega,this.2⟩
   ·simp at h;subst h;exact⟨by omega,hc⟩
  ·have:=ouL_mem h;exact⟨by omega,this.2⟩
theorem ouL_len {S:List Sgm} {rs:List Int} {at' rate:Int}:∀ n,(ouL S rs at' rate n).length≤n
 | 0=>by simp[ouL]
 | n+1=>by
  have:=ouL_len (S:=S) (rs:=rs) (at':=at') (rate:=rate) n
  simp only[ouL]
  split
  ·simp;omega
  ·omega
inductive Way (S:List Sgm) (rs:List Int) (rate:Int) (s:Int):List Nat→Int→Prop
 | nil:Way S rs rate s [] s
 | snoc {w:List Nat} {t:Int} {c:Nat}:Way S rs rate s w t→c < S.length→ouC S rs t rate c=true→Way S rs rate s (w++[c]) (sFr S c+sTo S c - t)
theorem wayG_ok {l:List Int} {S:List Sgm} {P:List Prt} {rs pr:List Int} {a:Nat} {rate s:Int}:∀ (f:Nat) (x:Nat×List Nat×Int),SrcOk l x.1→Way S rs rate s x.2.1 x.2.2→
  SrcOk l (wayG l S P rs pr a rate f x).1∧((wayG l S P rs pr a rate f x).2.2=-1∨∃ (e:Nat) (t:Int),(wayG l S P rs pr a rate f x).2.2=(e:Int)∧e < P.length∧Way S rs rate s (wayG l S P rs pr a rate f x).2.1 t∧scC P pr a t rate true e=true)
 | 0,x,h,_=>⟨h,Or.inl rfl⟩
 | f+1,x,h,hw=>by
  obtain⟨h1,h2⟩:=scS_ok (P:=P) (pr:=pr) (a:=a) (at':=x.2.2) (rate:=rate) (w:=!x.2.1.isEmpty) h P.length
  simp only[wayG]
  split
  ·rename_i h0
   refine⟨h1,Or.inr ?_⟩
   rcases h2 with e|⟨e,q1,q2,q3⟩
   ·omega
   ·refine⟨e,x.2.2,q1,q2,hw,?_⟩
    simp only[scC,Bool.and_eq_true]at q3 ⊢
    exact⟨q3.1,trivial⟩
  ·split
   ·exact⟨h1,Or.inl rfl⟩
   ·rename_i h0 hne
    have hl:0 < (ouL S rs x.2.2 rate S.length).length:=List.length_pos_iff.2 hne
    have hn:=nV_range (l:=l) (k:=(scS l P pr a x.2.2 rate (!x.2.1.isEmpty) x.1 P.length).1) (n:=(ouL S rs x.2.2 rate S.length).length) (by omega)
    refine wayG_ok f _ h1.next ?_
    have hm:(ouL S rs x.2.2 rate S.length).getD (nV l (scS l P pr a x.2.2 rate (!x.2.1.isEmpty) x.1 P.length).1 (ouL S rs x.2.2 rate S.length).length).toNat 0∈ouL S rs x.2.2 rate S.length:=by
     rw[List.getD_eq_getElem?_getD,List.getElem?_eq_getElem (by omega)]
     exact List.getElem_mem _
    have:=ouL_mem hm
    exact Way.snoc hw this.1 this.2
theorem way_lo {S:List Sgm} {rs:List Int} {rate s:Int} {w:List Nat} {t:Int} (h:Way S rs rate s w t):s≤t∧∀ c∈w,c < S.length∧ouC S rs (min (sFr S c) (sTo S c)) rate c=true∧min (sFr S c) (sTo S c) < t:=by
 induction h with
 | nil=>exact⟨Int.le_refl _,by simp⟩
 | snoc hw hc ho ih=>
  rename_i w t c
  have ho2:=of_decide_eq_true ho
  obtain⟨h1,h2,h3⟩:=ho2
  refine⟨by omega,fun c' hc'=>?_⟩
  rcases List.mem_append.1 hc' with hm|hm
  ·have:=ih.2 c' hm
   exact⟨this.1,this.2.1,by omega⟩
  ·simp at hm;subst hm
   have e:min (sFr S c') (sTo S c')=t:=by omega
   rw[e]
   exact⟨hc,ho,by omega⟩
theorem way_nodup {S:List Sgm} {rs:List Int} {rate s:Int} {w:List Nat} {t:Int} (h:Way S rs rate s w t):w.Nodup:=by
 induction h with
 | nil=>exact List.nodup_nil
 | snoc hw hc ho ih=>
  rename_i w t c
  refine List.nodup_append.2 ⟨ih,by simp,fun a ha b hb e=>?_⟩
  simp at hb
  subst hb;subst e
  have h1:=(way_lo hw).2 a ha
  have h2:=of_decide_eq_true ho
  omega
theorem addWs_len (S:List Sgm) (rate:Int):∀ (w:List Nat) (rs:List Int),(addWs S rate rs w).length=rs.length
 | [],rs=>rfl
 | c :: w,rs=>by simp only[addWs];rw[addWs_len S rate w];simp[addW]
theorem addWs_get (S:List Sgm) (rate:Int):∀ (w:List Nat) (rs:List Int),w.Nodup→(∀ c∈w,c < rs.length)→∀ i,(addWs S rate rs w).getD i 0=if i∈w then (if sFr S i < sTo S i then rs.getD i 0+rate else rs.getD i 0 - rate) else rs.getD i 0
 | [],rs,_,_,i=>by simp[addWs]
 | c :: w,rs,hn,hl,i=>by
  have hn2:=List.nodup_cons.1 hn
  have hc:=hl c (by simp)
  simp only[addWs]
  rw[addWs_get S rate w (addW S rate rs c) hn2.2 (fun c' h=>by simp only[addW,List.length_set];exact hl c' (by simp[h]))]
  simp only[addW]
  rw[getD_set hc]
  by_cases hi:i∈w
  ·have:¬ i=c:=fun e=>hn2.1 (e ▸ hi)
   rw[if_pos hi,if_neg this,if_pos (List.mem_cons_of_mem _ hi)]
  ·rw[if_neg hi]
   by_cases e:i=c
   ·subst e
    have hm:i∈i :: w:=by simp
    rw[if_pos rfl,if_pos hm]
   ·rw[if_neg e,if_neg (by simp[e,hi])]
theorem way_bal {S:List Sgm} {rs:List Int} {rate s:Int} {w:List Nat} {t:Int} (h:Way S rs rate s w t) (v:Int):sumN S.length (fun i=>if i∈w then (if sFr S i < sTo S i then rate else -rate) * (ind (sTo S i=v) - ind (sFr S i=v)) else 0)=rate * (ind (t=v) - ind (s=v)):=by
 induction h with
 | nil=>
  rw[sumN_nil fun i hi=>by simp]
  have:ind (s=v) - ind (s=v)=0:=by omega
  rw[this];simp
 | snoc hw hc ho ih=>
  rename_i w t c
  have hcw:c∉w:=fun hm=>by
   have h1:=(way_lo hw).2 c hm
   have h2:=of_decide_eq_true ho
   omega
  rw[sumN_one (f:=fun i=>if i∈w then (if sFr S i < sTo S i then rate else -rate) * (ind (sTo S i=v) - ind (sFr S i=v)) else 0) (i:=c) (x:=rate * (ind (sFr S c+sTo S c - t=v) - ind (t=v))) hc ?_ ?_,ih]
  ·rw[←Int.mul_add];congr 1;omega
  ·rw[if_neg hcw,if_pos (by simp)]
   obtain⟨h1,h2,_⟩:=of_decide_eq_true ho
   rcases h1 with h1|h1
   ·have e:sFr S c+sTo S c - t=sTo S c:=by omega
    rw[if_pos (by omega),e,h1];omega
   ·have e:sFr S c+sTo S c - t=sFr S c:=by omega
    rw[if_neg (by omega),e,h1,Int.zero_add,Int.neg_mul,←Int.mul_neg];congr 1;omega
  ·intro j hj hne
   by_cases hm:j∈w
   ·rw[if_pos hm,if_pos (by simp[hm])]
   ·rw[if_neg hm,if_neg (by simp[hm,hne])]
theorem strV_ok {l:List Int} {S:List Sgm} {P:List Prt} (hP:1≤P.length) {x:Nat×List Int×List Int} (h:SrcOk l x.1) (hx:PlI S P x.2.1 x.2.2):SrcOk l (strV l S P x).1∧PlI S P (strV l S P x).2.1 (strV l S P x).2.2:=by
 have ha:=nV_range (l:=l) (k:=x.1) (n:=P.length) (by omega)
 have hpk:=pickV_mem (l:=l) (k:=nextK l x.1) (xs:=[1,5,30,300]) (by simp)
 have hr:=rangeV_range (l:=l) (k:=nextK l (nextK l x.1)) (lo:=1) (hi:=pickV l (nextK l x.1) [1,5,30,300]) (by simp at hpk;omega)
 unfold strV
 obtain⟨a,haa⟩:∃ a,(nV l x.1 P.length).toNat=a:=⟨_,rfl⟩
 obtain⟨pk,hpp⟩:∃ a,pickV l (nextK l x.1) [1,5,30,300]=a:=⟨_,rfl⟩
 rw[hpp]at hpk hr ⊢
 obtain⟨rate,hrr⟩:∃ a,rangeV l (nextK l (nextK l x.1)) 1 pk=a:=⟨_,rfl⟩
 rw[haa]
 rw[hrr]at hr ⊢
 simp at hpk
 dsimp only
 split
 ·exact⟨h.next.next.next,hx⟩
 ·rename_i hc
  obtain⟨w1,w2⟩:=wayG_ok (l:=l) (S:=S) (P:=P) (rs:=x.2.1) (pr:=x.2.2) (a:=a) (rate:=rate) (s:=pNd P a) 30 (nextK l (nextK l (nextK l x.1)),[],pNd P a) h.next.next.next Way.nil
  obtain⟨⟨wk,ww,we⟩,hw⟩:∃ w,wayG l S P x.2.1 x.2.2 a rate 30 (nextK l (nextK l (nextK l x.1)),[],pNd P a)=w:=⟨_,rfl⟩
  rw[hw]at w1 w2 ⊢
  dsimp only at w1 w2 ⊢
  split
  ·exact⟨w1,hx⟩
  ·rename_i he
   refine⟨w1,?_⟩
   rcases w2 with w2|⟨e,t,q1,q2,q3,q4⟩
   ·omega
   ·have e1:we.toNat=e:=by omega
    dsimp only
    rw[e1]
    simp only[scC,Bool.and_true]at q4
    obtain⟨c1,c2,c3,c4⟩:=of_decide_eq_true q4
    have hal:a < P.length:=by omega
    have hwn:=way_nodup q3
    have hwl:∀ c∈ww,c < x.2.1.length:=fun c hc=>by rw[hx.lr];exact ((way_lo q3).2 c hc).1
    have hg:=addWs_get S rate ww x.2.1 hwn hwl
    have hpg:∀ i,(setP x.2.2 a e rate).getD i 0=if i=e then x.2.2.getD e 0 - rate else if i=a then x.2.2.getD a 0+rate else x.2.2.getD i 0:=fun i=>by
     unfold setP
     rw[getD_set (by rw[List.length_set,hx.lp];exact q2),getD_set (by rw[hx.lp];exact hal)]
    have hba:=hx.bP a hal
    refine⟨by rw[addWs_len];exact hx.lr,by simp[setP,hx.lp],fun i hi=>?_,fun i hi=>?_,fun i hi=>?_,fun v=>?_⟩
    ·rw[hg i]
     have hb:=hx.bR i hi
     split
     ·rename_i hm
      obtain⟨_,_,h3⟩:=of_decide_eq_true ((way_lo q3).2 i hm).2.1
      split<;>omega
     ·exact hb
    ·rw[hpg i]
     have hb:=hx.bP i hi
     split
     ·omega
     ·split
      ·omega
      ·exact hb
    ·rw[hg i]
     have hd:=hx.dir i hi
     split
     ·rename_i hm
      obtain⟨h1,h2,h3⟩:=of_decide_eq_true ((way_lo q3).2 i hm).2.1
      split<;>omega
     ·exact hd
    ·have hb:=hx.bal v
     have wb:=way_bal q3 v
     have s1:sumN S.length (fun i=>(addWs S rate x.2.1 ww).getD i 0 * (ind (sTo S i=v) - ind (sFr S i=v)))=sumN S.length (fun i=>x.2.1.getD i 0 * (ind (sTo S i=v) - ind (sFr S i=v)))+rate * (ind (t=v) - ind (pNd P a=v)):=by
      rw[←wb,←sumN_add]
      refine sumN_congr fun i hi=>?_
      rw[hg i]
      split
      ·split
       ·rw[Int.add_mul]
       ·rw[Int.sub_mul,Int.neg_mul];omega
      ·omega
     have p1:sumN P.length (fun i=>(if i=a then x.2.2.getD a 0+rate else x.2.2.getD i 0) * ind (pNd P i=v))=sumN P.length (fun i=>x.2.2.getD i 0 * ind (pNd P i=v))+rate * ind (pNd P a=v):=
      sumN_one hal (by rw[if_pos rfl,Int.add_mul]) (fun j hj hne=>by rw[if_neg hne])
     have p2:sumN P.length (fun i=>(setP x.2.2 a e rate).getD i 0 * ind (pNd P i=v))=sumN P.length (fun i=>(if i=a then x.2.2.getD a 0+rate else x.2.2.getD i 0) * ind (pNd P i=v))+-(rate * ind (pNd P e=v)):=
      sumN_one q2 (by rw[hpg e,if_pos rfl,if_neg c2,Int.sub_mul];omega) (fun j hj hne=>by rw[hpg j,if_neg hne])
     rw[c1]at p2
     have hm:rate * (ind (t=v) - ind (pNd P a=v))=rate * ind (t=v) - rate * ind (pNd P a=v):=Int.mul_sub _ _ _
     omega
def strN (l:List Int) (S:List Sgm) (P:List Prt) (k:Nat):Nat→Nat×List Int×List Int
 | 0=>(k,List.replicate S.length 0,List.replicate P.length 0)
 | j+1=>strV l S P (strN l S P k j)
theorem getD_rep (n i:Nat):(List.replicate n (0:Int)).getD i 0=0:=by
 rw[List.getD_eq_getElem?_getD,List.getElem?_replicate]
 split<;>rfl
theorem strN_ok {l:List Int} {S:List Sgm} {P:List Prt} (hP:1≤P.length) (hc:∀ i,i < S.length→0≤sCp S i) {k:Nat} (h:SrcOk l k):∀ j,SrcOk l (strN l S P k j).1∧PlI S P (strN l S P k j).2.1 (strN l S P k j).2.2
 | 0=>⟨h,by
  refine⟨by simp[strN],by simp[strN],fun i hi=>?_,fun i hi=>?_,fun i hi=>?_,fun v=>?_⟩
  ·show _≤(List.replicate S.length (0:Int)).getD i 0∧(List.replicate S.length (0:Int)).getD i 0≤_
   rw[getD_rep]
   have:=hc i hi;omega
  ·show _≤(List.replicate P.length (0:Int)).getD i 0∧(List.replicate P.length (0:Int)).getD i 0≤_
   rw[getD_rep];omega
  ·show (0 < (List.replicate S.length (0:Int)).getD i 0→_)∧((List.replicate S.length (0:Int)).getD i 0 < 0→_)
   rw[getD_rep];omega
  ·show sumN P.length (fun i=>(List.replicate P.length (0:Int)).getD i 0 * ind (pNd P i=v))+sumN S.length (fun i=>(List.replicate S.length (0:Int)).getD i 0 * (ind (sTo S i=v) - ind (sFr S i=v)))=0
   rw[sumN_nil fun i hi=>by rw[getD_rep,Int.zero_mul],sumN_nil fun i hi=>by rw[getD_rep,Int.zero_mul]];rfl⟩
 | j+1=>by
  obtain⟨h1,h2⟩:=strN_ok hP hc h j
  exact strV_ok hP h1 h2
structure PlR (S:List Sgm) (P:List Prt) (ρ:Nat→Nat) (rs pr:List Int):Prop where
 lr:rs.length=S.length
 lp:pr.length=P.length
 bR:∀ i,i < S.length→-(min 1000 (sCp S i))≤rs.getD i 0∧rs.getD i 0≤min 1000 (sCp S i)
 bP:∀ i,i < P.length→-1000≤pr.getD i 0∧pr.getD i 0≤1000
 dir:∀ i,i < S.length→rs.getD i 0≠0→ρ (fFr (sFr S i) (sTo S i) (rs.getD i 0)).toNat < ρ (fTo (sFr S i) (sTo S i) (rs.getD i 0)).toNat
 bal:∀ v:Int,sumN P.length (fun i=>pr.getD i 0 * ind (pNd P i=v))+sumN S.length (fun i=>rs.getD i 0 * (ind (sTo S i=v) - ind (sFr S i=v)))=0
theorem PlI.up {S:List Sgm} {P:List Prt} {rs pr:List Int} (h:PlI S P rs pr) (hn:∀ i,i < S.length→0≤sFr S i∧0≤sTo S i):PlR S P (fun k=>k) rs pr:=
 ⟨h.lr,h.lp,h.bR,h.bP,fun i hi hr=>by
  have h1:=h.dir i hi
  have h2:=hn i hi
  unfold fFr fTo
  split<;>omega,h.bal⟩
theorem getD_neg (l:List Int) (i:Nat):(l.map fun x=>-x).getD i 0=-(l.getD i 0):=by
 simp only[List.getD_eq_getElem?_getD,List.getElem?_map]
 cases l[i]?<;>simp
theorem PlI.down {S:List Sgm} {P:List Prt} {rs pr:List Int} (h:PlI S P rs pr) (n:Nat) (hn:∀ i,i < S.length→(0≤sFr S i∧sFr S i < n)∧0≤sTo S i∧sTo S i < n):PlR S P (fun k=>n - k) (rs.map fun x=>-x) (pr.map fun x=>-x):=by
 refine⟨by simp[h.lr],by simp[h.lp],fun i hi=>?_,fun i hi=>?_,fun i hi hr=>?_,fun v=>?_⟩
 ·rw[getD_neg];have:=h.bR i hi;omega
 ·rw[getD_neg];have:=h.bP i hi;omega
 ·rw[getD_neg]at hr ⊢
  have h1:=h.dir i hi
  have h2:=hn i hi
  unfold fFr fTo
  split<;>omega
 ·have hb:=h.bal v
  have e1:sumN P.length (fun i=>(pr.map fun x=>-x).getD i 0 * ind (pNd P i=v))+sumN P.length (fun i=>pr.getD i 0 * ind (pNd P i=v))=0:=by
   rw[←sumN_add]
   exact sumN_nil fun i hi=>by rw[getD_neg,Int.neg_mul];omega
  have e2:sumN S.length (fun i=>(rs.map fun x=>-x).getD i 0 * (ind (sTo S i=v) - ind (sFr S i=v)))+sumN S.length (fun i=>rs.getD i 0 * (ind (sTo S i=v) - ind (sFr S i=v)))=0:=by
   rw[←sumN_add]
   exact sumN_nil fun i hi=>by rw[getD_neg,Int.neg_mul];omega
  omega
def con (v:Int) (x:Int×Int×Int):Int:=x.2.2 * (ind (x.2.1=v) - ind (x.1=v))
theorem sgFl_sum (v:Int):∀ (S:List Sgm) (rs:List Int),rs.length=S.length→Dl.tot ((sgFl S rs).map (con v))=sumN S.length fun i=>rs.getD i 0 * (ind (sTo S i=v) - ind (sFr S i=v))
 | [],rs,_=>by simp[sgFl,Dl.tot,sumN]
 | s :: S,[],h=>by simp at h
 | s :: S,r :: rs,h=>by
  have ih:=sgFl_sum v S rs (by simpa using h)
  rw[List.length_cons,sumN_head]
  have e:(sumN S.length fun i=>(r :: rs).getD (i+1) 0 * (ind (sTo (s :: S) (i+1)=v) - ind (sFr (s :: S) (i+1)=v)))=sumN S.length fun i=>rs.getD i 0 * (ind (sTo S i=v) - ind (sFr S i=v)):=sumN_congr fun i hi=>by rw[show sTo (s :: S) (i+1)=sTo S i by simp[sTo],show sFr (s :: S) (i+1)=sFr S i by simp[sFr],List.getD_cons_succ]
  rw[e,←ih]
  simp[sgFl,con,Dl.tot,sTo,sFr]
theorem ptFl_sum (v:Int) (hv:0≤v):∀ (P:List Prt) (pr:List Int),pr.length=P.length→Dl.tot ((ptFl P pr).map (con v))=sumN P.length fun i=>pr.getD i 0 * ind (pNd P i=v)
 | [],rs,_=>by simp[ptFl,Dl.tot,sumN]
 | s :: S,[],h=>by simp at h
 | s :: S,r :: rs,h=>by
  have ih:=ptFl_sum v hv S rs (by simpa using h)
  rw[List.length_cons,sumN_head]
  have e:(sumN S.length fun i=>(r :: rs).getD (i+1) 0 * ind (pNd (s :: S) (i+1)=v))=sumN S.length fun i=>rs.getD i 0 * ind (pNd S i=v):=sumN_congr fun i hi=>by rw[show pNd (s :: S) (i+1)=pNd S i by simp[pNd],List.getD_cons_succ]
  rw[e,←ih]
  have hm:ind ((-1:Int)=v)=0:=by unfold ind;rw[if_neg (by omega)]
  simp[ptFl,con,Dl.tot,pNd,hm]
theorem addC_get {c:List Int} {k r:Int} {v:Nat} (hv:v < c.length):(addC c k r).getD v 0=c.getD v 0+r * ind (k=(v:Int)):=by
 unfold addC ind
 by_cases h0:0≤k
 ·rw[if_pos h0]
  by_cases e:k=(v:Int)
  ·subst e
   rw[if_pos rfl,getD_set (by simpa using hv)]
   simp
  ·rw[if_neg e,List.getD_eq_getElem?_getD,List.getElem?_set_ne (by omega),List.getD_eq_getElem?_getD];omega
 ·rw[if_neg h0,if_neg (by omega)];omega
theorem sumP_get (v:Nat) (hv:v < 24):∀ (l:flows) (s:List Int×List Int),s.1.length=24→s.2.length=24→(l.foldl addP s).1.getD v 0 - (l.foldl addP s).2.getD v 0=s.1.getD v 0 - s.2.getD v 0+Dl.tot (l.map (con v))
 | [],s,_,_=>by simp[Dl.tot]
 | x :: r,s,h1,h2=>by
  have ih:=sumP_get v hv r (addP s x) (by simp only[addP,addC_len,h1]) (by simp only[addP,addC_len,h2])
  rw[List.foldl_cons,ih]
  simp only[addP,List.map_cons,Dl.tot]
  rw[addC_get (by omega),addC_get (by omega)]
  have:fAb x.2.2 * ind (fTo x.1 x.2.1 x.2.2=(v:Int)) - fAb x.2.2 * ind (fFr x.1 x.2.1 x.2.2=(v:Int))=con v x:=by
   rw[←Int.mul_sub]
   unfold con fAb fTo fFr
   split
   ·rw[Int.neg_mul,←Int.mul_neg];congr 1;omega
   ·rfl
  omega
theorem PlR.flow {d:NetD} (hd:NetOk d) {ρ:Nat→Nat} {rs pr:List Int} (h:PlR d.segs d.ports ρ rs pr):(sumP (sgFl d.segs rs++ptFl d.ports pr)).1=(sumP (sgFl d.segs rs++ptFl d.ports pr)).2:=by
 have hb:∀ x∈sgFl d.segs rs++ptFl d.ports pr,-1000≤x.2.2∧x.2.2≤1000:=fun x hx=>by
  rcases List.mem_append.1 hx with hx|hx
  ·obtain⟨⟨s,r⟩,hz,rfl⟩:=List.mem_map.1 hx
   obtain⟨i,hi,e⟩:=List.getElem_of_mem (List.of_mem_zip hz).2
   have:=h.bR i (by rw[←h.lr];exact hi)
   rw[List.getD_eq_getElem?_getD,List.getElem?_eq_getElem hi,e]at this
   simp only[Option.getD_some]at this
   show -1000≤r∧r≤1000
   omega
  ·obtain⟨⟨s,r⟩,hz,rfl⟩:=List.mem_map.1 hx
   obtain⟨i,hi,e⟩:=List.getElem_of_mem (List.of_mem_zip hz).2
   have:=h.bP i (by rw[←h.lp];exact hi)
   rw[List.getD_eq_getElem?_getD,List.getElem?_eq_getElem hi,e]at this
   exact this
 obtain⟨l1,l2⟩:=sumP_len _ hb
 apply List.ext_getElem (by rw[l1,l2])
 intro v h1 h2
 have hv:v < 24:=by omega
 have:=sumP_get v hv (sgFl d.segs rs++ptFl d.ports pr) zero24 rfl rfl
 rw[List.map_append,Dl.tot_app,sgFl_sum (v:Int) d.segs rs h.lr,ptFl_sum (v:Int) (by omega) d.ports pr h.lp]at this
 have hbal:=h.bal (v:Int)
 have z:zero24.1.getD v 0 - zero24.2.getD v 0=0:=by simp[zero24]
 have e1:(sumP (sgFl d.segs rs++ptFl d.ports pr)).1.getD v 0=(sumP (sgFl d.segs rs++ptFl d.ports pr)).1[v]:=by rw[List.getD_eq_getElem?_getD,List.getElem?_eq_getElem h1];rfl
 have e2:(sumP (sgFl d.segs rs++ptFl d.ports pr)).2.getD v 0=(sumP (sgFl d.segs rs++ptFl d.ports pr)).2[v]:=by rw[List.getD_eq_getElem?_getD,List.getElem?_eq_getElem h2];rfl
 rw[←e1,←e2]
 unfold sumP
 omega
theorem least_rank (n:Nat) (ρ:Nat→Nat) (A:Nat→Prop) (h:∃ k,k < n∧A k):∃ k,k < n∧A k∧∀ j,j < n→A j→ρ k≤ρ j:=by
 classical
 induction n with
 | zero=>obtain⟨k,hk,_⟩:=h;omega
 | succ n ih=>
  by_cases h2:∃ k,k < n∧A k
  ·obtain⟨k,h3,h4,h5⟩:=ih h2
   by_cases hn:A n∧ρ n < ρ k
   ·refine⟨n,by omega,hn.1,fun j hj ha=>?_⟩
    by_cases e:j=n
    ·subst e;exact Nat.le_refl _
    ·have:=h5 j (by omega) ha;omega
   ·refine⟨k,by omega,h4,fun j hj ha=>?_⟩
    by_cases e:j=n
    ·subst e
     by_cases h6:ρ j < ρ k
     ·exact absurd ⟨ha,h6⟩ hn
     ·omega
    ·exact h5 j (by omega) ha
  ·obtain⟨k,hk,ha⟩:=h
   have e:k=n:=by
    by_cases e:k=n
    ·exact e
    ·exact absurd ⟨k,by omega,ha⟩ h2
   subst e
   refine⟨k,hk,ha,fun j hj hb=>?_⟩
   by_cases e:j=k
   ·subst e;exact Nat.le_refl _
   ·exact absurd ⟨j,by omega,hb⟩ h2
structure OrF (F:flows) (n:Nat) (out:List Nat):Prop where
 nd:out.Nodup
 lt:∀ k∈out,k < n
 top:∀ (i:Nat) k,out[i]? = some k→rdyB F (out.take i) k=true
theorem orF_snoc {F:flows} {n:Nat} {out:List Nat} (h:OrF F n out) {k:Nat} (hk:k < n) (hn:k∉out) (hr:rdyB F out k=true):OrF F n (out++[k]):=by
 refine⟨List.nodup_append.2 ⟨h.nd,by simp,fun a ha b hb e=>by simp at hb;subst hb;subst e;exact hn ha⟩,fun j hj=>?_,fun i j hi=>?_⟩
 ·rcases List.mem_append.1 hj with hj|hj
  ·exact h.lt j hj
  ·simp at hj;subst hj;exact hk
 ·rcases snoc_get hi with ⟨hl,hi⟩|⟨rfl,rfl⟩
  ·rw[List.take_append_of_le_length (by omega)]
   exact h.top i j hi
  ·rw[List.take_left];exact hr
theorem not_all {n:Nat} {out:List Nat} (hn:out.Nodup) (hl:out.length < n):∃ k,k < n∧k∉out:=by
 by_cases h:∃ k,k < n∧k∉out
 ·exact h
 ·exfalso
  have hsub:∀ k∈List.range n,k∈out:=fun k hk=>by
   by_cases hm:k∈out
   ·exact hm
   ·exact absurd ⟨k,List.mem_range.1 hk,hm⟩ h
  have:=List.Nodup.length_le_of_subset (List.nodup_range (n:=n)) hsub
  simp at this;omega
theorem ordF {F:flows} {n:Nat} {ρ:Nat→Nat} (hF:∀ x∈F,x.2.2≠0→(0≤fFr x.1 x.2.1 x.2.2∧fFr x.1 x.2.1 x.2.2 < n)∧ρ (fFr x.1 x.2.1 x.2.2).toNat < ρ (fTo x.1 x.2.1 x.2.2).toNat):∀ (f:Nat) (out:List Nat),OrF F n out→out.length+f=n→OrF F n (ordV F n f out)∧(ordV F n f out).length=n
 | 0,out,h,hl=>⟨h,by simpa [ordV] using hl⟩
 | f+1,out,h,hl=>by
  obtain⟨k,hk,hka,hkm⟩:=least_rank n ρ (fun k=>k∉out) (not_all h.nd (by omega))
  have hr:rdyB F out k=true:=by
   unfold rdyB
   rw[List.all_eq_true]
   intro x hx
   simp only[blkB]
   by_cases hz:x.2.2=0
   ·simp[hz]
   ·by_cases ht:fTo x.1 x.2.1 x.2.2=(k:Int)
    ·obtain⟨h1,h2⟩:=hF x hx hz
     have hin:(fFr x.1 x.2.1 x.2.2).toNat∈out:=by
      by_cases hm:(fFr x.1 x.2.1 x.2.2).toNat∈out
      ·exact hm
      ·have:=hkm (fFr x.1 x.2.1 x.2.2).toNat (by omega) hm
       rw[ht]at h2
       simp only[Int.toNat_natCast]at h2
       omega
     simp[List.contains_eq_mem,hin]
    ·simp[ht]
  simp only[ordV]
  cases hq:nextB F n out with
  | none=>
   exfalso
   unfold nextB at hq
   have:=List.find?_eq_none.1 hq k (List.mem_range.2 hk)
   apply this
   simp[List.contains_eq_mem,hka,hr]
  | some j=>
   unfold nextB at hq
   have h1:=List.find?_some hq
   have h2:=List.mem_range.1 (List.mem_of_find?_eq_some hq)
   simp only[Bool.and_eq_true,Bool.not_eq_true',List.contains_eq_mem,decide_eq_false_iff_not]at h1
   exact ordF hF f (out++[j]) (orF_snoc h h2 h1.1 h1.2) (by simp;omega)
def gnD (d:NetD) (rs pr feeds:List Int) (pumps:List T):LineD:=⟨.sl 1 (d.nn.map encS),d.segs,d.ports,.sl 5 (d.stns.map encSn),.int d.vap,.int d.stl,rs,pr,.sl 1 pumps,feeds⟩
structure GnOk (d:NetD):Prop where
 net:NetOk d
 s1:1≤d.segs.length
 p1:1≤d.ports.length
 num:d.ports.length+d.segs.length≤64
theorem sx {S:List Sgm} {i:Nat} {s:Sgm} (h:S[i]? = some s):sFr S i=s.1.fr∧sTo S i=s.1.to∧sCp S i=s.1.cp:=by simp[sFr,sTo,sCp,h]
theorem getD_mem' {l:List Int} {x:Int} (h:x∈l):∃ i,i < l.length∧l.getD i 0=x:=by
 obtain⟨i,hi,e⟩:=List.getElem_of_mem h
 exact⟨i,hi,by rw[List.getD_eq_getElem?_getD,List.getElem?_eq_getElem hi,e];rfl⟩
theorem GnOk.nodes {d:NetD} (h:GnOk d) {i:Nat} (hi:i < d.segs.length):(0≤sFr d.segs i∧sFr d.segs i < d.nn.length)∧(0≤sTo d.segs i∧sTo d.segs i < d.nn.length)∧0≤sCp d.segs i:=by
 obtain⟨s,hs⟩:∃ s,d.segs[i]? = some s:=has_get hi
 obtain⟨e1,e2,e3⟩:=sx hs
 have h1:=h.net.knS s (List.mem_of_getElem? hs)
 have h2:=(h.net.pipe s (List.mem_of_getElem? hs)).cap
 rw[e1,e2,e3]
 omega
theorem gnD_ok {d:NetD} (h:GnOk d) {ρ:Nat→Nat} {rs pr feeds:List Int} (pumps:List T) (hp:PlR d.segs d.ports ρ rs pr) (hf:feeds.length=d.ports.length) (hb:∀ b∈feeds,0≤b∧b < 1000):LineOk (gnD d rs pr feeds pumps):=by
 have hs1:=h.s1
 have hp1:=h.p1
 have hn:=h.num
 refine⟨rfl,rfl,rfl,rfl,rfl,hp.lr,hp.lp,hf,?_,?_,by show d.segs.length≤1000;omega,by show d.ports.length≤1000;omega,fun r hr=>?_,fun r hr=>?_,fun r hr=>?_⟩
 ·intro e
  have:d.segs.length=0:=by rw[show d.segs=[] from e];rfl
  omega
 ·intro e
  have:d.ports.length=0:=by rw[show d.ports=[] from e];rfl
  omega
 ·obtain⟨i,hi,rfl⟩:=getD_mem' hr
  have:=hp.bR i (by rw[←hp.lr];exact hi)
  show -1000000≤rs.getD i 0∧rs.getD i 0≤1000000
  omega
 ·obtain⟨i,hi,rfl⟩:=getD_mem' hr
  have:=hp.bP i (by rw[←hp.lp];exact hi)
  show -1000000≤pr.getD i 0∧pr.getD i 0≤1000000
  omega
 ·have:=hb r hr;omega
theorem sgFl_mem {S:List Sgm} {rs:List Int} {x:Int×Int×Int} (hl:rs.length=S.length) (h:x∈sgFl S rs):∃ i,i < S.length∧x=(sFr S i,sTo S i,rs.getD i 0):=by
 obtain⟨⟨s,r⟩,hz,rfl⟩:=List.mem_map.1 h
 obtain⟨i,hi,e⟩:=List.getElem_of_mem hz
 rw[List.getElem_zip]at e
 simp only[Prod.mk.injEq]at e
 rw[List.length_zip]at hi
 have h1:S[i]? = some s:=by rw[←e.1];exact List.getElem?_eq_getElem (by omega)
 have h2:rs[i]? = some r:=by rw[←e.2];exact List.getElem?_eq_getElem (by omega)
 obtain⟨q1,q2,_⟩:=sx h1
 refine⟨i,by omega,?_⟩
 rw[q1,q2,List.getD_eq_getElem?_getD,h2];rfl
theorem mem_sgFl {S:List Sgm} {rs:List Int} {i:Nat} (hl:rs.length=S.length) (hi:i < S.length):(sFr S i,sTo S i,rs.getD i 0)∈sgFl S rs:=by
 obtain⟨s,hs⟩:∃ s,S[i]? = some s:=has_get hi
 obtain⟨r,hr⟩:∃ s,rs[i]? = some s:=has_get (by omega)
 obtain⟨q1,q2,_⟩:=sx hs
 rw[q1,q2,List.getD_eq_getElem?_getD,hr]
 refine List.mem_map.2 ⟨(s,r),?_,rfl⟩
 exact List.mem_of_getElem? ((List.getElem?_zip_eq_some (z:=(s,r))).2 ⟨hs,hr⟩)
theorem gn_ord {d:NetD} (h:GnOk d) {ρ:Nat→Nat} {rs pr:List Int} (hp:PlR d.segs d.ports ρ rs pr):OrF (sgFl d.segs rs) d.nn.length (ordV (sgFl d.segs rs) d.nn.length d.nn.length [])∧(ordV (sgFl d.segs rs) d.nn.length d.nn.length []).length=d.nn.length:=by
 refine ordF (ρ:=ρ) (fun x hx hz=>?_) _ [] ⟨List.nodup_nil,by simp,fun i k hi=>by simp at hi⟩ (by simp)
 obtain⟨i,hi,rfl⟩:=sgFl_mem hp.lr hx
 have hn:=h.nodes hi
 refine⟨?_,hp.dir i hi hz⟩
 dsimp only
 unfold fFr
 split<;>omega
theorem gn_flow {d:NetD} (h:GnOk d) {ρ:Nat→Nat} {rs pr:List Int} (pumps:List T) (hl:pumps.length=d.stns.length) (hp:PlR d.segs d.ports ρ rs pr):FlowOk d rs pr pumps:=by
 refine⟨⟨hp.lr,hp.lp,fun r hr=>?_,fun r hr=>?_⟩,fun k s r hs hr=>?_,hl,hp.flow h.net,(gn_ord h hp).2⟩
 ·obtain⟨i,hi,rfl⟩:=getD_mem' hr
  have:=hp.bR i (by rw[←hp.lr];exact hi)
  omega
 ·obtain⟨i,hi,rfl⟩:=getD_mem' hr
  exact hp.bP i (by rw[←hp.lp];exact hi)
 ·have hk:=(List.getElem?_eq_some_iff.1 hs).1
  have:=hp.bR k hk
  rw[(sx hs).2.2,List.getD_eq_getElem?_getD,hr]at this
  simp only[Option.getD_some]at this
  omega
theorem tgt_f (a b r:Int):tgt false a b r=fFr a b r∧tgt true a b r=fTo a b r:=by
 constructor<;>simp[tgt,endA,endB,fFr,fTo]
theorem sg_ps (S:List Sgm) (i:Nat):sgFr (S.map (·.1)) i=sFr S i∧sgTo (S.map (·.1)) i=sTo S i:=by
 constructor<;>simp[sgFr,sgTo,sFr,sTo,List.getElem?_map,Option.map_map]<;>rfl
theorem gn_fl {d:NetD} (h:GnOk d) {ρ:Nat→Nat} {rs pr feeds:List Int} (pumps:List T) (hp:PlR d.segs d.ports ρ rs pr) (hf:feeds.length=d.ports.length) (hb:∀ b∈feeds,0≤b∧b < 1000) :
  FlD (gnD d rs pr feeds pumps) ((ordV (sgFl d.segs rs) d.nn.length d.nn.length []).map Int.ofNat):=by
 obtain⟨ho,hol⟩:=gn_ord h hp
 obtain⟨L,hL⟩:∃ L,ordV (sgFl d.segs rs) d.nn.length d.nn.length []=L:=⟨_,rfl⟩
 rw[hL]at ho hol ⊢
 have hall:∀ k,k < d.nn.length→k∈L:=fun k hk=>by
  by_cases hm:k∈L
  ·exact hm
  ·exfalso
   have hn:(k :: L).Nodup:=List.nodup_cons.2 ⟨hm,ho.nd⟩
   have:=nodup_len hn (fun j hj=>by
    rcases List.mem_cons.1 hj with rfl|hj
    ·exact hk
    ·exact ho.lt j hj)
   simp at this;omega
 have hmem:∀ z:Int,0≤z→z < d.nn.length→∃ i:Nat,(L.map Int.ofNat)[i]? = some z∧L[i]? = some z.toNat:=fun z h0 h1=>by
  obtain⟨i,hi,e⟩:=List.getElem_of_mem (hall z.toNat (by omega))
  refine⟨i,?_,by rw[←e];exact List.getElem?_eq_getElem hi⟩
  rw[List.getElem?_map,List.getElem?_eq_getElem hi,e]
  simp only[Option.map_some,Option.some.injEq]
  show ((z.toNat:Nat):Int)=z
  omega
 have net1:∀ r∈rs,-1000≤r∧r≤1000:=fun r hr=>by
  obtain⟨i,hi,rfl⟩:=getD_mem' hr
  have:=hp.bR i (by rw[←hp.lr];exact hi)
  omega
 have net2:∀ r∈pr,-1000≤r∧r≤1000:=fun r hr=>by
  obtain⟨i,hi,rfl⟩:=getD_mem' hr
  exact hp.bP i (by rw[←hp.lp];exact hi)
 refine⟨?_,fun s hs hr=>?_,fun p hpl hr=>?_,fun v hv=>?_,net1,net2,h.num,fun i=>?_⟩
 ·refine List.pairwise_iff_getElem.2 fun i j hi hj hij e=>?_
  simp only[List.getElem_map]at e
  have:=List.pairwise_iff_getElem.1 ho.nd i j (by simpa using hi) (by simpa using hj) hij
  exact this (Int.ofNat.inj e)
 ·have hn:=h.nodes (i:=s) hs
  have e1:frN (gnD d rs pr feeds pumps) s=fFr (sFr d.segs s) (sTo d.segs s) (rs.getD s 0):=by
   show tgt false (sgFr (d.segs.map (·.1)) s) (sgTo (d.segs.map (·.1)) s) (rs.getD s 0)=_
   rw[(tgt_f _ _ _).1,(sg_ps d.segs s).1,(sg_ps d.segs s).2]
  have e2:toN (gnD d rs pr feeds pumps) s=fTo (sFr d.segs s) (sTo d.segs s) (rs.getD s 0):=by
   show tgt true (sgFr (d.segs.map (·.1)) s) (sgTo (d.segs.map (·.1)) s) (rs.getD s 0)=_
   rw[(tgt_f _ _ _).2,(sg_ps d.segs s).1,(sg_ps d.segs s).2]
  obtain⟨j,hj1,hj2⟩:=hmem (fTo (sFr d.segs s) (sTo d.segs s) (rs.getD s 0)) (by unfold fTo;split<;>omega) (by unfold fTo;split<;>omega)
  have hrd:=ho.top j _ hj2
  unfold rdyB at hrd
  have hx:=List.all_eq_true.1 hrd _ (mem_sgFl hp.lr hs)
  simp only[blkB,Bool.not_eq_true',Bool.and_eq_false_iff]at hx
  have hr':((rs.getD s 0) != 0)=true:=bne_iff_ne.2 hr
  have ht:(fTo (sFr d.segs s) (sTo d.segs s) (rs.getD s 0) == (((fTo (sFr d.segs s) (sTo d.segs s) (rs.getD s 0)).toNat:Nat):Int))=true:=by
   rw[beq_iff_eq]
   have:0≤fTo (sFr d.segs s) (sTo d.segs s) (rs.getD s 0):=by unfold fTo;split<;>omega
   omega
  rw[hr',ht]at hx
  simp[List.contains_eq_mem]at hx
  obtain⟨i,hi,e⟩:=mem_take hx
  refine⟨i,j,hi,?_,by rw[e2];exact hj1⟩
  rw[e1,List.getElem?_map,e]
  simp only[Option.map_some,Option.some.injEq]
  have:0≤fFr (sFr d.segs s) (sTo d.segs s) (rs.getD s 0):=by unfold fFr;split<;>omega
  show (((fFr (sFr d.segs s) (sTo d.segs s) (rs.getD s 0)).toNat:Nat):Int)=_
  omega
 ·obtain⟨q,hq⟩:∃ q,d.ports[p]? = some q:=has_get hpl
  have hk:=h.net.knP q (List.mem_of_getElem? hq)
  obtain⟨i,hi,_⟩:=hmem q.2.1 hk.1 hk.2
  have e:ptNd (gnD d rs pr feeds pumps).ports p=q.2.1:=by simp[ptNd,gnD,hq]
  rw[e];exact List.mem_of_getElem? hi
 ·have hbal:=hp.bal v
  have lS:rs.length=(d.segs.map (·.1)).length:=by rw[List.length_map];exact hp.lr
  have sgm:∀ inn,Dl.tot ((segYs v inn 0 (d.segs.map (·.1)) rs).map (·.2))=sumN d.segs.length fun i=>if sgOn v inn (d.segs.map (·.1)) rs i=true then absI (rs.getD i 0) else 0:=fun inn=>by
   have e:=segYs_sum v inn (fun s=>absI (rs.getD s 0)) 0 (d.segs.map (·.1)) rs lS
   rw[List.length_map]at e
   have e2:(segYs v inn 0 (d.segs.map (·.1)) rs).map (·.2)=(segYs v inn 0 (d.segs.map (·.1)) rs).map fun y=>absI (rs.getD y.1 0):=List.map_congr_left fun y hy=>by
    obtain⟨i,h1,_,_,h4⟩:=segYs_mem v inn 0 _ _ y hy
    rw[h4,h1,Nat.zero_add]
   rw[e2,e]
   exact sumN_congr fun i hi=>by rw[Nat.zero_add]
  have ptm:∀ inn,Dl.tot ((prtYs v inn 0 d.ports pr).map (·.2))=sumN d.ports.length fun i=>if ptOn v inn d.ports pr i=true then absI (pr.getD i 0) else 0:=fun inn=>
   prtYs_sum v inn (fun _ r=>r) 0 d.ports pr hp.lp
  show Dl.tot ((prtYs v true 0 d.ports pr).map (·.2))+Dl.tot ((segYs v true 0 (d.segs.map (·.1)) rs).map (·.2))=Dl.tot ((prtYs v false 0 d.ports pr).map (·.2))+Dl.tot ((segYs v false 0 (d.segs.map (·.1)) rs).map (·.2))
  rw[sgm,sgm,ptm,ptm]
  have e1:sumN d.segs.length (fun i=>if sgOn v true (d.segs.map (·.1)) rs i=true then absI (rs.getD i 0) else 0)=sumN d.segs.length (fun i=>if sgOn v false (d.segs.map (·.1)) rs i=true then absI (rs.getD i 0) else 0)+sumN d.segs.length (fun i=>rs.getD i 0 * (ind (sTo d.segs i=v) - ind (sFr d.segs i=v))):=by
   rw[←sumN_add]
   refine sumN_congr fun i hi=>?_
   simp only[sgOn,(sg_ps d.segs i).1,(sg_ps d.segs i).2,(tgt_f _ _ _).1,(tgt_f _ _ _).2,decide_eq_true_eq]
   generalize rs.getD i 0=r
   generalize sFr d.segs i=a
   generalize sTo d.segs i=b
   unfold fFr fTo absI ind
   by_cases hr:r=0
   ·subst hr;simp
   ·by_cases hr2:r < 0
    ·have h1:max r (-r)=-r:=by omega
     by_cases ha:a=v
     ·by_cases hb2:b=v
      ·simp[hr,hr2,ha,hb2]
      ·simp[hr,hr2,ha,hb2];omega
     ·by_cases hb2:b=v
      ·simp[hr,hr2,ha,hb2];omega
      ·simp[hr,hr2,ha,hb2]
    ·by_cases ha:a=v
     ·by_cases hb2:b=v
      ·simp[hr,hr2,ha,hb2]
      ·simp[hr,hr2,ha,hb2];omega
     ·by_cases hb2:b=v
      ·simp[hr,hr2,ha,hb2];omega
      ·simp[hr,hr2,ha,hb2]
  have e2:sumN d.ports.length (fun i=>if ptOn v true d.ports pr i=true then absI (pr.getD i 0) else 0)=sumN d.ports.length (fun i=>if ptOn v false d.ports pr i=true then absI (pr.getD i 0) else 0)+sumN d.ports.length (fun i=>pr.getD i 0 * ind (pNd d.ports i=v)):=by
   rw[←sumN_add]
   refine sumN_congr fun i hi=>?_
   have e3:ptNd d.ports i=pNd d.ports i:=rfl
   simp only[ptOn,e3,decide_eq_true_eq]
   generalize pr.getD i 0=r
   generalize pNd d.ports i=a
   unfold absI ind
   by_cases hr:r=0
   ·subst hr;simp
   ·by_cases hr2:r > 0
    ·by_cases ha:a=v
     ·simp[hr,hr2,ha];omega
     ·simp[hr,hr2,ha]
    ·by_cases ha:a=v
     ·simp[hr,hr2,ha];omega
     ·simp[hr,hr2,ha]
  omega
 ·show 0≤feeds.getD i 0∧feeds.getD i 0 < 1000
  rw[List.getD_eq_getElem?_getD]
  cases hq:feeds[i]? with
  | none=>simp
  | some x=>exact hb x (List.mem_of_getElem? hq)
end Go.Proofs.YtdjmklobfjigoaaGreatDoor
namespace Go.Proofs.YtdjmklobfjigoaaGreatDoor
open Go.RowKit Sy
open Go.IntWalk renaming iteOmega → iO, toNatUp → tN
theorem kabs_fn (r:Int) (h:-1000000≤r∧r≤1000000):FnOk Tryz.prog 43 [.t (.int r)] [] (.t (.int (max r (-r)))) []:=by
 refine FnOk.intro fact_mixed Tryz.func43 rfl Tryz.ntmps43 (by rfl) (by simp) ?_
 repeat (first|(refine n1s rfl ?_;simp[go_sem,↓iO,iO,tN])|refine anI ?_|refine⟨dcK,?_⟩|refine iP ?_|refine iN ?_)
 first|rw[TqR]|rw[TqN]
 refine⟨[],?_⟩
 simp[go_sem,↓iO,iO,tN]
theorem negated_fn (rs pr:List Int) (pm:List T) (hr:∀ r∈rs,-1000000≤r∧r≤1000000) (hp:∀ r∈pr,-1000000≤r∧r≤1000000) (lr:rs.length≤1000) (lp:pr.length≤1000) (lm:pm.length≤1000) :
  FnOk Tryz.prog 44 [.t (.agg [.sl 1 (rs.map encI),.sl 1 (pr.map encI),.sl 1 pm])] [] (.t (.agg [.sl 1 ((rs.map fun x=>-x).map encI),.sl 1 ((pr.map fun x=>-x).map encI),.sl 1 pm])) []:=by
 obtain⟨A,hA⟩:∃ A:Nat→List T,∀ j,((rs.take j).map fun x=>T.int (-x))=A j:=⟨_,fun _=>rfl⟩
 obtain⟨B,hB⟩:∃ A:Nat→List T,∀ j,((pr.take j).map fun x=>T.int (-x))=A j:=⟨_,fun _=>rfl⟩
 have A0:A 0=[]:=by rw[←hA];rfl
 have B0:B 0=[]:=by rw[←hB];rfl
 have As:∀ j r,rs[j]? = some r→A (j+1)=A j++[.int (-r)]:=fun j r h=>by
  obtain⟨hj,e⟩:=List.getElem?_eq_some_iff.1 h
  rw[←hA,←hA,List.take_succ_eq_append_getElem hj,e,List.map_append];rfl
 have Bs:∀ j r,pr[j]? = some r→B (j+1)=B j++[.int (-r)]:=fun j r h=>by
  obtain⟨hj,e⟩:=List.getElem?_eq_some_iff.1 h
  rw[←hB,←hB,List.take_succ_eq_append_getElem hj,e,List.map_append];rfl
 have Al:∀ j,(A j).length≤1000:=fun j=>by rw[←hA];simp;omega
 have Bl:∀ j,(B j).length≤1000:=fun j=>by rw[←hB];simp;omega
 have eA:(rs.map fun x=>-x).map encI=A rs.length:=by rw[←hA,List.take_length,List.map_map];rfl
 have eB:(pr.map fun x=>-x).map encI=B pr.length:=by rw[←hB,List.take_length,List.map_map];rfl
 rw[eA,eB]
 refine FnOk.intro fact_mixed Tryz.func44 rfl Tryz.ntmps44 (by rfl) (by simp) ?_
 repeat (first|(refine n1s rfl ?_;simp[go_sem,↓iO,iO,tN])|refine anI ?_|refine⟨dcK,?_⟩|refine iP ?_|refine iN ?_)
 refine nf1_sound' _ _ _ ?_;simp only[nf1]
 refine CW.loop (ι:=Nat) (fun j=>⟨[(1,.pt 501 [] 0),(2,.pt 502 [] 0),(3,.pt 503 [] 0),(13,.t (.int rs.length)),(14,.t (.int j))],[(501,.box 45 (.t (.agg [.sl 1 (rs.map encI),.sl 1 (pr.map encI),.sl 1 pm]))),(502,.box 45 (.t (.agg [.lit (.slice none 0 0),.lit (.slice none 0 0),.lit (.slice none 0 0)]))),(503,.box 45 (.ag [.own 510,.t (.lit (.slice none 0 0)),.t (.sl 1 pm)])),(510,.list 3 1 (A j))]⟩)
  (fun j=>j≤rs.length) (fun j=>rs.length - j) 0 [(501,some 101),(502,some 102),(503,some 103),(510,none)] (by omega) ?_ ?_
 ·simp[go_sem,↓iO,iO,tN,A0]
  try simp only[wkXs]
  try exact⟨rfl,rfl,wkT_refl _,rfl,wkT_refl _,rfl,trivial⟩
 intro j hj
 have al:=Al j
 by_cases hb:j < rs.length
 ·obtain⟨r,hrj⟩:=has_get hb
  have hrb:=hr r (mem_get hrj)
  have as1:=As j r hrj
  obtain⟨A1,hA1⟩:∃ X,A j=X:=⟨_,rfl⟩
  rw[hA1]at al as1 ⊢
  repeat (first|(refine n1s rfl ?_;simp[go_sem,↓iO,iO,tN,hrj,al])|refine anI ?_|refine⟨dcK,?_⟩|refine iP ?_|refine iN ?_)
  rw[RqN];refine⟨j+1,[(501,some 501),(502,some 502),(503,some 503),(510,some 126)],?_,?_,?_⟩
  ·omega
  ·omega
  simp[go_sem,↓iO,iO,tN,as1]
 ·obtain rfl:j=rs.length:=by omega
  obtain⟨A1,hA1⟩:∃ X,A rs.length=X:=⟨_,rfl⟩
  rw[hA1]at al ⊢
  repeat (first|(refine n1s rfl ?_;simp[go_sem,↓iO,iO,tN,al])|refine anI ?_|refine⟨dcK,?_⟩|refine iP ?_|refine iN ?_)
  refine nf1_sound' _ _ _ ?_;simp only[nf1]
  refine CW.loop (ι:=Nat) (fun j=>⟨[(1,.pt 501 [] 0),(2,.pt 502 [] 0),(3,.pt 503 [] 0),(31,.t (.int pr.length)),(32,.t (.int j))],[(501,.box 45 (.t (.agg [.sl 1 (rs.map encI),.sl 1 (pr.map encI),.sl 1 pm]))),(502,.box 45 (.t (.agg [.lit (.slice none 0 0),.lit (.slice none 0 0),.lit (.slice none 0 0)]))),(503,.box 45 (.ag [.t (.sl 1 A1),.own 511,.t (.sl 1 pm)])),(511,.list 3 1 (B j))]⟩)
   (fun j=>j≤pr.length) (fun j=>pr.length - j) 0 [(501,some 501),(502,some 502),(503,some 503),(511,none)] (by omega) ?_ ?_
  ·simp[go_sem,↓iO,iO,tN,B0]
  intro j hj
  have bl:=Bl j
  by_cases hb:j < pr.length
  ·obtain⟨r,hrj⟩:=has_get hb
   have hrb:=hp r (mem_get hrj)
   have bs:=Bs j r hrj
   obtain⟨B1,hB1⟩:∃ X,B j=X:=⟨_,rfl⟩
   rw[hB1]at bl bs ⊢
   repeat (first|(refine n1s rfl ?_;simp[go_sem,↓iO,iO,tN,hrj,bl])|refine anI ?_|refine⟨dcK,?_⟩|refine iP ?_|refine iN ?_)
   rw[RqN];refine⟨j+1,[(501,some 501),(502,some 502),(503,some 503),(511,some 144)],?_,?_,?_⟩
   ·omega
   ·omega
   simp[go_sem,↓iO,iO,tN,bs]
  ·obtain rfl:j=pr.length:=by omega
   repeat (first|(refine n1s rfl ?_;simp[go_sem,↓iO,iO,tN])|refine anI ?_|refine⟨dcK,?_⟩|refine iP ?_|refine iN ?_)
   first|rw[TqR]|rw[TqN]
   refine⟨[],?_⟩
   simp[go_sem,↓iO,iO,tN]
end Go.Proofs.YtdjmklobfjigoaaGreatDoor
