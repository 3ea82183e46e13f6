/- Several texts of this proof, one behind the other. No condition. -/
import Derived.Test.YtocndodilpimnaaGreatTThesB10
import Derived.Test.YtocndodilpimnaaGreatTThesB13
import Derived.Test.YtocndodilpimnaaGreatTThesB12
import Derived.Test.YtocndodilpimnaaGreatTThesB11
set_option maxRecDepth 100000
set_option maxHeartbeats 16000000
set_option linter.unusedVariables false
set_option linter.unusedSimpArgs false
namespace Go.Proofs.YtocndodilpimnaaGreat.Sy
open Go.RowKit
section
variable {N:Nat} {W:World} {G0:Gh} {A:Nat→Prop} {G:Gh} {w:World} {g:Nat→S} {h:Nat→Option aA} {a:Act}
theorem bT.alter (hs:bT N W G0 A G g h a w) {l:Nat} {b b':aA} (hl:h l=some b) (h1:bH G w b' (G.β l)) (h2:ik G w b' (G.β l) (G.φ l)):bT N W G0 A G g (cY h l (some b')) a w:=by
 have other:∀ k x,cY h l (some b') k=some x→(k=l∧x=b')∨(k≠l∧h k=some x):=by
  intro k x hx
  unfold cY at hx
  split at hx
  ·exact .inl ⟨‹_›,(Option.some.inj hx).symm⟩
  ·exact .inr ⟨‹_›,hx⟩
 have some':∀ k x,cY h l (some b') k=some x→∃ y,h k=some y:=by
  intro k x hx
  rcases other k x hx with ⟨rfl,_⟩|⟨_,h3⟩
  ·exact⟨b,hl⟩
  ·exact⟨x,h3⟩
 refine⟨hs.size,hs.defers,hs.slots,⟨?_,?_,?_,?_,hs.heap.fb⟩,⟨hs.frm.os,hs.frm.tape,hs.frm.output,hs.frm.size,hs.frm.block,?_,hs.frm.fin,hs.frm.fout,hs.frm.same⟩⟩
 ·intro k x hx
  rcases other k x hx with ⟨rfl,rfl⟩|⟨_,h3⟩
  ·exact h1
  ·exact hs.heap.rep k x h3
 ·intro k x hx
  rcases other k x hx with ⟨rfl,rfl⟩|⟨_,h3⟩
  ·exact h2
  ·exact hs.heap.inn k x h3
 ·intro k x j hx hj
  obtain⟨y,hy⟩:=some' k x hx
  exact hs.heap.sep k y j hy hj
 ·intro k k' x x' j hx hx' hj hj'
  obtain⟨y,hy⟩:=some' k x hx
  obtain⟨y',hy'⟩:=some' k' x' hx'
  exact hs.heap.inj k k' y y' j hy hy' hj hj'
 ·intro k x j hx hj
  obtain⟨y,hy⟩:=some' k x hx
  exact hs.frm.own k y j hy hj
def wV:T→U→Prop
 | .lit (.slice none 0 0),.ow _ _ []=>True
 | .agg xs,.fw fs _ _ []=>xs=fs++[.nil]
 | x,.t y=>x=y
 | _,_=>False
theorem MM (x:T) (u:U) (v:Value) (h:wV x u) (hr:aO G.F w x v):jH G w u v none:=by
 unfold wV at h
 split at h
 ·unfold aO at hr
  rw[hr.1]
  exact⟨⟨none,0,[],rfl,by unfold ay;rfl,by simp,World.ownsRow_nil _ _ _ _⟩,rfl⟩
 ·rename_i xs fs e s
  subst h
  unfold aO at hr
  obtain⟨cells,rfl,h2⟩:=hr
  have h3:=ay.split fs.length h2
  rw[List.take_left,List.drop_left]at h3
  obtain⟨h4,h5⟩:=h3
  unfold ay at h5
  obtain⟨v',cs',h6,h7,h8⟩:=h5
  unfold ay at h8
  subst h8
  unfold aO at h7
  rw[h7.1]at h6
  refine⟨_,.slice none 0 0,?_,h4,⟨none,0,[],rfl,by unfold ay;rfl,by simp,World.ownsRow_nil _ _ _ _⟩,rfl⟩
  have h9:cells=cells.take (T.widths fs)++[.slice none 0 0]:=by
   conv=>lhs;rw[←List.take_append_drop (T.widths fs) cells,h6]
   rfl
  rw[←h9]
 ·subst h
  exact⟨hr,rfl⟩
 ·exact h.elim
theorem jH.frame {G':Gh} (hF:∀ b,G.F b→G'.F b) {u:U} {v:Value} {k:Option Nat} (h:jH G w u v k):jH G' w u v k:=h.mono hF
theorem bT.toRows (hs:bT N W G0 A G g h a w) {l e s:Nat} {xs:List T} {us:List U} (hl:h l=some (.list e s xs)) (hlen:us.length=xs.length) (hus:∀ (i:Nat) (x:T) (u:U),xs[i]? = some x→us[i]? = some u→wV x u) :
  bT N W G0 A G g (cY h l (some (.rows e s us []))) a w:=by
 obtain⟨x,cap,cells,h1,h2,h3,h4⟩:=hs.heap.rep l _ hl
 have h5:=hs.heap.inn l _ hl
 refine hs.alter hl ⟨x,cap,cells,by rw[h1,hlen],by rw[hlen];exact h4⟩ ⟨cells,fun _=>none,by rw[hlen];exact h4,?_,fun k=>⟨fun hk=>(h5 k hk).elim,fun⟨i,hi⟩=>by cases hi⟩,(fun i j k hk=>by cases hk),(fun i k hk=>by cases hk),fun i _=>rfl⟩
 intro i u hu
 have hi:i < xs.length:=by rw[←hlen];exact (List.getElem?_eq_some_iff.1 hu).1
 have hx:=List.getElem?_eq_getElem hi
 obtain⟨v,h6,h7,_⟩:=ay.get h2 hx
 rw[aG h3 (Nat.le_of_lt hi)]at h7
 have hw:xs[i].width=s:=h3 _ (List.getElem_mem hi)
 refine⟨v,h7,by rw[aO.width _ _ h6,hw],aO.one _ _ h6,?_⟩
 unfold fV
 simp only[ko]
 exact MM _ u v (hus i _ u hx hu) h6
def U.open (d:Nat):U→S
 | .t x=> .t x
 | .ow _ _ _=> .own d
 | .fw fs _ _ _=> .ag (fs.map S.t++[.own d])
def U.blk:U→Option aA
 | .t _=>none
 | .ow e s xs=>some (.list e s xs)
 | .fw _ e s xs=>some (.list e s xs)
theorem EL:∀ {fs:List T} {cs:List Value},ay G.F w fs cs→aE G w (fs.map S.t) cs
 | [],cs,h=>by unfold ay at h;simp only[List.map_nil];unfold aE;exact h
 | x :: r,cs,h=>by
  unfold ay at h
  obtain⟨v,cs',h1,h2,h3⟩:=h
  simp only[List.map_cons]
  unfold aE
  exact⟨v,cs',h1,by simp only[S.width];exact aO.width _ _ h2,aO.one _ _ h2,by unfold ar;exact h2,EL h3⟩
theorem ov {u:Value} {x:Option Addr} {n c:Nat} (h:u = .slice x n c):u.cells=#[u]:=by subst h;rfl
theorem bT.openRow (hs:bT N W G0 A G g h a w) {l i d e s:Nat} {us:List U} {ex:List (Nat×S)} {u:U} {b:aA} (hl:h l=some (.rows e s us ex)) (hu:us[i]? = some u) (hex:ko ex i=none) (hb:u.blk=some b)
  (hd:100≤d) (hf:qH g h d):∃ G',bT N W G0 A G' g (cY (cY h l (some (.rows e s us (yV ex i (u.open d))))) d (some b)) a w:=by
 obtain⟨hd0,hgf,hhf⟩:=hf
 obtain⟨cells,κ,h1,h2,h3,h4,h5,h6⟩:=hs.heap.inn l _ hl
 obtain⟨x,cap,cells0,hβ,h7⟩:=hs.heap.rep l _ hl
 obtain⟨v,g1,g2,g3,g4⟩:=h2 i u hu
 unfold fV at g4
 rw[hex]at g4
 simp only at g4
 have hdl:l≠d:=by rintro rfl;rw[hd0]at hl;cases hl
 obtain⟨v',hvb,hvk,hopen⟩:∃ v',bH G w b v'∧κ i=aW v'∧∀ G':Gh,(∀ b,G.F b→G'.F b)→G'.β d=v'→ar G' w (u.open d) v:=by
  cases u with
  | t x=>cases hb
  | ow e' s' xs=>
   cases hb
   refine⟨v,g4.1,g4.2,fun G' _ hd'=>?_⟩
   obtain⟨x',cap',cells',hv,_⟩:=g4.1
   unfold U.open ar
   exact⟨hd'.symm,_,_,_,hv⟩
  | fw fs e' s' xs=>
   cases hb
   obtain⟨cs,v',rfl,k1,k2,k3⟩:=g4
   refine⟨v',k2,k3,fun G' hF hd'=>?_⟩
   obtain⟨x',cap',cells',hv,_⟩:=k2
   have hcv:=ov hv
   unfold U.open ar
   refine⟨_,rfl,aE.append (EL (ay.mono hF (fun _ _ _=>rfl) fs cs k1)) ?_⟩
   unfold aE
   refine⟨v',[],by rw[hcv];rfl,by rw[hcv];rfl,?_,by unfold ar;exact⟨hd'.symm,_,_,_,hv⟩,by unfold aE;rfl⟩
   intro c hc
   rw[hcv]at hc
   simp at hc
   rw[hc,hv];rfl
 have hbl:∃ e' s' xs',b = .list e' s' xs':=by
  cases u with
  | t x=>cases hb
  | ow e' s' xs=>exact⟨_,_,_,(Option.some.inj hb).symm⟩
  | fw fs e' s' xs=>exact⟨_,_,_,(Option.some.inj hb).symm⟩
 obtain⟨e',s',xs',rfl⟩:=hbl
 let G':Gh:=⟨G.F,zm G.β d v',qc (qc G.φ l (fun k=>G.φ l k∧aW v'≠some k)) d Cj⟩
 have K:iF G w G' w [d]:=⟨fun _ h=>h,fun _ _ _=>rfl,fun k hk=>eN v' (by simpa using hk)⟩
 have hβo:∀ k,k≠d→G'.β k=G.β k:=fun k hk=>eN v' hk
 have hβd:G'.β d=v':=dw _ _ _
 have hφd:G'.φ d=Cj:=iv _ _ _
 have hφl:G'.φ l=fun k=>G.φ l k∧aW v'≠some k:=by
  show qc (qc G.φ l _) d Cj l=_
  rw[fD _ hdl,iv]
 have hφo:∀ k,k≠d→k≠l→G'.φ k=G.φ k:=fun k hk hk2=>by
  show qc (qc G.φ l _) d Cj k=_
  rw[fD _ hk,fD _ hk2]
 have ft':∀ k j,k≠d→G'.ft k j→G.ft k j:=by
  intro k j hk hj
  rcases hj with hj|hj
  ·left;rw[hβo k hk]at hj;exact hj
  ·right
   by_cases e1:k=l
   ·subst e1;rw[hφl]at hj;exact hj.1
   ·rw[hφo k hk e1]at hj;exact hj
 have ftd:∀ j,G'.ft d j→aW v'=some j∧G.φ l j:=by
  intro j hj
  rcases hj with hj|hj
  ·rw[hβd]at hj
   exact⟨hj,(h3 j).2 ⟨i,by rw[hvk];exact hj⟩⟩
  ·rw[hφd]at hj;exact hj.elim
 have ftl:∀ j,aW v'=some j→¬ G'.ft l j:=by
  intro j hj hl'
  rcases hl' with hl'|hl'
  ·rw[hβo l hdl]at hl'
   exact h5 i j (by rw[hvk];exact hj) hl'
  ·rw[hφl]at hl';exact hl'.2 hj
 have cases':∀ k x,cY (cY h l (some (.rows e s us (yV ex i (u.open d))))) d (some (.list e' s' xs')) k=some x→(k=d∧x = .list e' s' xs')∨(k≠d∧k=l∧x = .rows e s us (yV ex i (u.open d)))∨(k≠d∧k≠l∧h k=some x):=by
  intro k x hx
  simp only[cY]at hx
  split at hx
  ·exact .inl ⟨‹_›,(Option.some.inj hx).symm⟩
  ·split at hx
   ·exact .inr (.inl ⟨‹_›,‹_›,(Option.some.inj hx).symm⟩)
   ·exact .inr (.inr ⟨‹_›,‹_›,hx⟩)
 have old:∀ k x,cY (cY h l (some (.rows e s us (yV ex i (u.open d))))) d (some (.list e' s' xs')) k=some x→k≠d→∃ y,h k=some y:=by
  intro k x hx hk
  rcases cases' k x hx with ⟨h8,_⟩|⟨_,rfl,_⟩|⟨_,_,h8⟩
  ·exact (hk h8).elim
  ·exact⟨_,hl⟩
  ·exact⟨_,h8⟩
 refine⟨G',hs.size,hs.defers,fun t=>ar.keep K (g t) _ (fun k hk=>by simp at hk;subst hk;exact hgf t) (hs.slots t),⟨?_,?_,?_,?_,hs.heap.fb⟩,?_⟩
 ·intro k y hy
  rcases cases' k y hy with ⟨rfl,rfl⟩|⟨h8,rfl,rfl⟩|⟨h8,h9,h10⟩
  ·rw[hβd];exact bH.keep2 K (fun _ _=>rfl) (fun _ _=>rfl) hvb
  ·rw[hβo _ h8];exact⟨x,cap,cells0,hβ,h7⟩
  ·rw[hβo k h8];exact bH.keep2 K (fun q hq=>by simp at hq;subst hq;exact hhf k y h10) (fun _ _=>rfl) (hs.heap.rep k y h10)
 ·intro k y hy
  rcases cases' k y hy with ⟨rfl,rfl⟩|⟨h8,rfl,rfl⟩|⟨h8,h9,h10⟩
  ·rw[hφd];exact fun _ h=>h
  ·rw[hβo _ h8,hφl]
   refine⟨cells,fun j=>if j=i then none else κ j,h1,?_,?_,?_,?_,?_⟩
   ·intro j x hx
    by_cases hj:j=i
    ·subst hj
     rw[hu]at hx
     cases hx
     refine⟨v,g1,g2,g3,?_⟩
     unfold fV
     rw[sA,if_pos rfl]
     refine⟨hopen G' (fun _ h=>h) hβd,?_,by simp⟩
     have h11:=hopen G' (fun _ h=>h) hβd
     have hso:(u.open d).solid=true:=by cases u<;>rfl
     have:=(ar.lens h11 hso).1
     omega
    ·obtain⟨v1,k1,k2,k3,k4⟩:=h2 j x hx
     refine⟨v1,k1,k2,k3,?_⟩
     unfold fV at k4 ⊢
     rw[sA,if_neg hj]
     simp only[if_neg hj]
     cases hc:ko ex j with
     | some c=>
      rw[hc]at k4
      have:=hhf k _ hl
      exact⟨ar.keep K c v1 (fun q hq=>by simp at hq;subst hq;exact mj this hc) k4.1,k4.2⟩
     | none=>
      rw[hc]at k4
      exact k4.keep2 K (fun _ _=>rfl)
   ·intro q
    refine⟨fun⟨hq1,hq2⟩=>?_,fun⟨j,hj⟩=>?_⟩
    ·obtain⟨j,hj⟩:=(h3 q).1 hq1
     refine⟨j,?_⟩
     show (if j=i then none else κ j)=some q
     rw[if_neg]
     ·exact hj
     ·rintro rfl
      rw[hvk]at hj
      exact hq2 hj
    ·dsimp only at hj
     by_cases e1:j=i
     ·rw[if_pos e1]at hj;cases hj
     ·rw[if_neg e1]at hj
      refine⟨(h3 q).2 ⟨j,hj⟩,fun hq=>e1 (h4 j i q hj (by rw[hvk];exact hq))⟩
   ·intro j1 j2 q hq1 hq2
    dsimp only at hq1 hq2
    by_cases e1:j1=i
    ·rw[if_pos e1]at hq1;cases hq1
    ·by_cases e2:j2=i
     ·rw[if_pos e2]at hq2;cases hq2
     ·rw[if_neg e1]at hq1;rw[if_neg e2]at hq2
      exact h4 j1 j2 q hq1 hq2
   ·intro j q hq
    dsimp only at hq
    by_cases e1:j=i
    ·rw[if_pos e1]at hq;cases hq
    ·rw[if_neg e1]at hq;exact h5 j q hq
   ·intro j hj
    show (if j=i then none else κ j)=none
    by_cases e1:j=i
    ·rw[if_pos e1]
    ·rw[if_neg e1];exact h6 j hj
  ·rw[hβo k h8,hφo k h8 h9]
   exact ik.keep2 K (fun q hq=>by simp at hq;subst hq;exact hhf k y h10) (fun _ _=>rfl) (hs.heap.inn k y h10)
 ·intro k y j hy hj
  by_cases hk:k=d
  ·subst hk
   exact hs.heap.sep l _ j hl (.inr (ftd j hj).2)
  ·obtain⟨y0,h8⟩:=old k y hy hk
   exact hs.heap.sep k y0 j h8 (ft' k j hk hj)
 ·intro k k' y y' j hy hy' hj hj'
  by_cases hk:k=d<;>by_cases hk':k'=d
  ·rw[hk,hk']
  ·subst hk
   obtain⟨y0,h8⟩:=old k' y' hy' hk'
   obtain⟨h9,h10⟩:=ftd j hj
   have:=hs.heap.inj l k' _ y0 j hl h8 (.inr h10) (ft' k' j hk' hj')
   subst this
   exact (ftl j h9 hj').elim
  ·subst hk'
   obtain⟨y0,h8⟩:=old k y hy hk
   obtain⟨h9,h10⟩:=ftd j hj'
   have:=hs.heap.inj l k _ y0 j hl h8 (.inr h10) (ft' k j hk hj)
   subst this
   exact (ftl j h9 hj).elim
  ·obtain⟨y0,h8⟩:=old k y hy hk
   obtain⟨y0',h8'⟩:=old k' y' hy' hk'
   exact hs.heap.inj k k' y0 y0' j h8 h8' (ft' k j hk hj) (ft' k' j hk' hj')
 ·refine⟨hs.frm.os,hs.frm.tape,hs.frm.output,hs.frm.size,hs.frm.block,?_,hs.frm.fin,hs.frm.fout,fun k hk=>(hβo k (by omega)).trans (hs.frm.same k hk)⟩
  intro k y j hy hj
  by_cases hk:k=d
  ·subst hk
   exact hs.frm.own l _ j hl (.inr (ftd j hj).2)
  ·obtain⟨y0,h8⟩:=old k y hy hk
   exact hs.frm.own k y0 j h8 (ft' k j hk hj)
theorem bT.closeRow (hs:bT N W G0 A G g h a w) {l i d e s e' s':Nat} {us:List U} {ex:List (Nat×S)} {xs:List T} {u':U} (hl:h l=some (.rows e s us ex)) (hd:h d=some (.list e' s' xs))
  (hex:ko ex i=some (u'.open d)) (hb:u'.blk=some (.list e' s' xs)):∃ G',bT N W G0 A G' g (cY (cY h l (some (.rows e s (us.set i u') (oZ i ex)))) d none) a w:=by
 obtain⟨cells,κ,h1,h2,h3,h4,h5,h6⟩:=hs.heap.inn l _ hl
 obtain⟨x0,cap,cells0,hβ,h7⟩:=hs.heap.rep l _ hl
 have hrd:=hs.heap.rep d _ hd
 have hld:l≠d:=by rintro rfl;rw[hl]at hd;cases hd
 by_cases hnlt:us.length≤i
 ·
  have e1:us.set i u'=us:=List.set_eq_of_length_le (by omega)
  let G':Gh:=⟨G.F,G.β,G.φ⟩
  have cases':∀ k x,cY (cY h l (some (.rows e s (us.set i u') (oZ i ex)))) d none k=some x→k≠d∧((k=l∧x = .rows e s us (oZ i ex))∨(k≠l∧h k=some x)):=by
   intro k x hx
   simp only[cY,e1]at hx
   split at hx
   ·cases hx
   ·refine⟨‹_›,?_⟩
    split at hx
    ·exact .inl ⟨‹_›,(Option.some.inj hx).symm⟩
    ·exact .inr ⟨‹_›,hx⟩
  have old:∀ k x,cY (cY h l (some (.rows e s (us.set i u') (oZ i ex)))) d none k=some x→∃ y,h k=some y:=by
   intro k x hx
   rcases (cases' k x hx).2 with ⟨rfl,_⟩|⟨_,h8⟩
   ·exact⟨_,hl⟩
   ·exact⟨_,h8⟩
  refine⟨G,hs.size,hs.defers,hs.slots,⟨?_,?_,?_,?_,hs.heap.fb⟩,⟨hs.frm.os,hs.frm.tape,hs.frm.output,hs.frm.size,hs.frm.block,?_,hs.frm.fin,hs.frm.fout,hs.frm.same⟩⟩
  ·intro k x hx
   rcases (cases' k x hx).2 with ⟨rfl,rfl⟩|⟨_,h8⟩
   ·exact⟨x0,cap,cells0,hβ,h7⟩
   ·exact hs.heap.rep k x h8
  ·intro k x hx
   rcases (cases' k x hx).2 with ⟨rfl,rfl⟩|⟨_,h8⟩
   ·refine⟨cells,κ,h1,fun j y hy=>?_,h3,h4,h5,h6⟩
    have hj:j < us.length:=(List.getElem?_eq_some_iff.1 hy).1
    obtain⟨v,g1,g2,g3,g4⟩:=h2 j y hy
    refine⟨v,g1,g2,g3,?_⟩
    unfold fV at g4 ⊢
    rw[pf,if_neg (by omega)]
    exact g4
   ·exact hs.heap.inn k x h8
  ·intro k x j hx hj
   obtain⟨y,hy⟩:=old k x hx
   exact hs.heap.sep k y j hy hj
  ·intro k k' x x' j hx hx' hj hj'
   obtain⟨y,hy⟩:=old k x hx
   obtain⟨y',hy'⟩:=old k' x' hx'
   exact hs.heap.inj k k' y y' j hy hy' hj hj'
  ·intro k x j hx hj
   obtain⟨y,hy⟩:=old k x hx
   exact hs.frm.own k y j hy hj
 have hlt:i < us.length:=by omega
 obtain⟨v,g1,g2,g3,g4⟩:=h2 i _ (List.getElem?_eq_getElem hlt)
 unfold fV at g4
 rw[hex]at g4
 obtain⟨g5,g6,g7⟩:=g4
 have hru:jH G w u' v (aW (G.β d)):=by
  cases u' with
  | t x=>cases hb
  | ow e1 s1 xs1=>
   simp only[U.blk,Option.some.injEq,aA.list.injEq]at hb
   obtain⟨rfl,rfl,rfl⟩:=hb
   unfold U.open ar at g5
   rw[g5.1]
   exact⟨hrd,rfl⟩
  | fw fs e1 s1 xs1=>
   simp only[U.blk,Option.some.injEq,aA.list.injEq]at hb
   obtain⟨rfl,rfl,rfl⟩:=hb
   unfold U.open ar at g5
   obtain⟨cs,rfl,k1⟩:=g5
   have:∀ {fs:List T} {cs:List Value},aE G w (fs.map S.t++[.own d]) cs→∃ cs1 v',cs=cs1++[v']∧ay G.F w fs cs1∧v'=G.β d:=by
    intro fs
    induction fs with
    | nil=>
     intro cs hc
     simp only[List.map_nil,List.nil_append]at hc
     unfold aE at hc
     obtain⟨v1,cs',q1,_,_,q2,q3⟩:=hc
     unfold aE at q3
     subst q3
     unfold ar at q2
     obtain⟨q4,_,_,_,q5⟩:=q2
     exact⟨[],v1,by rw[q1,ov q5];rfl,by unfold ay;rfl,q4⟩
    | cons f fs ih=>
     intro cs hc
     simp only[List.map_cons,List.cons_append]at hc
     unfold aE at hc
     obtain⟨v1,cs',q1,_,_,q2,q3⟩:=hc
     obtain⟨cs1,v',q4,q5,q6⟩:=ih q3
     refine⟨v1.cells.toList++cs1,v',by rw[q1,q4,List.append_assoc],?_,q6⟩
     unfold ay
     unfold ar at q2
     exact⟨v1,cs1,rfl,q2,q5⟩
   obtain⟨cs1,v',rfl,k2,rfl⟩:=this k1
   exact⟨cs1,_,rfl,k2,hrd,rfl⟩
 let G':Gh:=⟨G.F,G.β,qc G.φ l (fun k=>G.φ l k∨aW (G.β d)=some k)⟩
 have K:iF G w G' w []:=⟨fun _ h=>h,fun _ _ _=>rfl,fun _ _=>rfl⟩
 have hφl:G'.φ l=fun k=>G.φ l k∨aW (G.β d)=some k:=iv _ _ _
 have hφo:∀ k,k≠l→G'.φ k=G.φ k:=fun k hk=>fD _ hk
 have ftl:∀ j,G'.ft l j→G.ft l j∨G.ft d j:=by
  intro j hj
  rcases hj with hj|hj
  ·exact .inl (.inl hj)
  ·rw[hφl]at hj
   rcases hj with hj|hj
   ·exact .inl (.inr hj)
   ·exact .inr (.inl hj)
 have fto:∀ k j,k≠l→G'.ft k j→G.ft k j:=by
  intro k j hk hj
  rcases hj with hj|hj
  ·exact .inl hj
  ·rw[hφo k hk]at hj;exact .inr hj
 have cases':∀ k x,cY (cY h l (some (.rows e s (us.set i u') (oZ i ex)))) d none k=some x→k≠d∧((k=l∧x = .rows e s (us.set i u') (oZ i ex))∨(k≠l∧h k=some x)):=by
  intro k x hx
  simp only[cY]at hx
  split at hx
  ·cases hx
  ·refine⟨‹_›,?_⟩
   split at hx
   ·exact .inl ⟨‹_›,(Option.some.inj hx).symm⟩
   ·exact .inr ⟨‹_›,hx⟩
 refine⟨G',hs.size,hs.defers,fun t=>ar.keep K (g t) _ (by simp) (hs.slots t),⟨?_,?_,?_,?_,hs.heap.fb⟩,?_⟩
 ·intro k x hx
  rcases (cases' k x hx).2 with ⟨rfl,rfl⟩|⟨_,h8⟩
  ·exact⟨x0,cap,cells0,by rw[List.length_set];exact hβ,by rw[List.length_set];exact h7⟩
  ·exact bH.keep2 K (by simp) (fun _ _=>rfl) (hs.heap.rep k x h8)
 ·intro k x hx
  rcases (cases' k x hx).2 with ⟨rfl,rfl⟩|⟨hk,h8⟩
  ·rw[hφl]
   refine⟨cells,fun j=>if j=i then aW (G.β d) else κ j,by rw[List.length_set];exact h1,?_,?_,?_,?_,?_⟩
   ·intro j y hy
    rw[List.getElem?_set]at hy
    by_cases hj:i=j
    ·subst hj
     rw[if_pos rfl,if_pos hlt]at hy
     cases hy
     refine⟨v,g1,g2,g3,?_⟩
     unfold fV
     rw[pf,if_pos rfl]
     simp only[if_pos]
     exact hru.keep2 K (fun _ _=>rfl)
    ·rw[if_neg hj]at hy
     obtain⟨v1,k1,k2,k3,k4⟩:=h2 j y hy
     refine⟨v1,k1,k2,k3,?_⟩
     have hj':¬ j=i:=fun e=>hj e.symm
     unfold fV at k4 ⊢
     rw[pf,if_neg hj']
     simp only[if_neg hj']
     cases hc:ko ex j with
     | some c=>
      rw[hc]at k4
      exact⟨ar.keep K c v1 (by simp) k4.1,k4.2⟩
     | none=>
      rw[hc]at k4
      exact k4.keep2 K (fun _ _=>rfl)
   ·intro q
    refine⟨fun hq=>?_,fun⟨j,hj⟩=>?_⟩
    ·rcases hq with hq|hq
     ·obtain⟨j,hj⟩:=(h3 q).1 hq
      refine⟨j,?_⟩
      show (if j=i then _ else κ j)=some q
      rw[if_neg]
      ·exact hj
      ·rintro rfl;rw[g7]at hj;cases hj
     ·exact⟨i,by show (if i=i then _ else κ i)=some q;rw[if_pos rfl];exact hq⟩
    ·dsimp only at hj
     by_cases e1:j=i
     ·rw[if_pos e1]at hj;exact .inr hj
     ·rw[if_neg e1]at hj;exact .inl ((h3 q).2 ⟨j,hj⟩)
   ·intro j1 j2 q hq1 hq2
    dsimp only at hq1 hq2
    by_cases e1:j1=i<;>by_cases e2:j2=i
    ·rw[e1,e2]
    ·rw[if_pos e1]at hq1;rw[if_neg e2]at hq2
     exact (hld (hs.heap.inj k d _ _ q hl hd (.inr ((h3 q).2 ⟨j2,hq2⟩)) (.inl hq1))).elim
    ·rw[if_neg e1]at hq1;rw[if_pos e2]at hq2
     exact (hld (hs.heap.inj k d _ _ q hl hd (.inr ((h3 q).2 ⟨j1,hq1⟩)) (.inl hq2))).elim
    ·rw[if_neg e1]at hq1;rw[if_neg e2]at hq2
     exact h4 j1 j2 q hq1 hq2
   ·intro j q hq hlq
    dsimp only at hq
    by_cases e1:j=i
    ·rw[if_pos e1]at hq
     exact hld (hs.heap.inj k d _ _ q hl hd (.inl hlq) (.inl hq))
    ·rw[if_neg e1]at hq;exact h5 j q hq hlq
   ·intro j hj
    rw[List.length_set]at hj
    show (if j=i then _ else κ j)=none
    rw[if_neg (by omega)]
    exact h6 j hj
  ·rw[hφo k hk]
   exact ik.keep2 K (by simp) (fun _ _=>rfl) (hs.heap.inn k x h8)
 ·intro k x j hx hj
  rcases (cases' k x hx).2 with ⟨rfl,rfl⟩|⟨hk,h8⟩
  ·rcases ftl j hj with h9|h9
   ·exact hs.heap.sep k _ j hl h9
   ·exact hs.heap.sep d _ j hd h9
  ·exact hs.heap.sep k x j h8 (fto k j hk hj)
 ·intro k k' x x' j hx hx' hj hj'
  obtain⟨hkd,hx⟩:=cases' k x hx
  obtain⟨hkd',hx'⟩:=cases' k' x' hx'
  rcases hx with ⟨rfl,rfl⟩|⟨hk,h8⟩<;>rcases hx' with ⟨rfl,rfl⟩|⟨hk',h8'⟩
  ·rfl
  ·rcases ftl j hj with h9|h9
   ·exact hs.heap.inj k k' _ _ j hl h8' h9 (fto k' j hk' hj')
   ·exact (hkd' (hs.heap.inj k' d _ _ j h8' hd (fto k' j hk' hj') h9)).elim
  ·rcases ftl j hj' with h9|h9
   ·exact hs.heap.inj k k' _ _ j h8 hl (fto k j hk hj) h9
   ·exact (hkd (hs.heap.inj k d _ _ j h8 hd (fto k j hk hj) h9)).elim
  ·exact hs.heap.inj k k' _ _ j h8 h8' (fto k j hk hj) (fto k' j hk' hj')
 ·refine⟨hs.frm.os,hs.frm.tape,hs.frm.output,hs.frm.size,hs.frm.block,?_,hs.frm.fin,hs.frm.fout,hs.frm.same⟩
  intro k x j hx hj
  rcases (cases' k x hx).2 with ⟨rfl,rfl⟩|⟨hk,h8⟩
  ·rcases ftl j hj with h9|h9
   ·exact hs.frm.own k _ j hl h9
   ·exact hs.frm.own d _ j hd h9
  ·exact hs.frm.own k x j h8 (fto k j hk hj)
end
section
variable {N:Nat} {P:Program} {Q:Exit→St→Prop} {c:Code}
theorem r7 (l:Nat) (b:aA) (h:List (Nat×aA)):bc ((l,b) :: kV l h)=cY (bc h) l (some b):=by
 funext k
 simp only[bc,ma,cY]
 split<;>rfl
theorem KH (l:Nat) (h:List (Nat×aA)):bc (kV l h)=cY (bc h) l none:=by
 funext k
 simp only[ma,cY]
theorem CW.toRows {σ:St} (l:Nat) (us:List U) {e s:Nat} {xs:List T} (hl:bc σ.h l=some (.list e s xs)) (hlen:us.length=xs.length) (hus:∀ (i:Nat) (x:T) (u:U),xs[i]? = some x→us[i]? = some u→wV x u)
  (h:CW N P c Q ⟨σ.g,(l,.rows e s us []) :: kV l σ.h⟩):CW N P c Q σ:=by
 intro hm hc W G0 A a w ⟨G,hs⟩
 refine h hm hc W G0 A a w ⟨G,?_⟩
 rw[r7]
 exact hs.toRows hl hlen hus
theorem CW.openRow {σ:St} (l i d:Nat) {e s:Nat} {us:List U} {ex:List (Nat×S)} {u:U} {b:aA} (hl:bc σ.h l=some (.rows e s us ex)) (hu:us[i]? = some u) (hex:ko ex i=none) (hb:u.blk=some b)
  (hd:vP σ [d]=true) (h100:100≤d) (h:CW N P c Q ⟨σ.g,(d,b) :: kV d ((l,.rows e s us (yV ex i (u.open d))) :: kV l σ.h)⟩):CW N P c Q σ:=by
 intro hm hc W G0 A a w ⟨G,hs⟩
 obtain⟨G',hs'⟩:=hs.openRow hl hu hex hb h100 (kb hd d (by simp))
 refine h hm hc W G0 A a w ⟨G',?_⟩
 rw[r7,r7]
 exact hs'
theorem CW.closeRow {σ:St} (l i d:Nat) (u':U) {e s e' s':Nat} {us:List U} {ex:List (Nat×S)} {xs:List T} (hl:bc σ.h l=some (.rows e s us ex)) (hd:bc σ.h d=some (.list e' s' xs))
  (hex:ko ex i=some (u'.open d)) (hb:u'.blk=some (.list e' s' xs)) (h:CW N P c Q ⟨σ.g,kV d ((l,.rows e s (us.set i u') (oZ i ex)) :: kV l σ.h)⟩):CW N P c Q σ:=by
 intro hm hc W G0 A a w ⟨G,hs⟩
 obtain⟨G',hs'⟩:=hs.closeRow hl hd hex hb
 refine h hm hc W G0 A a w ⟨G',?_⟩
 rw[KH,r7]
 exact hs'
end
attribute [go_sem] U.open
end Go.Proofs.YtocndodilpimnaaGreat.Sy
namespace Go.Proofs.YtocndodilpimnaaGreat
open Go.RowKit Sy
open Go.IntWalk renaming iteOmega → iO, toNatUp → tN
namespace Dl
def jC:List Int→Int
 | []=>0
 | x :: r=>x+jC r
theorem za:∀ a b:List Int,jC (a++b)=jC a+jC b
 | [],b=>by simp[jC]
 | x :: r,b=>by simp[jC,za r b];omega
theorem Jr {l:List Int} {k:Nat} {x:Int} (h:l[k]? = some x):jC (l.take (k+1))=jC (l.take k)+x:=by
 rw[bC h,za];simp[jC]
theorem zh:∀ {l:List Int},(∀ x∈l,0≤x)→0≤jC l
 | [],_=>by simp[jC]
 | x :: r,h=>by
  have:=zh (l:=r) (fun y hy=>h y (by simp[hy]))
  have:=h x (by simp)
  simp only[jC];omega
theorem uR {M:Int}:∀ {l:List Int},(∀ x∈l,x≤M)→jC l≤M * l.length
 | [],_=>by simp[jC]
 | x :: r,h=>by
  have h1:=uR (l:=r) (fun y hy=>h y (by simp[hy]))
  have h2:=h x (by simp)
  simp only[jC,List.length_cons]
  rw[show ((r.length+1:Nat):Int)=r.length+1 by omega,Int.mul_add,Int.mul_one]
  omega
def FZ (r:List Int) (k:Int):Int:=
 if 64 < r.length then 4 else if ¬ ∀ x∈r,0≤x∧x≤1000 then 1 else if jC r=0 then 9 else if k < 0∨jC r < k then 1 else 0
def yA (C:List Int) (i:Int):List Int:=C.set i.toNat (rt C i.toNat+1)
def cs (r:List Int):Nat→List Int
 | 0=>List.replicate r.length 0
 | k+1=>yA (cs r k) (nx r (cs r k) r.length)
theorem tB (r:List Int):∀ k,(cs r k).length=r.length
 | 0=>by simp[cs]
 | k+1=>by simp[cs,yA,tB r k]
theorem NI (r:List Int):∀ k,∀ x∈cs r k,0≤x∧x≤k
 | 0,x,h=>by simp[cs]at h;omega
 | k+1,x,h=>by
  have ih:=NI r k
  unfold cs yA at h
  rcases List.mem_or_eq_of_mem_set h with h|h
  ·have:=ih x h;omega
  ·subst h
   unfold rt
   rw[List.getD_eq_getElem?_getD]
   cases hz:(cs r k)[(nx r (cs r k) r.length).toNat]? with
   | none=>simp;omega
   | some z=>have:=ih z (List.mem_of_getElem? hz);simp;omega
structure nh (r:List Int):Prop where
 len:r.length≤64
 each:∀ x∈r,0≤x∧x≤1000
 pos:0 < jC r
theorem nh.nn {r:List Int} (h:nh r):∀ x∈r,0≤x:=fun x hx=>(h.each x hx).1
theorem nh.uR {r:List Int} (h:nh r):jC r≤64000:=by
 have h1:=Dl.uR (M:=1000) (l:=r) (fun x hx=>(h.each x hx).2)
 have:=h.len
 omega
theorem Fq:∀ {l:List Int},(∀ x∈l,0≤x)→0 < jC l→∃ (i:Nat) (x:Int),l[i]? = some x∧0 < x
 | [],_,h=>by simp[jC]at h
 | a :: r,hn,h=>by
  by_cases ha:0 < a
  ·exact⟨0,a,rfl,ha⟩
  ·have h2:=hn a (by simp)
   obtain⟨i,x,h3,h4⟩:=Fq (l:=r) (fun y hy=>hn y (by simp[hy])) (by simp only[jC]at h;omega)
   exact⟨i+1,x,by simpa using h3,h4⟩
theorem JB {R C:List Int} {i:Nat} (hi:0 < rt R i):∀ {k:Nat},i < k→0≤nx R C k
 | 0,h=>by omega
 | k+1,h=>by
  unfold nx
  split
  ·omega
  ·rename_i hn
   by_cases e:i=k
   ·subst e
    have:=lv R C i
    by_cases h0:nx R C i < 0
    ·exact (hn ⟨hi,.inl h0⟩).elim
    ·omega
   ·exact JB hi (by omega)
theorem nh.nx {r:List Int} (h:nh r) (C:List Int):∃ j:Nat,Dl.nx r C r.length=(j:Int)∧j < r.length:=by
 obtain⟨i,x,h1,h2⟩:=Fq h.nn h.pos
 have h3:=lv r C r.length
 have h4:=JB (R:=r) (C:=C) (i:=i) (by rw[DR h1];exact h2) (k:=r.length) (List.getElem?_eq_some_iff.1 h1).1
 exact⟨(Dl.nx r C r.length).toNat,by omega,by omega⟩
theorem Pk {r:List Int} {k:Int} (h:FZ r k=0):nh r∧0≤k∧k≤jC r:=by
 unfold FZ at h
 by_cases h1:64 < r.length
 ·rw[if_pos h1]at h;omega
 rw[if_neg h1]at h
 by_cases h2:∀ x∈r,0≤x∧x≤1000
 ·rw[if_neg (fun hn=>hn h2)]at h
  by_cases h3:jC r=0
  ·rw[if_pos h3]at h;omega
  rw[if_neg h3]at h
  by_cases h4:k < 0∨jC r < k
  ·rw[if_pos h4]at h;omega
  have:=zh (l:=r) (fun x hx=>(h2 x hx).1)
  exact⟨⟨by omega,h2,by omega⟩,by omega,by omega⟩
 ·rw[if_pos h2]at h;omega
theorem Ox {r:List Int} {k:Int} (h:nh r) (h1:0≤k) (h2:k≤jC r):FZ r k=0:=by
 have:=h.pos
 have:=h.len
 unfold FZ
 rw[if_neg (by omega),if_neg (fun hn=>hn h.each),if_neg (by omega),if_neg (by omega)]
end Dl
open Dl
theorem Jq (r:List Int) (k:Int) (hl:r.length≤9223372036854775807) (e:Int) (he:FZ r k=e):aj Tryz.prog 267 [.t (bB r),.t (.int k)] [] (.t (.int e)) []:=by
 unfold FZ at he
 by_cases h1:64 < r.length
 ·rw[if_pos h1]at he
  subst he
  refine nI Tryz.func267 rfl Tryz.ntmps267 ?_
  refine ah ?_
  exact aF []
 rw[if_neg h1]at he
 refine nI Tryz.func267 rfl Tryz.ntmps267 ?_
 refine ah ?_
 refine oP ?_
 refine CW.loop (ι:=Nat) (fun i=>⟨[(1,.t (.int k)),(5,.t (.int (jC (r.take i)))),(11,.t (bB r)),(12,.t (.int r.length)),(13,.t (.int i))],[]⟩) (fun i=>i≤r.length∧∀ x∈r.take i,0≤x∧x≤1000) (fun i=>r.length - i) 0 [] ⟨by omega,by simp⟩ ?_ ?_
 ·simp[go_sem,↓iO,iO,tN,jC]
 rintro i ⟨hi,hall⟩
 by_cases hb:i < r.length
 ·obtain⟨x,hx⟩:=aa hb
  have hm:=au hx
  by_cases h2:0≤x
  ·by_cases h3:x≤1000
   ·have ha2:∀ y∈r.take (i+1),0≤y∧y≤1000:=by
     rw[bC hx]
     intro y hy
     rcases List.mem_append.1 hy with hy|hy
     ·exact hall y hy
     ·simp only[List.mem_singleton]at hy;subst hy;exact⟨h2,h3⟩
    have hs:=Jr hx
    have b1:=zh (l:=r.take i) (fun y hy=>(hall y hy).1)
    have b2:=uR (M:=1000) (l:=r.take i) (fun y hy=>(hall y hy).2)
    rw[List.length_take]at b2
    obtain⟨T,hT⟩:∃ T,jC (r.take i)=T:=⟨_,rfl⟩
    rw[hT]at hs b1 b2 ⊢
    refine aJ hx ?_
    refine nX (i+1) [] ?_ ?_ ?_
    ·exact⟨by omega,ha2⟩
    ·omega
    exact dJ hs
   ·rw[if_pos (fun h=>h3 (h x hm).2)]at he
    subst he
    refine aJ hx ?_
    exact aF []
  ·rw[if_pos (fun h=>h2 (h x hm).1)]at he
   subst he
   refine aJ hx ?_
   exact aF []
 ·obtain rfl:i=r.length:=by omega
  rw[List.take_length]at hall ⊢
  rw[if_neg (fun hn=>hn hall)]at he
  have b1:=zh (l:=r) (fun y hy=>(hall y hy).1)
  obtain⟨T,hT⟩:∃ T,jC r=T:=⟨_,rfl⟩
  rw[hT]at he b1 ⊢
  by_cases h4:T=0
  ·rw[if_pos h4]at he
   subst he
   refine aJ h4 ?_
   exact aF []
  ·rw[if_neg h4]at he
   by_cases h5:k < 0
   ·rw[if_pos (.inl h5)]at he
    subst he
    refine aJ h4 ?_
    exact aF []
   ·by_cases h6:T < k
    ·rw[if_pos (.inr h6)]at he
     subst he
     refine aJ h4 ?_
     exact aF []
    ·rw[if_neg (by omega)]at he
     subst he
     refine aJ h4 ?_
     exact aF []
def pad (r:List Int):List Int:=r++List.replicate (64 - r.length) 0
theorem xU {r:List Int} (h:r.length≤64):(pad r).length=64:=by simp[pad];omega
theorem Jc (r:List Int) (hl:r.length≤64) (R Z:List Int) (hR:pad r=R) (hZ:List.replicate 64 0=Z):aj Tryz.prog 268 [.t (bB r)] [] (.t (Qz r.length R Z)) []:=by
 have hmin:min r.length 64=r.length:=by omega
 have hz:List.replicate 64 (T.lit (.int .i64 0))=Z.map aC:=by rw[←hZ,List.map_replicate];rfl
 have hzl:Z.length=64:=by rw[←hZ,List.length_replicate]
 have hp:List.take r.length (r.map aC)++List.drop r.length (Z.map aC)=R.map aC:=by
  rw[←hR,pad,List.map_append,←hZ,←List.map_drop,List.drop_replicate,List.take_of_length_le (by simp)]
 have hRl:R.length=64:=by rw[←hR];exact xU hl
 refine nI Tryz.func268 rfl Tryz.ntmps268 ?_
 repeat (first|(refine af rfl ?_;simp[go_sem,↓iO,iO,tN,↓hz,hmin,hp,hzl,hRl])|refine ba ?_|refine⟨aZ,?_⟩|refine iP ?_|refine iN ?_)
 first|rw[av]|rw[ae]
 refine⟨[],?_⟩
 simp[go_sem,↓iO,iO,tN,hz,hp]
 omega
theorem Mf {c:List Int} {j:Nat} (h:j < c.length) (x:Int):(pad c).set j x=pad (c.set j x):=by
 unfold pad
 rw[List.set_append_left _ _ h,List.length_set]
theorem I9 {c:List Int} {i:Nat} (h:i < c.length):rt (pad c) i=rt c i:=vm h
theorem OS {r c:List Int} (h:c.length=r.length):nx (pad r) (pad c) r.length=nx r c r.length:=KT (by omega) (by omega)
theorem E1 {c:List Int} {x:Int} (h:x∈pad c):x∈c∨x=0:=by
 unfold pad at h
 rcases List.mem_append.1 h with h|h
 ·exact .inl h
 ·exact .inr (List.eq_of_mem_replicate h)
theorem OW {r:List Int} (h:nh r) (M:Nat) (hM:M≤1000000):∃ (R:List Int) (Y:Nat→List Int) (j:Nat→Nat),pad r=R∧(∀ k,Y k=pad (cs r k))∧Y 0=List.replicate 64 0∧(∀ k,k≤M→NJ r.length R (Y k))∧
  (∀ k,nx R (Y k) r.length=(j k:Int))∧(∀ k,j k < r.length)∧∀ k,(Y k).set (j k) (rt (Y k) (j k)+1)=Y (k+1):=by
 have hj:∀ k,∃ j:Nat,nx r (cs r k) r.length=(j:Int)∧j < r.length:=fun k=>h.nx _
 refine⟨pad r,fun k=>pad (cs r k),fun k=>(nx r (cs r k) r.length).toNat,rfl,fun _=>rfl,?_,?_,?_,?_,?_⟩
 ·have:=h.len
  simp only[cs,pad,List.length_replicate]
  rw[List.replicate_append_replicate];congr 1;omega
 ·intro k hk
  refine⟨xU h.len,xU (by rw[tB];exact h.len),h.len,fun x hx=>?_,fun x hx=>?_⟩
  ·rcases E1 hx with hx|rfl
   ·exact h.each x hx
   ·omega
  ·rcases E1 hx with hx|rfl
   ·have:=NI r k x hx;omega
   ·omega
 ·intro k
  obtain⟨j,h1,h2⟩:=hj k
  show nx (pad r) (pad (cs r k)) r.length=_
  rw[OS (tB r k)]
  show _=(((nx r (cs r k) r.length).toNat:Nat):Int)
  rw[h1,Int.toNat_natCast]
 ·intro k
  obtain⟨j,h1,h2⟩:=hj k
  show (nx r (cs r k) r.length).toNat < r.length
  rw[h1];exact h2
 ·intro k
  obtain⟨j,h1,h2⟩:=hj k
  show (pad (cs r k)).set (nx r (cs r k) r.length).toNat (rt (pad (cs r k)) (nx r (cs r k) r.length).toNat+1)=pad (cs r (k+1))
  have h3:(nx r (cs r k) r.length).toNat < (cs r k).length:=by rw[tB,h1];exact h2
  rw[Mf h3,I9 h3];rfl
end Go.Proofs.YtocndodilpimnaaGreat
namespace Go.Proofs.YtocndodilpimnaaGreat
open Go.RowKit Sy
namespace Dl
theorem FL {C:List Int} {j i:Nat}:rt C i≤rt (yA C (j:Int)) i∧rt (yA C (j:Int)) i≤rt C i+1:=by
 unfold yA
 rw[Int.toNat_natCast]
 unfold rt
 simp only[List.getD_eq_getElem?_getD,List.getElem?_set]
 by_cases e:j=i
 ·subst e
  rw[if_pos rfl]
  split
  ·simp;omega
  ·rename_i h
   rw[List.getElem?_eq_none (by omega)];simp
 ·rw[if_neg e];omega
theorem Jh (r:List Int) (k i:Nat):rt (cs r k) i≤rt (cs r (k+1)) i∧rt (cs r (k+1)) i≤rt (cs r k) i+1:=by
 by_cases h:nx r (cs r k) r.length < 0
 ·have:(nx r (cs r k) r.length).toNat=0:=by omega
  have h2:=FL (C:=cs r k) (j:=0) (i:=i)
  simp only[cs,yA,this]
  simpa [yA] using h2
 ·obtain⟨j,hj⟩:∃ j:Nat,nx r (cs r k) r.length=(j:Int):=⟨(nx r (cs r k) r.length).toNat,by omega⟩
  simp only[cs,hj]
  exact FL
theorem Fa (r:List Int) (k i:Nat):∀ d,rt (cs r k) i≤rt (cs r (k+d)) i∧rt (cs r (k+d)) i≤rt (cs r k) i+d
 | 0=>by simp
 | d+1=>by
  have h1:=Fa r k i d
  have h2:=Jh r (k+d) i
  rw[show k+(d+1)=k+d+1 by omega]
  omega
def ka (r:List Int) (i:Nat):List (Int×Int)→Nat→List (Int×Int)
 | [],_=>[]
 | p :: t,a=>(p.1,rt (cs r (a+p.2.toNat)) i - rt (cs r a) i) :: ka r i t (a+p.2.toNat)
def rN (l:List (Int×Int)):Nat:=(Pc.bN l).toNat
theorem HJ {p:Int×Int} {t:List (Int×Int)} (hp:0≤p.2) (ht:∀ q∈t,0≤q.2):rN (p :: t)=p.2.toNat+rN t:=by
 have h1:=Pc.dE t ht
 unfold rN
 simp only[Pc.bN]
 omega
theorem BD (r:List Int) (i:Nat):∀ (a b:List (Int×Int)) (n:Nat),(∀ p∈a,0≤p.2)→ka r i (a++b) n=ka r i a n++ka r i b (n+rN a)
 | [],b,n,_=>by simp[ka,rN,Pc.bN]
 | p :: t,b,n,h=>by
  have h1:=h p (by simp)
  have h2:∀ q∈t,0≤q.2:=fun q hq=>h q (by simp[hq])
  simp only[List.cons_append,ka]
  rw[BD r i t b _ h2,HJ h1 h2,Nat.add_assoc]
theorem uf (r:List Int) (i:Nat):∀ (l:List (Int×Int)) (n:Nat),(ka r i l n).length=l.length
 | [],_=>rfl
 | p :: t,n=>by simp[ka,uf r i t]
theorem wm (r:List Int) (i:Nat):∀ (l:List (Int×Int)) (n:Nat),(∀ p∈l,(0≤p.1∧p.1 < 1000)∧0≤p.2∧p.2≤1000000)→∀ q∈ka r i l n,(0≤q.1∧q.1 < 1000)∧0≤q.2∧q.2≤1000000
 | [],_,_,q,hq=>by simp[ka]at hq
 | p :: t,n,h,q,hq=>by
  simp only[ka,List.mem_cons]at hq
  have hp:=h p (by simp)
  rcases hq with rfl|hq
  ·have:=Fa r n i p.2.toNat
   exact⟨hp.1,by simp only;omega,by simp only;omega⟩
  ·exact wm r i t _ (fun x hx=>h x (by simp[hx])) q hq
def Bk (r:List Int) (l:List (Int×Int)):List (List (Int×Int)):=(List.range r.length).map fun i=>Pc.join (ka r i l 0)
noncomputable def zE (l:List (Int×Int)) (r:List Int):List (List (Int×Int))×Int:=
 let m:=Pc.merge l
 if (m=[]∧l≠[])∨200 < m.length then ([],9) else if FZ r (Pc.bN m)≠0 then ([],FZ r (Pc.bN m)) else (Bk r m,0)
theorem yu (e:TypeId) (n:Nat) (Z:Nat→Nat→List (Int×Int)):∃ W:Nat→Nat→List U,(∀ k i,(W k i).length=n)∧(∀ k i,i < n→(W k i)[i]? = some (.ow e 2 ((Z k i).map eI)))∧
  (∀ k i,i < n→(W k i).set i (.ow e 2 ((Z (k+1) i).map eI))=W k (i+1))∧(∀ k,W k n=W (k+1) 0)∧((∀ q,Z 0 q=[])→W 0 0=List.replicate n (.ow e 2 []))∧(∀ k,(W k 0).map U.toT=(List.range n).map fun q=>aU (Z k q))∧∀ k,W k 0=(List.range n).map fun q=> .ow e 2 ((Z k q).map eI):=by
 refine⟨fun k i=>(List.range n).map fun q=> .ow e 2 ((if q < i then Z (k+1) q else Z k q).map eI),?_,?_,?_,?_,?_,?_,fun k=>by simp⟩
 ·intro k i;simp
 ·intro k i hi
  rw[List.getElem?_map,List.getElem?_range hi]
  simp
 ·intro k i hi
  apply List.ext_getElem?
  intro q
  rw[List.getElem?_set,List.getElem?_map,List.getElem?_map]
  by_cases hq:q < n
  ·rw[List.getElem?_range hq]
   by_cases e1:i=q
   ·subst e1
    rw[if_pos rfl,if_pos (by simpa using hq)]
    simp
   ·rw[if_neg e1]
    simp only[Option.map_some]
    by_cases h1:q < i
    ·rw[if_pos h1,if_pos (by omega)]
    ·rw[if_neg h1,if_neg (by omega)]
  ·rw[List.getElem?_eq_none (l:=List.range n) (by simpa using Nat.le_of_not_lt hq)]
   split
   ·rename_i e1;subst e1;omega
   ·rfl
 ·intro k
  apply List.map_congr_left
  intro q hq
  rw[List.mem_range]at hq
  rw[if_pos hq,if_neg (by omega)]
 ·intro hz
  apply List.ext_getElem?
  intro q
  rw[List.getElem?_map,List.getElem?_replicate]
  by_cases hq:q < n
  ·rw[List.getElem?_range hq,if_pos hq]
   simp[hz]
  ·rw[List.getElem?_eq_none (l:=List.range n) (by simpa using Nat.le_of_not_lt hq),if_neg hq]
   rfl
 ·intro k
  rw[List.map_map]
  apply List.map_congr_left
  intro q _
  simp[U.toT,aU]
theorem Ms (r:List Int) (m:List (Int×Int)) (hm:∀ p∈m,(0≤p.1∧p.1 < 1000)∧0≤p.2∧p.2≤1000000) (h64:Pc.bN m≤64000):∃ (A:Nat→Nat) (Z:Nat→Nat→List (Int×Int)),A 0=0∧(∀ k,k≤m.length→A k≤64000)∧(∀ i,Z 0 i=[])∧(∀ k i,Z k i=ka r i (m.take k) 0)∧
  ∀ k p,m[k]? = some p→A (k+1)=A k+p.2.toNat∧∀ i,Z (k+1) i=Z k i++[(p.1,rt (cs r (A (k+1))) i - rt (cs r (A k)) i)]:=by
 have hn:∀ k,∀ p∈m.take k,0≤p.2:=fun k p hp=>(hm p (List.mem_of_mem_take hp)).2.1
 have hstep:∀ k p,m[k]? = some p→rN (m.take (k+1))=rN (m.take k)+p.2.toNat:=by
  intro k p hp
  have h1:=Pc.lT hp
  have h2:=Pc.dE (m.take k) (hn k)
  have h3:=(hm p (au hp)).2.1
  unfold rN
  omega
 refine⟨fun k=>rN (m.take k),fun k i=>ka r i (m.take k) 0,by simp[rN,Pc.bN],?_,by simp[ka],fun _ _=>rfl,?_⟩
 ·intro k hk
  have h1:Pc.bN (m.take k)+Pc.bN (m.drop k)=Pc.bN m:=by rw[←Pc.eR,List.take_append_drop]
  have h2:=Pc.dE (m.drop k) (fun p hp=>(hm p (List.mem_of_mem_drop hp)).2.1)
  have h3:=Pc.dE (m.take k) (hn k)
  show rN _≤_
  unfold rN
  omega
 ·intro k p hp
  refine⟨hstep k p hp,fun i=>?_⟩
  show ka r i (m.take (k+1)) 0=ka r i (m.take k) 0++_
  rw[bC hp,BD r i _ _ _ (hn k),Nat.zero_add]
  simp only[ka]
  rw[hstep k p hp]
end Dl
theorem tj (p:Int×Int):aj Tryz.prog 290 [.t (eI p)] [] (.t (.bool (!decide (Lit p)))) []:=by
 refine nI Tryz.func290 rfl Tryz.ntmps290 ?_
 refine ah ?_
 refine ax (AZ p) [] ?_
 refine ah ?_
 exact aF []
theorem w8:∀ {l:List (Int×Int)},¬ (∀ p∈l,Lit p)→∃ (j:Nat) (p:Int×Int),l[j]? = some p∧¬ Lit p∧∀ (i:Nat) (q:Int×Int),i < j→l[i]? = some q→Lit q
 | [],h=>absurd (by simp) h
 | p :: r,h=>by
  by_cases hp:Lit p
  ·obtain⟨j,q,h1,h2,h3⟩:=w8 (l:=r) (fun hr=>h (by
    intro q hq
    rcases List.mem_cons.1 hq with rfl|hq
    ·exact hp
    ·exact hr q hq))
   refine⟨j+1,q,by simpa using h1,h2,?_⟩
   intro i x hi hx
   cases i with
   | zero=>simp at hx;subst hx;exact hp
   | succ i=>exact h3 i x (by omega) (by simpa using hx)
  ·exact⟨0,p,rfl,hp,fun i q hi=>by omega⟩
theorem HA (l:List (Int×Int)) (hlen:l.length≤1000000) (hall:∀ p∈l,Lit p):aj Tryz.prog 302 [.t (aU l),.fn 290 []] [] (.t (.int (-1))) []:=by
 refine nI Tryz.func302 rfl Tryz.ntmps302 ?_
 refine ah ?_
 refine oP ?_
 refine lP (ι:=Nat) (fun k=>⟨[(0,.t (aU l)),(1,.fn 290 []),(7,.t (.int l.length)),(8,.t (.int k))],[]⟩) (fun k=>k≤l.length) (fun k=>l.length - k) 0 [] (by omega) ?_
 intro k hk
 by_cases hb:k < l.length
 ·obtain⟨p,hp⟩:=aa hb
  have hl:=hall p (au hp)
  have hu:=tj p
  rw[decide_eq_true hl]at hu
  refine aJ hp ?_
  refine ax hu [] ?_
  refine ah ?_
  exact nY (k+1) []
 ·obtain rfl:k=l.length:=by omega
  refine ah ?_
  exact aF []
theorem HN (l:List (Int×Int)) (hlen:l.length≤1000000) {j:Nat} {p:Int×Int} (hj:l[j]? = some p) (hn:¬ Lit p) (hf:∀ (i:Nat) (q:Int×Int),i < j→l[i]? = some q→Lit q):aj Tryz.prog 302 [.t (aU l),.fn 290 []] [] (.t (.int j)) []:=by
 have hjl:j < l.length:=(List.getElem?_eq_some_iff.1 hj).1
 refine nI Tryz.func302 rfl Tryz.ntmps302 ?_
 refine ah ?_
 refine oP ?_
 refine lP (ι:=Nat) (fun k=>⟨[(0,.t (aU l)),(1,.fn 290 []),(7,.t (.int l.length)),(8,.t (.int k))],[]⟩) (fun k=>k≤j) (fun k=>l.length - k) 0 [] (by omega) ?_
 intro k hk
 by_cases hb:k < j
 ·obtain⟨q,hq⟩:=aa (show k < l.length by omega)
  have hl:=hf k q hb hq
  have hu:=tj q
  rw[decide_eq_true hl]at hu
  refine aJ hq ?_
  refine ax hu [] ?_
  refine ah ?_
  exact nY (k+1) []
 ·obtain rfl:k=j:=by omega
  have hu:=tj p
  rw[decide_eq_false hn]at hu
  refine aJ hj ?_
  refine ax hu [] ?_
  refine ah ?_
  exact aF []
theorem oA (l:List (Int×Int)) (hlen:l.length≤1000000) (b:Bool) (h:b=true↔¬ ∀ p∈l,Lit p):aj Tryz.prog 289 [.t (aU l),.fn 290 []] [] (.t (.bool b)) []:=by
 by_cases hall:∀ p∈l,Lit p
 ·obtain rfl:b=false:=by
   cases b with
   | false=>rfl
   | true=>exact absurd hall (h.1 rfl)
  refine nI Tryz.func289 rfl Tryz.ntmps289 ?_
  refine ah ?_
  refine ax (HA l hlen hall) [] ?_
  refine ah ?_
  exact aF []
 ·obtain rfl:=h.2 hall
  obtain⟨j,p,h1,h2,h3⟩:=w8 hall
  have hjl:j < l.length:=(List.getElem?_eq_some_iff.1 h1).1
  refine nI Tryz.func289 rfl Tryz.ntmps289 ?_
  refine ah ?_
  refine ax (HN l hlen h1 h2 h3) [] ?_
  refine ah ?_
  exact aF []
theorem Bc {l:List (Int×Int)} (h:Pc.lB l):Pc.jd l:=⟨by have:=h.1;omega,fun p hp=>(h.2 p hp).2⟩
theorem iL {l:List (Int×Int)} (h:Pc.lB l):Pc.merge l=Pc.join l:=by unfold Pc.merge;rw[if_pos h]
theorem mL {l:List (Int×Int)} (h:¬ Pc.lB l):Pc.merge l=[]:=by unfold Pc.merge;rw[if_neg h]
theorem A4 (l:List (Int×Int)) (hlen:l.length≤1000000):aj Tryz.prog 266 [.t (aU l)] [] (.own 1000) [(1000,gP (Pc.merge l))]:=by
 by_cases hL:l.length≤400
 ·by_cases hall:∀ p∈l,Lit p
  ·have hp:Pc.lB l:=⟨hL,hall⟩
   rw[iL hp]
   refine nI Tryz.func266 rfl Tryz.ntmps266 ?_
   refine ah ?_
   refine ax (oA l hlen false ⟨fun h=>(by cases h),fun h=>absurd hall h⟩) [] ?_
   refine ah ?_
   refine ax (qC l (Bc hp)) [(1000,601)] ?_
   refine ah ?_
   exact aF [(1000,some 601)]
  ·rw[mL (fun h=>hall h.2)]
   refine nI Tryz.func266 rfl Tryz.ntmps266 ?_
   refine ah ?_
   refine ax (oA l hlen true ⟨fun _=>hall,fun _=>rfl⟩) [] ?_
   refine ah ?_
   exact aF [(1000,none)]
 ·rw[mL (fun h=>hL h.1)]
  refine nI Tryz.func266 rfl Tryz.ntmps266 ?_
  refine ah ?_
  try rw[if_pos (by omega)]
  refine ah ?_
  exact aF [(1000,none)]
open Dl
open Go.IntWalk renaming iteOmega → iO, toNatUp → tN
theorem Br (l:List (Int×Int)):(Pc.merge l).length≤400∧(∀ p∈Pc.merge l,0≤p.1∧p.1 < 1000)∧∀ p∈Pc.merge l,0≤p.2:=by
 by_cases h:Pc.lB l
 ·rw[iL h]
  have h1:=Pc.fG l
  have h2:=Pc.iB (ps:=l) (fun p hp=>(h.2 p hp).2.1)
  refine⟨by have:=h.1;omega,?_,fun p hp=>by have:=h2.pos p hp;omega⟩
  have key:∀ (ps out:List (Int×Int)),(∀ p∈ps,0≤p.1∧p.1 < 1000)→(∀ p∈out,0≤p.1∧p.1 < 1000)→∀ p∈ps.foldl Pc.ff out,0≤p.1∧p.1 < 1000:=by
   intro ps
   induction ps with
   | nil=>intro out _ ho;exact ho
   | cons q r ih=>
    intro out hp ho
    refine ih (Pc.ff out q) (fun x hx=>hp x (by simp[hx])) ?_
    intro x hx
    unfold Pc.ff at hx
    split at hx
    ·exact ho x hx
    ·split at hx
     ·split at hx
      ·rcases List.mem_append.1 hx with hx|hx
       ·exact ho x ((List.dropLast_sublist _).subset hx)
       ·simp only[List.mem_singleton]at hx;subst hx
        rename_i y hy e
        exact ho y (List.mem_of_getLast? hy)
      ·rcases List.mem_append.1 hx with hx|hx
       ·exact ho x hx
       ·simp only[List.mem_singleton]at hx;subst hx;exact hp _ (by simp)
     ·rcases List.mem_append.1 hx with hx|hx
      ·exact ho x hx
      ·simp only[List.mem_singleton]at hx;subst hx;exact hp _ (by simp)
  exact key l [] (fun p hp=>(h.2 p hp).1) (by simp)
 ·rw[mL h];simp
theorem yL {m:List (Int×Int)} (h:∀ p∈m,0≤p.2) (k:Nat):0≤Pc.bN (m.take k)∧Pc.bN (m.take k)≤Pc.bN m:=by
 have h1:Pc.bN (m.take k)+Pc.bN (m.drop k)=Pc.bN m:=by rw[←Pc.eR,List.take_append_drop]
 have h2:=Pc.dE (m.drop k) (fun p hp=>h p (List.mem_of_mem_drop hp))
 have h3:=Pc.dE (m.take k) (fun p hp=>h p (List.mem_of_mem_take hp))
 omega
theorem J6 {m:List (Int×Int)} (h:∀ p∈m,0≤p.2) {k:Nat} {p:Int×Int} (hp:m[k]? = some p):p.2≤Pc.bN m:=by
 have h1:=yL h (k+1)
 have h2:=yL h k
 rw[Pc.lT hp]at h1
 omega
theorem Hn (l:List (Int×Int)):Pc.bN (Pc.merge l)≤400000000:=by
 by_cases h:Pc.lB l
 ·rw[iL h,Pc.zF (fun p hp=>(h.2 p hp).2.1)]
  have:=(Pc.wC l (fun p hp=>(h.2 p hp).2)).2
  have:=h.1
  omega
 ·rw[mL h];simp[Pc.bN]
theorem JW {r:List Int} {R:List Int} {k i:Nat} (h:i < r.length) (hR:R=pad (cs r k)):rt R i=rt (cs r k) i:=by
 rw[hR,I9 (by rw[tB];exact h)]
theorem MZ (l:List (Int×Int)) (r:List Int) (hll:l.length≤1000000) (hl:r.length≤9223372036854775807) (x:List (List (Int×Int))) (e:Int) (hx:zE l r=(x,e)) :
  aj Tryz.prog 221 [.t (aU l),.t (bB r)] [] (.tup [.t (.sl 1 (x.map aU)),.t (.int e)]) []:=by
 have cm:=A4 l hll
 obtain⟨h400,hm1,hm2⟩:=Br l
 have hV:=Hn l
 unfold zE at hx
 obtain⟨m,hm⟩:∃ m,Pc.merge l=m:=⟨_,rfl⟩
 rw[hm]at cm h400 hm1 hm2 hV hx
 simp only at hx
 by_cases hbad:(m=[]∧l≠[])∨200 < m.length
 ·rw[if_pos hbad]at hx
  obtain⟨rfl,rfl⟩:x=[]∧e=9:=by simp only[Prod.mk.injEq]at hx;exact⟨hx.1.symm,hx.2.symm⟩
  by_cases h1:m.length=0
  ·have h2:0 < l.length:=by
    rcases hbad with ⟨_,hn⟩|hn
    ·exact List.length_pos_iff.2 hn
    ·omega
   refine nI Tryz.func221 rfl Tryz.ntmps221 ?_
   refine ah ?_
   refine ax cm [(1000,601)] ?_
   refine c9 h1 h2 ?_
   exact aF []
  ·have h2:200 < m.length:=by
    rcases hbad with ⟨hn,_⟩|hn
    ·rw[hn]at h1;simp at h1
    ·exact hn
   refine nI Tryz.func221 rfl Tryz.ntmps221 ?_
   refine ah ?_
   refine ax cm [(1000,601)] ?_
   refine c9 h1 h2 ?_
   exact aF []
 rw[if_neg hbad]at hx
 have h200:¬ 200 < m.length:=fun h=>hbad (.inr h)
 have hmty:m.length=0→l.length=0:=fun h=>by
  rcases Nat.eq_zero_or_pos l.length with h2|h2
  ·exact h2
  ·exact (hbad (.inl ⟨List.length_eq_zero_iff.1 h,List.length_pos_iff.1 h2⟩)).elim
 have hvp:=yL hm2
 have c1:=fun (e:Int) (he:FZ r (Pc.bN m)=e)=>Jq r (Pc.bN m) hl e he
 by_cases h0:FZ r (Pc.bN m)=0
 ·rw[if_neg (fun h=>h h0)]at hx
  obtain⟨rfl,rfl⟩:x=Bk r m∧e=0:=by simp only[Prod.mk.injEq]at hx;exact⟨hx.1.symm,hx.2.symm⟩
  obtain⟨h,hk0,hk1⟩:=Pk h0
  have hkt:=h.uR
  have hlen:=h.len
  have hmall:∀ p∈m,(0≤p.1∧p.1 < 1000)∧0≤p.2∧p.2≤1000000:=fun p hp=>by
   obtain⟨i,hi⟩:=List.getElem?_of_mem hp
   have:=J6 hm2 hi
   exact⟨hm1 p hp,hm2 p hp,by omega⟩
  obtain⟨R,Y,j,hR,yc,y0,yk,yn,yj,ys⟩:=OW h 64000 (by omega)
  obtain⟨A,Z,a0,ak,z0,zc,zs⟩:=Ms r m hmall (by omega)
  obtain⟨W,wl,wg,ws,wn,w0,wt,wf⟩:=yu 88 r.length Z
  have cst:=Jc r h.len R (Y 0) hR y0.symm
  have hRl0:=(yk 0 (by omega)).r
  have hYl0:=(yk 0 (by omega)).c
  have c0:=c1 0 h0
  obtain⟨V,hVV⟩:∃ V,Pc.bN m=V:=⟨_,rfl⟩
  refine nI Tryz.func221 rfl Tryz.ntmps221 ?_
  refine ah ?_
  refine ax cm [(1000,601)] ?_
  refine CW.cut (ι:=Unit) (fun _=>⟨[(0,.t (aU l)),(1,.t (bB r)),(6,.t (aU m))],[]⟩) (fun _=>True) ?_ ?_
  ·by_cases h1:m.length=0
   ·have h3:=hmty h1
    refine c9 h1 h3 ?_
    rw[jr];refine⟨(),[],?_,?_⟩
    ·trivial
    exact dY
   ·refine c9 h1 h200 ?_
    rw[jr];refine⟨(),[],?_,?_⟩
    ·trivial
    exact dY
  rintro _ _
  refine ah ?_
  refine oP ?_
  refine CW.loop (ι:=Nat) (fun k=>⟨[(0,.t (aU l)),(1,.t (bB r)),(6,.t (aU m)),(7,.t (.int (Pc.bN (m.take k)))),(33,.t (aU m)),(34,.t (.int m.length)),(35,.t (.int k))],[]⟩) (fun k=>k≤m.length) (fun k=>m.length - k) 0 [] (by omega) ?_ ?_
  ·simp[go_sem,↓iO,iO,tN,Pc.bN]
  intro k hk
  have hvk:=hvp k
  by_cases hb:k < m.length
  ·obtain⟨p,hp⟩:=aa hb
   have hvs:=Pc.lT hp
   have hvk2:=hvp (k+1)
   obtain⟨v,hv⟩:∃ v,Pc.bN (m.take k)=v:=⟨_,rfl⟩
   rw[hv]at hvs hvk ⊢
   rw[hvs]at hvk2
   refine aJ hp ?_
   exact nX (k+1) [] (by omega) (by omega) (dJ hvs)
  obtain rfl:k=m.length:=by omega
  rw[List.take_length]
  rw[hVV]at c0 ⊢
  refine ah ?_
  refine ax c0 [] ?_
  refine ah ?_
  refine lf hRl0 hYl0 cst [] ?_
  refine c9 hRl0 hYl0 ?_
  have hW0:=w0 z0
  refine CW.toRows 152 (W 0 0) (e:=89) (s:=1) (xs:=List.replicate r.length (.lit (.slice none 0 0))) (by rfl) (by rw[wl];simp) (fun i x u h1 h2=>?_) ?_
  ·rw[hW0,List.getElem?_replicate]at h2
   rw[List.getElem?_replicate]at h1
   split at h1
   ·rename_i hi
    rw[if_pos hi]at h2
    cases h1;cases h2
    unfold wV;trivial
   ·cases h1
  simp[go_sem,↓iO,iO,tN]
  refine oP ?_
  refine CW.loop (ι:=Nat) (fun k=>⟨[(11,.own 511),(12,.pt 507 [] 0),(55,.t (aU m)),(56,.t (.int m.length)),(57,.t (.int k))],[(511,.rows 89 1 (W k 0) []),(507,Gw r.length R (Y (A k)))]⟩) (fun k=>k≤m.length) (fun k=>m.length - k) 0 [(511,some 152),(507,some 112)] (by omega) ?_ ?_
  ·exact dJ a0
  intro k hk
  have hwl:=wl k 0
  by_cases hb:k < m.length
  ·obtain⟨p,hp⟩:=aa hb
   obtain⟨zA,zZ⟩:=zs k p hp
   have hpb:=hmall p (au hp)
   obtain⟨c,hc⟩:∃ c:Nat,p.2=(c:Int):=⟨p.2.toNat,by omega⟩
   have hA1:=ak (k+1) hb
   have hyA:=yk (A k) (by have:=ak k hk;omega)
   have hyl:=hyA.c
   rw[show p.2.toNat=c by omega]at zA
   obtain⟨p1,p2⟩:=p
   simp only at hc
   subst hc
   refine fg hp hRl0 hyl ?_
   have hRl:=hRl0
   refine oP ?_
   refine lP (ι:=Nat) (fun q=>⟨[(11,.own 511),(12,.pt 507 [] 0),(14,.pt 514 [] 0),(15,.pt 515 [] 0),(55,.t (aU m)),(56,.t (.int m.length)),(57,.t (.int k)),(64,.t (.int c)),(65,.t (.int q))],[(511,.rows 89 1 (W k 0) []),(507,Gw r.length R (Y (A k+q))),(514,.box 88 (.t (eI (p1,(c:Int))))),(515,.box 311 (.t (.agg ((Y (A k)).map aC))))]⟩)
    (fun q=>q≤c) (fun q=>c - q) 0 [(511,some 511),(507,some 507),(514,some 114),(515,some 115)] (by omega) ?_
   intro q hq
   have hy:=yk (A k+q) (by omega)
   have hyl:=hy.c
   by_cases hb2:q < c
   ·have cn:=LC r.length R (Y (A k+q)) hy
    have hg:=mi (r:=Y (A k+q)) (i:=j (A k+q)) (by have:=yj (A k+q);omega)
    have hs:=ys (A k+q)
    have hjl:=yj (A k+q)
    rw[yn (A k+q)]at cn
    have hcb:=hy.cr _ (au hg)
    obtain⟨v,hv⟩:∃ v,rt (Y (A k+q)) (j (A k+q))=v:=⟨_,rfl⟩
    rw[hv]at hg hs hcb
    obtain⟨u,hu⟩:∃ u,j (A k+q)=u:=⟨_,rfl⟩
    rw[hu]at hg hs hjl cn
    rw[show A k+q+1=A k+(q+1) by omega]at hs
    obtain⟨C,hC⟩:∃ C,Y (A k+q)=C:=⟨_,rfl⟩
    rw[hC]at hg hs hyl cn ⊢
    have hs2:(C.map aC).set u (T.lit (.int .i64 (v+1)))=(Y (A k+(q+1))).map aC:=by rw[←hs,List.map_set];rfl
    have hmin:min u C.length=u:=by omega
    refine lO hg hmin hyl hRl ?_
    refine aY.fn (cn) [(0,507)] [] [] (by kernel_rfl) ?_ ?_ ?_ (Or.inl rfl) ?_<;>simp[go_sem,↓iO,iO,tN,hg,hmin,hRl,hyl]
    repeat (refine ba ?_)
    try (refine⟨aZ,?_⟩)
    refine yB hg hmin hs2 hRl hyl ?_
    exact nX (q+1) [(511,some 511),(507,some 507),(514,some 514),(515,some 515)] (by omega) (by omega) (dJ hs2)
   obtain rfl:q=c:=by omega
   rw[←zA]at hy hyl ⊢
   refine ah ?_
   refine oP ?_
   refine CW.loop (ι:=Nat) (fun i=>⟨[(11,.own 511),(12,.pt 507 [] 0),(14,.pt 514 [] 0),(15,.pt 515 [] 0),(55,.t (aU m)),(56,.t (.int m.length)),(57,.t (.int k)),(76,.t (.int r.length)),(77,.t (.int i))],[(511,.rows 89 1 (W k i) []),(507,Gw r.length R (Y (A (k+1)))),(514,.box 88 (.t (eI (p1,(q:Int))))),(515,.box 311 (.t (.agg ((Y (A k)).map aC))))]⟩)
    (fun i=>i≤r.length) (fun i=>r.length - i) 0 [(511,some 511),(507,some 507),(514,some 514),(515,some 515)] (by omega) ?_ ?_
   ·exact dJ hwl
   intro i hi
   have hwl:=wl k i
   by_cases hb3:i < r.length
   ·have hwg:=wg k i hb3
    have hws:=ws k i hb3
    rw[zZ i]at hws
    have hg1:=mi (r:=Y (A (k+1))) (i:=i) (by omega)
    have hg2:=mi (r:=Y (A k)) (i:=i) (by rw[hyA.c];omega)
    have hb4:=hy.cr _ (au hg1)
    have hb5:=hyA.cr _ (au hg2)
    rw[←JW (R:=Y (A (k+1))) hb3 (yc _),←JW (R:=Y (A k)) hb3 (yc _)]at hws
    obtain⟨v1,hv1⟩:∃ v,rt (Y (A (k+1))) i=v:=⟨_,rfl⟩
    obtain⟨v2,hv2⟩:∃ v,rt (Y (A k)) i=v:=⟨_,rfl⟩
    rw[hv1]at hg1 hb4 hws
    rw[hv2]at hg2 hb5 hws
    have hylA:=hyA.c
    have hzl:(Z k i).length≤400:=by rw[zc,uf,List.length_take];omega
    obtain⟨O,hO⟩:∃ O,Z k i=O:=⟨_,rfl⟩
    rw[hO]at hwg hws hzl
    obtain⟨C1,hC1⟩:∃ C,Y (A (k+1))=C:=⟨_,rfl⟩
    obtain⟨C2,hC2⟩:∃ C,Y (A k)=C:=⟨_,rfl⟩
    rw[hC1]at hg1 hyl ⊢
    rw[hC2]at hg2 hylA ⊢
    obtain⟨X1,hX1⟩:∃ X,W k i=X:=⟨_,rfl⟩
    rw[hX1]at hwl hwg hws ⊢
    have hm1:min i C1.length=i:=by omega
    have hm2:min i C2.length=i:=by omega
    iterate 4 (refine af rfl ?_;simp[go_sem,↓iO,iO,tN];(repeat (refine ba ?_));try (refine⟨aZ,?_⟩))
    refine CW.openRow 511 i 555 (us:=X1) (ex:=[]) (u:=.ow 88 2 (O.map eI)) (b:=.list 88 2 (O.map eI)) (by rfl) hwg (by rfl) (by rfl) (by kernel_rfl) (by omega) ?_
    simp[go_sem,↓iO,iO,tN]
    iterate 1 (refine af rfl ?_;simp[go_sem,↓iO,iO,tN,hg1,hg2,hm1,hm2,hylA,hyl,hwl,hwg];(repeat (refine ba ?_));try (refine⟨aZ,?_⟩))
    refine CW.closeRow 511 i 198 (.ow 88 2 (O.map eI++[T.agg [T.int p1,T.lit (.int .i64 (v1 - v2))]])) (us:=X1) (ex:=[(i,.own 198)]) (by rfl) (by rfl) (by simp[go_sem]) (by rfl) ?_
    have hws2:X1.set i (.ow 88 2 (O.map eI++[T.agg [T.int p1,T.lit (.int .i64 (v1 - v2))]]))=W k (i+1):=by
     rw[←hws,List.map_append];rfl
    simp[go_sem,↓iO,iO,tN,hws2]
    refine ah ?_
    exact nY (i+1) [(511,some 511),(507,some 507),(514,some 514),(515,some 515)]
   obtain rfl:i=r.length:=by omega
   rw[wn k]
   refine ah ?_
   exact nY (k+1) [(511,some 511),(507,some 507)]
  ·obtain rfl:k=m.length:=by omega
   obtain⟨W2,wl2,wg2,ws2,wn2,_,wt2,wf2⟩:=yu 88 r.length (fun k i=>if k=0 then Z m.length i else Pc.join (Z m.length i))
   have hW2:W m.length 0=W2 0 0:=by rw[wf,wf2];simp
   have hfin:(W2 1 0).map U.toT=(Bk r m).map aU:=by
    rw[wt2,Bk,List.map_map]
    apply List.map_congr_left
    intro q _
    show aU (if (1:Nat)=0 then _ else _)=_
    rw[if_neg (by omega),zc,List.take_length];rfl
   have hPr:∀ i,Pc.lB (Z m.length i):=fun i=>by
    rw[zc,List.take_length]
    exact⟨by rw[uf];omega,wm r i m 0 hmall⟩
   rw[hW2]
   have hwl0:=wl2 0 0
   clear zs wf wf2 ws wg wl yc ys yk
   refine ah ?_
   refine oP ?_
   refine CW.loop (ι:=Nat) (fun i=>⟨[(11,.own 511),(103,.t (.int r.length)),(104,.t (.int i))],[(511,.rows 89 1 (W2 0 i) [])]⟩) (fun i=>i≤r.length) (fun i=>r.length - i) 0 [(511,some 511)] (by omega) ?_ ?_
   ·exact dJ hwl0
   intro i hi
   have hwl:=wl2 0 i
   by_cases hb3:i < r.length
   ·have hwg:=wg2 0 i hb3
    have hws:=ws2 0 i hb3
    have hp:=hPr i
    rw[if_pos rfl]at hwg
    rw[if_neg (by omega)]at hws
    obtain⟨O,hO⟩:∃ O,Z m.length i=O:=⟨_,rfl⟩
    rw[hO]at hwg hws hp
    have cm2:=A4 O (by have:=hp.1;omega)
    rw[iL hp]at cm2
    obtain⟨O2,hO2⟩:∃ O2,Pc.join O=O2:=⟨_,rfl⟩
    rw[hO2]at hws cm2
    obtain⟨X1,hX1⟩:∃ X,W2 0 i=X:=⟨_,rfl⟩
    rw[hX1]at hwl hwg hws ⊢
    iterate 4 (refine af rfl ?_;simp[go_sem,↓iO,iO,tN];(repeat (refine ba ?_));try (refine⟨aZ,?_⟩))
    refine CW.openRow 511 i 555 (us:=X1) (ex:=[]) (u:=.ow 88 2 (O.map eI)) (b:=.list 88 2 (O.map eI)) (by rfl) hwg (by rfl) (by rfl) (by kernel_rfl) (by omega) ?_
    simp[go_sem,↓iO,iO,tN]
    iterate 1 (refine af rfl ?_;simp[go_sem,↓iO,iO,tN,hwl,hwg];(repeat (refine ba ?_));try (refine⟨aZ,?_⟩))
    refine Ck hwl hwg cm2 [(1000,602)] [] [555] ?_
    refine CW.closeRow 511 i 602 (.ow 88 2 (O2.map eI)) (us:=X1) (ex:=[(i,.own 602)]) (by rfl) (by rfl) (by simp[go_sem]) (by rfl) ?_
    simp[go_sem,↓iO,iO,tN,hws]
    refine ah ?_
    exact nY (i+1) [(511,some 511)]
   obtain rfl:i=r.length:=by omega
   rw[wn2 0]
   refine ah ?_
   exact l9 hfin []
 ·rw[if_pos h0]at hx
  obtain⟨rfl,rfl⟩:x=[]∧e=FZ r (Pc.bN m):=by simp only[Prod.mk.injEq]at hx;exact⟨hx.1.symm,hx.2.symm⟩
  obtain⟨e,he⟩:∃ e,FZ r (Pc.bN m)=e:=⟨_,rfl⟩
  have c0:=c1 e he
  rw[he]at h0 ⊢
  obtain⟨V,hVV⟩:∃ V,Pc.bN m=V:=⟨_,rfl⟩
  refine nI Tryz.func221 rfl Tryz.ntmps221 ?_
  refine ah ?_
  refine ax cm [(1000,601)] ?_
  refine CW.cut (ι:=Unit) (fun _=>⟨[(0,.t (aU l)),(1,.t (bB r)),(6,.t (aU m))],[]⟩) (fun _=>True) ?_ ?_
  ·by_cases h1:m.length=0
   ·have h3:=hmty h1
    refine c9 h1 h3 ?_
    rw[jr];refine⟨(),[],?_,?_⟩
    ·trivial
    exact dY
   ·refine c9 h1 h200 ?_
    rw[jr];refine⟨(),[],?_,?_⟩
    ·trivial
    exact dY
  rintro _ _
  refine ah ?_
  refine oP ?_
  refine CW.loop (ι:=Nat) (fun k=>⟨[(0,.t (aU l)),(1,.t (bB r)),(6,.t (aU m)),(7,.t (.int (Pc.bN (m.take k)))),(33,.t (aU m)),(34,.t (.int m.length)),(35,.t (.int k))],[]⟩) (fun k=>k≤m.length) (fun k=>m.length - k) 0 [] (by omega) ?_ ?_
  ·simp[go_sem,↓iO,iO,tN,Pc.bN]
  intro k hk
  have hvk:=hvp k
  by_cases hb:k < m.length
  ·obtain⟨p,hp⟩:=aa hb
   have hvs:=Pc.lT hp
   have hvk2:=hvp (k+1)
   obtain⟨v,hv⟩:∃ v,Pc.bN (m.take k)=v:=⟨_,rfl⟩
   rw[hv]at hvs hvk ⊢
   rw[hvs]at hvk2
   refine aJ hp ?_
   exact nX (k+1) [] (by omega) (by omega) (dJ hvs)
  obtain rfl:k=m.length:=by omega
  rw[List.take_length]
  rw[hVV]at c0 ⊢
  refine ah ?_
  refine dr h0 c0 [] ?_
  refine aJ h0 ?_
  exact aF []
end Go.Proofs.YtocndodilpimnaaGreat
namespace Go.Proofs.YtocndodilpimnaaGreat.Sy
open Go.RowKit
def Of (N:Nat) (P:Program) (c:Code) (Q:Exit→St→Prop) (σ:St):Prop:=nf N P [] c Q σ
def NW (N:Nat) (P:Program) (body:Code) (post:List (Nat×aA)) (e:Exit) (τ:St):Prop:=match e with
 | .normal=>Of N P body (IU post) τ
 | _=>False
@[go_sem] theorem Lw (N:Nat) (P:Program) (body:Code) (post:List (Nat×aA)) (τ:St):NW N P body post .normal τ=Of N P body (IU post) τ:=rfl
@[go_sem] def PW (N:Nat) (P:Program):Code→(Exit→St→Prop)→St→Prop
 | .skip,Q,σ=>Q .normal σ
 | .region _ ops false,Q,σ=>gS P ops.toList (ua (Q .normal)) ops.toList σ []
 | .region _ ops true,Q,σ=>gS P ops.toList (Bt ops.toList σ (Q .normal)) ops.toList σ []
 | .seq a b,Q,σ=>PW N P a (DQ (Of N P b Q) Q) σ
 | .cond c x y,Q,σ=>match lg (cQ σ.g) c with
  | .t (.lit (.bool v))=>if v=true then Of N P x Q σ else Of N P y Q σ
  | _=>False
 | .block id c,Q,σ=>PW N P c (iH id Q) σ
 | .exit id,Q,σ=>Q (.exit id) σ
 | .ret,Q,σ=>Q .ret σ
 | c,Q,σ=>False
theorem mw {N:Nat} {P:Program}:∀ (c:Code) (Q:Exit→St→Prop) (σ:St),PW N P c Q σ→nf N P [] c Q σ
 | .skip,Q,σ,h=>h
 | .region id ops false,Q,σ,h=>h
 | .region id ops true,Q,σ,h=>h
 | .seq x y,Q,σ,h=>by
  have hst:stops [] x=false:=by unfold stops;split<;>simp
  simp only[nf,hst]
  exact mw x _ σ h
 | .cond c x y,Q,σ,h=>h
 | .block id c,Q,σ,h=>mw c _ σ h
 | .exit id,Q,σ,h=>h
 | .ret,Q,σ,h=>h
 | .loop _,Q,σ,h=>h.elim
 | .scope _,Q,σ,h=>h.elim
 | .rangeFunc _ _ _ _,Q,σ,h=>h.elim
 | .label _,Q,σ,h=>h.elim
 | .goto _,Q,σ,h=>h.elim
 | .refuse _,Q,σ,h=>h.elim
theorem MN {N:Nat} {P:Program} {c:Code} {Q:Exit→St→Prop} {σ:St} (h:PW N P c Q σ):Of N P c Q σ:=mw c Q σ h
theorem Qv {N:Nat} {P:Program} {a b:Code} {post:List (Nat×aA)} {σ:St} (h:PW N P a (NW N P b post) σ):nf N P [] a (Fv N P b post) σ:=mw a _ σ h
attribute [irreducible] Of
end Go.Proofs.YtocndodilpimnaaGreat.Sy
