/- Several texts of this proof, one behind the other. No condition. -/
import Derived.Test.YtocndodilpimnaaGreatTThesB18
import Derived.Test.YtocndodilpimnaaGreatTThesB16
import Derived.WalkKit
import Derived.Lib.Walk
import Derived.Lib.Bytealg
set_option maxRecDepth 100000
set_option maxHeartbeats 16000000
set_option linter.unusedVariables false
set_option linter.unusedSimpArgs false
namespace Go.Proofs.YtocndodilpimnaaGreat
open Go.RowKit Sy
def NG (d:aB) (h:Hp):Int:=if h.bk then gE d.segs h.sg.toNat else gC d.segs h.sg.toNat
def CE (d:aB) (h:Hp):Int:=if h.bk then gC d.segs h.sg.toNat else gE d.segs h.sg.toNat
def DJ (d:aB):List Hp→Int→List Int→Option Int
 | [],a,_=>some a
 | h :: r,a,s=>if 0≤h.sg∧h.sg < d.segs.length∧NG d h=a∧CE d h∉s then DJ d r (CE d h) (s++[CE d h]) else none
structure oz (d:aB) (p:Pa):Prop where
 i:0≤p.i∧p.i < d.ports.length
 o:0≤p.o∧p.o < d.ports.length
 ne:p.i≠p.o
 r:1≤p.r∧p.r≤1000
 hl:p.hs.length≤32
 w:DJ d p.hs (je d.ports p.i.toNat) [je d.ports p.i.toNat]=some (je d.ports p.o.toNat)
theorem ER {d:aB}:∀ {hs:List Hp} {a:Int} {s:List Int} {e:Int} {g:Nat},DJ d hs a s=some e→gC d.segs g∈s→gE d.segs g∈s→g∉hs.map fun h=>h.sg.toNat
 | [],_,_,_,_,_,_,_=>by simp
 | h :: r,a,s,e,g,hw,h1,h2=>by
  unfold DJ at hw
  split at hw
  ·rename_i hc
   have:=ER hw (g:=g) (by simp[h1]) (by simp[h2])
   simp only[List.map_cons,List.mem_cons,not_or]
   refine⟨fun e=>hc.2.2.2 ?_,this⟩
   unfold CE
   rw[←e];split<;>assumption
  ·cases hw
theorem qi {d:aB}:∀ {hs:List Hp} {a:Int} {s:List Int} {e:Int},DJ d hs a s=some e→a∈s→(hs.map fun h=>h.sg.toNat).Nodup
 | [],_,_,_,_,_=>by simp
 | h :: r,a,s,e,hw,ha=>by
  unfold DJ at hw
  split at hw
  ·rename_i hc
   rw[List.map_cons,List.nodup_cons]
   refine⟨ER hw ?_ ?_,qi hw (by simp)⟩
   ·have e1:=hc.2.2.1
    unfold NG at e1
    unfold CE
    cases hb:h.bk<;>rw[hb]at e1<;>simp at e1 ⊢
    left;rw[e1];exact ha
   ·have e1:=hc.2.2.1
    unfold NG at e1
    unfold CE
    cases hb:h.bk<;>rw[hb]at e1<;>simp at e1 ⊢
    left;rw[e1];exact ha
  ·cases hw
theorem kP {d:aB}:∀ {hs:List Hp} {a:Int} {s:List Int} {e:Int},DJ d hs a s=some e→∀ h∈hs,0≤h.sg∧h.sg < d.segs.length
 | [],_,_,_,_=>by simp
 | h :: r,a,s,e,hw=>by
  unfold DJ at hw
  split at hw
  ·rename_i hc
   intro x hx
   rcases List.mem_cons.1 hx with rfl|hx
   ·exact⟨hc.1,hc.2.1⟩
   ·exact kP hw x hx
  ·cases hw
def mG (h:Hp) (v:Int):Int:=if h.bk then -v else v
def GO (v:Int) (rs:List Int) (h:Hp):List Int:=rs.set h.sg.toNat (rs.getD h.sg.toNat 0+mG h v)
def pO (v:Int) (rs:List Int) (hs:List Hp):List Int:=hs.foldl (GO v) rs
theorem EZ (v:Int) (rs:List Int) (h:Hp):(GO v rs h).length=rs.length:=by simp[GO]
theorem mN (v:Int):∀ (hs:List Hp) (rs:List Int),(pO v rs hs).length=rs.length
 | [],_=>rfl
 | h :: r,rs=>by rw[pO,List.foldl_cons,←pO,mN,EZ]
theorem mH {v:Int} {g:Nat}:∀ {hs:List Hp} {rs:List Int},g∉(hs.map fun h=>h.sg.toNat)→(pO v rs hs)[g]? = rs[g]?
 | [],_,_=>rfl
 | h :: r,rs,hn=>by
  simp only[List.map_cons,List.mem_cons,not_or]at hn
  rw[pO,List.foldl_cons,←pO,mH hn.2,GO,List.getElem?_set_ne (Ne.symm hn.1)]
theorem IZ {v:Int} {g:Nat}:∀ {hs:List Hp} {rs:List Int} {h:Hp},(hs.map fun h=>h.sg.toNat).Nodup→h∈hs→h.sg.toNat=g→g < rs.length→(pO v rs hs)[g]? = some (rs.getD g 0+mG h v)
 | [],_,_,_,hm,_,_=>by simp at hm
 | x :: r,rs,h,hn,hm,hg,hl=>by
  rw[List.map_cons,List.nodup_cons]at hn
  rw[pO,List.foldl_cons,←pO]
  rcases List.mem_cons.1 hm with rfl|hm
  ·rw[mH (by rw[←hg];exact hn.1),GO,hg,List.getElem?_set_self hl]
  ·rw[IZ hn.2 hm hg (by rw[EZ];exact hl)]
   have:x.sg.toNat≠g:=fun e=>hn.1 (by rw[e,←hg];exact List.mem_map_of_mem hm)
   have e:(GO v rs x)[g]? = rs[g]?:=by rw[GO,List.getElem?_set_ne this]
   rw[List.getD_eq_getElem?_getD,e,←List.getD_eq_getElem?_getD]
theorem KV (v:Int) (rs:List Int) (hs:List Hp) (hn:(hs.map fun h=>h.sg.toNat).Nodup) (hr:∀ h∈hs,0≤h.sg∧h.sg < rs.length):∃ X:Nat→List Int,X 0=rs∧X hs.length=pO v rs hs∧(∀ k,(X k).length=rs.length)∧
  ∀ k h,hs[k]? = some h→∃ r,rs[h.sg.toNat]? = some r∧(X k)[h.sg.toNat]? = some r∧X (k+1)=(X k).set h.sg.toNat (r+mG h v):=by
 refine⟨fun k=>pO v rs (hs.take k),rfl,by dsimp only;rw[List.take_length],fun k=>mN v _ _,fun k h hk=>?_⟩
 have h1:=hr h (au hk)
 obtain⟨r,hr'⟩:∃ r,rs[h.sg.toNat]? = some r:=aa (by omega)
 have hnot:h.sg.toNat∉((hs.take k).map fun h=>h.sg.toNat):=by
  intro hm
  obtain⟨y,hy,e⟩:=List.mem_map.1 hm
  obtain⟨j,hj,ej⟩:=List.getElem_of_mem hy
  rw[List.length_take]at hj
  rw[List.getElem_take]at ej
  have hjl:j < hs.length:=by omega
  have hkl:=(List.getElem?_eq_some_iff.1 hk).1
  have e2:=(List.getElem?_eq_some_iff.1 hk).2
  have:=(List.getElem_inj (xs:=hs.map fun h=>h.sg.toNat) (i:=j) (j:=k) (h₀:=by simpa using hjl) (h₁:=by simpa using hkl) hn).1 (by rw[List.getElem_map,List.getElem_map,ej,e2];exact e)
  omega
 refine⟨r,hr',by dsimp only;rw[mH hnot];exact hr',?_⟩
 dsimp only
 have hx:(pO v rs (hs.take k)).getD h.sg.toNat 0=r:=by rw[List.getD_eq_getElem?_getD,mH hnot,hr'];rfl
 rw[bC hk,pO,List.foldl_append,List.foldl_cons,List.foldl_nil]
 show GO v (pO v rs (hs.take k)) h=_
 rw[GO,hx]
def yR (p:Pn) (x:Pa) (v:Int):Pn:=⟨pO v p.rs x.hs,(p.ps.set x.i.toNat (p.ps.getD x.i.toNat 0+v)).set x.o.toNat (p.ps.getD x.o.toNat 0 - v),p.pm⟩
abbrev jN:Pa:=⟨0,0,[],0⟩
abbrev gX:Ev:=⟨0,0,0,jN⟩
abbrev oG:En:=⟨[],0,0⟩
def fa (k:Dk) (i:Int):Prop:=∃ v,k.vs[i.toNat]? = some v∧v.op=v.tr∧v.wa=true
structure QQ (d:aB) (k:Dk) (x:Pa) (v:Int):Prop where
 b:-1000≤v∧v≤1000
 p:oz d ⟨x.i,x.o,x.hs,max v (-v)⟩
 ri:fa k (d.segs.length+x.i)
 ro:fa k (d.segs.length+x.o)
 rh:∀ h∈x.hs,fa k h.sg
 pi:0≤k.pl.ps.getD x.i.toNat 0∧0≤k.pl.ps.getD x.i.toNat 0+v
 po:k.pl.ps.getD x.o.toNat 0≤0∧k.pl.ps.getD x.o.toNat 0 - v≤0
 hh:∀ h∈x.hs,0≤mG h (k.pl.rs.getD h.sg.toNat 0)∧0≤mG h (k.pl.rs.getD h.sg.toNat 0)+v
 ok:jE d (yR k.pl x v)
 fd:Ig d (yR k.pl x v)
inductive gh (d:aB) (k:Dk):Ev→Dk→Prop
 | open_ (i:Nat) (v:Vv):k.vs[i]? = some v→gh d k ⟨1,i,0,jN⟩ ⟨k.vs.set i {v with wa:=true},k.pl⟩
 | close (i:Nat) (v:Vv):k.vs[i]? = some v→(jo k.pl)[i]? = some false→gh d k ⟨2,i,0,jN⟩ ⟨k.vs.set i {v with wa:=false},k.pl⟩
 | start (i:Nat):i < d.stns.length→Ig d {k.pl with pm:=k.pl.pm.set i true}→gh d k ⟨3,i,0,jN⟩ ⟨k.vs,{k.pl with pm:=k.pl.pm.set i true}⟩
 | stop (i:Nat):i < d.stns.length→gh d k ⟨4,i,0,jN⟩ ⟨k.vs,{k.pl with pm:=k.pl.pm.set i false}⟩
 | flow (x:Pa) (v:Int):x.r=0→QQ d k x v→gh d k ⟨5,0,v,x⟩ ⟨k.vs,yR k.pl x v⟩
 | wait (n:Nat):1≤n→n≤100→gh d k ⟨6,0,n,jN⟩ ⟨k.vs.map fun v=>de v n,k.pl⟩
theorem my (p:Pn):(jo p).length=p.rs.length+p.ps.length:=by simp[jo,mZ]
theorem FD {p:Pn} {i:Nat} {r:Int} (h:p.rs[i]? = some r):(jo p)[i]? = some (decide (r≠0)):=by
 have:=(List.getElem?_eq_some_iff.1 h).1
 unfold jo
 rw[List.getElem?_append_left (by rw[eW];exact this),mZ,List.getElem?_map,h];rfl
theorem FB {p:Pn} {i:Nat} {r:Int} (h:p.ps[i]? = some r):(jo p)[p.rs.length+i]? = some (decide (r≠0)):=by
 unfold jo
 rw[List.getElem?_append_right (by rw[eW];omega),eW,show p.rs.length+i - p.rs.length=i by omega,mZ,List.getElem?_map,h];rfl
theorem mI {α:Type} {l:List α} {i j:Nat} {x y:α} (h:(l.set i x)[j]? = some y):(j=i∧y=x)∨(j≠i∧l[j]? = some y):=by
 by_cases e:j=i
 ·subst e
  have:=(List.getElem?_eq_some_iff.1 h).1
  rw[List.getElem?_set_self (by simpa using this)]at h
  cases h;exact Or.inl ⟨rfl,rfl⟩
 ·rw[List.getElem?_set_ne (Ne.symm e)]at h
  exact Or.inr ⟨e,h⟩
theorem gh.ok {d:aB} (hd:bq d) {k k':Dk} {s:Ev} (hk:gT d k) (h:gh d k s k'):gT d k':=by
 have l1:=hk.fl.pln.l1
 have l2:=hk.fl.pln.l2
 cases h with
 | open_ i v hv=>
  refine⟨by simpa using hk.ln,fun w hw=>?_,hk.fl,fun j w hw hn=>?_,hk.fd⟩
  ·rcases List.mem_or_eq_of_mem_set hw with hw|rfl
   ·exact hk.vo w hw
   ·obtain⟨a,b,c,e⟩:=hk.vo v (au hv);exact⟨a,b,c,e⟩
  ·rcases mI hw with ⟨rfl,rfl⟩|⟨_,hw⟩
   ·exact⟨(hk.rd j v hv hn).1,rfl⟩
   ·exact hk.rd j w hw hn
 | close i v hv hz=>
  refine⟨by simpa using hk.ln,fun w hw=>?_,hk.fl,fun j w hw hn=>?_,hk.fd⟩
  ·rcases List.mem_or_eq_of_mem_set hw with hw|rfl
   ·exact hk.vo w hw
   ·obtain⟨a,b,c,e⟩:=hk.vo v (au hv);exact⟨a,b,c,e⟩
  ·rcases mI hw with ⟨rfl,rfl⟩|⟨_,hw⟩
   ·dsimp only at hn;rw[hz]at hn;cases hn
   ·exact hk.rd j w hw hn
 | start i hi hf=>exact⟨hk.ln,hk.vo,⟨hk.fl.pln,hk.fl.cap,by simpa using hk.fl.pum,hk.fl.bal,hk.fl.acy⟩,hk.rd,hf⟩
 | stop i hi=>
  refine⟨hk.ln,hk.vo,⟨hk.fl.pln,hk.fl.cap,by simpa using hk.fl.pum,hk.fl.bal,hk.fl.acy⟩,hk.rd,fun j x hx hp=>?_⟩
  rcases mI hp with ⟨_,e⟩|⟨_,hp⟩
  ·cases e
  ·exact hk.fd j x hx hp
 | flow x v _ hx=>
  refine⟨hk.ln,hk.vo,hx.ok,fun j w hw hn=>?_,hx.fd⟩
  have hj:=(List.getElem?_eq_some_iff.1 hn).1
  rw[my]at hj
  have hj:j < (yR k.pl x v).rs.length+(yR k.pl x v).ps.length:=hj
  have q1:(yR k.pl x v).rs.length=d.segs.length:=hx.ok.pln.l1
  have q2:(yR k.pl x v).ps.length=d.ports.length:=hx.ok.pln.l2
  have fin:∀ g:Int,0≤g→g.toNat=j→fa k g→w.op=w.tr∧w.wa=true:=fun g _ e hr=>by
   obtain⟨u,hu,a,b⟩:=hr
   rw[e,hw]at hu;cases hu;exact⟨a,b⟩
  by_cases hjs:j < d.segs.length
  ·by_cases hm:j∈x.hs.map fun h=>h.sg.toNat
   ·obtain⟨h,hh,e⟩:=List.mem_map.1 hm
    have:=kP hx.p.w h hh
    exact fin h.sg this.1 e (hx.rh h hh)
   ·obtain⟨r,hr⟩:∃ r,(yR k.pl x v).rs[j]? = some r:=aa (by omega)
    rw[FD hr]at hn
    have hr2:k.pl.rs[j]? = some r:=by rw[←mH (v:=v) hm];exact hr
    exact hk.rd j w hw (by rw[FD hr2];exact hn)
  ·obtain⟨q,rfl⟩:∃ q,j=(yR k.pl x v).rs.length+q:=⟨j - (yR k.pl x v).rs.length,by omega⟩
   obtain⟨r,hr⟩:∃ r,(yR k.pl x v).ps[q]? = some r:=aa (by omega)
   rw[FB hr]at hn
   have pi:=hx.p.i
   have po:=hx.p.o
   dsimp only at pi po hr
   rcases mI (show (((k.pl.ps.set x.i.toNat _).set x.o.toNat _)[q]? = some r) from hr) with ⟨e,_⟩|⟨_,hr⟩
   ·exact fin (d.segs.length+x.o) (by omega) (by omega) hx.ro
   ·rcases mI hr with ⟨e,_⟩|⟨_,hr⟩
    ·exact fin (d.segs.length+x.i) (by omega) (by omega) hx.ri
    ·refine hk.rd _ w hw ?_
     rw[show (yR k.pl x v).rs.length=k.pl.rs.length by omega,FB hr];exact hn
 | wait n h1 h2=>
  refine⟨by simpa using hk.ln,fun w hw=>?_,hk.fl,fun j w hw hn=>?_,hk.fd⟩
  ·obtain⟨u,hu,rfl⟩:=List.mem_map.1 hw
   exact zG (hk.vo u hu) n
  ·rw[List.getElem?_map]at hw
   cases hu:k.vs[j]? with
   | none=>rw[hu]at hw;cases hw
   | some u=>
    rw[hu]at hw
    simp only[Option.map_some,Option.some.injEq]at hw
    subst hw
    obtain⟨a,b⟩:=hk.rd j u hu hn
    unfold de
    rw[b]
    split
    ·exact⟨a,by assumption⟩
    ·simp only[if_pos]
     exact⟨by omega,trivial⟩
open Go.IntWalk renaming iteOmega → iO, toNatUp → tN
instance (t:Tg):Decidable (gy t):=if h:(0≤t.st∧t.st≤255)∧(0≤t.ep∧t.ep≤255)∧(0≤t.sq∧t.sq≤2147483648)∧(0≤t.tm∧t.tm≤1099511627776)∧(0≤t.kd∧t.kd≤63)∧t.vs.length≤16∧∀ v∈t.vs,yt v then isTrue ⟨h.1,h.2.1,h.2.2.1,h.2.2.2.1,h.2.2.2.2.1,h.2.2.2.2.2.1,h.2.2.2.2.2.2⟩ else isFalse fun g=>h ⟨g.st,g.ep,g.sq,g.tm,g.kd,g.ln,g.vs⟩
theorem tE (t:Tg) (hl:t.vs.length≤9223372036854775807) (g:Bool) (hg:decide (gy t)=g):aj Tryz.prog 52 [.t (bQ t)] [] (.t (.bool g)) []:=by
 subst hg
 obtain⟨t1,t2,t3,t4,t5,vs⟩:=t
 dsimp only at hl
 by_cases h1:0≤t1∧t1≤255
 ·have c1:=nj t1 255 true (decide_eq_true h1)
  by_cases h2:0≤t2∧t2≤255
  ·have c2:=nj t2 255 true (decide_eq_true h2)
   by_cases h3:0≤t3∧t3≤2147483648
   ·have c3:=nj t3 2147483648 true (decide_eq_true h3)
    by_cases h4:0≤t4∧t4≤1099511627776
    ·have c4:=nj t4 1099511627776 true (decide_eq_true h4)
     by_cases h5:0≤t5∧t5≤63
     ·have c5:=nj t5 63 true (decide_eq_true h5)
      by_cases h6:vs.length≤16
      ·by_cases h7:∀ v∈vs,yt v
       ·have c6:=Fh vs hl false (decide_eq_false (by simpa using h7))
        rw[decide_eq_true (show gy ⟨t1,t2,t3,t4,t5,vs⟩ from ⟨h1,h2,h3,h4,h5,h6,h7⟩)]
        refine nI Tryz.func52 rfl Tryz.ntmps52 ?_
        refine ah ?_
        refine ax c1 [] ?_
        refine ax c2 [] ?_
        refine ax c3 [] ?_
        refine ax c4 [] ?_
        refine ax c5 [] ?_
        refine ah ?_
        refine ax c6 [] ?_
        refine ah ?_
        exact aF []
       ·have c6:=Fh vs hl true (decide_eq_true h7)
        rw[decide_eq_false (show ¬ gy ⟨t1,t2,t3,t4,t5,vs⟩ from fun g=>h7 g.vs)]
        refine nI Tryz.func52 rfl Tryz.ntmps52 ?_
        refine ah ?_
        refine ax c1 [] ?_
        refine ax c2 [] ?_
        refine ax c3 [] ?_
        refine ax c4 [] ?_
        refine ax c5 [] ?_
        refine ah ?_
        refine ax c6 [] ?_
        refine ah ?_
        exact aF []
      ·rw[decide_eq_false (show ¬ gy ⟨t1,t2,t3,t4,t5,vs⟩ from fun g=>h6 g.ln)]
       refine nI Tryz.func52 rfl Tryz.ntmps52 ?_
       refine ah ?_
       refine ax c1 [] ?_
       refine ax c2 [] ?_
       refine ax c3 [] ?_
       refine ax c4 [] ?_
       refine ax c5 [] ?_
       refine ah ?_
       first|rw[av]|rw[ae]
       refine⟨[],?_⟩
       simp[go_sem,↓iO,iO,tN]
       try omega
     ·have c5:=nj t5 63 false (decide_eq_false h5)
      rw[decide_eq_false (show ¬ gy ⟨t1,t2,t3,t4,t5,vs⟩ from fun g=>h5 g.kd)]
      refine nI Tryz.func52 rfl Tryz.ntmps52 ?_
      refine ah ?_
      refine ax c1 [] ?_
      refine ax c2 [] ?_
      refine ax c3 [] ?_
      refine ax c4 [] ?_
      refine ax c5 [] ?_
      refine ah ?_
      exact aF []
    ·have c4:=nj t4 1099511627776 false (decide_eq_false h4)
     rw[decide_eq_false (show ¬ gy ⟨t1,t2,t3,t4,t5,vs⟩ from fun g=>h4 g.tm)]
     refine nI Tryz.func52 rfl Tryz.ntmps52 ?_
     refine ah ?_
     refine ax c1 [] ?_
     refine ax c2 [] ?_
     refine ax c3 [] ?_
     refine ax c4 [] ?_
     refine ah ?_
     exact aF []
   ·have c3:=nj t3 2147483648 false (decide_eq_false h3)
    rw[decide_eq_false (show ¬ gy ⟨t1,t2,t3,t4,t5,vs⟩ from fun g=>h3 g.sq)]
    refine nI Tryz.func52 rfl Tryz.ntmps52 ?_
    refine ah ?_
    refine ax c1 [] ?_
    refine ax c2 [] ?_
    refine ax c3 [] ?_
    refine ah ?_
    exact aF []
  ·have c2:=nj t2 255 false (decide_eq_false h2)
   rw[decide_eq_false (show ¬ gy ⟨t1,t2,t3,t4,t5,vs⟩ from fun g=>h2 g.ep)]
   refine nI Tryz.func52 rfl Tryz.ntmps52 ?_
   refine ah ?_
   refine ax c1 [] ?_
   refine ax c2 [] ?_
   refine ah ?_
   exact aF []
 ·have c1:=nj t1 255 false (decide_eq_false h1)
  rw[decide_eq_false (show ¬ gy ⟨t1,t2,t3,t4,t5,vs⟩ from fun g=>h1 g.st)]
  refine nI Tryz.func52 rfl Tryz.ntmps52 ?_
  refine ah ?_
  refine ax c1 [] ?_
  refine ah ?_
  exact aF []
structure kY (ks:List Int) (t:Int) (c:Nat):Prop where
 le:c≤ks.length
 lo:∀ i x,i < c→ks[i]? = some x→x < t
 hi:∀ i x,c≤i→ks[i]? = some x→t≤x
abbrev m5 (ks:List Int):Prop:=ks.Pairwise (· < ·)
theorem CH:∀ {ks:List Int} (_:m5 ks) (t:Int),∃ c,kY ks t c
 | [],_,t=>⟨0,by simp,by omega,by simp⟩
 | k :: r,h,t=>by
  rw[m5,List.pairwise_cons]at h
  by_cases hk:k < t
  ·obtain⟨c,h1,h2,h3⟩:=CH h.2 t
   refine⟨c+1,by simpa using h1,fun i x hi hx=>?_,fun i x hi hx=>?_⟩
   ·cases i with
    | zero=>simp at hx;omega
    | succ i=>exact h2 i x (by omega) (by simpa using hx)
   ·cases i with
    | zero=>omega
    | succ i=>exact h3 i x (by omega) (by simpa using hx)
  ·refine⟨0,by simp,fun i x hi=>by omega,fun i x _ hx=>?_⟩
   cases i with
   | zero=>simp at hx;omega
   | succ i=>
    have:=h.1 x (au (k:=i) (by simpa using hx))
    omega
theorem Bi {ks:List Int} (h:m5 ks) {t:Int} {c:Nat} (hp:kY ks t c) (hn:∀ x,ks[c]? = some x→x≠t):m5 (ks.take c++t :: ks.drop c):=by
 rw[m5,List.pairwise_append,List.pairwise_cons]
 have hd:∀ x∈ks.drop c,t < x:=fun x hx=>by
  obtain⟨i,hi,e⟩:=List.getElem_of_mem hx
  have hx2:ks[c+i]? = some x:=by rw[←List.getElem?_drop,List.getElem?_eq_getElem hi,e]
  have h1:=hp.hi (c+i) x (by omega) hx2
  rcases Nat.eq_zero_or_pos i with rfl|h0
  ·have:=hn x (by simpa using hx2);omega
  ·obtain⟨y,hy⟩:∃ y,ks[c]? = some y:=aa (by have:=(List.getElem?_eq_some_iff.1 hx2).1;omega)
   have h2:=hp.hi c y (by omega) hy
   obtain⟨g1,e1⟩:=List.getElem?_eq_some_iff.1 hy
   obtain⟨g2,e2⟩:=List.getElem?_eq_some_iff.1 hx2
   have:=List.pairwise_iff_getElem.1 h c (c+i) g1 g2 (by omega)
   omega
 refine⟨List.Pairwise.sublist (List.take_sublist c ks) h,⟨hd,List.Pairwise.sublist (List.drop_sublist c ks) h⟩,fun a ha b hb=>?_⟩
 have h1:a < t:=by
  obtain⟨i,hi,e⟩:=List.getElem_of_mem ha
  rw[List.length_take]at hi
  refine hp.lo i a (by omega) ?_
  rw[List.getElem_take]at e
  rw[List.getElem?_eq_getElem (by omega),e]
 rcases List.mem_cons.1 hb with rfl|hb
 ·exact h1
 ·have:=hd b hb;omega
def oa:List (List Nat):=[[97],[98,111],[99,51],[100,101,108,116,97],[101]]
def pq (k:List Nat):Int:=(oa.idxOf k:Nat)
theorem Q4:∀ a∈oa,∀ b∈oa,Op.bytesLess (str a).toList (str b).toList=decide (pq a < pq b):=by decide +kernel
theorem Rs:∀ a∈oa,∀ b∈oa,((str a).toList == (str b).toList)=decide (pq a=pq b):=by decide +kernel
theorem Ps:∀ a∈oa,∀ b∈oa,pq a=pq b→a=b:=by decide +kernel
structure Gi (e:En):Prop where
 sh:e.sh∈oa
 kd:1≤e.kd∧e.kd≤4
 vl:-1073741824≤e.vl∧e.vl≤1073741824
 ps:e.kd≠4→0≤e.vl
structure n8 (a:Ac) (n:Int):Prop where
 sh:a.sh∈oa
 rc:0≤a.rc∧a.rc≤1073741824 * n
 dl:0≤a.dl∧a.dl≤1073741824 * n
 sp:0≤a.sp∧a.sp≤1073741824 * n
 sd:-1073741824 * n≤a.sd∧a.sd≤1073741824 * n
theorem n8.up {a:Ac} {n:Int} (h:n8 a n):n8 a (n+1):=by
 obtain⟨a1,a2,a3,a4,a5⟩:=h
 exact⟨a1,by omega,by omega,by omega,by omega⟩
def fS (a:Ac) (e:En):Ac:=
 if e.kd=1 then {a with rc:=a.rc+e.vl} else if e.kd=2 then {a with dl:=a.dl+e.vl} else if e.kd=3 then {a with sp:=a.sp+e.vl} else {a with sd:=a.sd+e.vl}
def fN (l:List Ac):List Int:=l.map fun a=>pq a.sh
def eV (l:List Tg):List Int:=l.map fun t=>t.st
theorem lL {a:Ac} {e:En} {n:Int} (h:n8 a n) (he:Gi e):n8 (fS a e) (n+1):=by
 obtain⟨a1,a2,a3,a4,a5⟩:=h
 obtain⟨e1,e2,e3,e4⟩:=he
 unfold fS
 split
 ·exact⟨a1,by have:=e4 (by omega);dsimp only;omega,by dsimp only;omega,by dsimp only;omega,by dsimp only;omega⟩
 split
 ·exact⟨a1,by dsimp only;omega,by have:=e4 (by omega);dsimp only;omega,by dsimp only;omega,by dsimp only;omega⟩
 split
 ·exact⟨a1,by dsimp only;omega,by dsimp only;omega,by have:=e4 (by omega);dsimp only;omega,by dsimp only;omega⟩
 ·exact⟨a1,by dsimp only;omega,by dsimp only;omega,by dsimp only;omega,by dsimp only;omega⟩
theorem n8.zero {e:En} (he:Gi e) {n:Int} (hn:0≤n):n8 ⟨e.sh,0,0,0,0⟩ n:=⟨he.sh,by dsimp only;omega,by dsimp only;omega,by dsimp only;omega,by dsimp only;omega⟩
inductive Py (l:List Ac) (e:En):List Ac→Prop
 | set (c:Nat) (a:Ac):kY (fN l) (pq e.sh) c→l[c]? = some a→a.sh=e.sh→Py l e (l.set c (fS a e))
 | ins (c:Nat):kY (fN l) (pq e.sh) c→(∀ a,l[c]? = some a→a.sh≠e.sh)→Py l e (l.take c++fS ⟨e.sh,0,0,0,0⟩ e :: l.drop c)
inductive ND (l:List Tg) (t:Tg):List Tg→Prop
 | set (c:Nat) (x:Tg):kY (eV l) t.st c→l[c]? = some x→x.st=t.st→yQ x t=true→ND l t (l.set c t)
 | ins (c:Nat):kY (eV l) t.st c→(∀ x,l[c]? = some x→x.st≠t.st)→ND l t (l.take c++t :: l.drop c)
structure nS (d:aB) (c:Ce):Prop where
 dk:gT d c.dk
 ts:∀ t∈c.ts,gy t∧t.vs.length≤3
 tg:m5 (eV c.ts)
 ac:∀ a∈c.ac,n8 a c.n
 ag:m5 (fN c.ac)
 n:0≤c.n∧c.n≤10
 nt:c.ts.length≤c.n
 na:c.ac.length≤c.n
def jK (t:Tg):List Int:=t.st :: t.ep :: t.sq :: t.tm :: t.kd :: t.vs
inductive AR (d:aB) (c:Ce):Rc→Ce→Prop
 | tele (t:Tg) (l:List Tg):gy t→t.vs.length≤3→ND c.ts t l→AR d c ⟨1,jK t,gX,oG⟩ ⟨c.dk,l,c.ac,c.n+1⟩
 | step (s:Ev) (k:Dk):gh d c.dk s k→AR d c ⟨2,[],s,oG⟩ ⟨k,c.ts,c.ac,c.n+1⟩
 | entry (e:En) (l:List Ac):Gi e→Py c.ac e l→AR d c ⟨3,[],gX,e⟩ ⟨c.dk,c.ts,l,c.n+1⟩
theorem AR.n {d:aB} {c c':Ce} {r:Rc} (h:AR d c r c'):c'.n=c.n+1:=by cases h<;>rfl
theorem AR.ok {d:aB} (hd:bq d) {c c':Ce} {r:Rc} (hc:nS d c) (hn:c.n≤9) (h:AR d c r c'):nS d c':=by
 have h0:=hc.n
 have h1:=hc.nt
 have h2:=hc.na
 cases h with
 | tele t l ht hv hl=>
  cases hl with
  | set i x hp hx he _=>
   refine⟨hc.dk,fun u hu=>?_,?_,fun a ha=>(hc.ac a ha).up,hc.ag,⟨by dsimp only;omega,by dsimp only;omega⟩,by dsimp only;rw[List.length_set];omega,by dsimp only;omega⟩
   ·rcases List.mem_or_eq_of_mem_set hu with hu|rfl
    ·exact hc.ts u hu
    ·exact⟨ht,hv⟩
   ·have e:eV (c.ts.set i t)=eV c.ts:=by
     unfold eV
     rw[List.map_set,←he]
     refine List.ext_getElem? fun j=>?_
     by_cases ej:i=j
     ·subst ej
      have:=(List.getElem?_eq_some_iff.1 hx).1
      rw[List.getElem?_set_self (by simpa using this),List.getElem?_map,hx];rfl
     ·rw[List.getElem?_set_ne ej]
    dsimp only
    rw[e];exact hc.tg
  | ins i hp hx=>
   have hi:i≤c.ts.length:=by simpa [eV] using hp.le
   refine⟨hc.dk,fun u hu=>?_,?_,fun a ha=>(hc.ac a ha).up,hc.ag,⟨by dsimp only;omega,by dsimp only;omega⟩,by dsimp only;simp only[List.length_append,List.length_cons,List.length_take,List.length_drop];omega,by dsimp only;omega⟩
   ·dsimp only at hu
    rcases List.mem_append.1 hu with hu|hu
    ·exact hc.ts u (List.mem_of_mem_take hu)
    ·rcases List.mem_cons.1 hu with rfl|hu
     ·exact⟨ht,hv⟩
     ·exact hc.ts u (List.mem_of_mem_drop hu)
   ·have:=Bi hc.tg hp fun y hy=>by
     unfold eV at hy
     rw[List.getElem?_map]at hy
     cases hu:c.ts[i]? with
     | none=>rw[hu]at hy;cases hy
     | some u=>rw[hu]at hy;cases hy;exact hx u hu
    have e:eV (c.ts.take i++t :: c.ts.drop i)=(eV c.ts).take i++t.st :: (eV c.ts).drop i:=by simp[eV,List.map_take,List.map_drop]
    dsimp only
    rw[e];exact this
 | step s k hs=>exact⟨hs.ok hd hc.dk,hc.ts,hc.tg,fun a ha=>(hc.ac a ha).up,hc.ag,⟨by dsimp only;omega,by dsimp only;omega⟩,by dsimp only;omega,by dsimp only;omega⟩
 | entry e l he hl=>
  have hsh:∀ a:Ac,(fS a e).sh=a.sh:=fun a=>by unfold fS;split<;>(try split)<;>(try split)<;>rfl
  cases hl with
  | set i x hp hx hs=>
   refine⟨hc.dk,hc.ts,hc.tg,fun u hu=>?_,?_,⟨by dsimp only;omega,by dsimp only;omega⟩,by dsimp only;omega,by dsimp only;rw[List.length_set];omega⟩
   ·rcases List.mem_or_eq_of_mem_set hu with hu|rfl
    ·exact (hc.ac u hu).up
    ·exact lL (hc.ac x (au hx)) he
   ·have e:fN (c.ac.set i (fS x e))=fN c.ac:=by
     unfold fN
     rw[List.map_set,hsh]
     refine List.ext_getElem? fun j=>?_
     by_cases ej:i=j
     ·subst ej
      have:=(List.getElem?_eq_some_iff.1 hx).1
      rw[List.getElem?_set_self (by simpa using this),List.getElem?_map,hx];rfl
     ·rw[List.getElem?_set_ne ej]
    dsimp only
    rw[e];exact hc.ag
  | ins i hp hx=>
   have hi:i≤c.ac.length:=by simpa [fN] using hp.le
   refine⟨hc.dk,hc.ts,hc.tg,fun u hu=>?_,?_,⟨by dsimp only;omega,by dsimp only;omega⟩,by dsimp only;omega,by dsimp only;simp only[List.length_append,List.length_cons,List.length_take,List.length_drop];omega⟩
   ·dsimp only at hu
    rcases List.mem_append.1 hu with hu|hu
    ·exact (hc.ac u (List.mem_of_mem_take hu)).up
    ·rcases List.mem_cons.1 hu with rfl|hu
     ·exact lL (.zero he h0.1) he
     ·exact (hc.ac u (List.mem_of_mem_drop hu)).up
   ·have:=Bi hc.ag hp fun y hy=>by
     unfold fN at hy
     rw[List.getElem?_map]at hy
     cases hu:c.ac[i]? with
     | none=>rw[hu]at hy;cases hy
     | some u=>
      rw[hu]at hy;cases hy
      exact fun e2=>hx u hu (Ps _ (hc.ac u (au hu)).sh _ he.sh e2)
    have e:fN (c.ac.take i++fS ⟨e.sh,0,0,0,0⟩ e :: c.ac.drop i)=(fN c.ac).take i++pq e.sh :: (fN c.ac).drop i:=by simp[fN,List.map_take,List.map_drop,hsh]
    dsimp only
    rw[e];exact this
abbrev DL (x:Nat):Prop:=(97≤x∧x≤122)∨(48≤x∧x≤57)
theorem I2:∀ k∈oa,1≤k.length∧k.length≤12∧(∀ x∈k,DL x)∧97≤k.getD 0 0∧k.getD 0 0≤122:=by decide +kernel
theorem yN {k:List Nat} (h:∀ x∈k,DL x) (j:Nat) (x:Nat) (hx:k[j]? = some x):(str k).data.toList[j]? = some (UInt8.ofNat x)∧(UInt8.ofNat x).toNat=x:=by
 have:=h x (au hx)
 have e:(str k).data.toList=k.map fun c=>UInt8.ofNat c:=by simp[str]
 rw[e,List.getElem?_map,hx]
 refine⟨rfl,?_⟩
 rw[UInt8.toNat_ofNat'];omega
theorem GU (x:Nat) (h:48≤x∧x≤57):aj Tryz.prog 183 [.t (.lit (.int .u8 x))] [] (.t (.int 2)) []:=by
 obtain⟨h1,h2⟩:=h
 have e1:¬ (97:Int)≤x:=by omega
 have e2:(48:Int)≤x:=by omega
 have e3:(x:Int)≤57:=by omega
 refine nI Tryz.func183 rfl Tryz.ntmps183 ?_
 refine fg e1 e2 e3 ?_
 exact aF []
theorem KJ (k:List Nat) (hk:k∈oa):aj Tryz.prog 117 [.t (aI k)] [] (.t (.bool true)) []:=by
 obtain⟨h0,h1,h,g1,g2⟩:=I2 k hk
 obtain⟨x,hx⟩:∃ x,k[0]? = some x:=aa (by omega)
 obtain⟨a1,a2⟩:=yN h 0 x hx
 rw[List.getD_eq_getElem?_getD,hx]at g1 g2
 have c:=oq x ⟨g1,g2⟩
 refine nI Tryz.func117 rfl Tryz.ntmps117 ?_
 refine c9 a1 a2 ?_
 refine lf a1 a2 c [] ?_
 refine ah ?_
 refine oP ?_
 refine lP (ι:=Nat) (fun j=>⟨[(0,.t (aI k)),(19,.t (.int k.length)),(20,.t (.int j))],[]⟩) (fun j=>j≤k.length) (fun j=>k.length - j) 0 [] (by omega) ?_
 intro j hj
 by_cases hb:j < k.length
 ·obtain⟨y,hy⟩:=aa hb
  obtain⟨b1,b2⟩:=yN h j y hy
  obtain⟨v,c2,hv⟩:∃ v:Int,aj Tryz.prog 183 [.t (.lit (.int .u8 y))] [] (.t (.int v)) []∧(v=1∨v=2):=by
   rcases h y (au hy) with q|q
   ·exact⟨1,oq y q,.inl rfl⟩
   ·exact⟨2,GU y q,.inr rfl⟩
  have hv0:¬ v=0:=by omega
  repeat (first|(refine af rfl ?_;simp[go_sem,↓iO,iO,tN,b1,b2])|refine ba ?_|refine⟨aZ,?_⟩|refine iP ?_|refine iN ?_)
  refine aY.fn (c2) [] [] [] (by kernel_rfl) ?_ ?_ ?_ (Or.inl rfl) ?_<;>simp[go_sem,↓iO,iO,tN,b1,b2]
  repeat (refine ba ?_)
  try (refine⟨aZ,?_⟩)
  refine aJ hv0 ?_
  exact nY (j+1) []
 ·obtain rfl:j=k.length:=by omega
  refine ah ?_
  exact aF []
theorem Ir (k:List Nat) (hk:k∈oa):aj Tryz.prog 225 [.t (aI k)] [] (.t (.bool true)) []:=by
 obtain⟨h0,h1,h,g1,g2⟩:=I2 k hk
 obtain⟨x,hx⟩:∃ x,k[0]? = some x:=aa (by omega)
 obtain⟨a1,a2⟩:=yN h 0 x hx
 rw[List.getD_eq_getElem?_getD,hx]at g1 g2
 have g1:97≤x:=g1
 have g2:x≤122:=g2
 have y1:¬ (x:Int) < 97:=by omega
 have y2:¬ (122:Int) < x:=by omega
 refine nI Tryz.func225 rfl Tryz.ntmps225 ?_
 refine lO a1 a2 y1 y2 ?_
 refine oP ?_
 refine lP (ι:=Nat) (fun j=>⟨[(0,.t (aI k)),(3,.t (.int j))],[]⟩) (fun j=>j≤k.length) (fun j=>k.length - j) 0 [] (by omega) ?_
 intro j hj
 by_cases hb:j < k.length
 ·obtain⟨y,hy⟩:=aa hb
  obtain⟨b1,b2⟩:=yN h j y hy
  rcases h y (au hy) with ⟨q1,q2⟩|⟨q1,q2⟩
  ·have z1:¬ (y:Int) < 97:=by omega
   have z2:¬ (122:Int) < y:=by omega
   repeat (first|(refine af rfl ?_;simp[go_sem,↓iO,iO,tN,b1,b2,z1,z2])|refine ba ?_|refine⟨aZ,?_⟩|refine iP ?_|refine iN ?_)
   exact nY (j+1) []
  ·have z1:(y:Int) < 97:=by omega
   have z2:¬ (y:Int) < 48:=by omega
   have z3:¬ (57:Int) < y:=by omega
   repeat (first|(refine af rfl ?_;simp[go_sem,↓iO,iO,tN,b1,b2,z1,z2,z3])|refine ba ?_|refine⟨aZ,?_⟩|refine iP ?_|refine iN ?_)
   exact nY (j+1) []
 ·obtain rfl:j=k.length:=by omega
  refine ah ?_
  exact aF []
theorem Pm:aj Tryz.prog 225 [.t (aI [])] [] (.t (.bool false)) []:=by
 have e:(str []).size=0:=rfl
 refine nI Tryz.func225 rfl Tryz.ntmps225 ?_
 refine aJ e ?_
 exact aF []
def zt (a b:Int):Int:=if a < b then -1 else if b < a then 1 else 0
theorem cm5:∀ a∈oa,∀ b∈oa,Lib.compareBytes (str a).data.toList (str b).data.toList=zt (pq a) (pq b):=by decide +kernel
theorem Mp (a b:ByteArray):aj Tryz.prog 297 [.t (.lit (.string a)),.t (.lit (.string b))] [] (.t (.int (Lib.compareBytes a.data.toList b.data.toList))) []:=by
 intro G w us hh hr
 unfold aD at hr
 obtain⟨u1,r1,rfl,h1,hr⟩:=hr
 unfold aD at hr
 obtain⟨u2,r2,rfl,h2,hr⟩:=hr
 unfold aD at hr
 subst hr
 unfold ar aO at h1 h2
 obtain⟨rfl,_⟩:=h1
 obtain⟨rfl,_⟩:=h2
 have key:Calls Tryz.prog 297 #[.string a,.string b] w fun e w'=>e = .returned (.int .i64 (Lib.compareBytes a.data.toList b.data.toList))∧w'=w:=by
  go_enter Tryz.func297,Tryz.ntmps297
  go_wp2
  rw[run_callFunc_extern Tryz.func303 (by kernel_rfl) (by kernel_rfl) (by kernel_rfl) (e:=Extern.BytealgCompare.compare) (by kernel_rfl),Lib.run_compareString]
  simp only[Result.andThen]
  rw[Oper.upon_value]
  go_wp2
  go_ret
  exact⟨rfl,rfl⟩
 refine key.mono ?_
 rintro e w' ⟨rfl,rfl⟩
 exact⟨_,G,rfl,⟨rfl,rfl,rfl,Nat.le_refl _,fun _ _ _=>rfl,fun l b k h=>by simp[bc]at h,fun _ h=>h,fun _ h=> .inl h,fun _ _=>rfl⟩,hh,by unfold ar;unfold aO;exact⟨rfl,rfl⟩⟩
@[go_sem] theorem PR:aw Tryz.prog 297=true:=by kernel_rfl
theorem Hw (a b:List Nat) (ha:a∈oa) (hb:b∈oa):aj Tryz.prog 283 [.t (aI a),.t (aI b)] [] (.t (.int (zt (pq a) (pq b)))) []:=by
 have c:=Mp (str a) (str b)
 rw[cm5 a ha b hb]at c
 refine nI Tryz.func283 rfl Tryz.ntmps283 ?_
 refine ah ?_
 refine ax c [] ?_
 refine ah ?_
 exact aF []
theorem Gk (a:Ac) (k:List Nat) (ha:a.sh∈oa) (hk:k∈oa):aj Tryz.prog 282 [.t (bI a),.t (aI k)] [] (.t (.int (zt (pq a.sh) (pq k)))) []:=by
 have c:=Hw a.sh k ha hk
 obtain⟨s,r1,r2,r3,r4⟩:=a
 refine nI Tryz.func282 rfl Tryz.ntmps282 ?_
 refine ah ?_
 refine ax c [] ?_
 refine ah ?_
 exact aF []
theorem By (a:Int):aj Tryz.prog 279 [.t (.int a)] [] (.t (.bool false)) []:=by
 refine nI Tryz.func279 rfl Tryz.ntmps279 ?_
 refine ah ?_
 exact aF []
theorem GC (a b:Int):aj Tryz.prog 247 [.t (.int a),.t (.int b)] [] (.t (.int (zt a b))) []:=by
 have c1:=By a
 have c2:=By b
 by_cases h1:a < b
 ·have e:zt a b=-1:=by unfold zt;rw[if_pos h1]
  rw[e]
  refine nI Tryz.func247 rfl Tryz.ntmps247 ?_
  refine ah ?_
  refine ax c1 [] ?_
  refine ah ?_
  refine ax c2 [] ?_
  refine aJ h1 ?_
  exact aF []
 ·by_cases h2:b < a
  ·have e:zt a b=1:=by unfold zt;rw[if_neg h1,if_pos h2]
   rw[e]
   refine nI Tryz.func247 rfl Tryz.ntmps247 ?_
   refine ah ?_
   refine ax c1 [] ?_
   refine ah ?_
   refine ax c2 [] ?_
   refine c9 h1 h2 ?_
   exact aF []
  ·have e:zt a b=0:=by unfold zt;rw[if_neg h1,if_neg h2]
   rw[e]
   refine nI Tryz.func247 rfl Tryz.ntmps247 ?_
   refine ah ?_
   refine ax c1 [] ?_
   refine ah ?_
   refine ax c2 [] ?_
   refine c9 h1 h2 ?_
   exact aF []
theorem Hq (t:Tg) (k:Int):aj Tryz.prog 246 [.t (bQ t),.t (.int k)] [] (.t (.int (zt t.st k))) []:=by
 have c:=GC t.st k
 obtain⟨s,r1,r2,r3,r4,r5⟩:=t
 refine nI Tryz.func246 rfl Tryz.ntmps246 ?_
 refine ah ?_
 refine ax c [] ?_
 refine ah ?_
 exact aF []
theorem OM {a b:Int}:(zt a b < 0)↔a < b:=by unfold zt;split<;>(try split)<;>omega
theorem Ot {a b:Int}:(zt a b=0)↔a=b:=by unfold zt;split<;>(try split)<;>omega
theorem Nq (xs:List T) (ks:List Int) (w:Nat) (tg:T) (t:Int) (f fc:Nat) (hf:f=281∧fc=282∧w=5∨f=245∧fc=246∧w=6)
  (hl:ks.length=xs.length) (hl2:xs.length≤1000) (hE:∀ (i:Nat) (k:Int),ks[i]? = some k→∃ fs:List T,xs[i]? = some (T.agg fs)∧T.widths fs=w∧aj Tryz.prog fc [.t (.agg fs),.t tg] [] (.t (.int (zt k t))) [])
  (c:Nat) (hc:kY ks t c) (b:Bool) (hb:ks[c]? = some t↔b=true) :
  aj Tryz.prog f [.t (.sl w xs),.t tg,.fn fc []] [] (.tup [.t (.int c),.t (.bool b)]) []:=by
 have hcl:c≤xs.length:=by have:=hc.le;omega
 obtain⟨X,hX⟩:∃ X:S,X = .t (.sl w xs):=⟨_,rfl⟩
 obtain⟨Y,hY⟩:∃ X:S,X = .fn fc []:=⟨_,rfl⟩
 rcases hf with ⟨rfl,rfl,rfl⟩|⟨rfl,rfl,rfl⟩
 refine nI Tryz.func281 rfl Tryz.ntmps281 ?_
 rotate_left
 refine nI Tryz.func245 rfl Tryz.ntmps245 ?_
 all_goals
  refine ah ?_
  refine oP ?_
  refine CW.loop (ι:=Nat×Nat) (fun p=>⟨[(0,X),(1,.t tg),(2,Y),(8,.t (.int xs.length)),(9,.t (.int p.1)),(10,.t (.int p.2))],[]⟩) (fun p=>p.1≤c∧c≤p.2∧p.2≤xs.length) (fun p=>p.2 - p.1) (0,xs.length) [] ⟨by dsimp only;omega,hcl,by dsimp only;omega⟩ ?_ ?_
  ·exact sw hX hY
  rintro ⟨i,j⟩ ⟨h1,h2,h3⟩
  dsimp only at h1 h2 h3 ⊢
  by_cases hij:i < j
  ·obtain⟨m,hm⟩:∃ m:Nat,(i+j) / 2=m:=⟨_,rfl⟩
   have hm2:i≤m∧m < j:=by omega
   have hme:((i:Int)+j) / 2=m:=by omega
   obtain⟨k,hk⟩:∃ k,ks[m]? = some k:=aa (by omega)
   have hml:m < xs.length:=by omega
   obtain⟨fs,hx,hw,c1⟩:=hE m k hk
   have hlt:=OM (a:=k) (b:=t)
   have hlo:m < c→k < t:=fun h=>hc.lo m _ h hk
   have hhi:c≤m→t≤k:=fun h=>hc.hi m _ h hk
   obtain⟨v,hv⟩:∃ v,zt k t=v:=⟨_,rfl⟩
   rw[hv]at c1 hlt
   by_cases hmc:m < c
   ·have hv0:v < 0:=hlt.2 (hlo hmc)
    refine yB hX hY hme hx hw ?_
    refine Fu hme hx hw c1 [] ?_
    refine aJ hv0 ?_
    refine nX (m+1,j) [] ?_ ?_ ?_
    ·exact⟨by dsimp only;omega,by dsimp only;omega,by dsimp only;omega⟩
    ·show j - (m+1) < j - i
     omega
    exact sw hX hY
   ·have hv0:¬ v < 0:=fun h=>by have:=hlt.1 h;have:=hhi (by omega);omega
    refine yB hX hY hme hx hw ?_
    refine Fu hme hx hw c1 [] ?_
    refine aJ hv0 ?_
    refine nX (i,m) [] ?_ ?_ ?_
    ·exact⟨by dsimp only;omega,by dsimp only;omega,by dsimp only;omega⟩
    ·show m - i < j - i
     omega
    exact sw hX hY
  ·have e1:i=j:=by omega
   have e2:c=j:=by omega
   subst e1 e2
   by_cases hil:c < xs.length
   ·obtain⟨k,hk⟩:∃ k,ks[c]? = some k:=aa (by omega)
    obtain⟨fs,hx,hw,c1⟩:=hE c k hk
    have heq:=Ot (a:=k) (b:=t)
    obtain⟨v,hv⟩:∃ v,zt k t=v:=⟨_,rfl⟩
    rw[hv]at c1 heq
    by_cases hv0:v=0
    ·obtain rfl:=hb.1 (by rw[hk,heq.1 hv0])
     refine lO hX hY hx hw ?_
     refine lf hx hw c1 [] ?_
     refine aJ hv0 ?_
     exact aF []
    ·obtain rfl:b=false:=by
      cases b
      ·rfl
      ·have:=hb.2 rfl
       rw[hk]at this;cases this
       exact absurd (heq.2 rfl) hv0
     refine lO hX hY hx hw ?_
     refine lf hx hw c1 [] ?_
     refine aJ hv0 ?_
     exact aF []
   ·obtain rfl:b=false:=by
     cases b
     ·rfl
     ·have:=(List.getElem?_eq_some_iff.1 (hb.2 rfl)).1
      omega
    refine c9 hX hY ?_
    exact aF []
theorem zi (x:Int) (h:0≤x∧x≤1099511627776):aj Tryz.prog 181 [.t (.int x)] [] (.t (.bool true)) []:=by
 obtain⟨h1,h2⟩:=h
 refine nI Tryz.func181 rfl Tryz.ntmps181 ?_
 refine c9 h1 h2 ?_
 exact aF []
theorem KL (x:Int) (h:-1099511627776≤x∧x≤1099511627776):aj Tryz.prog 182 [.t (.int x)] [] (.t (.bool true)) []:=by
 obtain⟨h1,h2⟩:=h
 refine nI Tryz.func182 rfl Tryz.ntmps182 ?_
 refine c9 h1 h2 ?_
 exact aF []
theorem pZ (a:Ac) (n:Int) (hn:n≤10) (h:n8 a n):aj Tryz.prog 116 [.t (bI a)] [] (.t (.bool true)) []:=by
 obtain⟨_,h1,h2,h3,h4⟩:=h
 obtain⟨s,r1,r2,r3,r4⟩:=a
 dsimp only at h1 h2 h3 h4
 have c1:=zi r1 (by omega)
 have c2:=zi r2 (by omega)
 have c3:=zi r3 (by omega)
 have c4:=KL r4 (by omega)
 refine nI Tryz.func116 rfl Tryz.ntmps116 ?_
 refine ah ?_
 refine ax c1 [] ?_
 refine ax c2 [] ?_
 refine ax c3 [] ?_
 refine ax c4 [] ?_
 refine ah ?_
 exact aF []
theorem xe (a:Ac) (n:Int) (hn:n≤10) (h:n8 a n):aj Tryz.prog 166 [.t (bI a)] [] (.t (.bool true)) []:=by
 obtain⟨_,h1,h2,h3,h4⟩:=h
 obtain⟨s,r1,r2,r3,r4⟩:=a
 dsimp only at h1 h2 h3 h4
 have g1:0≤r1:=by omega
 have g2:r1≤1099511627776:=by omega
 have g3:0≤r2:=by omega
 have g4:r2≤1099511627776:=by omega
 have g5:0≤r3:=by omega
 have g6:r3≤1099511627776:=by omega
 have g7:-1099511627776≤r4:=by omega
 have g8:r4≤1099511627776:=by omega
 refine nI Tryz.func166 rfl Tryz.ntmps166 ?_
 repeat (first|(refine af rfl ?_;simp[go_sem,↓iO,iO,tN,g1,g2,g3,g4,g5,g6,g7,g8])|refine ba ?_|refine⟨aZ,?_⟩|refine iP ?_|refine iN ?_)
 exact aF []
structure D8 (l:List Ac) (n:Int):Prop where
 a:∀ a∈l,n8 a n
 g:m5 (fN l)
 l:l.length≤10
 n:0≤n∧n≤9
theorem Qh {a b:List Nat} (ha:a∈oa) (hb:b∈oa) (h:pq a < pq b):Op.bytesLess (str a).toList (str b).toList=true∧Op.bytesLess (str b).toList (str a).toList=false∧¬ (str b).toList=(str a).toList:=by
 refine⟨by rw[Q4 a ha b hb];simpa using h,by rw[Q4 b hb a ha];simp;omega,fun e=>?_⟩
 have:=Rs b hb a ha
 rw[e]at this
 simp at this
 omega
theorem xE {l:List Ac} (h:m5 (fN l)) {k:Nat} {a p:Ac} (h1:0 < k) (ha:l[k]? = some a) (hp:l[k - 1]? = some p):pq p.sh < pq a.sh:=by
 have g1:(fN l)[k]? = some (pq a.sh):=by unfold fN;rw[List.getElem?_map,ha];rfl
 have g2:(fN l)[k - 1]? = some (pq p.sh):=by unfold fN;rw[List.getElem?_map,hp];rfl
 obtain⟨b1,e1⟩:=List.getElem?_eq_some_iff.1 g1
 obtain⟨b2,e2⟩:=List.getElem?_eq_some_iff.1 g2
 have:=List.pairwise_iff_getElem.1 h (k - 1) k b2 b1 (by omega)
 omega
theorem D8.step {l:List Ac} {n:Int} (h:D8 l n) {k:Nat} {a p:Ac} (h1:0 < k) (ha:l[k]? = some a) (hp:l[k - 1]? = some p):pq p.sh < pq a.sh:=xE h.g h1 ha hp
theorem u6 (l:List Ac) (n:Int) (hn:0≤n∧n≤10) (ha:∀ a∈l,n8 a n) (hg:m5 (fN l)) (hl:l.length≤10):aj Tryz.prog 51 [.t (.sl 5 (l.map bI))] [] (.t (.bool true)) []:=by
 refine nI Tryz.func51 rfl Tryz.ntmps51 ?_
 refine ah ?_
 refine oP ?_
 refine lP (ι:=Nat) (fun k=>⟨[(0,.t (.sl 5 (l.map bI))),(5,.t (.sl 5 (l.map bI))),(6,.t (.int l.length)),(7,.t (.int k))],[]⟩) (fun k=>k≤l.length) (fun k=>l.length - k) 0 [] (by omega) ?_
 intro k hk
 by_cases hb:k < l.length
 ·obtain⟨a,hq⟩:=aa hb
  have ho:=ha a (au hq)
  have c1:=pZ a n (by omega) ho
  have c2:=KJ a.sh ho.sh
  by_cases h0:0 < k
  ·obtain⟨p,hp⟩:∃ p,l[k - 1]? = some p:=aa (by omega)
   obtain⟨x1,x2,x3⟩:=Qh (ha p (au hp)).sh ho.sh (xE hg h0 hq hp)
   obtain⟨sa,a1,a2,a3,a4⟩:=a
   obtain⟨ps,p1,p2,p3,p4⟩:=p
   dsimp only at x1 x2 x3 c2
   have e0:((k:Int) - 1).toNat=k - 1:=by omega
   have h00:0 < (k:Int):=by omega
   have hkl:k - 1 < l.length:=by omega
   refine lO hq hp e0 h0 ?_
   refine aY.fn (c1) [] [] [] (by kernel_rfl) ?_ ?_ ?_ (Or.inl rfl) ?_<;>simp[go_sem,↓iO,iO,tN,hq,hp,e0,h0]
   repeat (refine ba ?_)
   try (refine⟨aZ,?_⟩)
   refine aY.fn (c2) [] [] [] (by kernel_rfl) ?_ ?_ ?_ (Or.inl rfl) ?_<;>simp[go_sem,↓iO,iO,tN,hq,hp,e0,h0]
   repeat (first|(refine af rfl ?_;simp[go_sem,↓iO,iO,tN,hq,hp,e0,h0,x1,x2,x3])|refine ba ?_|refine⟨aZ,?_⟩|refine iP ?_|refine iN ?_)
   exact nY (k+1) []
  ·obtain rfl:k=0:=by omega
   obtain⟨sa,a1,a2,a3,a4⟩:=a
   refine aJ hq ?_
   refine dr hq c1 [] ?_
   refine dr hq c2 [] ?_
   refine aJ hq ?_
   exact nY 1 []
 ·obtain rfl:k=l.length:=by omega
  refine ah ?_
  first|rw[av]|rw[ae]
  refine⟨[],?_⟩
  simp[go_sem,↓iO,iO,tN]
  omega
theorem HW (l:List Ac) (n:Int) (h:D8 l n):aj Tryz.prog 51 [.t (.sl 5 (l.map bI))] [] (.t (.bool true)) []:=u6 l n (by have:=h.n;omega) h.a h.g h.l
theorem xG (l:List Ac) (n:Int) (h:D8 l n):aj Tryz.prog 164 [.t (.sl 5 (l.map bI))] [] (.t (.bool true)) []:=by
 have hl:=h.l
 refine nI Tryz.func164 rfl Tryz.ntmps164 ?_
 refine ah ?_
 refine oP ?_
 refine lP (ι:=Nat) (fun k=>⟨[(0,.t (.sl 5 (l.map bI))),(3,.t (.int k))],[]⟩) (fun k=>k≤l.length) (fun k=>l.length - k) 0 [] (by omega) ?_
 intro k hk
 by_cases hb:k < l.length
 ·obtain⟨a,ha⟩:=aa hb
  have ho:=h.a a (au ha)
  have c1:=xe a n (by have:=h.n;omega) ho
  have c2:=Ir a.sh ho.sh
  by_cases h0:0 < k
  ·obtain⟨p,hp⟩:∃ p,l[k - 1]? = some p:=aa (by omega)
   obtain⟨x1,x2,x3⟩:=Qh (h.a p (au hp)).sh ho.sh (h.step h0 ha hp)
   obtain⟨sa,a1,a2,a3,a4⟩:=a
   obtain⟨ps,p1,p2,p3,p4⟩:=p
   dsimp only at x1 x2 x3 c2
   have e0:((k:Int) - 1).toNat=k - 1:=by omega
   have h00:0 < (k:Int):=by omega
   have hkl:k - 1 < l.length:=by omega
   refine lO ha hp e0 h0 ?_
   refine aY.fn (c2) [] [] [] (by kernel_rfl) ?_ ?_ ?_ (Or.inl rfl) ?_<;>simp[go_sem,↓iO,iO,tN,ha,hp,e0,h0]
   repeat (refine ba ?_)
   try (refine⟨aZ,?_⟩)
   refine aY.fn (c1) [] [] [] (by kernel_rfl) ?_ ?_ ?_ (Or.inl rfl) ?_<;>simp[go_sem,↓iO,iO,tN,ha,hp,e0,h0]
   repeat (first|(refine af rfl ?_;simp[go_sem,↓iO,iO,tN,ha,hp,e0,h0,x1,x2,x3])|refine ba ?_|refine⟨aZ,?_⟩|refine iP ?_|refine iN ?_)
   exact nY (k+1) []
  ·obtain rfl:k=0:=by omega
   obtain⟨sa,a1,a2,a3,a4⟩:=a
   refine aJ ha ?_
   refine dr ha c2 [] ?_
   refine dr ha c1 [] ?_
   refine aJ ha ?_
   exact nY 1 []
 ·obtain rfl:k=l.length:=by omega
  refine ah ?_
  exact aF []
theorem Li (e:En) (h:Gi e):aj Tryz.prog 250 [.t (jb e)] [] (.t (.bool true)) []:=by
 obtain⟨h1,h2,h3,h4⟩:=h
 have c1:=KJ e.sh h1
 have c3:=KL e.vl (by omega)
 obtain⟨s,k,v⟩:=e
 dsimp only at h2 h3 h4 c1 c3
 have hk:k=1∨k=2∨k=3∨k=4:=by omega
 rcases hk with rfl|rfl|rfl|rfl
 rotate_right
 ·refine nI Tryz.func250 rfl Tryz.ntmps250 ?_
  refine ah ?_
  refine ax c3 [] ?_
  refine ax c1 [] ?_
  refine ah ?_
  exact aF []
 all_goals
  have c2:=zi v (by have:=h4 (by omega);omega)
  refine nI Tryz.func250 rfl Tryz.ntmps250 ?_
  refine ah ?_
  refine ax c2 [] ?_
  refine ax c1 [] ?_
  refine ah ?_
  exact aF []
theorem zx (e:En) (h:Gi e):aj Tryz.prog 165 [.t (jb e)] [] (.t (.bool true)) []:=by
 obtain⟨h1,h2,h3,h4⟩:=h
 have c1:=Ir e.sh h1
 obtain⟨s,k,v⟩:=e
 dsimp only at h2 h3 h4 c1
 have hk:k=1∨k=2∨k=3∨k=4:=by omega
 have g1:-1099511627776≤v:=by omega
 have g2:v≤1099511627776:=by omega
 rcases hk with rfl|rfl|rfl|rfl
 rotate_right
 ·refine nI Tryz.func165 rfl Tryz.ntmps165 ?_
  refine ah ?_
  refine ax c1 [] ?_
  refine c9 g1 g2 ?_
  exact aF []
 all_goals
  have g0:0≤v:=by have:=h4 (by omega);omega
  refine nI Tryz.func165 rfl Tryz.ntmps165 ?_
  refine ah ?_
  refine ax c1 [] ?_
  refine c9 g0 g2 ?_
  exact aF []
theorem DK:aj Tryz.prog 165 [.t (jb oG)] [] (.t (.bool false)) []:=by
 have c1:=Pm
 refine nI Tryz.func165 rfl Tryz.ntmps165 ?_
 refine ah ?_
 refine ax c1 [] ?_
 refine ah ?_
 exact aF []
theorem wN (a:Ac) (e:En) (n:Int) (hn:n≤9) (h:n8 a n) (he:Gi e):aj Tryz.prog 252 [.t (bI a),.t (jb e)] [] (.t (bI (fS a e))) []:=by
 obtain⟨_,a1,a2,a3,a4⟩:=h
 obtain⟨h1,h2,h3,h4⟩:=he
 obtain⟨s,k,v⟩:=e
 obtain⟨s',r1,r2,r3,r4⟩:=a
 dsimp only at *
 have hk:k=1∨k=2∨k=3∨k=4:=by omega
 rcases hk with rfl|rfl|rfl|rfl
 all_goals
  refine nI Tryz.func252 rfl Tryz.ntmps252 ?_
  refine ah ?_
  first|rw[av]|rw[ae]
  refine⟨[],?_⟩
  simp[go_sem,↓iO,iO,tN,fS]
theorem Aa (l:List Ac) (n:Int) (h:D8 l n) (k:List Nat) (hk:k∈oa) (c:Nat) (hc:kY (fN l) (pq k) c) (b:Bool) (hb:(∃ a,l[c]? = some a∧a.sh=k)↔b=true) :
  aj Tryz.prog 251 [.t (.sl 5 (l.map bI)),.t (aI k)] [] (.tup [.t (.int c),.t (.bool b)]) []:=by
 have key:∀ (i:Nat) (x:Int),(fN l)[i]? = some x→∃ a,l[i]? = some a∧pq a.sh=x:=fun i x hx=>by
  unfold fN at hx
  rw[List.getElem?_map]at hx
  cases ha:l[i]? with
  | none=>rw[ha]at hx;cases hx
  | some a=>rw[ha]at hx;exact⟨a,rfl,by simpa using hx⟩
 have c1:=Nq (l.map bI) (fN l) 5 (aI k) (pq k) _ _ (.inl ⟨rfl,rfl,rfl⟩) (by simp[fN]) (by have:=h.l;simp;omega) (fun i x hx=>by
  obtain⟨a,ha,e⟩:=key i x hx
  refine⟨_,by rw[List.getElem?_map,ha];rfl,rfl,?_⟩
  have:=Gk a k (h.a a (au ha)).sh hk
  rw[e]at this
  exact this) c hc b ⟨fun hx=>hb.1 (by
   obtain⟨a,ha,e⟩:=key c _ hx
   exact⟨a,ha,Ps _ (h.a a (au ha)).sh _ hk e⟩),fun e=>by
   obtain⟨a,ha,e2⟩:=hb.2 e
   unfold fN
   rw[List.getElem?_map,ha,←e2];rfl⟩
 refine nI Tryz.func251 rfl Tryz.ntmps251 ?_
 refine ah ?_
 refine ax c1 [] ?_
 refine ah ?_
 exact aF []
theorem Jm (l l':List Ac) (n:Int) (h:D8 l n) (e:En) (he:Gi e) (hr:Py l e l'):aj Tryz.prog 171 [.t (.sl 5 (l.map bI)),.t (jb e)] [] (.tup [.t (.sl 5 (l'.map bI)),.t (.int 0)]) []:=by
 have c1:=NA l (by have:=h.l;omega)
 have c2:=HW l n h
 have c3:=Li e he
 have hll:=h.l
 cases hr with
 | set c a hc ha hs=>
  have c4:=Aa l n h e.sh he.sh c hc true ⟨fun _=>rfl,fun _=>⟨a,ha,hs⟩⟩
  have ok:=h.a a (au ha)
  have c5:=wN a e n h.n.2 ok he
  have c6:=pZ (fS a e) (n+1) (by have:=h.n;omega) (lL ok he)
  have hcl:=(List.getElem?_eq_some_iff.1 ha).1
  obtain⟨p,hp⟩:∃ p,fS a e=p:=⟨_,rfl⟩
  rw[hp]at c5 c6 ⊢
  obtain⟨s,r1,r2,r3,r4⟩:=a
  obtain⟨q,q1,q2,q3,q4⟩:=p
  obtain⟨es,k,v⟩:=e
  dsimp only at c4
  refine nI Tryz.func171 rfl Tryz.ntmps171 ?_
  refine ah ?_
  refine ax c1 [(1000,150)] ?_
  refine ah ?_
  refine ax c2 [] ?_
  refine ax c3 [] ?_
  refine ah ?_
  refine ax c4 [] ?_
  refine aJ ha ?_
  refine dr ha c5 [] ?_
  refine ah ?_
  refine ax c6 [] ?_
  refine aJ ha ?_
  first|rw[av]|rw[ae]
  refine⟨[],?_⟩
  simp[go_sem,↓iO,iO,tN,List.map_set]
 | ins c hc hs=>
  have c4:=Aa l n h e.sh he.sh c hc false ⟨fun⟨a,ha,e⟩=>absurd e (hs a ha),fun e=>by cases e⟩
  have ok:=n8.zero he h.n.1
  have c5:=wN ⟨e.sh,0,0,0,0⟩ e n h.n.2 ok he
  have c6:=pZ (fS ⟨e.sh,0,0,0,0⟩ e) (n+1) (by have:=h.n;omega) (lL ok he)
  have hcl:c≤l.length:=by simpa [fN] using hc.le
  obtain⟨p,hp⟩:∃ p,fS ⟨e.sh,0,0,0,0⟩ e=p:=⟨_,rfl⟩
  rw[hp]at c5 c6 ⊢
  obtain⟨q,q1,q2,q3,q4⟩:=p
  obtain⟨es,k,v⟩:=e
  dsimp only at c4 c5
  have hz:¬ (l.length:Int)=64:=by omega
  refine nI Tryz.func171 rfl Tryz.ntmps171 ?_
  refine ah ?_
  refine ax c1 [(1000,150)] ?_
  refine ah ?_
  refine ax c2 [] ?_
  refine ax c3 [] ?_
  refine ah ?_
  refine ax c4 [] ?_
  refine ah ?_
  refine ax c5 [] ?_
  refine ah ?_
  refine ax c6 [] ?_
  refine et [14] _ _ _ ?_
  simp (maxSteps:=2000000) [go_sem,↓iO,iO,tN,hz,stops,jR]
  refine CW.weak (ρ:=[(509,some 109)]) (σ':=⟨[(0,.t (.sl 5 (l.map bI))),(6,.t (.sl 5 (l.map bI))),(7,.t (.int c)),(8,.t (.bool false)),(9,.pt 509 [] 0)],[(509,.box 183 (.t (bI ⟨q,q1,q2,q3,q4⟩)))]⟩) ?_ ?_
  ·simp[go_sem,↓iO,iO,tN,bZ]
  refine aJ hz ?_
  first|rw[av]|rw[ae]
  refine⟨[],?_⟩
  simp[go_sem,↓iO,iO,tN,List.map_take,List.map_drop]
  rw[List.take_of_length_le (by simp)]
theorem MI {α:Type} {l:List α} {c:Nat} (h:c≤l.length) (x y:α):(l.take c++x :: l.drop c).set c y=l.take c++y :: l.drop c:=by
 have e:(l.take c).length=c:=by rw[List.length_take];omega
 rw[List.set_append_right _ _ (by omega),e,Nat.sub_self];rfl
theorem Mv {α:Type} {l:List α} {c:Nat} (h:c≤l.length) (x:α):(l.take c++x :: l.drop c)[c]? = some x:=by
 have e:(l.take c).length=c:=by rw[List.length_take];omega
 rw[List.getElem?_append_right (by omega),e,Nat.sub_self];rfl
theorem Lg (l:List Ac) (n:Int) (h:D8 l n) (e:En) (he:Gi e):∃ l',Py l e l'∧aj Tryz.prog 86 [.t (.sl 5 (l.map bI)),.t (jb e)] [] (.tup [.t (.sl 5 (l'.map bI)),.t (.int 0)]) []:=by
 have c2:=xG l n h
 have c3:=zx e he
 have hll:=h.l
 obtain⟨c,hc⟩:=CH h.g (pq e.sh)
 have hcl:c≤l.length:=by simpa [fN] using hc.le
 have key:∀ (i:Nat) (a:Ac),l[i]? = some a→(fN l)[i]? = some (pq a.sh):=fun i a ha=>by unfold fN;rw[List.getElem?_map,ha];rfl
 obtain⟨L2,x,hx,ok,hfin,hL2,hcase⟩:∃ (L2:List Ac) (x:Ac),L2[c]? = some x∧n8 x n∧Py l e (L2.set c (fS x e))∧L2.length≤11∧((L2=l∧x.sh=e.sh)∨(L2=l.take c++⟨e.sh,0,0,0,0⟩ :: l.drop c∧∀ a,l[c]? = some a→¬ (str a.sh).toList=(str e.sh).toList)):=by
  by_cases hf:∃ a,l[c]? = some a∧a.sh=e.sh
  ·obtain⟨a,ha,hs⟩:=hf
   exact⟨l,a,ha,h.a a (au ha),.set c a hc ha hs,by omega,.inl ⟨rfl,hs⟩⟩
  ·have hn:∀ a,l[c]? = some a→a.sh≠e.sh:=fun a ha hs=>hf ⟨a,ha,hs⟩
   refine⟨_,⟨e.sh,0,0,0,0⟩,Mv hcl _,.zero he h.n.1,by rw[MI hcl];exact .ins c hc hn,by simp;omega,.inr ⟨rfl,fun a ha hs=>?_⟩⟩
   have:=Rs a.sh (h.a a (au ha)).sh e.sh he.sh
   rw[hs]at this
   simp at this
   exact hn a ha (Ps _ (h.a a (au ha)).sh _ he.sh this)
 refine⟨_,hfin,?_⟩
 have c6:=xe (fS x e) (n+1) (by have:=h.n;omega) (lL ok he)
 have hlt:∀ (i:Nat) (a:Ac),l[i]? = some a→Op.bytesLess (str a.sh).toList (str e.sh).toList=decide (i < c):=fun i a ha=>by
  rw[Q4 _ (h.a a (au ha)).sh _ he.sh]
  by_cases hic:i < c
  ·have:=hc.lo i _ hic (key i a ha)
   simp[hic,this]
  ·have:=hc.hi i _ (by omega) (key i a ha)
   simp[hic];omega
 obtain⟨_,h2,h3,h4⟩:=he
 obtain⟨_,k1,k2,k3,k4⟩:=ok
 have hn9:=h.n
 have hcL:=(List.getElem?_eq_some_iff.1 hx).1
 have htk:List.take l.length (l.map bI)=l.map bI:=List.take_of_length_le (by simp)
 have hset:∀ y,((L2.map bI).set c y)[c]? = some y:=fun y=>List.getElem?_set_self (by simpa using hcL)
 obtain⟨es,kd,v⟩:=e
 obtain⟨xs,r1,r2,r3,r4⟩:=x
 dsimp only at h2 h3 h4 k1 k2 k3 k4 hcase hlt c3
 have hkd:kd=1∨kd=2∨kd=3∨kd=4:=by omega
 rcases hkd with hq|hq|hq|hq
 all_goals
  simp only[fS,hq]at c6
  simp at c6
  refine nI Tryz.func86 rfl Tryz.ntmps86 ?_
  refine ah ?_
  refine ax c2 [] ?_
  refine ax c3 [] ?_
  refine ah ?_
  refine oP ?_
  refine lP (ι:=Nat) (fun k=>⟨[(0,.t (.sl 5 (l.map bI))),(3,.pt 503 [] 0),(6,.t (.int k))],[(503,.box 61 (.t (jb ⟨es,kd,v⟩)))]⟩) (fun k=>k≤c) (fun k=>c - k) 0 [(503,some 103)] (by omega) ?_
  intro k hk
  by_cases hkc:k < c
  ·obtain⟨a,ha⟩:∃ a,l[k]? = some a:=aa (by omega)
   have hkl:k < l.length:=by omega
   have e1:=hlt k a ha
   rw[decide_eq_true hkc]at e1
   obtain⟨sa,a1,a2,a3,a4⟩:=a
   dsimp only at e1
   refine c9 ha e1 ?_
   exact nY (k+1) [(503,some 503)]
  ·obtain rfl:k=c:=by omega
   rcases hcase with ⟨rfl,hs⟩|⟨hL,hnot⟩
   case' inl=>
    have e1:=hlt k _ hx
    rw[decide_eq_false (by omega)]at e1
    dsimp only at hs e1
    subst hs
    refine lO hx e1 hq hset ?_
    refine lf hx hq c6 [] ?_
    refine aJ hq ?_
    first|rw[av]|rw[ae]
    refine⟨[],?_⟩
    simp[go_sem,↓iO,iO,tN,List.map_set,fS,hq]
   case' inr=>
    by_cases hkl:k < l.length
    case' pos=>
     obtain⟨a,ha⟩:=aa hkl
     have e1:=hlt k a ha
     rw[decide_eq_false (by omega)]at e1
     have e2:=hnot a ha
     obtain⟨sa,a1,a2,a3,a4⟩:=a
     dsimp only at e1 e2
     iterate 7 (refine af rfl ?_;simp[go_sem,↓iO,iO,tN,ha,e1,e2];(repeat (refine ba ?_));try (refine⟨aZ,?_⟩))
     have hkk:k=k:=rfl
    case' neg=>
     have hkk:k=l.length:=by omega
     iterate 7 (refine af rfl ?_;simp[go_sem,↓iO,iO,tN,hkk];(repeat (refine ba ?_));try (refine⟨aZ,?_⟩))
    all_goals
     refine CW.weak (ρ:=[(503,some 503),(507,some 163)]) (σ':=⟨[(0,.t (.sl 5 (l.map bI))),(3,.pt 503 [] 0),(6,.t (.int k)),(7,.own 507)],[(503,.box 61 (.t (jb ⟨es,kd,v⟩))),(507,Ny L2)]⟩) ?_ ?_
     ·simp[go_sem,↓iO,iO,tN,hkk,hL,List.map_take,List.map_drop,htk]
     refine fg hx hq hset ?_
     refine lf hx hq c6 [] ?_
     refine aJ hq ?_
     first|rw[av]|rw[ae]
     refine⟨[],?_⟩
     simp[go_sem,↓iO,iO,tN,List.map_set,fS,hq]
     all_goals rw[←hkk]
end Go.Proofs.YtocndodilpimnaaGreat
namespace Go.Proofs.YtocndodilpimnaaGreat.Wire
def fold (z:Int):Nat:=if 0≤z then z.toNat * 2 else (-(z+1)).toNat * 2+1
def dL (u:Nat):Int:=if u % 2=0 then (u / 2:Nat) else -((u / 2:Nat):Int) - 1
def put (u:Nat):List Nat:=if _h:u < 128 then [u] else (u % 128+128) :: put (u / 128)
termination_by u
decreasing_by omega
theorem ij {z:Int} (h1:-9223372036854775808≤z) (h2:z≤9223372036854775807):fold z < 18446744073709551616:=by
 unfold fold;split<;>omega
theorem B8 (z:Int):dL (fold z)=z:=by
 unfold dL fold;split<;>split<;>omega
theorem eY {u:Nat} (h:u < 128):put u=[u]:=by rw[put,dif_pos h]
theorem jy {u:Nat} (h:128≤u):put u=(u % 128+128) :: put (u / 128):=by rw[put,dif_neg (by omega)]
theorem kE (u:Nat):1≤(put u).length:=by
 rcases Nat.lt_or_ge u 128 with h|h
 ·simp[eY h]
 ·simp[jy h]
theorem EV:∀ (n u:Nat),u < 128 ^ (n+1)→(put u).length≤n+1
 | 0,u,h=>by rw[eY (by omega)];simp
 | n+1,u,h=>by
  rcases Nat.lt_or_ge u 128 with h1|h1
  ·simp[eY h1]
  ·rw[jy h1,List.length_cons]
   have:=EV n (u / 128) (by rw[Nat.pow_succ]at h;omega)
   omega
theorem eU {u:Nat} (h:u < 18446744073709551616):(put u).length≤10:=EV 9 u (by omega)
theorem P5:∀ x,x < 256→x ||| 128=x % 128+128:=by decide +kernel
def scan:List Nat→Nat→Nat→Int×Nat×Int
 | [],k,_=>if k < 10 then (0,0,2) else (0,0,3)
 | c :: r,k,u=>
  if k < 10 then
   if 128≤c then scan r (k+1) ((u+c % 128 * 2 ^ (7 * k)) % 18446744073709551616)
   else if (k=9∧1 < c)∨(0 < k∧c=0) then (0,0,3)
   else (dL ((u+c % 128 * 2 ^ (7 * k)) % 18446744073709551616),k+1,0)
  else (0,0,3)
theorem jQ {c k u:Nat} {r:List Nat} (hk:k < 10) (hc:128≤c):scan (c :: r) k u=scan r (k+1) ((u+c % 128 * 2 ^ (7 * k)) % 18446744073709551616):=by
 rw[scan,if_pos hk,if_pos hc]
theorem uG {c k u:Nat} {r:List Nat} (hk:k < 10) (hc:c < 128) (h:(k=9∧1 < c)∨(0 < k∧c=0)):scan (c :: r) k u=(0,0,3):=by
 rw[scan,if_pos hk,if_neg (by omega),if_pos h]
theorem pM {c k u:Nat} {r:List Nat} (hk:k < 10) (hc:c < 128) (h:¬ ((k=9∧1 < c)∨(0 < k∧c=0))) :
  scan (c :: r) k u=(dL ((u+c % 128 * 2 ^ (7 * k)) % 18446744073709551616),k+1,0):=by
 rw[scan,if_pos hk,if_neg (by omega),if_neg h]
theorem tU {k u:Nat} {r:List Nat} (hk:¬ k < 10):scan r k u=(0,0,3):=by
 cases r<;>simp[scan,hk]
theorem Ft {k u c:Nat} (hk:k < 9) (hu:u < 2 ^ (7 * k)):(u+c % 128 * 2 ^ (7 * k)) % 18446744073709551616 < 2 ^ (7 * (k+1)):=by
 refine Nat.lt_of_le_of_lt (Nat.mod_le _ _) ?_
 rw[show 7 * (k+1)=7+7 * k by omega,Nat.pow_add]
 generalize 2 ^ (7 * k)=p at *
 have h2:c % 128≤127:=by omega
 have h3:=Nat.mul_le_mul_right p h2
 omega
def eX (bs:List Nat) (at_:Int):Int×Int×Int:=
 if at_ < 0∨(bs.length:Int) < at_ then (0,0,1)
 else
  let r:=scan (bs.drop at_.toNat) 0 0
  if r.2.2=0 then (r.1,at_+r.2.1,0) else (0,0,r.2.2)
theorem Ku (k a:Nat):a / 128 * 2 ^ (7 * (k+1))=a / 128 * 128 * 2 ^ (7 * k):=by
 rw[show 7 * (k+1)=7+7 * k by omega,Nat.pow_add,←Nat.mul_assoc]
theorem Bj:∀ (n u k q:Nat) (more:List Nat),u < n→k+(put u).length≤10→q+u * 2 ^ (7 * k) < 18446744073709551616→(0 < k→0 < u)→
  scan (put u++more) k q=(dL (q+u * 2 ^ (7 * k)),k+(put u).length,0)
 | 0,u,_,_,_,h,_,_,_=>by omega
 | n+1,u,k,q,more,h,hk,hlt,hz=>by
  rcases Nat.lt_or_ge u 128 with h1|h1
  ·rw[eY h1]at hk ⊢
   simp only[List.length_singleton]at hk
   rw[List.singleton_append,pM (by omega) h1]
   ·rw[Nat.mod_eq_of_lt h1,Nat.mod_eq_of_lt hlt];rfl
   ·rintro (⟨rfl,h2⟩|⟨h2,h3⟩)
    ·have:2 * 2 ^ (7 * 9)≤u * 2 ^ (7 * 9):=Nat.mul_le_mul_right _ (by omega)
     omega
    ·have:=hz h2;omega
  ·rw[jy h1]at hk ⊢
   simp only[List.length_cons]at hk ⊢
   rw[List.cons_append,jQ (by have:=kE (u / 128);omega) (by omega)]
   have e1:(u % 128+128) % 128=u % 128:=by omega
   have e2:u * 2 ^ (7 * k)=u % 128 * 2 ^ (7 * k)+u / 128 * 2 ^ (7 * (k+1)):=by
    rw[Ku,←Nat.add_mul]
    congr 1
    omega
   rw[e1,Nat.mod_eq_of_lt (by omega)]
   rw[Bj n (u / 128) (k+1) _ more (by omega) (by omega) (by omega) (by omega),e2]
   rw[Nat.add_assoc,Nat.add_assoc,Nat.add_comm 1]
theorem tL:∀ (n u k q j:Nat),u < n→k+(put u).length≤10→j < (put u).length→scan ((put u).take j) k q=(0,0,2)
 | 0,u,_,_,_,h,_,_=>by omega
 | n+1,u,k,q,j,h,hk,hj=>by
  cases j with
  | zero=>rw[List.take_zero,scan,if_pos (by have:=kE u;omega)]
  | succ j=>
   rcases Nat.lt_or_ge u 128 with h1|h1
   ·rw[eY h1]at hj;simp at hj
   ·rw[jy h1]at hk hj ⊢
    simp only[List.length_cons]at hk hj
    rw[List.take_succ_cons,jQ (by omega) (by omega)]
    exact tL n (u / 128) (k+1) _ j (by omega) (by omega) (by omega)
theorem s6 (before more:List Nat) (z:Int) (h1:-9223372036854775808≤z) (h2:z≤9223372036854775807) :
  eX (before++put (fold z)++more) before.length=(z,(before.length:Int)+(put (fold z)).length,0):=by
 have hlt:=ij h1 h2
 unfold eX
 rw[if_neg (by simp only[List.length_append];omega)]
 rw[Int.toNat_natCast,List.append_assoc,List.drop_left,Bj (fold z+1) (fold z) 0 0 more (by omega) (by have:=eU hlt;omega) (by omega) (by omega)]
 simp[B8]
theorem Dr (before:List Nat) (z:Int) (j:Nat) (h1:-9223372036854775808≤z) (h2:z≤9223372036854775807) (hj:j < (put (fold z)).length) :
  eX (before++(put (fold z)).take j) before.length=(0,0,2):=by
 have hlt:=ij h1 h2
 unfold eX
 rw[if_neg (by simp only[List.length_append];omega)]
 rw[Int.toNat_natCast,List.drop_left,tL (fold z+1) (fold z) 0 0 j (by omega) (by have:=eU hlt;omega) hj]
 rfl
end Go.Proofs.YtocndodilpimnaaGreat.Wire
