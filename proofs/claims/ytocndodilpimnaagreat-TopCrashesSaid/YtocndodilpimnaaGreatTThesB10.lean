/- Several texts of this proof, one behind the other. No condition. -/
import Derived.Test.YtocndodilpimnaaGreatTThesB9
import Derived.Laws.Cover3
import Derived.Test.YtocndodilpimnaaGreatRows
set_option maxRecDepth 100000
set_option maxHeartbeats 16000000
set_option linter.unusedVariables false
set_option linter.unusedSimpArgs false
namespace Go.Proofs.YtocndodilpimnaaGreat.Sy
open Go.RowKit
section
variable {N:Nat} {P:Program} {Q:Exit→St→Prop}
theorem Hz {W:World} {G0:Gh} {A:Nat→Prop} {ops:Array Oper} {i:Nat} {o:Oper} (ho:ops[i]? = some o) (hgd:o.guard=none) {G:Gh} {g1 g2:Nat→S} {h:Nat→Option aA} {a:Act} {w:World} {E:aM} {R:Exit→Act→World→Prop} {K:Act→World→Prop}
  (hs1:bT N W G0 A G g1 h a w) (hs2:bT N W G0 A G g2 h a w) (hE:bm N P o (lg g2) h E) (hnw:E.nw=[]) (hdst:∀ t,o.dst=some t→t < N)
  (hK:∀ G' a' w',bT N W G0 A G' (jM g1 o.dst E.r) (dK E.u h) a' w'→K a' w'):wpOp P ops R i K a w:=by
 unfold wpOp
 simp only[ho]
 rw[if_pos (by simp[Region.wanted,hgd])]
 refine .inl (hE W G0 A G g2 h a w R K hs2 (fun _ _=>rfl) (fun _ _=>rfl) (fun l hl=>by rw[hnw]at hl;cases hl) ?_)
 intro v G' w' hx hr
 exact hK G' _ _ (hs1.step hx (fun l hl=>by rw[hnw]at hl;cases hl) (fun l hl=>by rw[hnw]at hl;cases hl) hr hdst)
theorem CW.nilTest {id:Nat} {d1 d2 s:Tmp} {ty ty2 t t' e:TypeId} {p1 p2:String} {a1 a2:Array Edge} {k:Nat} {xs:List T} {σ:St} (h0:cQ σ.g s = .t (.sl k xs)) (he:aK P t=some e)
  (h1:xs=[]→Q .normal ⟨(d2,.t (.bool true)) :: (d1,.t (.sl k xs)) :: σ.g,σ.h⟩) (h2:Q .normal ⟨(d2,.t (.bool false)) :: (d1,.t (.sl k xs)) :: σ.g,σ.h⟩) :
  CW N P (.region id #[⟨some d1,.move (.tmp s),ty,p1,a1,none⟩,⟨some d2,.binOp .eql t (.tmp d1) (.const (.slice none 0 0)) t',ty2,p2,a2,none⟩] false) Q σ:=by
 intro hm hc W G0 A a w hs
 obtain⟨G,hs⟩:=hs
 simp only[bE]at hc
 have hd:=fun (j:Nat) (oj:Oper) (u:Nat) (hj:(#[⟨some d1,.move (.tmp s),ty,p1,a1,none⟩,⟨some d2,.binOp .eql t (.tmp d1) (.const (.slice none 0 0)) t',ty2,p2,a2,none⟩]:Array Oper)[j]? = some oj) (ht:oj.dst=some u)=>jW hc (j:=j) (by simpa using hj) ht
 refine wp_region ?_
 show wpOps P _ _ [0,1] a w
 rw[wpOps_cons]
 refine yO (e:=some ⟨lg (cQ σ.g) (.tmp s),[],[],[]⟩) rfl hs ⟨fun t ht=>hd 0 _ t rfl ht,⟨_,rfl,xg rfl⟩⟩ hd (by simp[oN]) ?_
 intro G1 b1 w1 hs1
 have hs1:bT N W G0 A G1 (jM (cQ σ.g) (some d1) (cQ σ.g s)) (dK [] (bc σ.h)) b1 w1:=hs1
 rw[h0]at hs1
 rw[wpOps_cons]
 have hv:=hs1.slots d1
 rw[fM]at hv
 unfold ar at hv;unfold aO at hv
 obtain⟨x,cap,cells,hu,hr,hw,hseg⟩:=hv
 have hs2:bT N W G0 A G1 (jM (jM (cQ σ.g) (some d1) (.t (.sl k xs))) (some d1) (.t (.lit (b1.tmps.getD d1 undef)))) (dK [] (bc σ.h)) b1 w1:=by
  refine {hs1 with slots:=fun t=>?_}
  by_cases e:t=d1
  ·subst e
   rw[fM]
   unfold ar;unfold aO
   exact⟨rfl,by rw[hu];rfl⟩
  ·have e2:∀ g:Nat→S,∀ z,jM g (some d1) z t=g t:=fun g z=>iK (by intro h;exact e (Option.some.inj h).symm)
   rw[e2]
   exact hs1.slots t
 refine Hz (E:=⟨.t (.lit (.bool x.isNone)),[],[],[]⟩) rfl rfl hs1 hs2 (th rfl (by simp only[lg];rw[fM,hu]) rfl (pE he x xs.length cap)) rfl (fun t ht=>hd 1 _ t rfl ht) ?_
 intro G2 b2 w2 hs3
 show ∃ σ',Q .normal σ'∧Sat N W G0 A σ' b2 w2
 have hg:∀ b:Bool,cQ ((d2,.t (.bool b)) :: (d1,.t (.sl k xs)) :: σ.g)=jM (jM (cQ σ.g) (some d1) (.t (.sl k xs))) (some d2) (.t (.lit (.bool b))):=fun b=>by
  rw[←lE (some d1),←lE (some d2)];rfl
 cases x with
 | none=>
  have hx:xs=[]:=by
   have h3:=hseg.nil rfl
   have h4:=hseg.le
   exact List.length_eq_zero_iff.1 (by omega)
  exact⟨_,h1 hx,G2,by rw[hg];exact hs3⟩
 | some x=>exact⟨_,h2,G2,by rw[hg];exact hs3⟩
end
theorem LX (g:Nat→S) (t:Nat):lg g (.tmp t)=g t:=rfl
theorem KE (g:Nat→S) (f:Nat):lg g (.func f) = .fn f []:=rfl
theorem L0 (g:Nat→S) (k:IntKind) (n:Int):lg g (.const (.int k n)) = .t (.lit (.int k n)):=rfl
theorem Lj (g:Nat→S) (b:Bool):lg g (.const (.bool b)) = .t (.lit (.bool b)):=rfl
theorem Ci (g:Nat→S) (b:ByteArray):lg g (.const (.string b)) = .t (.lit (.string b)):=rfl
theorem MH (g:Nat→S):lg g (.const (.slice none 0 0)) = .t (.lit (.slice none 0 0)):=rfl
theorem J4 (g:Nat→S):lg g (.const (.pointer none)) = .t (.lit (.pointer none)):=rfl
theorem JL (g:Nat→S):lg g (.const .nilFunc) = .t (.lit .nilFunc):=rfl
theorem H3 (c:Code):stops [] c=false:=by unfold stops;split<;>rfl
theorem tG (t k:Nat) (s:S) (r:List (Nat×S)):cQ ((t,s) :: r) k=bif k == t then s else cQ r k:=by
 cases h:(k == t)<;>simp[cQ]<;>simp_all
theorem MX (k:Nat):cQ [] k = .dead:=rfl
theorem K7 (t k:Nat) (s:aA) (r:List (Nat×aA)):bc ((t,s) :: r) k=bif k == t then some s else bc r k:=by
 cases h:(k == t)<;>simp[bc]<;>simp_all
theorem Iw (l:Nat):kV l []=[]:=rfl
theorem G7 (l k:Nat) (b:aA) (r:List (Nat×aA)):kV l ((k,b) :: r)=bif k == l then kV l r else (k,b) :: kV l r:=by
 cases h:(k == l)<;>simp[kV]<;>simp_all
theorem M8 (k:Nat):kp [] k=none:=rfl
theorem Kt (l k:Nat) (r:Option Nat) (q:List (Nat×Option Nat)):kp ((l,r) :: q) k=bif k == l then some r else kp q k:=by
 cases h:(k == l)<;>simp[kp]<;>simp_all
theorem O9 (k:Nat):rn [] k=k:=rfl
theorem ME (l k r:Nat) (q:List (Nat×Nat)):rn ((l,r) :: q) k=bif k == l then r else rn q k:=by
 cases h:(k == l)<;>simp[rn]<;>simp_all
theorem zJ (id i:Nat) (Q:Exit→St→Prop) (σ:St):iH id Q (.exit i) σ=bif i == id then Q .normal σ else Q (.exit i) σ:=by
 cases h:(i == id)<;>simp[iH]<;>simp_all
theorem vz (id:Nat) (Q:Exit→St→Prop) (σ:St):iH id Q .normal σ=Q .normal σ:=rfl
theorem DN (id:Nat) (Q:Exit→St→Prop) (σ:St):iH id Q .ret σ=Q .ret σ:=rfl
theorem GD (i:Nat) (F:St→Prop) (Q:Exit→St→Prop) (σ:St):DQ F Q (.exit i) σ=Q (.exit i) σ:=rfl
theorem z7 (F:St→Prop) (Q:Exit→St→Prop) (σ:St):DQ F Q .normal σ=F σ:=rfl
theorem z8 (i:Nat) (Q:Exit→St→Prop) (σ:St):uj Q (.exit i) σ=Q (.exit i) σ:=rfl
theorem CP (Q:Exit→St→Prop) (σ:St):uj Q .ret σ=Q .ret σ:=rfl
theorem JS (F:St→Prop) (Q:Exit→St→Prop) (σ:St):DQ F Q .ret σ=Q .ret σ:=rfl
theorem A6 {ι:Type} (I:ι→St) (Inv:ι→Prop) (μ:ι→Nat) (i:ι) (Q:Exit→St→Prop) (σ:St) (e:Nat):l7 I Inv μ i Q (.exit e) σ=Q (.exit e) σ:=rfl
theorem Eg {ι:Type} (I:ι→St) (Inv:ι→Prop) (μ:ι→Nat) (i:ι) (Q:Exit→St→Prop) (σ:St):l7 I Inv μ i Q .ret σ=Q .ret σ:=rfl
theorem jr {ι:Type} (I:ι→St) (Inv:ι→Prop) (Q:Exit→St→Prop) (σ:St):LF I Inv Q .normal σ=(∃ j ρ,Inv j∧Wk ρ σ (I j)):=rfl
theorem av (P:Program) (rs:List ResultVar) (r:S) (post:List (Nat×aA)) (σ:St):uQ P rs r post .ret σ=(∃ ρ,mY P (cQ σ.g) (bc σ.h) rs fun l=>eh ρ=true∧kD ρ (bc σ.h) (oneOf l) r∧vR ρ (bc σ.h) post):=rfl
theorem ae (P:Program) (rs:List ResultVar) (r:S) (post:List (Nat×aA)) (σ:St):uQ P rs r post .normal σ=(∃ ρ,mY P (cQ σ.g) (bc σ.h) rs fun l=>eh ρ=true∧kD ρ (bc σ.h) (oneOf l) r∧vR ρ (bc σ.h) post):=rfl
theorem MA (k:Nat):bc [] k=none:=rfl
theorem vu {c:Prop} {_:Decidable c} {a b:Prop} (hc:c) (h:a):if c then a else b:=by rw[if_pos hc];exact h
theorem ue {c:Prop} {_:Decidable c} {a b:Prop} (hc:¬ c) (h:b):if c then a else b:=by rw[if_neg hc];exact h
theorem Mq (p:Prop) [Decidable p] (a b:Prop):(if decide p=true then a else b)=if p then a else b:=by simp
theorem Ip (p:Prop) [Decidable p] (a b:Prop):(if decide p=false then a else b)=if p then b else a:=by
 by_cases h:p<;>simp[h]
theorem QC (a b:Prop):(if (true:Bool)=true then a else b)=a:=by simp
theorem QB (a b:Prop):(if (false:Bool)=true then a else b)=b:=by simp
theorem ON (a b:Prop):(if (true:Bool)=false then a else b)=b:=by simp
theorem Oq (a b:Prop):(if (false:Bool)=false then a else b)=a:=by simp
theorem DF (n:Int) (a b:Prop):(if Cc .u8 n then a else b)=(if 0≤n∧n≤255 then a else b):=rfl
theorem Bq (n:Int) (a b:Prop):(if Cc .u64 n then a else b)=(if 0≤n∧n≤18446744073709551615 then a else b):=rfl
theorem MU {α β:Type} (f:α→β) (l:List α) (n:Int) (a b:Prop):(if 0≤n∧n < ((l.map f).length:Int) then a else b)=(if 0≤n∧n < (l.length:Int) then a else b):=by simp
theorem vQ (ops:List Oper) (σ0:St) (acc:List (Option aM)):jx ops σ0 acc=jx ops σ0 acc:=rfl
theorem IS (N:Nat) (P:Program) (c:Code) (Q:Exit→St→Prop) {σ σ':St} (h:σ=σ'):CW N P c Q σ=CW N P c Q σ':=by rw[h]
theorem zS (P:Program) (f:FuncId) {az az':List S} {h h':Nat→Option aA} (d:Nat) (K:aM→Prop) (h1:az=az') (h2:h=h'):aY P f az h d K=aY P f az' h' d K:=by rw[h1,h2]
theorem I8 (σ:St) (dst:Option Tmp) (acc:List (Option aM)) (K:St→List (Option aM)→Prop) {E E':aM} (h:E=E'):KN σ dst acc K E=KN σ dst acc K E':=by rw[h]
theorem Ey (P:Program) (all:List Oper) (K:St→List (Option aM)→Prop) (r:List Oper) {σ σ':St} {acc acc':List (Option aM)} (h:σ=σ') (h2:acc=acc'):gS P all K r σ acc=gS P all K r σ' acc':=by rw[h,h2]
theorem xW {ι:Type} (I:ι→St) (Inv:ι→Prop) (μ:ι→Nat) (i:ι) (Q:Exit→St→Prop) (e:Exit) {σ σ':St} (h:σ=σ'):l7 I Inv μ i Q e σ=l7 I Inv μ i Q e σ':=by rw[h]
theorem DV {ι:Type} (I:ι→St) (Inv:ι→Prop) (Q:Exit→St→Prop) (e:Exit) {σ σ':St} (h:σ=σ'):LF I Inv Q e σ=LF I Inv Q e σ':=by rw[h]
theorem CG (P:Program) (rs:List ResultVar) (r:S) (post:List (Nat×aA)) (e:Exit) {σ σ':St} (h:σ=σ'):uQ P rs r post e σ=uQ P rs r post e σ':=by rw[h]
theorem Im (P:Program) (all:List Oper) (K:St→List (Option aM)→Prop) (σ:St) (acc:List (Option aM)):gS P all K [] σ acc=K σ acc:=rfl
theorem OY (P:Program) (all:List Oper) (K:St→List (Option aM)→Prop) (dst:Option Tmp) (op:Op) (ty:TypeId) (pos:String) (after:Array Edge) (r:List Oper) (σ:St) (acc:List (Option aM)) :
  gS P all K (⟨dst,op,ty,pos,after,none⟩ :: r) σ acc=Lq P op (Lr ⟨dst,op,ty,pos,after,none⟩) (lg (cQ σ.g)) (bc σ.h) (KN σ dst acc (gS P all K r)):=rfl
theorem OB (P:Program) (all:List Oper) (K:St→List (Option aM)→Prop) (dst:Option Tmp) (op:Op) (ty:TypeId) (pos:String) (after:Array Edge) (j:Nat) (b:Bool) (r:List Oper) (σ:St) (acc:List (Option aM)) :
  gS P all K (⟨dst,op,ty,pos,after,some (j,b)⟩ :: r) σ acc=(match Ba all j with
   | some t=>match cQ σ.g t with
    | .t (.lit (.bool c))=>if c=b then Lq P op (Lr ⟨dst,op,ty,pos,after,some (j,b)⟩) (lg (cQ ((t,.t (.bool b)) :: σ.g))) (bc σ.h) (KN ⟨(t,.t (.bool b)) :: σ.g,σ.h⟩ dst acc (gS P all K r))
      else gS P all K r ⟨m7 dst (.tup []) ((t,.t (.bool (!b))) :: σ.g),σ.h⟩ (none :: acc)
    | .tup []=>gS P all K r ⟨m7 dst (.tup []) σ.g,σ.h⟩ (none :: acc)
    | _=>False
   | none=>False):=rfl
theorem vq {ops:List Oper} {σ0:St} {acc:List (Option aM)} (h:(mS ops acc.reverse && qP σ0 acc)=true):jx ops σ0 acc:=by
 unfold jx
 rw[←CC]
 exact h
theorem aZ {ops:List Oper} {σ0:St} {acc:List (Option aM)} (h:(mS ops acc.reverse && qP σ0 acc)=true:=by kernel_rfl):jx ops σ0 acc:=vq h
theorem ba {a b:Prop} (h:b) (ha:a:=by omega):a∧b:=⟨ha,h⟩
attribute [congr] vQ IS zS I8 Ey xW DV CG
attribute [go_sem ↓] tp nB uw Kz wz E4 DF Bq MU Mq Ip QC QB ON Oq nf Lv Lq ua Bt z8 CP GD z7 JS zJ vz DN BC uY Mw zO tt ja iI uH lV jf Bw xY qe P8 Ca nW gU zl uL kg Kr Kp Ju l4 BE oW j5 BB DT nO zk Cn vX ur AN jV H3 A6 Eg A8 Ij Kx tc sU mY iM AW jD
attribute [go_sem] IM wS wz Rh QY kB jh gA iA CB mb qg HQ JP Im OY OB KN LX KE L0 Lj Ci MH J4 JL tG MX K7 MA m7 mX Iw G7 Lr vP mm me S.free S.frees aA.free S.width S.widths T.width T.widths S.solid S.isAg kO T.at S.at aA.at T.set S.set aA.set kz nz Ba Jp nu PU vW sW GA Gm ia J7 Wk eh OP vR kD pj ie Ie tP PN M8 Kt mW oneOf vX E2 Ar C4 j6 k6 cY eQ NR O9 ME S.ren S.rens aA.ren rB nU wP fm im nq m0 pV dQ fF jj dG ng xq ko B6 oZ yV tM QS U.toT
theorem iP {c:Prop} {_:Decidable c} {a b:Prop} (h:a) (hc:c:=by omega):if c then a else b:=vu hc h
theorem iN {c:Prop} {_:Decidable c} {a b:Prop} (h:b) (hc:¬ c:=by omega):if c then a else b:=ue hc h
structure Hd (q:Prop):Prop where
 o:q
theorem aP {a:Prop} (h:a:=by first|exact .inl rfl|exact .inr rfl):a:=h
theorem ah {p q:Prop} (h:q) (e:Hd q→p:=by intro hq;(repeat (first|(refine af rfl ?_;simp[go_sem,↓Go.IntWalk.iteOmega,Go.IntWalk.iteOmega,Go.IntWalk.toNatUp])|refine ba ?_|refine⟨aZ,?_⟩|(refine iP ?_;try simp[go_sem,↓Go.IntWalk.iteOmega,Go.IntWalk.iteOmega,Go.IntWalk.toNatUp])|(refine iN ?_;try simp[go_sem,↓Go.IntWalk.iteOmega,Go.IntWalk.iteOmega,Go.IntWalk.toNatUp])));exact hq.o):p:=e ⟨h⟩
theorem aJ {p q:Prop} {t1:Prop} (y1:t1) (h:q) (e:t1→Hd q→p:=by intro y1 hq;(repeat (first|(refine af rfl ?_;simp[go_sem,↓Go.IntWalk.iteOmega,Go.IntWalk.iteOmega,Go.IntWalk.toNatUp,y1])|refine ba ?_|refine⟨aZ,?_⟩|(refine iP ?_;try simp[go_sem,↓Go.IntWalk.iteOmega,Go.IntWalk.iteOmega,Go.IntWalk.toNatUp,y1])|(refine iN ?_;try simp[go_sem,↓Go.IntWalk.iteOmega,Go.IntWalk.iteOmega,Go.IntWalk.toNatUp,y1])));exact hq.o):p:=e y1 ⟨h⟩
theorem c9 {p q:Prop} {t1 t2:Prop} (y1:t1) (y2:t2) (h:q) (e:t1→t2→Hd q→p:=by intro y1 y2 hq;(repeat (first|(refine af rfl ?_;simp[go_sem,↓Go.IntWalk.iteOmega,Go.IntWalk.iteOmega,Go.IntWalk.toNatUp,y1,y2])|refine ba ?_|refine⟨aZ,?_⟩|(refine iP ?_;try simp[go_sem,↓Go.IntWalk.iteOmega,Go.IntWalk.iteOmega,Go.IntWalk.toNatUp,y1,y2])|(refine iN ?_;try simp[go_sem,↓Go.IntWalk.iteOmega,Go.IntWalk.iteOmega,Go.IntWalk.toNatUp,y1,y2])));exact hq.o):p:=e y1 y2 ⟨h⟩
theorem fg {p q:Prop} {t1 t2 t3:Prop} (y1:t1) (y2:t2) (y3:t3) (h:q) (e:t1→t2→t3→Hd q→p:=by intro y1 y2 y3 hq;(repeat (first|(refine af rfl ?_;simp[go_sem,↓Go.IntWalk.iteOmega,Go.IntWalk.iteOmega,Go.IntWalk.toNatUp,y1,y2,y3])|refine ba ?_|refine⟨aZ,?_⟩|(refine iP ?_;try simp[go_sem,↓Go.IntWalk.iteOmega,Go.IntWalk.iteOmega,Go.IntWalk.toNatUp,y1,y2,y3])|(refine iN ?_;try simp[go_sem,↓Go.IntWalk.iteOmega,Go.IntWalk.iteOmega,Go.IntWalk.toNatUp,y1,y2,y3])));exact hq.o):p:=e y1 y2 y3 ⟨h⟩
theorem lO {p q:Prop} {t1 t2 t3 t4:Prop} (y1:t1) (y2:t2) (y3:t3) (y4:t4) (h:q) (e:t1→t2→t3→t4→Hd q→p:=by intro y1 y2 y3 y4 hq;(repeat (first|(refine af rfl ?_;simp[go_sem,↓Go.IntWalk.iteOmega,Go.IntWalk.iteOmega,Go.IntWalk.toNatUp,y1,y2,y3,y4])|refine ba ?_|refine⟨aZ,?_⟩|(refine iP ?_;try simp[go_sem,↓Go.IntWalk.iteOmega,Go.IntWalk.iteOmega,Go.IntWalk.toNatUp,y1,y2,y3,y4])|(refine iN ?_;try simp[go_sem,↓Go.IntWalk.iteOmega,Go.IntWalk.iteOmega,Go.IntWalk.toNatUp,y1,y2,y3,y4])));exact hq.o):p:=e y1 y2 y3 y4 ⟨h⟩
theorem yB {p q:Prop} {t1 t2 t3 t4 t5:Prop} (y1:t1) (y2:t2) (y3:t3) (y4:t4) (y5:t5) (h:q) (e:t1→t2→t3→t4→t5→Hd q→p:=by intro y1 y2 y3 y4 y5 hq;(repeat (first|(refine af rfl ?_;simp[go_sem,↓Go.IntWalk.iteOmega,Go.IntWalk.iteOmega,Go.IntWalk.toNatUp,y1,y2,y3,y4,y5])|refine ba ?_|refine⟨aZ,?_⟩|(refine iP ?_;try simp[go_sem,↓Go.IntWalk.iteOmega,Go.IntWalk.iteOmega,Go.IntWalk.toNatUp,y1,y2,y3,y4,y5])|(refine iN ?_;try simp[go_sem,↓Go.IntWalk.iteOmega,Go.IntWalk.iteOmega,Go.IntWalk.toNatUp,y1,y2,y3,y4,y5])));exact hq.o):p:=e y1 y2 y3 y4 y5 ⟨h⟩
theorem JM {p q:Prop} {t1 t2 t3 t4 t5 t6:Prop} (y1:t1) (y2:t2) (y3:t3) (y4:t4) (y5:t5) (y6:t6) (h:q) (e:t1→t2→t3→t4→t5→t6→Hd q→p:=by intro y1 y2 y3 y4 y5 y6 hq;(repeat (first|(refine af rfl ?_;simp[go_sem,↓Go.IntWalk.iteOmega,Go.IntWalk.iteOmega,Go.IntWalk.toNatUp,y1,y2,y3,y4,y5,y6])|refine ba ?_|refine⟨aZ,?_⟩|(refine iP ?_;try simp[go_sem,↓Go.IntWalk.iteOmega,Go.IntWalk.iteOmega,Go.IntWalk.toNatUp,y1,y2,y3,y4,y5,y6])|(refine iN ?_;try simp[go_sem,↓Go.IntWalk.iteOmega,Go.IntWalk.iteOmega,Go.IntWalk.toNatUp,y1,y2,y3,y4,y5,y6])));exact hq.o):p:=e y1 y2 y3 y4 y5 y6 ⟨h⟩
theorem dY {p:Prop} (e:p:=by simp[go_sem,↓Go.IntWalk.iteOmega,Go.IntWalk.iteOmega,Go.IntWalk.toNatUp]):p:=e
theorem aF {P:Program} {rs:List ResultVar} {r:S} {post:List (Nat×aA)} {e:Exit} {σ:St} (ρ:List (Nat×Option Nat)) (he:e = .ret∨e = .normal:=by exact aP) (h:(mY P (cQ σ.g) (bc σ.h) rs fun l=>eh ρ=true∧kD ρ (bc σ.h) (oneOf l) r∧vR ρ (bc σ.h) post):=by simp[go_sem,↓Go.IntWalk.iteOmega,Go.IntWalk.iteOmega,Go.IntWalk.toNatUp]):uQ P rs r post e σ:=by
 rcases he with rfl|rfl<;>exact⟨ρ,h⟩
theorem ax {P:Program} {f:FuncId} {ss:List S} {pre post:List (Nat×aA)} {r:S} {az:List S} {h:Nat→Option aA} {d:Nat} {K:aM→Prop} {q:Prop} (hfn:aj P f ss pre r post) (ρ:List (Nat×Nat)) (z:q) (hargs:fm ρ h ([]++[]) az ss:=by exact dY) (hpre:m0 ρ h pre:=by exact dY) (hbor:pV h ([]++[]):=by exact dY) (hK:Hd q→K (eQ ρ [] [] pre post r):=by intro hq;simp[go_sem,↓Go.IntWalk.iteOmega,Go.IntWalk.iteOmega,Go.IntWalk.toNatUp];(repeat (refine ba ?_));(try (refine⟨aZ,?_⟩));exact hq.o) (hchk:eD ρ ([]++[]) pre post r=true:=by kernel_rfl):aY P f az h d K:=
 aY.fn hfn ρ [] [] hchk (hargs) (hpre) (hbor) (Or.inl rfl) (hK ⟨z⟩)
theorem gj {P:Program} {f:FuncId} {ss:List S} {pre post:List (Nat×aA)} {r:S} {az:List S} {h:Nat→Option aA} {d:Nat} {K:aM→Prop} {q:Prop} (hfn:aj P f ss pre r post) (ρ:List (Nat×Nat)) (bor fr:List Nat) (z:q) (hargs:fm ρ h (bor++fr) az ss:=by exact dY) (hpre:m0 ρ h pre:=by exact dY) (hbor:pV h (bor++fr):=by exact dY) (hf:(bor=[]∨(dQ r∧ng post)):=by first|exact Or.inl rfl|(refine Or.inr ?_;simp[go_sem,↓Go.IntWalk.iteOmega,Go.IntWalk.iteOmega,Go.IntWalk.toNatUp])) (hK:Hd q→K (eQ ρ bor fr pre post r):=by intro hq;simp[go_sem,↓Go.IntWalk.iteOmega,Go.IntWalk.iteOmega,Go.IntWalk.toNatUp];(repeat (refine ba ?_));(try (refine⟨aZ,?_⟩));exact hq.o) (hchk:eD ρ (bor++fr) pre post r=true:=by kernel_rfl):aY P f az h d K:=
 aY.fn hfn ρ bor fr hchk (hargs) (hpre) (hbor) (hf) (hK ⟨z⟩)
theorem dJ {p:Prop} {t1:Prop} (y1:t1) (e:t1→p:=by intro y1;simp[go_sem,↓Go.IntWalk.iteOmega,Go.IntWalk.iteOmega,Go.IntWalk.toNatUp,y1]):p:=e y1
theorem l9 {P:Program} {rs:List ResultVar} {r:S} {post:List (Nat×aA)} {e:Exit} {σ:St} {t1:Prop} (y1:t1) (ρ:List (Nat×Option Nat)) (he:e = .ret∨e = .normal:=by exact aP) (h:t1→(mY P (cQ σ.g) (bc σ.h) rs fun l=>eh ρ=true∧kD ρ (bc σ.h) (oneOf l) r∧vR ρ (bc σ.h) post):=by intro y1;simp[go_sem,↓Go.IntWalk.iteOmega,Go.IntWalk.iteOmega,Go.IntWalk.toNatUp,y1]):uQ P rs r post e σ:=by
 rcases he with rfl|rfl<;>exact⟨ρ,h y1⟩
theorem dr {P:Program} {f:FuncId} {ss:List S} {pre post:List (Nat×aA)} {r:S} {az:List S} {h:Nat→Option aA} {d:Nat} {K:aM→Prop} {q:Prop} {t1:Prop} (y1:t1) (hfn:aj P f ss pre r post) (ρ:List (Nat×Nat)) (z:q) (hargs:t1→fm ρ h ([]++[]) az ss:=by intro y1;exact dJ y1) (hpre:t1→m0 ρ h pre:=by intro y1;exact dJ y1) (hbor:t1→pV h ([]++[]):=by intro y1;exact dJ y1) (hK:t1→Hd q→K (eQ ρ [] [] pre post r):=by intro y1 hq;simp[go_sem,↓Go.IntWalk.iteOmega,Go.IntWalk.iteOmega,Go.IntWalk.toNatUp,y1];(repeat (refine ba ?_));(try (refine⟨aZ,?_⟩));exact hq.o) (hchk:eD ρ ([]++[]) pre post r=true:=by kernel_rfl):aY P f az h d K:=
 aY.fn hfn ρ [] [] hchk (hargs y1) (hpre y1) (hbor y1) (Or.inl rfl) (hK y1 ⟨z⟩)
theorem Lu {P:Program} {f:FuncId} {ss:List S} {pre post:List (Nat×aA)} {r:S} {az:List S} {h:Nat→Option aA} {d:Nat} {K:aM→Prop} {q:Prop} {t1:Prop} (y1:t1) (hfn:aj P f ss pre r post) (ρ:List (Nat×Nat)) (bor fr:List Nat) (z:q) (hargs:t1→fm ρ h (bor++fr) az ss:=by intro y1;exact dJ y1) (hpre:t1→m0 ρ h pre:=by intro y1;exact dJ y1) (hbor:t1→pV h (bor++fr):=by intro y1;exact dJ y1) (hf:t1→(bor=[]∨(dQ r∧ng post)):=by intro y1;first|exact Or.inl rfl|(refine Or.inr ?_;simp[go_sem,↓Go.IntWalk.iteOmega,Go.IntWalk.iteOmega,Go.IntWalk.toNatUp,y1])) (hK:t1→Hd q→K (eQ ρ bor fr pre post r):=by intro y1 hq;simp[go_sem,↓Go.IntWalk.iteOmega,Go.IntWalk.iteOmega,Go.IntWalk.toNatUp,y1];(repeat (refine ba ?_));(try (refine⟨aZ,?_⟩));exact hq.o) (hchk:eD ρ (bor++fr) pre post r=true:=by kernel_rfl):aY P f az h d K:=
 aY.fn hfn ρ bor fr hchk (hargs y1) (hpre y1) (hbor y1) (hf y1) (hK y1 ⟨z⟩)
theorem sw {p:Prop} {t1 t2:Prop} (y1:t1) (y2:t2) (e:t1→t2→p:=by intro y1 y2;simp[go_sem,↓Go.IntWalk.iteOmega,Go.IntWalk.iteOmega,Go.IntWalk.toNatUp,y1,y2]):p:=e y1 y2
theorem BJ {P:Program} {rs:List ResultVar} {r:S} {post:List (Nat×aA)} {e:Exit} {σ:St} {t1 t2:Prop} (y1:t1) (y2:t2) (ρ:List (Nat×Option Nat)) (he:e = .ret∨e = .normal:=by exact aP) (h:t1→t2→(mY P (cQ σ.g) (bc σ.h) rs fun l=>eh ρ=true∧kD ρ (bc σ.h) (oneOf l) r∧vR ρ (bc σ.h) post):=by intro y1 y2;simp[go_sem,↓Go.IntWalk.iteOmega,Go.IntWalk.iteOmega,Go.IntWalk.toNatUp,y1,y2]):uQ P rs r post e σ:=by
 rcases he with rfl|rfl<;>exact⟨ρ,h y1 y2⟩
theorem lf {P:Program} {f:FuncId} {ss:List S} {pre post:List (Nat×aA)} {r:S} {az:List S} {h:Nat→Option aA} {d:Nat} {K:aM→Prop} {q:Prop} {t1 t2:Prop} (y1:t1) (y2:t2) (hfn:aj P f ss pre r post) (ρ:List (Nat×Nat)) (z:q) (hargs:t1→t2→fm ρ h ([]++[]) az ss:=by intro y1 y2;exact sw y1 y2) (hpre:t1→t2→m0 ρ h pre:=by intro y1 y2;exact sw y1 y2) (hbor:t1→t2→pV h ([]++[]):=by intro y1 y2;exact sw y1 y2) (hK:t1→t2→Hd q→K (eQ ρ [] [] pre post r):=by intro y1 y2 hq;simp[go_sem,↓Go.IntWalk.iteOmega,Go.IntWalk.iteOmega,Go.IntWalk.toNatUp,y1,y2];(repeat (refine ba ?_));(try (refine⟨aZ,?_⟩));exact hq.o) (hchk:eD ρ ([]++[]) pre post r=true:=by kernel_rfl):aY P f az h d K:=
 aY.fn hfn ρ [] [] hchk (hargs y1 y2) (hpre y1 y2) (hbor y1 y2) (Or.inl rfl) (hK y1 y2 ⟨z⟩)
theorem Ck {P:Program} {f:FuncId} {ss:List S} {pre post:List (Nat×aA)} {r:S} {az:List S} {h:Nat→Option aA} {d:Nat} {K:aM→Prop} {q:Prop} {t1 t2:Prop} (y1:t1) (y2:t2) (hfn:aj P f ss pre r post) (ρ:List (Nat×Nat)) (bor fr:List Nat) (z:q) (hargs:t1→t2→fm ρ h (bor++fr) az ss:=by intro y1 y2;exact sw y1 y2) (hpre:t1→t2→m0 ρ h pre:=by intro y1 y2;exact sw y1 y2) (hbor:t1→t2→pV h (bor++fr):=by intro y1 y2;exact sw y1 y2) (hf:t1→t2→(bor=[]∨(dQ r∧ng post)):=by intro y1 y2;first|exact Or.inl rfl|(refine Or.inr ?_;simp[go_sem,↓Go.IntWalk.iteOmega,Go.IntWalk.iteOmega,Go.IntWalk.toNatUp,y1,y2])) (hK:t1→t2→Hd q→K (eQ ρ bor fr pre post r):=by intro y1 y2 hq;simp[go_sem,↓Go.IntWalk.iteOmega,Go.IntWalk.iteOmega,Go.IntWalk.toNatUp,y1,y2];(repeat (refine ba ?_));(try (refine⟨aZ,?_⟩));exact hq.o) (hchk:eD ρ (bor++fr) pre post r=true:=by kernel_rfl):aY P f az h d K:=
 aY.fn hfn ρ bor fr hchk (hargs y1 y2) (hpre y1 y2) (hbor y1 y2) (hf y1 y2) (hK y1 y2 ⟨z⟩)
theorem Qd {p:Prop} {t1 t2 t3:Prop} (y1:t1) (y2:t2) (y3:t3) (e:t1→t2→t3→p:=by intro y1 y2 y3;simp[go_sem,↓Go.IntWalk.iteOmega,Go.IntWalk.iteOmega,Go.IntWalk.toNatUp,y1,y2,y3]):p:=e y1 y2 y3
theorem ff3 {P:Program} {rs:List ResultVar} {r:S} {post:List (Nat×aA)} {e:Exit} {σ:St} {t1 t2 t3:Prop} (y1:t1) (y2:t2) (y3:t3) (ρ:List (Nat×Option Nat)) (he:e = .ret∨e = .normal:=by exact aP) (h:t1→t2→t3→(mY P (cQ σ.g) (bc σ.h) rs fun l=>eh ρ=true∧kD ρ (bc σ.h) (oneOf l) r∧vR ρ (bc σ.h) post):=by intro y1 y2 y3;simp[go_sem,↓Go.IntWalk.iteOmega,Go.IntWalk.iteOmega,Go.IntWalk.toNatUp,y1,y2,y3]):uQ P rs r post e σ:=by
 rcases he with rfl|rfl<;>exact⟨ρ,h y1 y2 y3⟩
theorem Fu {P:Program} {f:FuncId} {ss:List S} {pre post:List (Nat×aA)} {r:S} {az:List S} {h:Nat→Option aA} {d:Nat} {K:aM→Prop} {q:Prop} {t1 t2 t3:Prop} (y1:t1) (y2:t2) (y3:t3) (hfn:aj P f ss pre r post) (ρ:List (Nat×Nat)) (z:q) (hargs:t1→t2→t3→fm ρ h ([]++[]) az ss:=by intro y1 y2 y3;exact Qd y1 y2 y3) (hpre:t1→t2→t3→m0 ρ h pre:=by intro y1 y2 y3;exact Qd y1 y2 y3) (hbor:t1→t2→t3→pV h ([]++[]):=by intro y1 y2 y3;exact Qd y1 y2 y3) (hK:t1→t2→t3→Hd q→K (eQ ρ [] [] pre post r):=by intro y1 y2 y3 hq;simp[go_sem,↓Go.IntWalk.iteOmega,Go.IntWalk.iteOmega,Go.IntWalk.toNatUp,y1,y2,y3];(repeat (refine ba ?_));(try (refine⟨aZ,?_⟩));exact hq.o) (hchk:eD ρ ([]++[]) pre post r=true:=by kernel_rfl):aY P f az h d K:=
 aY.fn hfn ρ [] [] hchk (hargs y1 y2 y3) (hpre y1 y2 y3) (hbor y1 y2 y3) (Or.inl rfl) (hK y1 y2 y3 ⟨z⟩)
theorem nX {ι:Type} {I:ι→St} {Inv:ι→Prop} {μ:ι→Nat} {i:ι} {Q:Exit→St→Prop} {σ:St} (j:ι) (ρ:List (Nat×Option Nat)) (h1:Inv j) (h2:μ j < μ i) (h3:Wk ρ σ (I j)):l7 I Inv μ i Q .normal σ:=⟨j,ρ,h1,h2,h3⟩
theorem nY {ι:Type} {I:ι→St} {Inv:ι→Prop} {μ:ι→Nat} {i:ι} {Q:Exit→St→Prop} {σ:St} (j:ι) (ρ:List (Nat×Option Nat)) (h1:Inv j:=by omega) (h2:μ j < μ i:=by omega) (h3:Wk ρ σ (I j):=by exact dY):l7 I Inv μ i Q .normal σ:=⟨j,ρ,h1,h2,h3⟩
theorem oP {N:Nat} {P:Program} {c:Code} {Q:Exit→St→Prop} {σ:St} {q:Prop} (h:q) (e:Hd q→Lv N P c Q σ:=by intro hq;simp only[Lv];exact hq.o):CW N P c Q σ:=iZ _ _ _ (e ⟨h⟩)
theorem lP {N:Nat} {P:Program} {Q:Exit→St→Prop} {ι:Type} (I:ι→St) (Inv:ι→Prop) (μ:ι→Nat) (i0:ι) (ρ:List (Nat×Option Nat)) {c:Code} {σ:St} (h0:Inv i0) (round:∀ i,Inv i→CW N P c (l7 I Inv μ i Q) (I i)) (hstart:Wk ρ σ (I i0):=by exact dY):CW N P (.loop c) Q σ:=CW.loop I Inv μ i0 ρ h0 hstart round
def Er (w:World):Gh:=⟨fun b=>b < w.heap.size,fun _=> .bool false,fun _=>Cj⟩
theorem Ma {P:Program} {f:FuncId} {ss:List S} {us:List Value} {w:World} (h:aj P f ss [] (.t (.bool true)) []) (hr:aD (Er w) w ss us) :
  Calls P f us.toArray w fun e w'=>e = .returned (.bool true)∧Below w.heap.size w w':=by
 have hn:∀ l x,bc [] l=some x→False:=fun l x hx=>by simp[bc]at hx
 have hh:bn (Er w) w (bc []):=⟨fun l b hb=>(hn l b hb).elim,fun l b hb=>(hn l b hb).elim,fun l b k hb=>(hn l b hb).elim,fun l l' b b' k hb=>(hn l b hb).elim,fun b hb=>hb⟩
 refine Calls.mono (h (Er w) w us hh hr) ?_
 rintro e w' ⟨v,G',rfl,hf,_,hv⟩
 unfold ar at hv;unfold aO at hv
 refine⟨by rw[hv.1],⟨hf.os,hf.tape,hf.output,hf.size,fun b hb=>hf.block b hb ?_⟩⟩
 rintro ⟨l,x,hx,_⟩
 exact hn l x hx
theorem xx {F:Nat→Prop} {w:World} (k:IntKind):∀ l:List Int,ay F w (l.map fun z=>T.lit (.int k z)) (ints k l)
 | []=>by unfold ay;rfl
 | z :: r=>by
  simp only[List.map_cons,ay]
  refine⟨.int k z,ints k r,by simp[ints,Value.cells],?_,xx k r⟩
  unfold aO;exact⟨rfl,rfl⟩
theorem JF {w:World} {k:IntKind} {x:Option Addr} {n cap:Nat} {l:List Int} (h:DW k w x n cap l):ar (Er w) w (.t (.sl 1 (l.map fun z=>T.lit (.int k z)))) (.slice x n cap):=by
 unfold ar;unfold aO
 refine⟨x,cap,ints k l,?_,xx k l,?_,?_⟩
 ·rw[List.length_map,h.length]
 ·intro y hy
  obtain⟨z,_,rfl⟩:=List.mem_map.1 hy
  simp[T.width]
 ·rw[List.length_map,h.length]
  exact⟨h.le,h.capLe,h.len,h.nil,h.cells⟩
theorem L4 {w:World} {v:Value} (h:v.oneCell'=true):ar (Er w) w (.t (.lit v)) v:=by
 unfold ar;unfold aO;exact⟨rfl,h⟩
theorem qz {G:Gh} {w:World} {s:S} {ss:List S} {v:Value} {us:List Value} (h:ar G w s v) (h2:aD G w ss us):aD G w (s :: ss) (v :: us):=by
 unfold aD;exact⟨v,us,rfl,h,h2⟩
theorem A9 {G:Gh} {w:World}:aD G w [] []:=by unfold aD;rfl
end Go.Proofs.YtocndodilpimnaaGreat.Sy
namespace Go.Proofs.YtocndodilpimnaaGreat
open Sy
@[go_sem] theorem Nw:zeroOf Tryz.prog 61=some (.agg [.lit (.string ByteArray.empty),.lit (.int .i64 0),.lit (.int .i64 0)]):=by kernel_rfl
@[go_sem] theorem Np:zeroOf Tryz.prog 63=some (.agg [.lit (.int .i64 0),.lit (.slice none 0 0),.agg [.lit (.int .i64 0),.lit (.int .i64 0),.lit (.int .i64 0),.agg [.lit (.int .i64 0),.lit (.int .i64 0),.lit (.slice none 0 0),.lit (.int .i64 0)]],.agg [.lit (.string ByteArray.empty),.lit (.int .i64 0),.lit (.int .i64 0)]]):=by kernel_rfl
@[go_sem] theorem NY:zeroOf Tryz.prog 98=some (.agg [.lit (.string ByteArray.empty),.lit (.int .i64 0),.lit (.int .i64 0),.lit (.int .i64 0),.lit (.int .i64 0),.lit (.int .i64 0),.lit (.slice none 0 0)]):=by kernel_rfl
@[go_sem] theorem MF:zeroOf Tryz.prog 101=some (.agg [.lit (.string ByteArray.empty),.lit (.int .i64 0),.lit (.int .i64 0)]):=by kernel_rfl
@[go_sem] theorem L3:zeroOf Tryz.prog 103=some (.agg [.lit (.string ByteArray.empty),.lit (.int .i64 0),.lit (.int .i64 0),.lit (.int .i64 0),.lit (.int .i64 0)]):=by kernel_rfl
@[go_sem] theorem M3:zeroOf Tryz.prog 183=some (.agg [.lit (.string ByteArray.empty),.lit (.int .i64 0),.lit (.int .i64 0),.lit (.int .i64 0),.lit (.int .i64 0)]):=by kernel_rfl
@[go_sem] theorem N3:Qj 7 1=[(0,1),(1,1),(2,1),(3,1),(4,1),(5,1),(6,1)]:=by rfl
@[go_sem] theorem fs1:bY Tryz.prog 3=some 1∧pA Tryz.prog 3=true∧cM Tryz.prog 3=some false∧mV Tryz.prog 3=some .i64∧aK Tryz.prog 3=none∧jP Tryz.prog 3=some (1,8)∧zeroOf Tryz.prog 3=some (.lit (.int .i64 0))∧bY Tryz.prog 4=some 1∧pA Tryz.prog 4=true∧cM Tryz.prog 4=some false:=by and_intros<;>kernel_rfl
@[go_sem] theorem fs2:oD Tryz.prog 4=true∧jP Tryz.prog 4=some (1,1)∧zeroOf Tryz.prog 4=some (.lit (.bool false))∧bY Tryz.prog 5=some 1∧cM Tryz.prog 5=some false∧mV Tryz.prog 5=some .u8∧jP Tryz.prog 5=some (1,1)∧bY Tryz.prog 9=some 1∧pA Tryz.prog 9=true∧cM Tryz.prog 9=some false:=by and_intros<;>kernel_rfl
@[go_sem] theorem fs3:iS Tryz.prog 9=true∧jP Tryz.prog 9=some (1,16)∧bY Tryz.prog 22=some 1∧pA Tryz.prog 22=true∧cM Tryz.prog 22=some false∧aK Tryz.prog 22=some 3∧zeroOf Tryz.prog 22=some (.lit (.slice none 0 0))∧bY Tryz.prog 27=some 1∧pA Tryz.prog 27=true∧cM Tryz.prog 27=some false:=by and_intros<;>kernel_rfl
@[go_sem] theorem fs4:aK Tryz.prog 27=some 9∧bY Tryz.prog 28=some 1∧pA Tryz.prog 28=true∧cM Tryz.prog 28=some false∧aK Tryz.prog 28=some 98∧bY Tryz.prog 29=some 1∧pA Tryz.prog 29=true∧cM Tryz.prog 29=some false∧aK Tryz.prog 29=some 101∧bY Tryz.prog 30=some 1:=by and_intros<;>kernel_rfl
@[go_sem] theorem fs5:pA Tryz.prog 30=true∧cM Tryz.prog 30=some false∧aK Tryz.prog 30=some 103∧bY Tryz.prog 32=some 6∧pA Tryz.prog 32=true∧cM Tryz.prog 32=some true∧dn Tryz.prog 32=none∧aX Tryz.prog 32 0=some (0,27)∧aX Tryz.prog 32 1=some (1,28)∧aX Tryz.prog 32 2=some (2,29):=by and_intros<;>kernel_rfl
@[go_sem] theorem fs6:aX Tryz.prog 32 3=some (3,30)∧aX Tryz.prog 32 4=some (4,3)∧aX Tryz.prog 32 5=some (5,3)∧qk Tryz.prog 32=some [(0,1),(1,1),(2,1),(3,1),(4,1),(5,1)]∧zeroOf Tryz.prog 32=some (.agg [.lit (.slice none 0 0),.lit (.slice none 0 0),.lit (.slice none 0 0),.lit (.slice none 0 0),.lit (.int .i64 0),.lit (.int .i64 0)])∧bY Tryz.prog 34=some 1∧pA Tryz.prog 34=true∧cM Tryz.prog 34=some false∧aK Tryz.prog 34=some 134∧bY Tryz.prog 35=some 1:=by and_intros<;>kernel_rfl
@[go_sem] theorem fs7:pA Tryz.prog 35=true∧cM Tryz.prog 35=some false∧aK Tryz.prog 35=some 4∧bY Tryz.prog 37=some 3∧pA Tryz.prog 37=true∧cM Tryz.prog 37=some true∧dn Tryz.prog 37=none∧aX Tryz.prog 37 0=some (0,22)∧aX Tryz.prog 37 1=some (1,22)∧aX Tryz.prog 37 2=some (2,35):=by and_intros<;>kernel_rfl
@[go_sem] theorem fs8:qk Tryz.prog 37=some [(0,1),(1,1),(2,1)]∧zeroOf Tryz.prog 37=some (.agg [.lit (.slice none 0 0),.lit (.slice none 0 0),.lit (.slice none 0 0)])∧bY Tryz.prog 39=some 4∧pA Tryz.prog 39=true∧cM Tryz.prog 39=some true∧dn Tryz.prog 39=none∧aX Tryz.prog 39 0=some (0,34)∧aX Tryz.prog 39 1=some (1,37)∧qk Tryz.prog 39=some [(0,1),(1,3)]∧zeroOf Tryz.prog 39=some (.agg [.lit (.slice none 0 0),.agg [.lit (.slice none 0 0),.lit (.slice none 0 0),.lit (.slice none 0 0)]]):=by and_intros<;>kernel_rfl
@[go_sem] theorem fs9:bY Tryz.prog 40=some 1∧pA Tryz.prog 40=true∧cM Tryz.prog 40=some false∧aK Tryz.prog 40=some 126∧bY Tryz.prog 41=some 1∧pA Tryz.prog 41=true∧cM Tryz.prog 41=some false∧aK Tryz.prog 41=some 183∧bY Tryz.prog 43=some 7∧cM Tryz.prog 43=some true:=by and_intros<;>kernel_rfl
@[go_sem] theorem fs10:dn Tryz.prog 43=none∧aX Tryz.prog 43 0=some (0,39)∧aX Tryz.prog 43 1=some (4,40)∧aX Tryz.prog 43 2=some (5,41)∧aX Tryz.prog 43 3=some (6,3)∧qk Tryz.prog 43=some [(0,4),(4,1),(5,1),(6,1)]∧zeroOf Tryz.prog 43=some (.agg [.agg [.lit (.slice none 0 0),.agg [.lit (.slice none 0 0),.lit (.slice none 0 0),.lit (.slice none 0 0)]],.lit (.slice none 0 0),.lit (.slice none 0 0),.lit (.int .i64 0)])∧aK Tryz.prog 44=some 63∧bY Tryz.prog 47=some 1∧cM Tryz.prog 47=some false:=by and_intros<;>kernel_rfl
@[go_sem] theorem fs11:zeroOf Tryz.prog 47=some (.lit (.int .i64 0))∧bY Tryz.prog 50=some 1∧pA Tryz.prog 50=true∧cM Tryz.prog 50=some false∧aK Tryz.prog 50=some 5∧jP Tryz.prog 50=some (1,24)∧zeroOf Tryz.prog 50=some (.lit (.slice none 0 0))∧bY Tryz.prog 52=some 2∧cM Tryz.prog 52=some true∧dn Tryz.prog 52=none:=by and_intros<;>kernel_rfl
@[go_sem] theorem fs12:aX Tryz.prog 52 0=some (0,50)∧aX Tryz.prog 52 1=some (1,50)∧qk Tryz.prog 52=some [(0,1),(1,1)]∧zeroOf Tryz.prog 52=some (.agg [.lit (.slice none 0 0),.lit (.slice none 0 0)])∧bY Tryz.prog 55=some 1∧pA Tryz.prog 55=true∧cM Tryz.prog 55=some false∧aK Tryz.prog 55=some 112∧bY Tryz.prog 57=some 4∧pA Tryz.prog 57=true:=by and_intros<;>kernel_rfl
@[go_sem] theorem fs13:cM Tryz.prog 57=some true∧dn Tryz.prog 57=none∧aX Tryz.prog 57 0=some (0,3)∧aX Tryz.prog 57 1=some (1,3)∧aX Tryz.prog 57 2=some (2,55)∧aX Tryz.prog 57 3=some (3,3)∧qk Tryz.prog 57=some [(0,1),(1,1),(2,1),(3,1)]∧jP Tryz.prog 57=some (4,48)∧zeroOf Tryz.prog 57=some (.agg [.lit (.int .i64 0),.lit (.int .i64 0),.lit (.slice none 0 0),.lit (.int .i64 0)])∧bY Tryz.prog 59=some 7:=by and_intros<;>kernel_rfl
@[go_sem] theorem fs14:pA Tryz.prog 59=true∧cM Tryz.prog 59=some true∧dn Tryz.prog 59=none∧aX Tryz.prog 59 0=some (0,3)∧aX Tryz.prog 59 1=some (1,3)∧aX Tryz.prog 59 2=some (2,3)∧aX Tryz.prog 59 3=some (3,57)∧qk Tryz.prog 59=some [(0,1),(1,1),(2,1),(3,4)]∧zeroOf Tryz.prog 59=some (.agg [.lit (.int .i64 0),.lit (.int .i64 0),.lit (.int .i64 0),.agg [.lit (.int .i64 0),.lit (.int .i64 0),.lit (.slice none 0 0),.lit (.int .i64 0)]])∧bY Tryz.prog 61=some 3:=by and_intros<;>kernel_rfl
@[go_sem] theorem fs15:pA Tryz.prog 61=true∧cM Tryz.prog 61=some true∧dn Tryz.prog 61=none∧aX Tryz.prog 61 0=some (0,9)∧aX Tryz.prog 61 1=some (1,3)∧aX Tryz.prog 61 2=some (2,3)∧qk Tryz.prog 61=some [(0,1),(1,1),(2,1)]∧oH Tryz.prog 61=some [(0,9),(1,3),(2,3)]∧jP Tryz.prog 61=some (3,32)∧bY Tryz.prog 63=some 12:=by and_intros<;>kernel_rfl
@[go_sem] theorem fs16:cM Tryz.prog 63=some true∧dn Tryz.prog 63=none∧aX Tryz.prog 63 0=some (0,3)∧aX Tryz.prog 63 1=some (1,22)∧aX Tryz.prog 63 2=some (2,59)∧aX Tryz.prog 63 3=some (9,61)∧qk Tryz.prog 63=some [(0,1),(1,1),(2,7),(9,3)]∧jP Tryz.prog 63=some (12,136)∧bY Tryz.prog 84=some 1∧pA Tryz.prog 84=true:=by and_intros<;>kernel_rfl
@[go_sem] theorem fs17:cM Tryz.prog 84=some false∧aK Tryz.prog 84=some 89∧zeroOf Tryz.prog 84=some (.lit (.slice none 0 0))∧bY Tryz.prog 88=some 2∧cM Tryz.prog 88=some true∧dn Tryz.prog 88=none∧aX Tryz.prog 88 0=some (0,3)∧aX Tryz.prog 88 1=some (1,3)∧qk Tryz.prog 88=some [(0,1),(1,1)]∧oH Tryz.prog 88=some [(0,3),(1,3)]:=by and_intros<;>kernel_rfl
@[go_sem] theorem fs18:jP Tryz.prog 88=some (2,16)∧zeroOf Tryz.prog 88=some (.agg [.lit (.int .i64 0),.lit (.int .i64 0)])∧bY Tryz.prog 89=some 1∧cM Tryz.prog 89=some false∧aK Tryz.prog 89=some 88∧jP Tryz.prog 89=some (1,24)∧zeroOf Tryz.prog 89=some (.lit (.slice none 0 0))∧dn Tryz.prog 92=none∧aX Tryz.prog 92 0=some (0,22)∧aX Tryz.prog 92 1=some (1,3):=by and_intros<;>kernel_rfl
@[go_sem] theorem fs19:qk Tryz.prog 92=some [(0,1),(1,1)]∧zeroOf Tryz.prog 92=some (.agg [.lit (.slice none 0 0),.lit (.int .i64 0)])∧bY Tryz.prog 96=some 1∧pA Tryz.prog 96=true∧cM Tryz.prog 96=some false∧aK Tryz.prog 96=some 131∧bY Tryz.prog 98=some 7∧cM Tryz.prog 98=some true∧dn Tryz.prog 98=none∧aX Tryz.prog 98 0=some (0,9):=by and_intros<;>kernel_rfl
@[go_sem] theorem fs20:aX Tryz.prog 98 1=some (1,3)∧aX Tryz.prog 98 2=some (2,3)∧aX Tryz.prog 98 3=some (3,3)∧aX Tryz.prog 98 4=some (4,3)∧aX Tryz.prog 98 5=some (5,3)∧aX Tryz.prog 98 6=some (6,96)∧qk Tryz.prog 98=some [(0,1),(1,1),(2,1),(3,1),(4,1),(5,1),(6,1)]∧jP Tryz.prog 98=some (7,80)∧bY Tryz.prog 101=some 3∧cM Tryz.prog 101=some true:=by and_intros<;>kernel_rfl
@[go_sem] theorem fs21:dn Tryz.prog 101=none∧aX Tryz.prog 101 0=some (0,9)∧aX Tryz.prog 101 1=some (1,3)∧aX Tryz.prog 101 2=some (2,3)∧qk Tryz.prog 101=some [(0,1),(1,1),(2,1)]∧jP Tryz.prog 101=some (3,32)∧bY Tryz.prog 103=some 5∧cM Tryz.prog 103=some true∧dn Tryz.prog 103=none∧aX Tryz.prog 103 0=some (0,9):=by and_intros<;>kernel_rfl
@[go_sem] theorem fs22:aX Tryz.prog 103 1=some (1,3)∧aX Tryz.prog 103 2=some (2,3)∧aX Tryz.prog 103 3=some (3,3)∧aX Tryz.prog 103 4=some (4,3)∧qk Tryz.prog 103=some [(0,1),(1,1),(2,1),(3,1),(4,1)]∧jP Tryz.prog 103=some (5,48)∧bY Tryz.prog 112=some 2∧cM Tryz.prog 112=some true∧dn Tryz.prog 112=none∧aX Tryz.prog 112 0=some (0,3):=by and_intros<;>kernel_rfl
@[go_sem] theorem fs23:aX Tryz.prog 112 1=some (1,4)∧qk Tryz.prog 112=some [(0,1),(1,1)]∧jP Tryz.prog 112=some (2,16)∧zeroOf Tryz.prog 112=some (.agg [.lit (.int .i64 0),.lit (.bool false)])∧aK Tryz.prog 114=some 50∧bY Tryz.prog 126=some 6∧cM Tryz.prog 126=some true∧dn Tryz.prog 126=none∧aX Tryz.prog 126 0=some (0,3)∧aX Tryz.prog 126 1=some (1,3):=by and_intros<;>kernel_rfl
@[go_sem] theorem fs24:aX Tryz.prog 126 2=some (2,3)∧aX Tryz.prog 126 3=some (3,3)∧aX Tryz.prog 126 4=some (4,3)∧aX Tryz.prog 126 5=some (5,22)∧qk Tryz.prog 126=some [(0,1),(1,1),(2,1),(3,1),(4,1),(5,1)]∧jP Tryz.prog 126=some (6,64)∧zeroOf Tryz.prog 126=some (.agg [.lit (.int .i64 0),.lit (.int .i64 0),.lit (.int .i64 0),.lit (.int .i64 0),.lit (.int .i64 0),.lit (.slice none 0 0)])∧bY Tryz.prog 131=some 3∧cM Tryz.prog 131=some true∧dn Tryz.prog 131=none:=by and_intros<;>kernel_rfl
@[go_sem] theorem fs25:aX Tryz.prog 131 0=some (0,3)∧aX Tryz.prog 131 1=some (1,3)∧aX Tryz.prog 131 2=some (2,3)∧qk Tryz.prog 131=some [(0,1),(1,1),(2,1)]∧jP Tryz.prog 131=some (3,24)∧zeroOf Tryz.prog 131=some (.agg [.lit (.int .i64 0),.lit (.int .i64 0),.lit (.int .i64 0)])∧bY Tryz.prog 134=some 4∧cM Tryz.prog 134=some true∧dn Tryz.prog 134=none∧aX Tryz.prog 134 0=some (0,3):=by and_intros<;>kernel_rfl
@[go_sem] theorem fs26:aX Tryz.prog 134 1=some (1,3)∧aX Tryz.prog 134 2=some (2,4)∧aX Tryz.prog 134 3=some (3,4)∧qk Tryz.prog 134=some [(0,1),(1,1),(2,1),(3,1)]∧oH Tryz.prog 134=some [(0,3),(1,3),(2,4),(3,4)]∧jP Tryz.prog 134=some (4,24)∧zeroOf Tryz.prog 134=some (.agg [.lit (.int .i64 0),.lit (.int .i64 0),.lit (.bool false),.lit (.bool false)])∧aK Tryz.prog 139=some 57∧bY Tryz.prog 144=some 2∧cM Tryz.prog 144=some true:=by and_intros<;>kernel_rfl
@[go_sem] theorem fs27:dn Tryz.prog 144=none∧aX Tryz.prog 144 0=some (0,35)∧aX Tryz.prog 144 1=some (1,35)∧qk Tryz.prog 144=some [(0,1),(1,1)]∧zeroOf Tryz.prog 144=some (.agg [.lit (.slice none 0 0),.lit (.slice none 0 0)])∧bY Tryz.prog 159=some 1∧cM Tryz.prog 159=some false∧dn Tryz.prog 164=none∧aX Tryz.prog 164 0=some (0,32)∧aX Tryz.prog 164 1=some (6,37):=by and_intros<;>kernel_rfl
@[go_sem] theorem fs28:aX Tryz.prog 164 2=some (9,22)∧aX Tryz.prog 164 3=some (10,22)∧aX Tryz.prog 164 4=some (11,84)∧aX Tryz.prog 164 5=some (12,84)∧aX Tryz.prog 164 6=some (13,84)∧qk Tryz.prog 164=some [(0,6),(6,3),(9,1),(10,1),(11,1),(12,1),(13,1)]∧zeroOf Tryz.prog 164=some (.agg [.agg [.lit (.slice none 0 0),.lit (.slice none 0 0),.lit (.slice none 0 0),.lit (.slice none 0 0),.lit (.int .i64 0),.lit (.int .i64 0)],.agg [.lit (.slice none 0 0),.lit (.slice none 0 0),.lit (.slice none 0 0)],.lit (.slice none 0 0),.lit (.slice none 0 0),.lit (.slice none 0 0),.lit (.slice none 0 0),.lit (.slice none 0 0)])∧aK Tryz.prog 168=some 61∧bY Tryz.prog 183=some 5∧cM Tryz.prog 183=some true:=by and_intros<;>kernel_rfl
@[go_sem] theorem fs29:dn Tryz.prog 183=none∧aX Tryz.prog 183 0=some (0,9)∧aX Tryz.prog 183 1=some (1,3)∧aX Tryz.prog 183 2=some (2,3)∧aX Tryz.prog 183 3=some (3,3)∧aX Tryz.prog 183 4=some (4,3)∧qk Tryz.prog 183=some [(0,1),(1,1),(2,1),(3,1),(4,1)]∧oH Tryz.prog 183=some [(0,9),(1,3),(2,3),(3,3),(4,3)]∧jP Tryz.prog 183=some (5,48)∧mV Tryz.prog 186=some .u64:=by and_intros<;>kernel_rfl
@[go_sem] theorem fs30:mV Tryz.prog 187=some .u64∧dn Tryz.prog 192=none∧aX Tryz.prog 192 0=some (0,50)∧aX Tryz.prog 192 1=some (1,3)∧aX Tryz.prog 192 2=some (2,4)∧qk Tryz.prog 192=some [(0,1),(1,1),(2,1)]∧zeroOf Tryz.prog 192=some (.agg [.lit (.slice none 0 0),.lit (.int .i64 0),.lit (.bool false)])∧bY Tryz.prog 206=some 1∧cM Tryz.prog 206=some false∧bY Tryz.prog 208=some 4:=by and_intros<;>kernel_rfl
@[go_sem] theorem fs31:cM Tryz.prog 208=some true∧aK Tryz.prog 208=none∧dn Tryz.prog 208=some (4,27)∧zeroOf Tryz.prog 208=some (.agg (List.replicate 4 (.lit (.slice none 0 0))))∧bY Tryz.prog 226=some 1∧cM Tryz.prog 226=some false∧bY Tryz.prog 247=some 24∧pA Tryz.prog 247=true∧cM Tryz.prog 247=some true∧aK Tryz.prog 247=none:=by and_intros<;>kernel_rfl
@[go_sem] theorem fs32:dn Tryz.prog 247=some (24,3)∧bY Tryz.prog 249=some 48∧cM Tryz.prog 249=some true∧aX Tryz.prog 249 0=some (0,247)∧aX Tryz.prog 249 1=some (24,247)∧zeroOf Tryz.prog 249=some (.agg [.agg (List.replicate 24 (.lit (.int .i64 0))),.agg (List.replicate 24 (.lit (.int .i64 0)))])∧bY Tryz.prog 277=some 7∧aK Tryz.prog 277=none∧dn Tryz.prog 277=some (7,226)∧zeroOf Tryz.prog 277=some (.agg (List.replicate 7 (.lit .nilFunc))):=by and_intros<;>kernel_rfl
@[go_sem] theorem fs33:bY Tryz.prog 311=some 64∧pA Tryz.prog 311=true∧cM Tryz.prog 311=some true∧aK Tryz.prog 311=none∧dn Tryz.prog 311=some (64,3)∧zeroOf Tryz.prog 311=some (.agg (List.replicate 64 (.lit (.int .i64 0))))∧bY Tryz.prog 313=some 129∧cM Tryz.prog 313=some true∧dn Tryz.prog 313=none∧aX Tryz.prog 313 0=some (0,3):=by and_intros<;>kernel_rfl
@[go_sem] theorem fs34:aX Tryz.prog 313 1=some (1,311)∧aX Tryz.prog 313 2=some (65,311)∧qk Tryz.prog 313=some [(0,1),(1,64),(65,64)]∧zeroOf Tryz.prog 313=some (.agg [.lit (.int .i64 0),.agg (List.replicate 64 (.lit (.int .i64 0))),.agg (List.replicate 64 (.lit (.int .i64 0)))])∧aw Tryz.prog 4=true∧aw Tryz.prog 5=true∧aw Tryz.prog 6=true∧aw Tryz.prog 7=true∧aw Tryz.prog 8=true∧aw Tryz.prog 9=true:=by and_intros<;>kernel_rfl
@[go_sem] theorem fs35:aw Tryz.prog 10=true∧aw Tryz.prog 11=true∧aw Tryz.prog 12=true∧aw Tryz.prog 13=true∧aw Tryz.prog 14=true∧aw Tryz.prog 15=true∧aw Tryz.prog 16=true∧aw Tryz.prog 17=true∧aw Tryz.prog 18=true∧aw Tryz.prog 19=true:=by and_intros<;>kernel_rfl
@[go_sem] theorem fs36:aw Tryz.prog 21=true∧aw Tryz.prog 26=true∧aw Tryz.prog 27=true∧aw Tryz.prog 28=true∧aw Tryz.prog 29=true∧aw Tryz.prog 30=true∧aw Tryz.prog 31=true∧aw Tryz.prog 32=true∧aw Tryz.prog 33=true∧aw Tryz.prog 34=true:=by and_intros<;>kernel_rfl
@[go_sem] theorem fs37:aw Tryz.prog 35=true∧aw Tryz.prog 36=true∧aw Tryz.prog 37=true∧aw Tryz.prog 38=true∧aw Tryz.prog 39=true∧aw Tryz.prog 40=true∧aw Tryz.prog 41=true∧aw Tryz.prog 42=true∧aw Tryz.prog 43=true∧aw Tryz.prog 44=true:=by and_intros<;>kernel_rfl
@[go_sem] theorem fs38:aw Tryz.prog 45=true∧aw Tryz.prog 46=true∧aw Tryz.prog 47=true∧aw Tryz.prog 48=true∧aw Tryz.prog 49=true∧aw Tryz.prog 50=true∧aw Tryz.prog 51=true∧aw Tryz.prog 52=true∧aw Tryz.prog 53=true∧aw Tryz.prog 54=true:=by and_intros<;>kernel_rfl
@[go_sem] theorem fs39:aw Tryz.prog 55=true∧aw Tryz.prog 56=true∧aw Tryz.prog 60=true∧aw Tryz.prog 65=true∧aw Tryz.prog 69=true∧aw Tryz.prog 70=true∧aw Tryz.prog 71=true∧aw Tryz.prog 72=true∧aw Tryz.prog 73=true∧aw Tryz.prog 74=true:=by and_intros<;>kernel_rfl
@[go_sem] theorem fs40:aw Tryz.prog 77=true∧aw Tryz.prog 78=true∧aw Tryz.prog 79=true∧aw Tryz.prog 80=true∧aw Tryz.prog 81=true∧aw Tryz.prog 82=true∧aw Tryz.prog 83=true∧aw Tryz.prog 84=true∧aw Tryz.prog 85=true∧aw Tryz.prog 86=true:=by and_intros<;>kernel_rfl
@[go_sem] theorem fs41:aw Tryz.prog 87=true∧aw Tryz.prog 88=true∧aw Tryz.prog 89=true∧aw Tryz.prog 90=true∧aw Tryz.prog 91=true∧aw Tryz.prog 92=true∧aw Tryz.prog 93=true∧aw Tryz.prog 94=true∧aw Tryz.prog 95=true∧aw Tryz.prog 96=true:=by and_intros<;>kernel_rfl
@[go_sem] theorem fs42:aw Tryz.prog 97=true∧aw Tryz.prog 98=true∧aw Tryz.prog 99=true∧aw Tryz.prog 100=true∧aw Tryz.prog 101=true∧aw Tryz.prog 102=true∧aw Tryz.prog 103=true∧aw Tryz.prog 104=true∧aw Tryz.prog 105=true∧aw Tryz.prog 106=true:=by and_intros<;>kernel_rfl
@[go_sem] theorem fs43:aw Tryz.prog 107=true∧aw Tryz.prog 108=true∧aw Tryz.prog 109=true∧aw Tryz.prog 110=true∧aw Tryz.prog 111=true∧aw Tryz.prog 112=true∧aw Tryz.prog 113=true∧aw Tryz.prog 114=true∧aw Tryz.prog 115=true∧aw Tryz.prog 116=true:=by and_intros<;>kernel_rfl
@[go_sem] theorem fs44:aw Tryz.prog 117=true∧aw Tryz.prog 118=true∧aw Tryz.prog 119=true∧aw Tryz.prog 120=true∧aw Tryz.prog 121=true∧aw Tryz.prog 122=true∧aw Tryz.prog 123=true∧aw Tryz.prog 124=true∧aw Tryz.prog 125=true∧aw Tryz.prog 126=true:=by and_intros<;>kernel_rfl
@[go_sem] theorem fs45:aw Tryz.prog 127=true∧aw Tryz.prog 128=true∧aw Tryz.prog 130=true∧aw Tryz.prog 131=true∧aw Tryz.prog 133=true∧aw Tryz.prog 135=true∧aw Tryz.prog 137=true∧aw Tryz.prog 139=true∧aw Tryz.prog 140=true∧aw Tryz.prog 141=true:=by and_intros<;>kernel_rfl
@[go_sem] theorem fs46:aw Tryz.prog 142=true∧aw Tryz.prog 143=true∧aw Tryz.prog 144=true∧aw Tryz.prog 145=true∧aw Tryz.prog 147=true∧aw Tryz.prog 148=true∧aw Tryz.prog 149=true∧aw Tryz.prog 150=true∧aw Tryz.prog 151=true∧aw Tryz.prog 152=true:=by and_intros<;>kernel_rfl
@[go_sem] theorem fs47:aw Tryz.prog 153=true∧aw Tryz.prog 154=true∧aw Tryz.prog 155=true∧aw Tryz.prog 156=true∧aw Tryz.prog 157=true∧aw Tryz.prog 158=true∧aw Tryz.prog 159=true∧aw Tryz.prog 160=true∧aw Tryz.prog 161=true∧aw Tryz.prog 162=true:=by and_intros<;>kernel_rfl
@[go_sem] theorem fs48:aw Tryz.prog 163=true∧aw Tryz.prog 164=true∧aw Tryz.prog 165=true∧aw Tryz.prog 166=true∧aw Tryz.prog 167=true∧aw Tryz.prog 168=true∧aw Tryz.prog 169=true∧aw Tryz.prog 170=true∧aw Tryz.prog 171=true∧aw Tryz.prog 172=true:=by and_intros<;>kernel_rfl
@[go_sem] theorem fs49:aw Tryz.prog 173=true∧aw Tryz.prog 174=true∧aw Tryz.prog 175=true∧aw Tryz.prog 176=true∧aw Tryz.prog 177=true∧aw Tryz.prog 178=true∧aw Tryz.prog 179=true∧aw Tryz.prog 180=true∧aw Tryz.prog 181=true∧aw Tryz.prog 182=true:=by and_intros<;>kernel_rfl
@[go_sem] theorem fs50:aw Tryz.prog 183=true∧aw Tryz.prog 184=true∧aw Tryz.prog 185=true∧aw Tryz.prog 186=true∧aw Tryz.prog 187=true∧aw Tryz.prog 188=true∧aw Tryz.prog 189=true∧aw Tryz.prog 190=true∧aw Tryz.prog 191=true∧aw Tryz.prog 192=true:=by and_intros<;>kernel_rfl
@[go_sem] theorem fs51:aw Tryz.prog 193=true∧aw Tryz.prog 194=true∧aw Tryz.prog 195=true∧aw Tryz.prog 196=true∧aw Tryz.prog 197=true∧aw Tryz.prog 198=true∧aw Tryz.prog 201=true∧aw Tryz.prog 202=true∧aw Tryz.prog 207=true∧aw Tryz.prog 208=true:=by and_intros<;>kernel_rfl
@[go_sem] theorem fs52:aw Tryz.prog 209=true∧aw Tryz.prog 210=true∧aw Tryz.prog 211=true∧aw Tryz.prog 212=true∧aw Tryz.prog 213=true∧aw Tryz.prog 214=true∧aw Tryz.prog 215=true∧aw Tryz.prog 216=true∧aw Tryz.prog 217=true∧aw Tryz.prog 218=true:=by and_intros<;>kernel_rfl
@[go_sem] theorem fs53:aw Tryz.prog 219=true∧aw Tryz.prog 220=true∧aw Tryz.prog 221=true∧aw Tryz.prog 222=true∧aw Tryz.prog 223=true∧aw Tryz.prog 224=true∧aw Tryz.prog 225=true∧aw Tryz.prog 226=true∧aw Tryz.prog 227=true∧aw Tryz.prog 228=true:=by and_intros<;>kernel_rfl
@[go_sem] theorem fs54:aw Tryz.prog 229=true∧aw Tryz.prog 230=true∧aw Tryz.prog 231=true∧aw Tryz.prog 232=true∧aw Tryz.prog 233=true∧aw Tryz.prog 234=true∧aw Tryz.prog 235=true∧aw Tryz.prog 236=true∧aw Tryz.prog 237=true∧aw Tryz.prog 238=true:=by and_intros<;>kernel_rfl
@[go_sem] theorem fs55:aw Tryz.prog 239=true∧aw Tryz.prog 240=true∧aw Tryz.prog 241=true∧aw Tryz.prog 242=true∧aw Tryz.prog 243=true∧aw Tryz.prog 244=true∧aw Tryz.prog 245=true∧aw Tryz.prog 246=true∧aw Tryz.prog 247=true∧aw Tryz.prog 250=true:=by and_intros<;>kernel_rfl
@[go_sem] theorem fs56:aw Tryz.prog 251=true∧aw Tryz.prog 252=true∧aw Tryz.prog 253=true∧aw Tryz.prog 254=true∧aw Tryz.prog 255=true∧aw Tryz.prog 256=true∧aw Tryz.prog 258=true∧aw Tryz.prog 259=true∧aw Tryz.prog 260=true∧aw Tryz.prog 261=true:=by and_intros<;>kernel_rfl
@[go_sem] theorem fs57:aw Tryz.prog 262=true∧aw Tryz.prog 263=true∧aw Tryz.prog 266=true∧aw Tryz.prog 267=true∧aw Tryz.prog 268=true∧aw Tryz.prog 269=true∧aw Tryz.prog 270=true∧aw Tryz.prog 271=true∧aw Tryz.prog 272=true∧aw Tryz.prog 273=true:=by and_intros<;>kernel_rfl
@[go_sem] theorem fs58:aw Tryz.prog 274=true∧aw Tryz.prog 275=true∧aw Tryz.prog 276=true∧aw Tryz.prog 277=true∧aw Tryz.prog 278=true∧aw Tryz.prog 279=true∧aw Tryz.prog 281=true∧aw Tryz.prog 282=true∧aw Tryz.prog 283=true∧aw Tryz.prog 284=true:=by and_intros<;>kernel_rfl
@[go_sem] theorem fs59:aw Tryz.prog 285=true∧aw Tryz.prog 286=true∧aw Tryz.prog 287=true∧aw Tryz.prog 288=true∧aw Tryz.prog 289=true∧aw Tryz.prog 290=true∧aw Tryz.prog 291=true∧aw Tryz.prog 292=true∧aw Tryz.prog 293=true∧aw Tryz.prog 294=true:=by and_intros<;>kernel_rfl
@[go_sem] theorem fs60:aw Tryz.prog 295=true∧aw Tryz.prog 298=true∧aw Tryz.prog 299=true∧aw Tryz.prog 300=true∧aw Tryz.prog 301=true∧aw Tryz.prog 302=true∧aw Tryz.prog 304=true:=by and_intros<;>kernel_rfl
@[go_sem] theorem aL:Tryz.prog.follows .mixedOrders=true:=by kernel_rfl
theorem nI {f:FuncId} {fn:Func} {c:Code} {ss:List S} {pre post:List (Nat×aA)} {r:S} {N:Nat} (hf:Tryz.prog.funcs[f]? = some fn) (hb:fn.body=some c) (hN:fn.ntmps=N) (h:CW N Tryz.prog c (uQ Tryz.prog fn.results.toList r post) ⟨nu 0 ss,pre⟩) (hok:bE N c=true:=by rfl) (hlen:ss.length≤N:=by simp):aj Tryz.prog f ss pre r post:=aj.intro aL hf hb hN hok hlen h
open Go.RowKit
open Go.IntWalk renaming iteOmega → iO, toNatUp → tN
structure Vv where
 tr:Int
 op:Int
 wa:Bool
 st:Bool
@[go_sem] def bL (v:Vv):T:=.agg [.int v.tr,.int v.op,.bool v.wa,.bool v.st]
structure jJ (v:Vv):Prop where
 t1:1≤v.tr
 t2:v.tr≤60
 o1:0≤v.op
 o2:v.op≤v.tr
def de (v:Vv) (n:Nat):Vv:=if v.st then v else if v.wa then ⟨v.tr,min v.tr (v.op+n),v.wa,v.st⟩ else ⟨v.tr,max 0 (v.op - n),v.wa,v.st⟩
theorem zG {v:Vv} (h:jJ v) (n:Nat):jJ (de v n):=by
 obtain⟨a,b,c,d⟩:=h
 unfold de
 split
 ·exact⟨a,b,c,d⟩
 split
 ·constructor<;>dsimp only<;>omega
 ·constructor<;>dsimp only<;>omega
theorem Dc {v:Vv} (h:jJ v):de v 0=v:=by
 obtain⟨a,b,c,d⟩:=h
 obtain⟨t,o,w,s⟩:=v
 unfold de
 dsimp only at *
 split
 ·rfl
 split<;>congr 1<;>omega
theorem Cs {v:Vv} (h:jJ v) (n:Nat):de (de v n) 1=de v (n+1):=by
 obtain⟨a,b,c,d⟩:=h
 obtain⟨t,o,w,s⟩:=v
 unfold de
 dsimp only at *
 cases s<;>cases w<;>simp<;>omega
theorem iG (v:Vv) (h:jJ v):aj Tryz.prog 243 [.t (bL v)] [] (.t (.bool true)) []:=by
 obtain⟨a,b,c,d⟩:=h
 refine nI Tryz.func243 rfl Tryz.ntmps243 ?_
 refine ah ?_
 first|rw[av]|rw[ae]
 refine⟨[],?_⟩
 simp[go_sem,↓iO,iO,tN]
 exact d
theorem j9 (v:Vv) (h:jJ v):aj Tryz.prog 54 [.t (bL v)] [] (.t (.bool true)) []:=by
 obtain⟨a,b,c,d⟩:=h
 refine nI Tryz.func54 rfl Tryz.ntmps54 ?_
 refine ah ?_
 first|rw[av]|rw[ae]
 refine⟨[],?_⟩
 simp[go_sem,↓iO,iO,tN]
 exact d
theorem xL (v:Vv) (h:jJ v):aj Tryz.prog 237 [.t (bL v)] [] (.t (.bool (decide (v.op=v.tr)))) []:=by
 have c1:=iG v h
 refine nI Tryz.func237 rfl Tryz.ntmps237 ?_
 refine ah ?_
 refine ax c1 [] ?_
 refine ah ?_
 exact aF []
theorem JO (v:Vv) (h:jJ v):aj Tryz.prog 137 [.t (bL v)] [] (.t (.bool (decide (v.op=v.tr)))) []:=by
 have c1:=j9 v h
 refine nI Tryz.func137 rfl Tryz.ntmps137 ?_
 refine ah ?_
 refine ax c1 [] ?_
 refine ah ?_
 exact aF []
theorem zd (v:Vv) (h:jJ v) (b:Bool):aj Tryz.prog 240 [.t (bL v),.t (.bool b)] [] (.tup [.t (bL {v with wa:=b}),.t (.int 0)]) []:=by
 have c1:=iG v h
 refine nI Tryz.func240 rfl Tryz.ntmps240 ?_
 refine ah ?_
 refine ax c1 [] ?_
 refine ah ?_
 exact aF []
theorem rk (v:Vv) (h:jJ v) (b:Bool):aj Tryz.prog 258 [.t (bL v),.t (.bool b)] [] (.tup [.t (bL {v with wa:=b}),.t (.int 0)]) []:=by
 have c1:=j9 v h
 refine nI Tryz.func258 rfl Tryz.ntmps258 ?_
 refine ah ?_
 refine ax c1 [] ?_
 refine ah ?_
 exact aF []
theorem HL (v:Vv) (h:jJ v) (u:Vv) (hu:de v 1=u):aj Tryz.prog 244 [.t (bL v)] [] (.tup [.t (bL u),.t (.int 0)]) []:=by
 have c1:=iG v h
 obtain⟨a,b,c,d⟩:=h
 subst hu
 obtain⟨t,o,w,s⟩:=v
 dsimp only at *
 cases s
 ·cases w
  ·by_cases ho:0 < o
   ·have e1:max 0 (o - 1)=o - 1:=by omega
    refine nI Tryz.func244 rfl Tryz.ntmps244 ?_
    refine ah ?_
    refine ax c1 [] ?_
    refine ah ?_
    first|rw[av]|rw[ae]
    refine⟨[],?_⟩
    simp[go_sem,↓iO,iO,tN,de,e1]
   ·have e1:max 0 (o - 1)=o:=by omega
    refine nI Tryz.func244 rfl Tryz.ntmps244 ?_
    refine ah ?_
    refine ax c1 [] ?_
    refine ah ?_
    first|rw[av]|rw[ae]
    refine⟨[],?_⟩
    simp[go_sem,↓iO,iO,tN,de,e1]
  ·by_cases ho:o < t
   ·have e1:min t (o+1)=o+1:=by omega
    refine nI Tryz.func244 rfl Tryz.ntmps244 ?_
    refine ah ?_
    refine ax c1 [] ?_
    refine ah ?_
    first|rw[av]|rw[ae]
    refine⟨[],?_⟩
    simp[go_sem,↓iO,iO,tN,de,e1]
   ·have e1:min t (o+1)=o:=by omega
    refine nI Tryz.func244 rfl Tryz.ntmps244 ?_
    refine ah ?_
    refine ax c1 [] ?_
    refine ah ?_
    first|rw[av]|rw[ae]
    refine⟨[],?_⟩
    simp[go_sem,↓iO,iO,tN,de,e1]
 ·refine nI Tryz.func244 rfl Tryz.ntmps244 ?_
  refine ah ?_
  refine ax c1 [] ?_
  refine ah ?_
  first|rw[av]|rw[ae]
  refine⟨[],?_⟩
  simp[go_sem,↓iO,iO,tN,de]
theorem Gr (v:Vv) (h:jJ v) (n:Nat) (hn:n≤400):aj Tryz.prog 163 [.t (bL v),.t (.int n)] [] (.tup [.t (bL (de v n)),.t (.int 0)]) []:=by
 have c1:=iG v h
 obtain⟨X,hX⟩:∃ X:Nat→Vv,∀ j,X j=de v j:=⟨_,fun _=>rfl⟩
 have X0:X 0=v:=by rw[hX,Dc h]
 have Xs:∀ j,de (X j) 1=X (j+1):=fun j=>by rw[hX,hX,Cs h]
 have Xo:∀ j,jJ (X j):=fun j=>by rw[hX];exact zG h j
 rw[←hX]
 refine nI Tryz.func163 rfl Tryz.ntmps163 ?_
 refine ah ?_
 refine ax c1 [] ?_
 refine ah ?_
 refine oP ?_
 refine CW.loop (ι:=Nat) (fun j=>⟨[(1,.t (.int n)),(2,.pt 502 [] 0),(4,.pt 504 [] 0),(6,.t (.int j))],[(502,.box 134 (.t (bL (X j)))),(504,.box 134 (.t (.agg [.int 0,.int 0,.bool false,.bool false])))]⟩) (fun j=>j≤n) (fun j=>n - j) 0 [(502,some 102),(504,some 104)] (by omega) ?_ ?_
 ·exact dJ X0
 intro j hj
 by_cases hb:j < n
 ·have c2:=HL (X j) (Xo j) _ (Xs j)
  obtain⟨x,hx⟩:∃ x,X j=x:=⟨_,rfl⟩
  rw[hx]at c2 ⊢
  refine ah ?_
  refine ax c2 [] ?_
  refine ah ?_
  exact nY (j+1) [(502,some 502),(504,some 504)]
 ·obtain rfl:j=n:=by omega
  refine ah ?_
  exact aF []
theorem Jy (v:Vv):aj Tryz.prog 208 [.t (bL v)] [] (.t (.int (if v.wa then v.tr else 0))) []:=by
 obtain⟨t,o,w,s⟩:=v
 cases w
 ·refine nI Tryz.func208 rfl Tryz.ntmps208 ?_
  refine ah ?_
  exact aF []
 ·refine nI Tryz.func208 rfl Tryz.ntmps208 ?_
  refine ah ?_
  exact aF []
theorem GL (v:Vv) (h:jJ v) (n:Nat) (hn:n≤400) (u:Vv) (hu:de v n=u):aj Tryz.prog 207 [.t (bL v),.t (.int n)] [] (.t (bL u)) []:=by
 have c1:=Jy v
 obtain⟨a,b,c,d⟩:=h
 subst hu
 obtain⟨t,o,w,s⟩:=v
 dsimp only at *
 refine nI Tryz.func207 rfl Tryz.ntmps207 ?_
 refine ah ?_
 refine ax c1 [] ?_
 cases s
 ·cases w
  ·by_cases ho:max 0 (o - n)=o
   ·refine aJ ho ?_
    first|rw[av]|rw[ae]
    refine⟨[],?_⟩
    simp[go_sem,↓iO,iO,tN,de,ho]
   ·refine aJ ho ?_
    first|rw[av]|rw[ae]
    refine⟨[],?_⟩
    simp[go_sem,↓iO,iO,tN,de,ho]
  ·by_cases ho:o < t
   ·by_cases hm:min t (o+n)=o
    ·refine aJ hm ?_
     first|rw[av]|rw[ae]
     refine⟨[],?_⟩
     simp[go_sem,↓iO,iO,tN,de,hm]
    ·refine aJ hm ?_
     first|rw[av]|rw[ae]
     refine⟨[],?_⟩
     simp[go_sem,↓iO,iO,tN,de,hm]
   ·have e1:min t (o+n)=t:=by omega
    have e2:max t (o - n)=t:=by omega
    obtain rfl:o=t:=by omega
    refine aJ e2 ?_
    first|rw[av]|rw[ae]
    refine⟨[],?_⟩
    simp[go_sem,↓iO,iO,tN,de,e1]
 ·refine ah ?_
  first|rw[av]|rw[ae]
  refine⟨[],?_⟩
  simp[go_sem,↓iO,iO,tN,de]
theorem KF (v:Vv) (h:jJ v) (n:Nat) (hn:n≤400):aj Tryz.prog 135 [.t (bL v),.t (.int n)] [] (.tup [.t (bL (de v n)),.t (.int 0)]) []:=by
 have c1:=j9 v h
 have c2:=GL v h n hn _ rfl
 obtain⟨u,hu⟩:∃ u,de v n=u:=⟨_,rfl⟩
 rw[hu]at c2 ⊢
 refine nI Tryz.func135 rfl Tryz.ntmps135 ?_
 refine ah ?_
 refine ax c1 [] ?_
 refine ah ?_
 refine ax c2 [] ?_
 refine ah ?_
 exact aF []
end Go.Proofs.YtocndodilpimnaaGreat
