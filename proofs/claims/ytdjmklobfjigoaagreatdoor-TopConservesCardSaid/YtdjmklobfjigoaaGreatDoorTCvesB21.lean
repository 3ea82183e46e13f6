import Derived.Test.YtdjmklobfjigoaaGreatDoorTCvesB20
import Derived.Test.YtdjmklobfjigoaaGreatDoorTCvesB9
import Derived.Lib.Strings
import Derived.Lib.Walk
import Derived.WalkKit
import Derived.Lib.Bytealg
import Derived.MapKept
import Derived.Test.YtdjmklobfjigoaaGreatDoorTCvesB8
import Derived.Orders
import Derived.OrdersIn
import Derived.TacticsInMore
import Derived.OwnWalkIn
import Derived.Lib.ConvBytes
import Derived.Lib.Atoi
import Derived.Lib.ItoaWalk
import Derived.Lib.Hide
import Derived.Laws.Strings3
import Derived.BigCall
import Derived.BigGuard
import Derived.Test.YtdjmklobfjigoaaGreatDoorTCvesB11
import Derived.Test.YtdjmklobfjigoaaGreatDoorTCvesB10
set_option maxRecDepth 100000
set_option maxHeartbeats 16000000
set_option linter.unusedVariables false
set_option linter.unusedSimpArgs false
namespace Go.Proofs.YtdjmklobfjigoaaGreatDoor.Sy
open Go.RowKit
set_option maxHeartbeats 1000000
mutual
def S.tree (bor:List Nat) (h:Nat→Option Blk):S→Option T
 | .t x=>some x
 | .own l=>bif bor.contains l then match h l with
  | some (.list _ s xs)=>some (.sl s xs)
  | some (.rows _ s us [])=>some (.sl s (us.map U.toT))
  | _=>none else none
 | .ag fs=>match S.trees bor h fs with
  | some xs=>some (.agg xs)
  | none=>none
 | _=>none
def S.trees (bor:List Nat) (h:Nat→Option Blk):List S→Option (List T)
 | []=>some []
 | x :: r=>match x.tree bor h with
  | some y=>match S.trees bor h r with
   | some q=>bif Nat.beq y.width x.width then some (y :: q) else none
   | none=>none
  | none=>none
end
section
variable {bor:List Nat} {h:Nat→Option Blk}
section
variable {ρ:List (Nat×Nat)}
mutual
theorem tree_argR:∀ (s:S) (x:T),s.tree bor h=some x→argR ρ h bor s (.t x)
 | .dead,x,e=>by simp only[S.tree]at e;cases e
 | .t y,x,e=>by simp only[S.tree]at e;cases e;unfold argR;exact wkT_refl y
 | .rp y,x,e=>by simp only[S.tree]at e;cases e
 | .own l,x,e=>by
  simp only[S.tree]at e
  cases hc:bor.contains l<;>rw[hc]at e<;>simp only[cond_true,cond_false]at e
  ·cases e
  have hm:l∈bor:=by simpa using hc
  split at e
  ·rename_i hl
   cases e;unfold argR
   refine⟨hm,?_⟩
   rw[hl];exact⟨rfl,rfl⟩
  ·rename_i hl
   cases e;unfold argR
   refine⟨hm,?_⟩
   rw[hl];exact⟨rfl,rfl,rfl⟩
  ·cases e
 | .pt _ _ _,x,e=>by simp only[S.tree]at e;cases e
 | .wn _ _ _ _,x,e=>by simp only[S.tree]at e;cases e
 | .cl _ _,x,e=>by simp only[S.tree]at e;cases e
 | .ag fs,x,e=>by
  simp only[S.tree]at e
  split at e
  ·rename_i xs hx
   cases e;unfold argR;exact trees_argRs fs xs hx
  ·cases e
 | .tup _,x,e=>by simp only[S.tree]at e;cases e
 | .fn _ _,x,e=>by simp only[S.tree]at e;cases e
 | .fb _ _,x,e=>by simp only[S.tree]at e;cases e
theorem trees_argRs:∀ (fs:List S) (xs:List T),S.trees bor h fs=some xs→argRs ρ h bor fs (xs.map S.t)
 | [],xs,e=>by simp only[S.trees]at e;cases e;simp only[List.map_nil];unfold argRs;trivial
 | x :: r,xs,e=>by
  simp only[S.trees]at e
  split at e
  ·rename_i y hy
   split at e
   ·rename_i q hq
    cases hw:Nat.beq y.width x.width<;>rw[hw]at e<;>simp only[cond_true,cond_false]at e<;>cases e
    simp only[List.map_cons]
    unfold argRs
    exact⟨Nat.eq_of_beq_eq_true hw,tree_argR x y hy,trees_argRs r q hq⟩
   ·cases e
  ·cases e
end
end
section
variable {ρ:List (Nat×Option Nat)}
mutual
theorem tree_wk (hb:∀ l∈bor,offR l ρ=true):∀ (s:S) (x:T),s.tree bor h=some x→wkS ρ h s (.t x)
 | .dead,x,e=>by simp only[S.tree]at e;cases e
 | .t y,x,e=>by simp only[S.tree]at e;cases e;unfold wkS;exact wkT_refl y
 | .rp y,x,e=>by simp only[S.tree]at e;cases e
 | .own l,x,e=>by
  simp only[S.tree]at e
  cases hc:bor.contains l<;>rw[hc]at e<;>simp only[cond_true,cond_false]at e
  ·cases e
  have hm:l∈bor:=by simpa using hc
  split at e
  ·rename_i hl
   cases e;unfold wkS
   refine⟨hb l hm,?_⟩
   rw[hl];exact⟨rfl,rfl⟩
  ·rename_i hl
   cases e;unfold wkS
   refine⟨hb l hm,?_⟩
   rw[hl];exact⟨rfl,rfl,rfl⟩
  ·cases e
 | .pt _ _ _,x,e=>by simp only[S.tree]at e;cases e
 | .wn _ _ _ _,x,e=>by simp only[S.tree]at e;cases e
 | .cl _ _,x,e=>by simp only[S.tree]at e;cases e
 | .ag fs,x,e=>by
  simp only[S.tree]at e
  split at e
  ·rename_i xs hx
   cases e;unfold wkS;exact trees_wk hb fs xs hx
  ·cases e
 | .tup _,x,e=>by simp only[S.tree]at e;cases e
 | .fn _ _,x,e=>by simp only[S.tree]at e;cases e
 | .fb _ _,x,e=>by simp only[S.tree]at e;cases e
theorem trees_wk (hb:∀ l∈bor,offR l ρ=true):∀ (fs:List S) (xs:List T),S.trees bor h fs=some xs→wkSs ρ h fs (xs.map S.t)
 | [],xs,e=>by simp only[S.trees]at e;cases e;simp only[List.map_nil];unfold wkSs;trivial
 | x :: r,xs,e=>by
  simp only[S.trees]at e
  split at e
  ·rename_i y hy
   split at e
   ·rename_i q hq
    cases hw:Nat.beq y.width x.width<;>rw[hw]at e<;>simp only[cond_true,cond_false]at e<;>cases e
    simp only[List.map_cons]
    unfold wkSs
    exact⟨Nat.eq_of_beq_eq_true hw,tree_wk hb x y hy,trees_wk hb r q hq⟩
   ·cases e
  ·cases e
end
end
end
mutual
def S.labs:S→List Nat
 | .own l=>[l]
 | .pt l _ _=>[l]
 | .wn l _ _ _=>[l]
 | .ag fs=>S.labss fs
 | .tup fs=>S.labss fs
 | .fn _ fs=>S.labss fs
 | .fb _ fs=>S.labss fs
 | _=>[]
def S.labss:List S→List Nat
 | []=>[]
 | x :: r=>x.labs++S.labss r
end
mutual
def S.plabs:S→List Nat
 | .pt l _ _=>[l]
 | .wn l _ _ _=>[l]
 | .ag fs=>S.plabss fs
 | .tup fs=>S.labss fs
 | .fn _ fs=>S.labss fs
 | .fb _ fs=>S.labss fs
 | _=>[]
def S.plabss:List S→List Nat
 | []=>[]
 | x :: r=>x.plabs++S.plabss r
end
mutual
def S.olabs:S→List Nat
 | .own l=>[l]
 | .ag fs=>S.olabss fs
 | _=>[]
def S.olabss:List S→List Nat
 | []=>[]
 | x :: r=>x.olabs++S.olabss r
end
def blabs:Option Blk→List Nat
 | some (.box _ c)=>c.labs
 | _=>[]
def addN:List Nat→List Nat→List Nat
 | [],a=>a
 | l :: r,a=>bif a.contains l then addN r a else addN r (a++[l])
def clos (h:Nat→Option Blk):Nat→List Nat→List Nat
 | 0,a=>a
 | k+1,a=>clos h k (addN (a.flatMap fun l=>blabs (h l)) a)
def maxL:List Nat→Nat→Nat
 | [],m=>m
 | l :: r,m=>maxL r (bif Nat.blt l m then m else l+1)
def topG:List (Nat×S)→Nat→Nat
 | [],m=>m
 | (_,s) :: r,m=>topG r (maxL s.labs m)
def topH:List (Nat×Blk)→Nat→Nat
 | [],m=>m
 | (l,b) :: r,m=>topH r (maxL (l :: blabs (some b)) m)
mutual
def flatTb:T→Bool
 | .lit _=>true
 | .sl _ _=>false
 | .agg fs=>flatTsb fs
def flatTsb:List T→Bool
 | []=>true
 | x :: r=>flatTb x && flatTsb r
end
mutual
theorem flatTb_spec:∀ x:T,flatTb x=true→flatT x
 | .lit _,_=>by unfold flatT;trivial
 | .sl _ _,h=>by simp only[flatTb]at h;cases h
 | .agg fs,h=>by simp only[flatTb]at h;unfold flatT;exact flatTsb_spec fs h
theorem flatTsb_spec:∀ xs:List T,flatTsb xs=true→flatTs xs
 | [],_=>by unfold flatTs;trivial
 | x :: r,h=>by
  simp only[flatTsb,Bool.and_eq_true]at h
  unfold flatTs
  exact⟨flatTb_spec x h.1,flatTsb_spec r h.2⟩
end
mutual
def flatSb:S→Bool
 | .dead=>true
 | .t x=>flatTb x
 | .rp _=>false
 | .own _=>true
 | .pt _ _ _=>true
 | .wn _ _ _ _=>true
 | .cl _ _=>false
 | .ag fs=>flatSsb fs
 | .tup fs=>flatSsb fs
 | .fn _ fs=>flatSsb fs
 | .fb _ fs=>flatSsb fs
def flatSsb:List S→Bool
 | []=>true
 | x :: r=>flatSb x && flatSsb r
end
mutual
theorem flatSb_spec:∀ x:S,flatSb x=true→flatS x
 | .dead,_=>by unfold flatS;trivial
 | .t x,h=>by simp only[flatSb]at h;unfold flatS;exact flatTb_spec x h
 | .rp _,h=>by simp only[flatSb]at h;cases h
 | .own _,_=>by unfold flatS;trivial
 | .pt _ _ _,_=>by unfold flatS;trivial
 | .wn _ _ _ _,_=>by unfold flatS;trivial
 | .cl _ _,h=>by simp only[flatSb]at h;cases h
 | .ag fs,h=>by simp only[flatSb]at h;unfold flatS;exact flatSsb_spec fs h
 | .tup fs,h=>by simp only[flatSb]at h;unfold flatS;exact flatSsb_spec fs h
 | .fn _ fs,h=>by simp only[flatSb]at h;unfold flatS;exact flatSsb_spec fs h
 | .fb _ fs,h=>by simp only[flatSb]at h;unfold flatS;exact flatSsb_spec fs h
theorem flatSsb_spec:∀ xs:List S,flatSsb xs=true→flatSs xs
 | [],_=>by unfold flatSs;trivial
 | x :: r,h=>by
  simp only[flatSsb,Bool.and_eq_true]at h
  unfold flatSs
  exact⟨flatSb_spec x h.1,flatSsb_spec r h.2⟩
end
def flatHb:List (Nat×Blk)→Bool
 | []=>true
 | (_,.list _ _ xs) :: r=>flatTsb xs && flatHb r
 | (_,.box _ c) :: r=>flatSb c && flatHb r
 | (_,.rows _ _ _ _) :: r=>false
theorem flatHb_spec:∀ h:List (Nat×Blk),flatHb h=true→flatH h
 | [],_=>trivial
 | (_,.list _ _ xs) :: r,h=>by
  simp only[flatHb,Bool.and_eq_true]at h
  exact⟨flatTsb_spec xs h.1,flatHb_spec r h.2⟩
 | (_,.box _ c) :: r,h=>by
  simp only[flatHb,Bool.and_eq_true]at h
  exact⟨flatSb_spec c h.1,flatHb_spec r h.2⟩
 | (_,.rows _ _ _ _) :: r,h=>by simp only[flatHb]at h;cases h
def argX (m:List (Nat×Nat)) (bor:List Nat) (h:Nat→Option Blk) (a:S):Option S:=match a.rel m with
 | some s=>match a with
  | .ag fs=>match s with
   | .ag gs=>some (.ag gs)
   | _=>none
  | _=>some s
 | none=>match a.tree bor h with
  | some x=>some (.t x)
  | none=>none
def argsX (m:List (Nat×Nat)) (bor:List Nat) (h:Nat→Option Blk):List S→Option (List S)
 | []=>some []
 | a :: r=>match argX m bor h a with
  | some s=>match argsX m bor h r with
   | some q=>some (s :: q)
   | none=>none
  | none=>none
theorem argX_spec {m:List (Nat×Nat)} {ρ:List (Nat×Nat)} {bor:List Nat} {h:Nat→Option Blk} (hm:∀ l l',mlk m l=some l'→rn ρ l'=l) {a s:S} (e:argX m bor h a=some s):argR ρ h bor a s:=by
 unfold argX at e
 split at e
 ·rename_i s0 hs
  have hr:=rel_ren hm _ _ hs
  cases a with
  | ag fs=>
   simp only at e
   split at e
   ·rename_i gs
    cases e
    unfold argR
    exact hr
   ·cases e
  | dead=>simp only[Option.some.injEq]at e;subst e;simp only[S.rel]at hs;cases hs;unfold argR;rfl
  | t x=>simp only[Option.some.injEq]at e;subst e;simp only[S.rel]at hs;cases hs;unfold argR;exact wkT_refl x
  | rp x=>simp only[Option.some.injEq]at e;subst e;simp only[S.rel]at hs;cases hs;unfold argR;rfl
  | own l=>simp only[Option.some.injEq]at e;subst e;simp only[S.rel]at hs;(split at hs<;>cases hs);unfold argR;exact hr
  | pt l p o=>simp only[Option.some.injEq]at e;subst e;simp only[S.rel]at hs;(split at hs<;>cases hs);unfold argR;exact hr
  | wn l p o n=>simp only[Option.some.injEq]at e;subst e;simp only[S.rel]at hs;(split at hs<;>cases hs);unfold argR;exact hr
  | cl _ _=>simp only[S.rel]at hs;cases hs
  | tup fs=>simp only[Option.some.injEq]at e;subst e;simp only[S.rel]at hs;(split at hs<;>cases hs);unfold argR;exact hr
  | fn f fs=>simp only[Option.some.injEq]at e;subst e;simp only[S.rel]at hs;(split at hs<;>cases hs);unfold argR;exact hr
  | fb f fs=>simp only[Option.some.injEq]at e;subst e;simp only[S.rel]at hs;(split at hs<;>cases hs);unfold argR;exact hr
 ·split at e
  ·rename_i x hx
   cases e
   exact tree_argR _ _ hx
  ·cases e
theorem argsX_spec {m:List (Nat×Nat)} {ρ:List (Nat×Nat)} {bor:List Nat} {h:Nat→Option Blk} (hm:∀ l l',mlk m l=some l'→rn ρ l'=l):∀ {az ss:List S},argsX m bor h az=some ss→argPs ρ h bor az ss
 | [],ss,e=>by simp only[argsX]at e;cases e;unfold argPs;trivial
 | a :: r,ss,e=>by
  simp only[argsX]at e
  split at e
  ·rename_i s hs
   split at e
   ·rename_i q hq
    cases e
    unfold argPs
    exact⟨argX_spec hm hs,argsX_spec hm hq⟩
   ·cases e
  ·cases e
def enumM:List Nat→Nat→List (Nat×Nat)
 | [],_=>[]
 | l :: r,k=>(l,k) :: enumM r (k+1)
def freshM:List Nat→Nat→List (Nat×Nat)
 | [],_=>[]
 | l :: r,k=>(l,k) :: freshM r (k+1)
def chkR (m ρ:List (Nat×Nat)):Bool:=m.all fun q=>Nat.beq (rn ρ q.2) q.1
theorem chkR_spec {m ρ:List (Nat×Nat)} (h:chkR m ρ=true):∀ p∈m,rn ρ p.2=p.1:=fun p hp=>Nat.eq_of_beq_eq_true (List.all_eq_true.1 h p hp)
def borB (h:Nat→Option Blk):List Nat→Bool
 | []=>true
 | l :: r=>(h l).isSome && borB h r
theorem borB_spec {h:Nat→Option Blk}:∀ {ls:List Nat},borB h ls=true→borR h ls
 | [],_=>trivial
 | l :: r,e=>by
  simp only[borB,Bool.and_eq_true]at e
  exact⟨e.1,borB_spec e.2⟩
def callC (ev:FuncId→List S→List (Nat×Blk)→Option (S×List (Nat×Blk))) (σ:St) (f:FuncId) (az:List S):Option Eff:=
 let h:=lkB σ.h
 let m:=enumM (clos h 4 (addN (S.plabss az) [])) 0
 let bor:=(addN (S.olabss az) []).filter fun l=>!((m.map (·.1)).contains l)
 match argsX m bor h az with
 | some ss=>match relH m σ.h m with
  | some pre=>match ev f ss pre with
   | some (r,post)=>
    let ρ:=m.map (fun q=>(q.2,q.1))++freshM (newL pre post) (topH σ.h (topG σ.g (maxL (S.labss az) 1000)))
    let fl:=bor.isEmpty || (flatSb r && flatHb post)
    let bo:=bif fl then bor else []
    let fr:=bif fl then [] else bor
    bif callChk ρ (bo++fr) pre post r && chkR m ρ && borB h (bo++fr) then some (callE ρ bo fr pre post r) else none
   | none=>none
  | none=>none
 | none=>none
theorem callC_spec {P:Program} {ev:FuncId→List S→List (Nat×Blk)→Option (S×List (Nat×Blk))} (hev:∀ f ss pre r post,ev f ss pre=some (r,post)→FnOk P f ss pre r post) (σ:St):CfOk P (lkB σ.h) (callC ev σ):=by
 intro f az E e
 unfold callC at e
 simp only at e
 generalize enumM (clos (lkB σ.h) 4 (addN (S.plabss az) [])) 0=m at e
 generalize ((addN (S.olabss az) []).filter fun l=>!((m.map (·.1)).contains l))=bor at e
 split at e
 ·rename_i ss hss
  split at e
  ·rename_i pre hpre
   split at e
   ·rename_i r post hr
    generalize (m.map (fun q=>(q.2,q.1))++freshM (newL pre post) (topH σ.h (topG σ.g (maxL (S.labss az) 1000))))=ρ at e
    have hfn:=hev f ss pre r post hr
    have go:∀ bo fr,bo++fr=bor→(bo=[]∨(flatS r∧flatH post))→(bif callChk ρ (bo++fr) pre post r && chkR m ρ && borB (lkB σ.h) (bo++fr) then some (callE ρ bo fr pre post r) else none)=some E→
      CallOk P f az (lkB σ.h) E∧∀ l∈E.nw,100≤l:=by
     intro bo fr hb hfl e
     cases hc:(callChk ρ (bo++fr) pre post r && chkR m ρ && borB (lkB σ.h) (bo++fr))<;>rw[hc]at e<;>simp only[cond_true,cond_false]at e
     ·cases e
     cases e
     simp only[Bool.and_eq_true]at hc
     have hm:=chkR_spec hc.1.2
     have hm':∀ l l',mlk m l=some l'→rn ρ l'=l:=fun l l' e=>hm (l,l') (mlk_mem e)
     have:=CallK.fn (K:=fun E=>E=callE ρ bo fr pre post r) (d:=0) hfn ρ bo fr hc.1.1 (by rw[hb];exact argsX_spec hm' hss) (relH_ren hm' hm hpre) (borB_spec hc.2) hfl rfl
     obtain⟨E,h1,h2,rfl⟩:=this
     exact⟨h1,h2⟩
    cases hf:(bor.isEmpty || (flatSb r && flatHb post))<;>rw[hf]at e<;>simp only[cond_true,cond_false]at e
    ·exact go [] bor rfl (.inl rfl) e
    ·refine go bor [] (by simp) ?_ e
     simp only[Bool.or_eq_true,Bool.and_eq_true,List.isEmpty_iff]at hf
     exact hf.imp id fun h=>⟨flatSb_spec r h.1,flatHb_spec post h.2⟩
   ·cases e
  ·cases e
 ·cases e
def retX (
     P:Program) (g:Nat→S) (h:Nat→Option Blk):List ResultVar→Option (List S)
 | []=>some []
 | .tmp t :: r=>match retX P g h r with
  | some l=>some (g t :: l)
  | none=>none
 | .cell a t :: r=>match g a with
  | .pt l p off=>match h l with
   | some blk=>match blk.at p with
    | some (o,y)=>gd (o=off∧y.solid=true∧okLd P t y) (match retX P g h r with
     | some l=>some (y :: l)
     | none=>none)
    | none=>none
   | none=>none
  | _=>none
theorem retX_spec {P:Program} {g:Nat→S} {h:Nat→Option Blk}:∀ {rs:List ResultVar} {l:List S} {K:List S→Prop},retX P g h rs=some l→K l→retK P g h rs K
 | [],l,K,e,hK=>by simp only[retX]at e;cases e;exact hK
 | .tmp t :: r,l,K,e,hK=>by
  simp only[retX]at e
  split at e
  ·rename_i l' hl
   cases e
   exact retX_spec (K:=fun l=>K (g t :: l)) hl hK
  ·cases e
 | .cell a t :: r,l,K,e,hK=>by
  simp only[retX]at e
  simp only[retK]
  split at e
  ·rename_i l0 p off ha
   simp only[ha]
   split at e
   ·rename_i blk hl
    simp only[hl]
    split at e
    ·rename_i o y hat
     simp only[hat]
     rw[gd_some]at e
     obtain⟨⟨h1,h2,h3⟩,e⟩:=e
     refine⟨h1,h2,h3,?_⟩
     split at e
     ·rename_i l' hl'
      cases e
      exact retX_spec (K:=fun l=>K (y :: l)) hl' hK
     ·cases e
    ·cases e
   ·cases e
  ·cases e
def outX (m:List (Nat×Nat)) (fz:List Nat) (h:Nat→Option Blk) (s:S):Option S:=match s.tree fz h with
 | some x=>some (.t x)
 | none=>s.rel m
theorem outX_spec {m:List (Nat×Nat)} {ρ:List (Nat×Option Nat)} {fz:List Nat} {h:Nat→Option Blk} (hm:∀ l l',mlk m l=some l'→lkR ρ l'=some (some l)) (hb:∀ l∈fz,offR l ρ=true) {s s':S} (e:outX m fz h s=some s'):wkS ρ h s s':=by
 unfold outX at e
 split at e
 ·rename_i x hx
  cases e
  exact tree_wk hb _ _ hx
 ·exact rel_wk hm _ _ e
def outsX (m:List (Nat×Nat)) (fz:List Nat) (h:Nat→Option Blk):List S→Option (List S)
 | []=>some []
 | s :: r=>match outX m fz h s with
  | some s'=>match outsX m fz h r with
   | some q=>some (s' :: q)
   | none=>none
  | none=>none
theorem outsX_spec {m:List (Nat×Nat)} {ρ:List (Nat×Option Nat)} {fz:List Nat} {h:Nat→Option Blk} (hm:∀ l l',mlk m l=some l'→lkR ρ l'=some (some l)) (hb:∀ l∈fz,offR l ρ=true):∀ {ss q:List S},outsX m fz h ss=some q→wkPs ρ h ss q
 | [],q,e=>by simp only[outsX]at e;cases e;unfold wkPs;trivial
 | s :: r,q,e=>by
  simp only[outsX]at e
  split at e
  ·rename_i s' hs
   split at e
   ·rename_i q' hq
    cases e
    unfold wkPs
    exact⟨outX_spec hm hb hs,outsX_spec hm hb hq⟩
   ·cases e
  ·cases e
theorem wk_oneOf {ρ:List (Nat×Option Nat)} {h:Nat→Option Blk} {ss q:List S} (hw:wkPs ρ h ss q):wkS ρ h (oneOf ss) (oneOf q):=by
 match ss,q,hw with
 | [],[],hw=>unfold oneOf;unfold wkS;exact hw
 | [s],[s'],hw=>unfold wkPs at hw;exact hw.1
 | s :: s2 :: r,s' :: s2' :: r',hw=>unfold oneOf;unfold wkS;exact hw
 | [],_ :: _,hw=>unfold wkPs at hw;exact hw.elim
 | _ :: _,[],hw=>unfold wkPs at hw;exact hw.elim
 | [s],_ :: _ :: _,hw=>unfold wkPs at hw;unfold wkPs at hw;exact hw.2.elim
 | _ :: _ :: _,[s],hw=>unfold wkPs at hw;unfold wkPs at hw;exact hw.2.elim
def offsB (fz:List Nat) (ρ:List (Nat×Option Nat)):Bool:=fz.all fun l=>offR l ρ
noncomputable def finX (P:Program) (frz:Bool) (rs:List ResultVar) (σ:St):Option (S×List (Nat×Blk)):=
 let h:=lkB σ.h
 match retX P (lkQ σ.g) h rs with
 | some l=>
  let fz:=bif frz then addN (S.olabss l) [] else []
  let low:=((σ.h.map (·.1)).filter fun l=>Nat.blt l 100)
  let keep:=(clos h 4 (addN (bif frz then S.plabss l else S.labss l) low)).filter fun l=>!fz.contains l
  let m:=fltM σ.h (fltM σ.h (keep.map fun l=>(l,l)))
  let ρ:=rhoM m
  match outsX m fz h l with
  | some q=>match relH m σ.h m with
   | some post=>bif rhoOk ρ && chkM m ρ && offsB fz ρ then some (oneOf q,post) else none
   | none=>none
  | none=>none
 | none=>none
theorem finX_spec {P:Program} {frz:Bool} {rs:List ResultVar} {σ:St} {r:S} {post:List (Nat×Blk)} (e:finX P frz rs σ=some (r,post)):RetQ P rs r post .ret σ:=by
 unfold finX at e
 simp only[lkQ_eq]at e
 split at e
 ·rename_i l hl
  generalize (bif frz then addN (S.olabss l) [] else [])=fz at e
  generalize (fltM σ.h (fltM σ.h (((clos (lkB σ.h) 4 (addN (bif frz then S.plabss l else S.labss l) ((σ.h.map (·.1)).filter fun l=>Nat.blt l 100))).filter fun l=>!fz.contains l).map fun l=>(l,l))))=m at e
  split at e
  ·rename_i q hq
   split at e
   ·rename_i post' hp
    cases hc:(rhoOk (rhoM m) && chkM m (rhoM m) && offsB fz (rhoM m))<;>rw[hc]at e<;>simp only[cond_true,cond_false]at e
    ·cases e
    cases e
    simp only[Bool.and_eq_true]at hc
    have h1:=chkM_spec hc.1.2
    have hm:∀ l l',mlk m l=some l'→lkR (rhoM m) l'=some (some l):=fun l l' e=>h1 (l,l') (mlk_mem e)
    have hb:∀ l∈fz,offR l (rhoM m)=true:=fun l hl=>List.all_eq_true.1 hc.2 l hl
    exact⟨rhoM m,retX_spec hl ⟨hc.1.1,wk_oneOf (outsX_spec hm hb hq),relH_wk hm h1 hp⟩⟩
   ·cases e
  ·cases e
 ·cases e
noncomputable def evF (P:Program) (kn:FuncId→List S→List (Nat×Blk)→Option (S×List (Nat×Blk))) (fz:List FuncId) (fuel:Nat):Nat→FuncId→List S→List (Nat×Blk)→Option (S×List (Nat×Blk))
 | 0,_,_,_=>none
 | n+1,f,ss,pre=>match kn f ss pre with
  | some q=>some q
  | none=>match P.funcs[f]? with
   | some fn=>match fn.body with
    | some c=>bif okCode fn.ntmps c && Nat.ble ss.length fn.ntmps then match evC P (callC (evF P kn fz fuel n)) fuel c ⟨enumS 0 ss,pre⟩ with
      | some (.ret,σ)=>finX P (fz.contains f) fn.results.toList σ
      | some (.normal,σ)=>finX P (fz.contains f) fn.results.toList σ
      | _=>none
     else none
    | none=>none
   | none=>none
theorem evF_spec {P:Program} {kn:FuncId→List S→List (Nat×Blk)→Option (S×List (Nat×Blk))} {fz:List FuncId} {fuel:Nat} (hm:P.follows .mixedOrders=true) (hkn:∀ f ss pre r post,kn f ss pre=some (r,post)→FnOk P f ss pre r post) :
  ∀ (n:Nat) (f:FuncId) (ss:List S) (pre:List (Nat×Blk)) (r:S) (post:List (Nat×Blk)),evF P kn fz fuel n f ss pre=some (r,post)→FnOk P f ss pre r post
 | 0,f,ss,pre,r,post,e=>by simp only[evF]at e;cases e
 | n+1,f,ss,pre,r,post,e=>by
  simp only[evF]at e
  split at e
  ·rename_i q hq
   cases e
   exact hkn _ _ _ _ _ hq
  ·split at e
   ·rename_i fn hfn
    split at e
    ·rename_i c hc
     cases hok:(okCode fn.ntmps c && Nat.ble ss.length fn.ntmps)<;>rw[hok]at e<;>simp only[cond_true,cond_false]at e
     ·cases e
     rw[Bool.and_eq_true]at hok
     refine FnOk.intro hm hfn hc rfl hok.1 (Nat.le_of_ble_eq_true hok.2) ?_
     have hcf:=fun σ=>callC_spec (evF_spec (fz:=fz) (fuel:=fuel) hm hkn n) σ
     split at e
     ·rename_i σ hσ
      exact evC_sound hcf c _ σ .ret _ hσ (finX_spec e)
     ·rename_i σ hσ
      exact evC_sound hcf c _ σ .normal _ hσ (finX_spec e)
     ·cases e
    ·cases e
   ·cases e
def noKn:FuncId→List S→List (Nat×Blk)→Option (S×List (Nat×Blk)):=fun _ _ _=>none
theorem noKn_ok {P:Program}:∀ f ss pre r post,noKn f ss pre=some (r,post)→FnOk P f ss pre r post:=fun _ _ _ _ _ h=>by cases h
end Go.Proofs.YtdjmklobfjigoaaGreatDoor.Sy
namespace Go.Proofs.YtdjmklobfjigoaaGreatDoor
open Go.RowKit Sy
theorem sib_fn (s:ByteArray) (c:Int):FnOk Tryz.prog 131 [.t (.lit (.string s)),.t (.lit (.int .u8 c))] [] (.t (.int (Lib.indexByte s.data.toList c.toNat.toUInt8))) []:=by
 intro G w us hh hr
 unfold RepPs at hr
 obtain⟨u1,r1,rfl,h1,hr⟩:=hr
 unfold RepPs at hr
 obtain⟨u2,r2,rfl,h2,hr⟩:=hr
 unfold RepPs at hr
 subst hr
 unfold RepS Rep at h1 h2
 obtain⟨rfl,_⟩:=h1
 obtain⟨rfl,_⟩:=h2
 have key:Calls Tryz.prog 131 #[.string s,.int .u8 c] w fun e w'=>e = .returned (.int .i64 (Lib.indexByte s.data.toList c.toNat.toUInt8))∧w'=w:=by
  go_enter Tryz.func131,Tryz.ntmps131
  go_wp2
  rw[run_callFunc_extern Tryz.func143 (by kernel_rfl) (by kernel_rfl) (by kernel_rfl) (e:=Extern.BytealgIndexByte.indexByte) (by kernel_rfl),Lib.run_indexByteString]
  simp only[Result.andThen]
  rw[Oper.upon_value]
  go_wp2
  go_ret
  exact⟨rfl,rfl⟩
 refine key.mono ?_
 rintro e w' ⟨rfl,rfl⟩
 exact⟨_,G,rfl,⟨rfl,rfl,rfl,Nat.le_refl _,fun _ _ _=>rfl,fun l b k h=>by simp[lkB]at h,fun _ h=>h,fun _ h=> .inl h,fun _ _=>rfl⟩,hh,by unfold RepS;unfold Rep;exact⟨rfl,rfl⟩⟩
theorem scount_fn (s:ByteArray) (c:UInt8):FnOk Tryz.prog 72 [.t (.lit (.string s)),.t (.lit (.string ⟨#[c]⟩))] [] (.t (.int (Lib.countByte s.data.toList c:Nat))) []:=by
 intro G w us hh hr
 unfold RepPs at hr
 obtain⟨u1,r1,rfl,h1,hr⟩:=hr
 unfold RepPs at hr
 obtain⟨u2,r2,rfl,h2,hr⟩:=hr
 unfold RepPs at hr
 subst hr
 unfold RepS Rep at h1 h2
 obtain⟨rfl,_⟩:=h1
 obtain⟨rfl,_⟩:=h2
 have key:Calls Tryz.prog 72 #[.string s,.string ⟨#[c]⟩] w fun e w'=>e = .returned (.int .i64 (Lib.countByte s.data.toList c:Nat))∧w'=w:=by
  have hsz:(⟨#[c]⟩:ByteArray).size=1:=rfl
  have hget:(⟨#[c]⟩:ByteArray).get! 0=c:=rfl
  go_enter Tryz.func72,Tryz.ntmps72
  go_wp2
  rw[run_callFunc_extern Tryz.func106 (by kernel_rfl) (by kernel_rfl) (by kernel_rfl) (e:=Extern.BytealgCount.count) (by kernel_rfl),Lib.run_countString]
  simp only[Result.andThen]
  rw[Oper.upon_value]
  go_wp2
  go_ret
  exact⟨rfl,rfl⟩
 refine key.mono ?_
 rintro e w' ⟨rfl,rfl⟩
 exact⟨_,G,rfl,⟨rfl,rfl,rfl,Nat.le_refl _,fun _ _ _=>rfl,fun l b k h=>by simp[lkB]at h,fun _ h=>h,fun _ h=> .inl h,fun _ _=>rfl⟩,hh,by unfold RepS;unfold Rep;exact⟨rfl,rfl⟩⟩
end Go.Proofs.YtdjmklobfjigoaaGreatDoor
namespace Go.Proofs.YtdjmklobfjigoaaGreatDoor
open Go.RowKit Go.MapKept Sy
@[go_sem] theorem run_makeMap_none (P:Program) (t:TypeId) (w:World):(Instr.makeMap t none).run P w = .ok (.map (some w.heap.size)) (w.alloc (.map #[] 0)):=by
 simp[Instr.makeMap]
theorem setObj_alloc (w:World) (o o':Obj):{(w.alloc o) with heap:=(w.alloc o).heap.setIfInBounds w.heap.size o'}=w.alloc o':=by
 have h:(w.heap.push o).setIfInBounds w.heap.size o'=w.heap.push o':=by
  apply Array.toList_inj.1
  simp
 show {(w.alloc o) with heap:=(w.heap.push o).setIfInBounds w.heap.size o'}=w.alloc o'
 rw[h];rfl
theorem run_mapUp {P:Program} {t kt vt:TypeId} (ht:P.underlying t=some (.map kt vt)) (hk:P.underlying kt=some .string) (w:World) (es:Array MapEntry) (clk:Nat) (s:ByteArray) (v:Value) (hf:Instr.findNow .string (.string s) es.toList 0=some none) :
  (Instr.mapUpdate t (.map (some w.heap.size)) (.string s) v).run P (w.alloc (.map es clk)) = .ok () (w.alloc (.map (es.push {key:=.string s,val:=v,born:=clk}) (clk+1))):=by
 have hb:=World.alloc_heap_new w (.map es clk)
 have h1:=run_checkKey (P:=P) (w:=w.alloc (.map es clk)) (k:=.string s) hk trivial false 9999
 have h2:=run_findKey (P:=P) (w:=w.alloc (.map es clk)) hk hf
 have h3:=run_setObj_map (P:=P) (.map (es.push {key:=.string s,val:=v,born:=clk}) (clk+1)) hb
 rw[setObj_alloc]at h3
 simp[Instr.mapUpdate,run_underlying ht,Go.MapKept.run_getObj_map hb,h1,h2,h3]
theorem run_lookS {P:Program} {t kt vt:TypeId} (ht:P.underlying t=some (.map kt vt)) (hk:P.underlying kt=some .string) (w:World) (r:Nat) (es:Array MapEntry) (clk:Nat) (hb:w.heap[r]? = some (.map es clk)) (s:ByteArray) (i:Nat) (v:Value)
  (hf:Instr.findNow .string (.string s) es.toList 0=some (some (i,v))):(Instr.lookup t (.map (some r)) (.string s) true).run P w = .ok (.tuple #[v,.bool true]) w:=by
 have h1:=run_checkKey (P:=P) (w:=w) (k:=.string s) hk trivial es.isEmpty 9999
 have h2:=run_findKey (P:=P) (w:=w) hk hf
 simp[Instr.lookup,run_underlying ht,Go.MapKept.run_getObj_map hb,h1,h2]
theorem und_mp:Tryz.prog.underlying 133=some (.map 9 131):=by kernel_rfl
theorem und_st:Tryz.prog.underlying 9=some .string:=by kernel_rfl
def frm (p:Value) (a b c:Int) (f:FuncId):Value:=.agg #[.int .i64 a,.int .i64 b,.int .i64 c,.func (.func f) #[p] #[]]
def ent (p:Value) (k:List Nat) (a b c:Int) (f:FuncId) (n:Nat):MapEntry:={key:=.string (str k),val:=frm p a b c f,born:=n}
def formsE (p:Value):Array MapEntry:=#[ent p [110,101,116,119,111,114,107] 1 2 0 112 0,ent p [110,111,100,101] 2 1 1 113 1,ent p [115,101,103,109,101,110,116] 3 6 3 114 2,
 ent p [112,111,105,110,116] 3 3 0 115 3,ent p [112,111,114,116] 4 3 2 116 4,ent p [115,116,97,116,105,111,110] 5 5 2 117 5]
theorem forms_raw (p:Value) (w:World):Calls Tryz.prog 77 #[p] w fun e w'=>e = .returned (.map (some w.heap.size))∧w'=w.alloc (.map (formsE p) 6):=by
 go_enter Tryz.func77,Tryz.ntmps77
 go_wp2
 rw[run_mapUp und_mp und_st _ _ _ ⟨#[110,101,116,119,111,114,107]⟩ _ (by kernel_rfl)]
 simp only[Result.andThen,Oper.upon_skip]
 go_wp2
 rw[run_mapUp und_mp und_st _ _ _ ⟨#[110,111,100,101]⟩ _ (by kernel_rfl)]
 simp only[Result.andThen,Oper.upon_skip]
 go_wp2
 rw[run_mapUp und_mp und_st _ _ _ ⟨#[115,101,103,109,101,110,116]⟩ _ (by kernel_rfl)]
 simp only[Result.andThen,Oper.upon_skip]
 go_wp2
 rw[run_mapUp und_mp und_st _ _ _ ⟨#[112,111,105,110,116]⟩ _ (by kernel_rfl)]
 simp only[Result.andThen,Oper.upon_skip]
 go_wp2
 rw[run_mapUp und_mp und_st _ _ _ ⟨#[112,111,114,116]⟩ _ (by kernel_rfl)]
 simp only[Result.andThen,Oper.upon_skip]
 go_wp2
 rw[run_mapUp und_mp und_st _ _ _ ⟨#[115,116,97,116,105,111,110]⟩ _ (by kernel_rfl)]
 simp only[Result.andThen,Oper.upon_skip]
 go_wp2
 go_ret
 exact⟨rfl,rfl⟩
end Go.Proofs.YtdjmklobfjigoaaGreatDoor
namespace Go.Proofs.YtdjmklobfjigoaaGreatDoor.Sy
open Go.RowKit
def onlyR (Q:Exit→Act→World→Prop):Exit→Act→World→Prop
 | .normal,a,w=>Q .normal a w
 | _,_,_=>False
theorem onlyR_imp {Q:Exit→Act→World→Prop} {e:Exit} {a:Act} {w:World} (h:onlyR Q e a w):Q e a w:=by
 cases e<;>first|exact h|exact h.elim
section
variable {P:Program} {ops:Array Oper} {Q:Exit→Act→World→Prop}
def YieldsAt (P:Program) (ops:Array Oper) (o:Oper) (v:Value) (a:Act) (w:World):Prop:=Region.wanted o (yielded ops a.tmps)=true∧(execOp a.eval o).run P w = .ok (.value v) w
theorem YieldsAt.put {oi oj:Oper} {v u:Value} {a:Act} {w:World} (hs:∀ cs b,oi.op≠ .select cs b) (hap:oi.apart ops oj=true) (h:YieldsAt P ops oi v a w):YieldsAt P ops oi v (a.put oj.dst u) w:=by
 obtain⟨_,_,h3⟩:=Oper.apart_spec hap
 refine⟨by rw[wanted_put oi a oj.dst u h3];exact h.1,by rw[execOp_put oi hs a oj.dst u h3];exact h.2⟩
theorem YieldsAt.wpOp {i:Nat} {o:Oper} {v:Value} {a:Act} {w:World} (hi:ops[i]? = some o) (hy:YieldsAt P ops o v a w) (K:Act→World→Prop):Go.wpOp P ops Q i K a w↔(K (a.put o.dst v) w∨(o.asks P a w∧LetsOut Q)):=by
 unfold Go.wpOp
 simp only[hi,hy.1,if_true,Oper.wp,hy.2,Oper.upon]
theorem wpOp_value {K:Act→World→Prop} {a:Act} {w w':World} {i:Nat} {o:Oper} {v:Value} (ho:ops[i]? = some o) (hw:Region.wanted o (yielded ops a.tmps)=true) (hrun:(execOp a.eval o).run P w = .ok (.value v) w') (h:K (a.put o.dst v) w'):Go.wpOp P ops Q i K a w:=by
 unfold Go.wpOp
 simp only[ho,hw,if_true,Oper.wp,hrun,Oper.upon]
 exact .inl h
theorem wpOp_skip {K:Act→World→Prop} {a:Act} {w w':World} {i:Nat} {o:Oper} (ho:ops[i]? = some o) (hw:Region.wanted o (yielded ops a.tmps)=true) (hrun:(execOp a.eval o).run P w = .ok .skip w') (h:K (a.put o.dst undef) w'):Go.wpOp P ops Q i K a w:=by
 unfold Go.wpOp
 simp only[ho,hw,if_true,Oper.wp,hrun,Oper.upon]
 exact .inl h
theorem wpOp_enter {K:Act→World→Prop} {a:Act} {w w':World} {i:Nat} {o:Oper} {f:FuncId} {args:Array Value} {R:Ending→World→Prop} (ho:ops[i]? = some o) (hw:Region.wanted o (yielded ops a.tmps)=true) (hrun:(execOp a.eval o).run P w = .ok (.enter f args) w') (hc:Calls P f args w' R) (h:∀ e w'',R e w''→∃ v,e = .returned v∧K (a.put o.dst v) w''):Go.wpOp P ops Q i K a w:=by
 unfold Go.wpOp
 simp only[ho,hw,if_true,Oper.wp,hrun,Oper.upon]
 refine .inl (Calls.mono hc fun e w'' he=>?_)
 obtain⟨v,rfl,hv⟩:=h e w'' he
 exact hv
theorem wpAny_one {fuel:Nat} {listed:Array Bool} {a:Act} {w:World} {i:Nat} (hr:Region.ready .any ops listed=[i]) (h:Go.wpOp P ops Q i (wpAny P .any ops Q fuel (listed.setIfInBounds i true)) a w):wpAny P .any ops Q (fuel+1) listed a w:=
 wpAny_all hr (by simp) (fun j hj=>by rw[List.mem_singleton]at hj;subst hj;exact h)
theorem wpAny_two {fuel:Nat} {listed:Array Bool} {a:Act} {w:World} {i j:Nat} (hr:Region.ready .any ops listed=[i,j]) (h:Go.wpOp P ops Q i (wpAny P .any ops Q fuel (listed.setIfInBounds i true)) a w) (h':Go.wpOp P ops Q j (wpAny P .any ops Q fuel (listed.setIfInBounds j true)) a w):wpAny P .any ops Q (fuel+1) listed a w:=
 wpAny_all hr (by simp) (fun k hk=>by
  simp only[List.mem_cons,List.not_mem_nil,or_false]at hk
  rcases hk with rfl|rfl
  ·exact h
  ·exact h')
theorem wpAny_three {fuel:Nat} {listed:Array Bool} {a:Act} {w:World} {i j k:Nat} (hr:Region.ready .any ops listed=[i,j,k]) (h:Go.wpOp P ops Q i (wpAny P .any ops Q fuel (listed.setIfInBounds i true)) a w) (h':Go.wpOp P ops Q j (wpAny P .any ops Q fuel (listed.setIfInBounds j true)) a w)
  (h'':Go.wpOp P ops Q k (wpAny P .any ops Q fuel (listed.setIfInBounds k true)) a w):wpAny P .any ops Q (fuel+1) listed a w:=
 wpAny_all hr (by simp) (fun m hk=>by
  simp only[List.mem_cons,List.not_mem_nil,or_false]at hk
  rcases hk with rfl|rfl|rfl
  ·exact h
  ·exact h'
  ·exact h'')
end
end Go.Proofs.YtdjmklobfjigoaaGreatDoor.Sy
namespace Go.Proofs.YtdjmklobfjigoaaGreatDoor
open Go.RowKit Go.MapKept Sy
open Go.IntWalk renaming iteOmega → iO, toNatUp → tN
attribute [local go_sem] Oper.semAt_some
noncomputable def lineC:Code:=(Tryz.f54.body).getD .skip
noncomputable def lineRest:Code:=match lineC with
 | .seq _ (.seq _ r)=>r
 | _=> .skip
theorem run_store_new {P:Program} {t:TypeId} {n0:Array Value} {F:Value} {k b:Nat} (u:World) (hb:u.heap[b]? = some (.cells n0 t (0,0))) (hsz:szB P t=some k) (hn:n0.size=k) (hF:F.cells.size=k) (h1:∀ c∈F.cells.toList,c.oneCell'=true) :
  (Instr.storeAt t (.pointer (some ⟨b,0,none⟩)) F).run P u = .ok () (u.setRow b F.cells):=by
 have hst:=run_storeCells_at P b 0 t F.cells.toList 0 n0 u hb (by simp;omega) h1
 have e:(n0.toList.take 0++F.cells.toList++n0.toList.drop (0+F.cells.toList.length)).toArray=F.cells:=by
  rw[List.drop_of_length_le (by simp;omega)];simp
 simp only[Nat.add_zero]at hst
 rw[e]at hst
 simp[Instr.storeAt,Instr.sureAddr,storeVar,run_szB hsz,hF,hst]
theorem exec_look {P:Program} {ρ:Operand→Value} {dst:Option Tmp} {x y:Operand} {vx vy v':Value} {t ty:TypeId} {pos:String} {after:Array Edge} {guard:Option (Nat×Bool)} {w w':World} (h1:ρ x=vx) (h2:ρ y=vy) (h:(Instr.lookup t vx vy true).run P w = .ok v' w') :
  Sem.run P (execOp ρ ⟨dst,Op.lookup t x y true,ty,pos,after,guard⟩) w = .ok (.value v') w':=by
 subst h1 h2
 unfold execOp
 exact exec_v h
theorem exec_stor {P:Program} {ρ:Operand→Value} {dst:Option Tmp} {x y:Operand} {vx vy:Value} {t ty:TypeId} {pos:String} {after:Array Edge} {guard:Option (Nat×Bool)} {w w':World} (h1:ρ x=vx) (h2:ρ y=vy) (h:(Instr.storeAt t vx vy).run P w = .ok () w') :
  Sem.run P (execOp ρ ⟨dst,Op.store t x y,ty,pos,after,guard⟩) w = .ok .skip w':=by
 subst h1 h2
 unfold execOp
 simp[h]
theorem line_cw (k:List Nat) (a b c:Int) (f:FuncId) (i:Nat) (hK:∀ p,Instr.findNow .string (.string (str k)) (formsE p).toList 0=some (some (i,frm p a b c f))) (ws:List T) (pre:List (Nat×Blk)) (hpre:(pre.all fun q=>q.1 != 105 && q.2.free 105)=true) (r:S) (post:List (Nat×Blk))
  (h:CW Tryz.f54.ntmps Tryz.prog lineRest (RetQ Tryz.prog Tryz.f54.results.toList r post) ⟨[(6,.t (.bool true)),(5,.pt 105 [] 0),(0,.pt 0 [] 0),(1,.t (.sl 1 (.lit (.string (str k)) :: ws)))],(105,.box 131 (.ag [.t (.int a),.t (.int b),.t (.int c),.fb f [.pt 0 [] 0]])) :: pre⟩) :
  FnOk Tryz.prog 54 [.pt 0 [] 0,.t (.sl 1 (.lit (.string (str k)) :: ws))] pre r post:=by
 refine FnOk.intro fact_mixed Tryz.func54 rfl Tryz.ntmps54 (by rfl) (by simp) ?_
 iterate 1 (refine n1s rfl ?_;simp[go_sem,↓iO,iO,tN];(repeat (refine anI ?_));try (refine⟨dcK,?_⟩))
 refine CW.seq ?_
 intro hm hc W G0 A a w hs
 clear hc
 obtain⟨G,hs⟩:=hs
 have s0:=hs.slots 0
 have s1:=hs.slots 1
 simp[go_sem]at s0 s1
 unfold RepS at s0 s1
 unfold Rep at s1
 obtain⟨bl,hbl,h0⟩:=s0
 obtain⟨x,cap,cells,h1,h2,h3,h4⟩:=s1
 unfold Reps Rep at h2
 obtain⟨v,cs,rfl,⟨rfl,_⟩,h5⟩:=h2
 obtain⟨b1,off,rfl,hb1,hc1⟩:∃ b off,x=some ⟨b,off,none⟩∧G.F b∧∀ j u,((Value.string (str k)).cells.toList++cs)[j]? = some u→w.cell? ⟨b,off+j,none⟩=some u:=by
  rcases h4.cells with h6|h6
  ·simp at h6
  ·exact h6
 have hcell:w.cell? ⟨b1,off,none⟩=some (.string (str k)):=hc1 0 _ rfl
 refine wp_mono (Q:=onlyR _) ?_ (fun e a w h=>onlyR_imp h)
 generalize hQ0:onlyR _=Q0
 have hpan:∀ (d:Option Tmp) (v:Value) (c:List PanicEntry) (a:Act) (w:World),Q0 (.panic c) (a.put d v) w→Q0 (.panic c) a w:=fun d v c a w h=>by rw[←hQ0]at h;exact h.elim
 refine wp_region_any hm ?_
 change wpAny _ _ _ _ _ _ _ (World.drew _)
 have hsz:=hs.size
 obtain⟨at',ad⟩:=a
 dsimp only at h0 h1 hsz ⊢
 have g0:at'[0]'(by omega) = .pointer (some ⟨bl,0,none⟩):=by
  rw[Array.getElem?_eq_getElem (by omega)]at h0;exact h0
 have g1:at'[1]'(by omega) = .slice (some ⟨b1,off,none⟩) (ws.length+1) cap:=by
  rw[Array.getElem?_eq_getElem (by omega)]at h1;exact h1
 obtain⟨MM,hMM⟩:∃ MM,Obj.map (formsE (.pointer (some ⟨bl,0,none⟩))) 6=MM:=⟨_,rfl⟩
 obtain⟨ZZ,hZZ⟩:∃ ZZ:Obj,Obj.cells #[.int .i64 0,.int .i64 0,.int .i64 0,.nilFunc] 131 (0,0)=ZZ:=⟨_,rfl⟩
 have hlt:b1 < w.heap.size:=hs.heap.fb b1 hb1
 obtain⟨w0,hw0⟩:∃ w0,World.drew w=w0:=⟨_,rfl⟩
 have hs0:w0.heap.size=w.heap.size:=by rw[←hw0];rfl
 have hcell0:w0.cell? ⟨b1,off,none⟩=some (.string (str k)):=by rw[←hw0];exact hcell
 have hcell1:(w0.alloc MM).cell? ⟨b1,off,none⟩=some (.string (str k)):=(cell_block (Below.heap_alloc _ _ _ (by rw[hs0];exact hlt))).trans hcell0
 have hcell9:(w0.alloc ZZ).cell? ⟨b1,off,none⟩=some (.string (str k)):=(cell_block (Below.heap_alloc _ _ _ (by rw[hs0];exact hlt))).trans hcell0
 have look1:=run_lookS und_mp und_st (w0.alloc MM) w0.heap.size _ 6 (by rw[←hMM];exact World.alloc_heap_new w0 _) (str k) i _ (hK (.pointer (some ⟨bl,0,none⟩)))
 have look19:=run_lookS und_mp und_st ((w0.alloc MM).alloc ZZ) w0.heap.size _ 6 (by rw[←hMM];exact (Below.heap_alloc _ _ _ (by simp)).trans (World.alloc_heap_new w0 _)) (str k) i _ (hK (.pointer (some ⟨bl,0,none⟩)))
 have look91:=run_lookS und_mp und_st ((w0.alloc ZZ).alloc MM) (w0.alloc ZZ).heap.size _ 6 (by rw[←hMM];exact World.alloc_heap_new (w0.alloc ZZ) _) (str k) i _ (hK (.pointer (some ⟨bl,0,none⟩)))
 have hcell19:((w0.alloc MM).alloc ZZ).cell? ⟨b1,off,none⟩=some (.string (str k)):=(cell_block (Below.heap_alloc _ _ _ (by simp;omega))).trans hcell1
 have hcell91:((w0.alloc ZZ).alloc MM).cell? ⟨b1,off,none⟩=some (.string (str k)):=(cell_block (Below.heap_alloc _ _ _ (by simp;omega))).trans hcell9
 have hFs:(frm (.pointer (some ⟨bl,0,none⟩)) a b c f).cells.size=4:=rfl
 have hF1:∀ u∈(frm (.pointer (some ⟨bl,0,none⟩)) a b c f).cells.toList,u.oneCell'=true:=by simp[frm,Value.cells,Value.oneCell']
 have hZ1:((w0.alloc MM).alloc ZZ).heap[(w0.alloc MM).heap.size]? = some (.cells #[.int .i64 0,.int .i64 0,.int .i64 0,.nilFunc] 131 (0,0)):=by rw[hZZ];exact World.alloc_heap_new _ _
 have hZ2:((w0.alloc ZZ).alloc MM).heap[w0.heap.size]? = some (.cells #[.int .i64 0,.int .i64 0,.int .i64 0,.nilFunc] 131 (0,0)):=by rw[hZZ];exact (Below.heap_alloc _ _ _ (by simp)).trans (World.alloc_heap_new _ _)
 obtain⟨fin19,hfin19⟩:∃ u,((w0.alloc MM).alloc ZZ).setRow (w0.alloc MM).heap.size (frm (.pointer (some ⟨bl,0,none⟩)) a b c f).cells=u:=⟨_,rfl⟩
 obtain⟨fin91,hfin91⟩:∃ u,((w0.alloc ZZ).alloc MM).setRow w0.heap.size (frm (.pointer (some ⟨bl,0,none⟩)) a b c f).cells=u:=⟨_,rfl⟩
 have store19:=run_store_new (P:=Tryz.prog) (t:=131) _ hZ1 (by kernel_rfl:szB Tryz.prog 131=some 4) rfl hFs hF1
 have store91:=run_store_new (P:=Tryz.prog) (t:=131) _ hZ2 (by kernel_rfl:szB Tryz.prog 131=some 4) rfl hFs hF1
 rw[hfin19]at store19
 rw[hfin91]at store91
 have hbl0:Below w.heap.size w w0:=by rw[←hw0];exact (Below.refl _ w).drew
 have fin:∀ (bx:Nat) (wf:World),Below w.heap.size w wf→w.heap.size≤bx→wf.heap[bx]? = some (.cells (frm (.pointer (some ⟨bl,0,none⟩)) a b c f).cells 131 (0,0))→∀ at2:Array Value,at2.size=113→at2[0]?.getD undef = .pointer (some ⟨bl,0,none⟩)→at2[1]?.getD undef = .slice (some ⟨b1,off,none⟩) (ws.length+1) cap→at2[5]?.getD undef = .pointer (some ⟨bx,0,none⟩)→at2[6]?.getD undef = .bool true→Q0 .normal ⟨at2,ad⟩ wf:=by
  intro bx wf hB hbx hh at2 hz q0 q1 q5 q6
  rw[←hQ0]
  have hpl:∀ (q:Nat) (b:Blk),lkB pre q=some b→q≠105∧b.free 105=true:=by
   intro q b hq
   have:=List.all_eq_true.1 hpre (q,b) (lkB_mem hq)
   simpa using this
  have hx:=Ext.mk' hs.heap none ⟨hB.os,hB.tape,hB.output,hB.size,fun k hk _=>hB.block k hk⟩ none (by simp) (by simp) 105 (.pointer (some ⟨bx,0,none⟩)) (.box 131 (.ag [.t (.int a),.t (.int b),.t (.int c),.fb f [.pt 0 [] 0]])) (.inr (by
    cases hq:lkB pre 105 with
    | none=>rfl
    | some b=>exact absurd rfl (hpl 105 b hq).1)) [105] (.inl rfl) (fun q hq l b' hl=>by simp at hq;subst hq;exact (hpl l b' hl).2) (fun q hq=>by simp[hblk]at hq;subst hq;exact .inr hbx)
   ⟨bx,frm (.pointer (some ⟨bl,0,none⟩)) a b c f,rfl,by
    unfold RepS
    refine⟨[.int .i64 a,.int .i64 b,.int .i64 c,.func (.func f) #[.pointer (some ⟨bl,0,none⟩)] #[]],rfl,?_⟩
    unfold RepSs
    refine⟨.int .i64 a,_,rfl,rfl,by simp[Value.cells,Value.oneCell'],by unfold RepS Rep;exact⟨rfl,rfl⟩,?_⟩
    unfold RepSs
    refine⟨.int .i64 b,_,rfl,rfl,by simp[Value.cells,Value.oneCell'],by unfold RepS Rep;exact⟨rfl,rfl⟩,?_⟩
    unfold RepSs
    refine⟨.int .i64 c,_,rfl,rfl,by simp[Value.cells,Value.oneCell'],by unfold RepS Rep;exact⟨rfl,rfl⟩,?_⟩
    unfold RepSs
    refine⟨.func (.func f) #[.pointer (some ⟨bl,0,none⟩)] #[],[],rfl,rfl,by simp[Value.cells,Value.oneCell'],?_,by unfold RepSs;rfl⟩
    unfold RepS
    refine⟨[.pointer (some ⟨bl,0,none⟩)],rfl,?_⟩
    unfold RepPs
    refine⟨_,[],rfl,?_,by unfold RepPs;rfl⟩
    unfold RepS
    exact⟨bl,by simp only[newGh];rw[bput_other _ (by decide)];exact hbl,rfl⟩,rfl,hF1,hh⟩ (Inn.plain rfl)
  refine⟨⟨[(6,.t (.bool true)),(5,.pt 105 [] 0),(0,.pt 0 [] 0),(1,.t (.sl 1 (.lit (.string (str k)) :: ws)))],(105,.box 131 (.ag [.t (.int a),.t (.int b),.t (.int c),.fb f [.pt 0 [] 0]])) :: pre⟩,h,newGh G 105 (.pointer (some ⟨bx,0,none⟩)) noF,?_⟩
  have hhe:(fun q=>if q=105 then some (Blk.box 131 (.ag [.t (.int a),.t (.int b),.t (.int c),.fb f [.pt 0 [] 0]])) else if (none:Option Nat)=some q then none else lkB pre q)=lkB ((105,.box 131 (.ag [.t (.int a),.t (.int b),.t (.int c),.fb f [.pt 0 [] 0]])) :: pre):=by
   funext q
   simp[lkB]
  rw[hhe]at hx
  refine⟨hz,hx.defs hs.heap hs.defers,?_,hx.heap,hs.frm.ext hx (by simp)⟩
  intro t
  have k0:=RepS.keep hx.keep _ _ (by simp[lkS,S.free]) (hs.slots 0)
  have k1:=RepS.keep hx.keep _ _ (by simp[lkS,S.free]) (hs.slots 1)
  simp only[Array.getD_eq_getD_getElem?]
  by_cases t6:t=6
  ·subst t6
   rw[q6]
   simp[lkS]
   unfold RepS Rep;exact⟨rfl,rfl⟩
  by_cases t5:t=5
  ·subst t5
   rw[q5]
   simp[lkS]
   unfold RepS
   exact⟨bx,by simp[newGh,bput_same,hblk],rfl⟩
  by_cases t0:t=0
  ·subst t0
   rw[q0]
   simp[lkS]at k0 ⊢
   simpa [h0] using k0
  by_cases t1:t=1
  ·subst t1
   rw[q1]
   simp[lkS]at k1 ⊢
   simpa [h1] using k1
  simp[lkS,t6,t5,t0,t1]
  unfold RepS;trivial
 have hBm:Below w.heap.size w (w0.alloc MM):=hbl0.alloc (by omega) _
 have hBz:Below w.heap.size w (w0.alloc ZZ):=hbl0.alloc (by omega) _
 have fin_mz:=fin (w0.alloc MM).heap.size fin19 (by
   rw[←hfin19]
   exact (hBm.alloc (by simp;omega) _).grown (grownBy_setRow _ _ _) (by simp;omega) (fun q hq=>by cases hq;simp;omega)) (by simp;omega) (by rw[←hfin19];exact setRow_heap _ _ _ _ _ _ hZ1)
 have fin_zm:=fin w0.heap.size fin91 (by
   rw[←hfin91]
   exact (hBz.alloc (by simp;omega) _).grown (grownBy_setRow _ _ _) (by simp;omega) (fun q hq=>by cases hq;omega)) (by omega) (by rw[←hfin91];exact setRow_heap _ _ _ _ _ _ hZ2)
 rw[hw0]
 refine wpAny_take (i:=0) (v:=.pointer (some ⟨bl,0,none⟩)) rfl (by kernel_rfl) (by kernel_rfl) (by kernel_rfl) (hpan _ _) (Or.inl ⟨by rfl,by intro w;simp[go_sem,hsz,g0,g1]⟩) ?_
 refine wpAny_take (i:=2) (v:=.slice (some ⟨b1,off,none⟩) (ws.length+1) cap) rfl (by kernel_rfl) (by kernel_rfl) (by kernel_rfl) (hpan _ _) (Or.inl ⟨by rfl,by intro w;simp[go_sem,hsz,g0,g1]⟩) ?_
 refine wpAny_take (i:=3) (v:=.pointer (some ⟨b1,off,none⟩)) rfl (by kernel_rfl) (by kernel_rfl) (by kernel_rfl) (hpan _ _) (Or.inl ⟨by rfl,by intro w;simp[go_sem,hsz,g0,g1]⟩) ?_
 refine wpAny_three (i:=1) (j:=4) (k:=9) (by kernel_rfl) ?_ ?_ ?_
 ·refine wpOp_enter (args:=#[.pointer (some ⟨bl,0,none⟩)]) (w':=w0) rfl (by rfl) (by simp[go_sem,hsz,g0,g1]) (forms_raw _ _) ?_
  rintro e w2 ⟨rfl,rfl⟩
  refine⟨_,rfl,?_⟩
  rw[hMM]
  refine wpAny_two (i:=4) (j:=9) (by kernel_rfl) ?_ ?_
  ·refine wpOp_value (v:=.string (str k)) (w':=(w0.alloc MM)) rfl (by rfl) (by simp[go_sem,hsz,g0,g1,hcell1]) ?_
   refine wpAny_two (i:=5) (j:=9) (by kernel_rfl) ?_ ?_
   ·refine wpOp_value (v:=.tuple #[(frm (.pointer (some ⟨bl,0,none⟩)) a b c f),.bool true]) (w':=(w0.alloc MM)) rfl (by rfl) (exec_look (by simp[go_sem,hsz]) (by simp[go_sem,hsz]) look1) ?_
    refine wpAny_take (i:=6) (v:=.tuple #[(frm (.pointer (some ⟨bl,0,none⟩)) a b c f),.bool true]) rfl (by kernel_rfl) (by kernel_rfl) (by kernel_rfl) (hpan _ _) (Or.inl ⟨by rfl,by intro w;simp[go_sem,hsz,g0,g1]⟩) ?_
    refine wpAny_take (i:=7) (v:=(frm (.pointer (some ⟨bl,0,none⟩)) a b c f)) rfl (by kernel_rfl) (by kernel_rfl) (by kernel_rfl) (hpan _ _) (Or.inl ⟨by rfl,by intro w;simp[go_sem,hsz,g0,g1]⟩) ?_
    refine wpAny_take (i:=8) (v:=.bool true) rfl (by kernel_rfl) (by kernel_rfl) (by kernel_rfl) (hpan _ _) (Or.inl ⟨by rfl,by intro w;simp[go_sem,hsz,g0,g1]⟩) ?_
    refine wpAny_one (i:=9) (by kernel_rfl) ?_
    refine wpOp_value (v:=.pointer (some ⟨((w0.alloc MM)).heap.size,0,none⟩)) (w':=(w0.alloc MM).alloc ZZ) rfl (by rfl) (by rw[←hZZ];simp[go_sem,hsz]) ?_
    refine wpAny_one (i:=10) (by kernel_rfl) ?_
    refine wpOp_skip (w':=fin19) rfl (by rfl) (exec_stor (by simp[go_sem,hsz]) (by simp[go_sem,hsz]) store19) ?_
    refine wpAny_one (i:=11) (by kernel_rfl) ?_
    refine wpOp_value (v:=.bool true) (w':=fin19) rfl (by rfl) (by simp[go_sem,hsz]) ?_
    exact wpAny_done (by kernel_rfl) (fin_mz _ (by simp[go_sem,hsz]) (by simp[go_sem,hsz,g0]) (by simp[go_sem,hsz,g1]) (by simp[go_sem,hsz]) (by simp[go_sem,hsz])) _
   ·refine wpOp_value (v:=.pointer (some ⟨((w0.alloc MM)).heap.size,0,none⟩)) (w':=(w0.alloc MM).alloc ZZ) rfl (by rfl) (by rw[←hZZ];simp[go_sem,hsz]) ?_
    refine wpAny_one (i:=5) (by kernel_rfl) ?_
    refine wpOp_value (v:=.tuple #[(frm (.pointer (some ⟨bl,0,none⟩)) a b c f),.bool true]) (w':=((w0.alloc MM).alloc ZZ)) rfl (by rfl) (exec_look (by simp[go_sem,hsz]) (by simp[go_sem,hsz]) look19) ?_
    refine wpAny_take (i:=6) (v:=.tuple #[(frm (.pointer (some ⟨bl,0,none⟩)) a b c f),.bool true]) rfl (by kernel_rfl) (by kernel_rfl) (by kernel_rfl) (hpan _ _) (Or.inl ⟨by rfl,by intro w;simp[go_sem,hsz,g0,g1]⟩) ?_
    refine wpAny_take (i:=7) (v:=(frm (.pointer (some ⟨bl,0,none⟩)) a b c f)) rfl (by kernel_rfl) (by kernel_rfl) (by kernel_rfl) (hpan _ _) (Or.inl ⟨by rfl,by intro w;simp[go_sem,hsz,g0,g1]⟩) ?_
    refine wpAny_take (i:=8) (v:=.bool true) rfl (by kernel_rfl) (by kernel_rfl) (by kernel_rfl) (hpan _ _) (Or.inl ⟨by rfl,by intro w;simp[go_sem,hsz,g0,g1]⟩) ?_
    refine wpAny_one (i:=10) (by kernel_rfl) ?_
    refine wpOp_skip (w':=fin19) rfl (by rfl) (exec_stor (by simp[go_sem,hsz]) (by simp[go_sem,hsz]) store19) ?_
    refine wpAny_one (i:=11) (by kernel_rfl) ?_
    refine wpOp_value (v:=.bool true) (w':=fin19) rfl (by rfl) (by simp[go_sem,hsz]) ?_
    exact wpAny_done (by kernel_rfl) (fin_mz _ (by simp[go_sem,hsz]) (by simp[go_sem,hsz,g0]) (by simp[go_sem,hsz,g1]) (by simp[go_sem,hsz]) (by simp[go_sem,hsz])) _
  ·refine wpOp_value (v:=.pointer (some ⟨((w0.alloc MM)).heap.size,0,none⟩)) (w':=(w0.alloc MM).alloc ZZ) rfl (by rfl) (by rw[←hZZ];simp[go_sem,hsz]) ?_
   refine wpAny_one (i:=4) (by kernel_rfl) ?_
   refine wpOp_value (v:=.string (str k)) (w':=((w0.alloc MM).alloc ZZ)) rfl (by rfl) (by simp[go_sem,hsz,g0,g1,hcell19]) ?_
   refine wpAny_one (i:=5) (by kernel_rfl) ?_
   refine wpOp_value (v:=.tuple #[(frm (.pointer (some ⟨bl,0,none⟩)) a b c f),.bool true]) (w':=((w0.alloc MM).alloc ZZ)) rfl (by rfl) (exec_look (by simp[go_sem,hsz]) (by simp[go_sem,hsz]) look19) ?_
   refine wpAny_take (i:=6) (v:=.tuple #[(frm (.pointer (some ⟨bl,0,none⟩)) a b c f),.bool true]) rfl (by kernel_rfl) (by kernel_rfl) (by kernel_rfl) (hpan _ _) (Or.inl ⟨by rfl,by intro w;simp[go_sem,hsz,g0,g1]⟩) ?_
   refine wpAny_take (i:=7) (v:=(frm (.pointer (some ⟨bl,0,none⟩)) a b c f)) rfl (by kernel_rfl) (by kernel_rfl) (by kernel_rfl) (hpan _ _) (Or.inl ⟨by rfl,by intro w;simp[go_sem,hsz,g0,g1]⟩) ?_
   refine wpAny_take (i:=8) (v:=.bool true) rfl (by kernel_rfl) (by kernel_rfl) (by kernel_rfl) (hpan _ _) (Or.inl ⟨by rfl,by intro w;simp[go_sem,hsz,g0,g1]⟩) ?_
   refine wpAny_one (i:=10) (by kernel_rfl) ?_
   refine wpOp_skip (w':=fin19) rfl (by rfl) (exec_stor (by simp[go_sem,hsz]) (by simp[go_sem,hsz]) store19) ?_
   refine wpAny_one (i:=11) (by kernel_rfl) ?_
   refine wpOp_value (v:=.bool true) (w':=fin19) rfl (by rfl) (by simp[go_sem,hsz]) ?_
   exact wpAny_done (by kernel_rfl) (fin_mz _ (by simp[go_sem,hsz]) (by simp[go_sem,hsz,g0]) (by simp[go_sem,hsz,g1]) (by simp[go_sem,hsz]) (by simp[go_sem,hsz])) _
 ·refine wpOp_value (v:=.string (str k)) (w':=w0) rfl (by rfl) (by simp[go_sem,hsz,g0,g1,hcell0]) ?_
  refine wpAny_two (i:=1) (j:=9) (by kernel_rfl) ?_ ?_
  ·refine wpOp_enter (args:=#[.pointer (some ⟨bl,0,none⟩)]) (w':=w0) rfl (by rfl) (by simp[go_sem,hsz,g0,g1]) (forms_raw _ _) ?_
   rintro e w2 ⟨rfl,rfl⟩
   refine⟨_,rfl,?_⟩
   rw[hMM]
   refine wpAny_two (i:=5) (j:=9) (by kernel_rfl) ?_ ?_
   ·refine wpOp_value (v:=.tuple #[(frm (.pointer (some ⟨bl,0,none⟩)) a b c f),.bool true]) (w':=(w0.alloc MM)) rfl (by rfl) (exec_look (by simp[go_sem,hsz]) (by simp[go_sem,hsz]) look1) ?_
    refine wpAny_take (i:=6) (v:=.tuple #[(frm (.pointer (some ⟨bl,0,none⟩)) a b c f),.bool true]) rfl (by kernel_rfl) (by kernel_rfl) (by kernel_rfl) (hpan _ _) (Or.inl ⟨by rfl,by intro w;simp[go_sem,hsz,g0,g1]⟩) ?_
    refine wpAny_take (i:=7) (v:=(frm (.pointer (some ⟨bl,0,none⟩)) a b c f)) rfl (by kernel_rfl) (by kernel_rfl) (by kernel_rfl) (hpan _ _) (Or.inl ⟨by rfl,by intro w;simp[go_sem,hsz,g0,g1]⟩) ?_
    refine wpAny_take (i:=8) (v:=.bool true) rfl (by kernel_rfl) (by kernel_rfl) (by kernel_rfl) (hpan _ _) (Or.inl ⟨by rfl,by intro w;simp[go_sem,hsz,g0,g1]⟩) ?_
    refine wpAny_one (i:=9) (by kernel_rfl) ?_
    refine wpOp_value (v:=.pointer (some ⟨((w0.alloc MM)).heap.size,0,none⟩)) (w':=(w0.alloc MM).alloc ZZ) rfl (by rfl) (by rw[←hZZ];simp[go_sem,hsz]) ?_
    refine wpAny_one (i:=10) (by kernel_rfl) ?_
    refine wpOp_skip (w':=fin19) rfl (by rfl) (exec_stor (by simp[go_sem,hsz]) (by simp[go_sem,hsz]) store19) ?_
    refine wpAny_one (i:=11) (by kernel_rfl) ?_
    refine wpOp_value (v:=.bool true) (w':=fin19) rfl (by rfl) (by simp[go_sem,hsz]) ?_
    exact wpAny_done (by kernel_rfl) (fin_mz _ (by simp[go_sem,hsz]) (by simp[go_sem,hsz,g0]) (by simp[go_sem,hsz,g1]) (by simp[go_sem,hsz]) (by simp[go_sem,hsz])) _
   ·refine wpOp_value (v:=.pointer (some ⟨((w0.alloc MM)).heap.size,0,none⟩)) (w':=(w0.alloc MM).alloc ZZ) rfl (by rfl) (by rw[←hZZ];simp[go_sem,hsz]) ?_
    refine wpAny_one (i:=5) (by kernel_rfl) ?_
    refine wpOp_value (v:=.tuple #[(frm (.pointer (some ⟨bl,0,none⟩)) a b c f),.bool true]) (w':=((w0.alloc MM).alloc ZZ)) rfl (by rfl) (exec_look (by simp[go_sem,hsz]) (by simp[go_sem,hsz]) look19) ?_
    refine wpAny_take (i:=6) (v:=.tuple #[(frm (.pointer (some ⟨bl,0,none⟩)) a b c f),.bool true]) rfl (by kernel_rfl) (by kernel_rfl) (by kernel_rfl) (hpan _ _) (Or.inl ⟨by rfl,by intro w;simp[go_sem,hsz,g0,g1]⟩) ?_
    refine wpAny_take (i:=7) (v:=(frm (.pointer (some ⟨bl,0,none⟩)) a b c f)) rfl (by kernel_rfl) (by kernel_rfl) (by kernel_rfl) (hpan _ _) (Or.inl ⟨by rfl,by intro w;simp[go_sem,hsz,g0,g1]⟩) ?_
    refine wpAny_take (i:=8) (v:=.bool true) rfl (by kernel_rfl) (by kernel_rfl) (by kernel_rfl) (hpan _ _) (Or.inl ⟨by rfl,by intro w;simp[go_sem,hsz,g0,g1]⟩) ?_
    refine wpAny_one (i:=10) (by kernel_rfl) ?_
    refine wpOp_skip (w':=fin19) rfl (by rfl) (exec_stor (by simp[go_sem,hsz]) (by simp[go_sem,hsz]) store19) ?_
    refine wpAny_one (i:=11) (by kernel_rfl) ?_
    refine wpOp_value (v:=.bool true) (w':=fin19) rfl (by rfl) (by simp[go_sem,hsz]) ?_
    exact wpAny_done (by kernel_rfl) (fin_mz _ (by simp[go_sem,hsz]) (by simp[go_sem,hsz,g0]) (by simp[go_sem,hsz,g1]) (by simp[go_sem,hsz]) (by simp[go_sem,hsz])) _
  ·refine wpOp_value (v:=.pointer (some ⟨(w0).heap.size,0,none⟩)) (w':=w0.alloc ZZ) rfl (by rfl) (by rw[←hZZ];simp[go_sem,hsz]) ?_
   refine wpAny_one (i:=1) (by kernel_rfl) ?_
   refine wpOp_enter (args:=#[.pointer (some ⟨bl,0,none⟩)]) (w':=(w0.alloc ZZ)) rfl (by rfl) (by simp[go_sem,hsz,g0,g1]) (forms_raw _ _) ?_
   rintro e w2 ⟨rfl,rfl⟩
   refine⟨_,rfl,?_⟩
   rw[hMM]
   refine wpAny_one (i:=5) (by kernel_rfl) ?_
   refine wpOp_value (v:=.tuple #[(frm (.pointer (some ⟨bl,0,none⟩)) a b c f),.bool true]) (w':=((w0.alloc ZZ).alloc MM)) rfl (by rfl) (exec_look (by simp[go_sem,hsz]) (by simp[go_sem,hsz]) look91) ?_
   refine wpAny_take (i:=6) (v:=.tuple #[(frm (.pointer (some ⟨bl,0,none⟩)) a b c f),.bool true]) rfl (by kernel_rfl) (by kernel_rfl) (by kernel_rfl) (hpan _ _) (Or.inl ⟨by rfl,by intro w;simp[go_sem,hsz,g0,g1]⟩) ?_
   refine wpAny_take (i:=7) (v:=(frm (.pointer (some ⟨bl,0,none⟩)) a b c f)) rfl (by kernel_rfl) (by kernel_rfl) (by kernel_rfl) (hpan _ _) (Or.inl ⟨by rfl,by intro w;simp[go_sem,hsz,g0,g1]⟩) ?_
   refine wpAny_take (i:=8) (v:=.bool true) rfl (by kernel_rfl) (by kernel_rfl) (by kernel_rfl) (hpan _ _) (Or.inl ⟨by rfl,by intro w;simp[go_sem,hsz,g0,g1]⟩) ?_
   refine wpAny_one (i:=10) (by kernel_rfl) ?_
   refine wpOp_skip (w':=fin91) rfl (by rfl) (exec_stor (by simp[go_sem,hsz]) (by simp[go_sem,hsz]) store91) ?_
   refine wpAny_one (i:=11) (by kernel_rfl) ?_
   refine wpOp_value (v:=.bool true) (w':=fin91) rfl (by rfl) (by simp[go_sem,hsz]) ?_
   exact wpAny_done (by kernel_rfl) (fin_zm _ (by simp[go_sem,hsz]) (by simp[go_sem,hsz,g0]) (by simp[go_sem,hsz,g1]) (by simp[go_sem,hsz]) (by simp[go_sem,hsz])) _
 ·refine wpOp_value (v:=.pointer (some ⟨(w0).heap.size,0,none⟩)) (w':=w0.alloc ZZ) rfl (by rfl) (by rw[←hZZ];simp[go_sem,hsz]) ?_
  refine wpAny_two (i:=1) (j:=4) (by kernel_rfl) ?_ ?_
  ·refine wpOp_enter (args:=#[.pointer (some ⟨bl,0,none⟩)]) (w':=(w0.alloc ZZ)) rfl (by rfl) (by simp[go_sem,hsz,g0,g1]) (forms_raw _ _) ?_
   rintro e w2 ⟨rfl,rfl⟩
   refine⟨_,rfl,?_⟩
   rw[hMM]
   refine wpAny_one (i:=4) (by kernel_rfl) ?_
   refine wpOp_value (v:=.string (str k)) (w':=((w0.alloc ZZ).alloc MM)) rfl (by rfl) (by simp[go_sem,hsz,g0,g1,hcell91]) ?_
   refine wpAny_one (i:=5) (by kernel_rfl) ?_
   refine wpOp_value (v:=.tuple #[(frm (.pointer (some ⟨bl,0,none⟩)) a b c f),.bool true]) (w':=((w0.alloc ZZ).alloc MM)) rfl (by rfl) (exec_look (by simp[go_sem,hsz]) (by simp[go_sem,hsz]) look91) ?_
   refine wpAny_take (i:=6) (v:=.tuple #[(frm (.pointer (some ⟨bl,0,none⟩)) a b c f),.bool true]) rfl (by kernel_rfl) (by kernel_rfl) (by kernel_rfl) (hpan _ _) (Or.inl ⟨by rfl,by intro w;simp[go_sem,hsz,g0,g1]⟩) ?_
   refine wpAny_take (i:=7) (v:=(frm (.pointer (some ⟨bl,0,none⟩)) a b c f)) rfl (by kernel_rfl) (by kernel_rfl) (by kernel_rfl) (hpan _ _) (Or.inl ⟨by rfl,by intro w;simp[go_sem,hsz,g0,g1]⟩) ?_
   refine wpAny_take (i:=8) (v:=.bool true) rfl (by kernel_rfl) (by kernel_rfl) (by kernel_rfl) (hpan _ _) (Or.inl ⟨by rfl,by intro w;simp[go_sem,hsz,g0,g1]⟩) ?_
   refine wpAny_one (i:=10) (by kernel_rfl) ?_
   refine wpOp_skip (w':=fin91) rfl (by rfl) (exec_stor (by simp[go_sem,hsz]) (by simp[go_sem,hsz]) store91) ?_
   refine wpAny_one (i:=11) (by kernel_rfl) ?_
   refine wpOp_value (v:=.bool true) (w':=fin91) rfl (by rfl) (by simp[go_sem,hsz]) ?_
   exact wpAny_done (by kernel_rfl) (fin_zm _ (by simp[go_sem,hsz]) (by simp[go_sem,hsz,g0]) (by simp[go_sem,hsz,g1]) (by simp[go_sem,hsz]) (by simp[go_sem,hsz])) _
  ·refine wpOp_value (v:=.string (str k)) (w':=(w0.alloc ZZ)) rfl (by rfl) (by simp[go_sem,hsz,g0,g1,hcell9]) ?_
   refine wpAny_one (i:=1) (by kernel_rfl) ?_
   refine wpOp_enter (args:=#[.pointer (some ⟨bl,0,none⟩)]) (w':=(w0.alloc ZZ)) rfl (by rfl) (by simp[go_sem,hsz,g0,g1]) (forms_raw _ _) ?_
   rintro e w2 ⟨rfl,rfl⟩
   refine⟨_,rfl,?_⟩
   rw[hMM]
   refine wpAny_one (i:=5) (by kernel_rfl) ?_
   refine wpOp_value (v:=.tuple #[(frm (.pointer (some ⟨bl,0,none⟩)) a b c f),.bool true]) (w':=((w0.alloc ZZ).alloc MM)) rfl (by rfl) (exec_look (by simp[go_sem,hsz]) (by simp[go_sem,hsz]) look91) ?_
   refine wpAny_take (i:=6) (v:=.tuple #[(frm (.pointer (some ⟨bl,0,none⟩)) a b c f),.bool true]) rfl (by kernel_rfl) (by kernel_rfl) (by kernel_rfl) (hpan _ _) (Or.inl ⟨by rfl,by intro w;simp[go_sem,hsz,g0,g1]⟩) ?_
   refine wpAny_take (i:=7) (v:=(frm (.pointer (some ⟨bl,0,none⟩)) a b c f)) rfl (by kernel_rfl) (by kernel_rfl) (by kernel_rfl) (hpan _ _) (Or.inl ⟨by rfl,by intro w;simp[go_sem,hsz,g0,g1]⟩) ?_
   refine wpAny_take (i:=8) (v:=.bool true) rfl (by kernel_rfl) (by kernel_rfl) (by kernel_rfl) (hpan _ _) (Or.inl ⟨by rfl,by intro w;simp[go_sem,hsz,g0,g1]⟩) ?_
   refine wpAny_one (i:=10) (by kernel_rfl) ?_
   refine wpOp_skip (w':=fin91) rfl (by rfl) (exec_stor (by simp[go_sem,hsz]) (by simp[go_sem,hsz]) store91) ?_
   refine wpAny_one (i:=11) (by kernel_rfl) ?_
   refine wpOp_value (v:=.bool true) (w':=fin91) rfl (by rfl) (by simp[go_sem,hsz]) ?_
   exact wpAny_done (by kernel_rfl) (fin_zm _ (by simp[go_sem,hsz]) (by simp[go_sem,hsz,g0]) (by simp[go_sem,hsz,g1]) (by simp[go_sem,hsz]) (by simp[go_sem,hsz])) _
end Go.Proofs.YtdjmklobfjigoaaGreatDoor
namespace Go.Proofs.YtdjmklobfjigoaaGreatDoor
open Go.RowKit Sy
theorem und_bs:Tryz.prog.underlying 82=some (.slice 5):=by kernel_rfl
theorem und_u8:Tryz.prog.underlying 5=some (.int .u8):=by kernel_rfl
theorem und_sg:Tryz.prog.underlying 9=some .string:=by kernel_rfl
theorem atoi_raw (s:ByteArray) (m:Nat) (b0:UInt8) (hl:s.size≤18) (hpos:0 < s.size) (hs0:s[0]'hpos=b0) (hn45:b0≠45) (hn43:b0≠43) (hm:Lib.decFrom 0 s.data.toList=some m) (w:World) :
  Calls Tryz.prog 129 #[.string s] w fun e w'=>e = .returned (.tuple #[.int .i64 m,.nilIface])∧w'=Lib.bytesWorld w 5 s:=by
 have h45:((b0.toNat:Int) == 45)=false:=beq_eq_false_iff_ne.2 fun e=>hn45 (UInt8.toNat_inj.1 (by show b0.toNat=45;omega))
 have h43:((b0.toNat:Int) == 43)=false:=beq_eq_false_iff_ne.2 fun e=>hn43 (UInt8.toNat_inj.1 (by show b0.toNat=43;omega))
 clear hn45 hn43
 have hcv:=Lib.run_convert_string_bytes (P:=Tryz.prog) w 9 82 5 s (u:=.string) und_sg und_bs und_u8
 have hB:∀ j,j < s.size→(Lib.bytesWorld w 5 s).cell? ⟨w.heap.size,j,none⟩=some (.int .u8 (s.data.toList.getD j 0).toNat):=fun j hj=>Lib.bytesWorld_cell w 5 s j hj
 obtain⟨W1,hW1⟩:∃ W1,W1=Lib.bytesWorld w 5 s:=⟨_,rfl⟩
 rw[←hW1]at hcv hB
 have HW:=Lib.hid hW1
 have HB:=Lib.hid hB
 have hm18:=Lib.decFrom_lt18 hm (by rw[←Lib.size_eq];omega)
 have HM:=Lib.hid hm
 clear hW1 hB hm
 go_enter Tryz.func129,Tryz.ntmps129
 go_wp2
 go_loop [49,6] (fun vi vn=>∃ (k acc:Nat),k≤s.size∧vi = .int .i64 k∧vn = .int .i64 acc∧Hid (Lib.decFrom 0 (s.data.toList.take k)=some acc)) (fun vi _=>s.size - (RowKit.intOf vi).toNat)
 case atStart=>exact⟨0,0,Nat.zero_le _,rfl,rfl,rfl⟩
 case round=>
  obtain⟨k,acc,hk,rfl,rfl,hacc⟩:=hrel
  by_cases hkn:k < s.size
  ·obtain⟨x,hx⟩:∃ x,x=s.data.toList.getD k 0:=⟨_,rfl⟩
   have hxk:s.data.toList[k]? = some x:=by
    rw[hx,List.getD,List.getElem?_eq_getElem (by rw[←Lib.size_eq];exact hkn)]
    rfl
   have hc1:W1.cell? ⟨w.heap.size,k,none⟩=some (.int .u8 x.toNat):=by rw[hx];exact HB.out k hkn
   obtain⟨dv,hdv⟩:=Lib.digit_of_decFrom _ 0 m HM.out k x hxk
   obtain⟨h48,h57,hde⟩:=Lib.digitVal_eq hdv
   have hlt:=Lib.decFrom_take_lt hacc.out (by omega)
   have Hxk:=Lib.hid hxk
   have Hdv:=Lib.hid hdv
   clear hx hxk hdv
   go_wp2
   go_round
   case rel=>exact⟨k+1,acc * 10+dv,by omega,by go_num,by first|go_num|(congr 1;omega),Lib.decFrom_take _ k 0 acc x dv hacc.out Hxk.out Hdv.out⟩
   case measure=>simp[RowKit.intOf];omega
  ·have hke:k=s.size:=by omega
   subst hke
   have hfin:acc=m:=by
    have h1:=hacc.out
    rw[List.take_of_length_le (by rw[←Lib.size_eq];exact Nat.le_refl _),HM.out]at h1
    exact (Option.some.inj h1).symm
   subst hfin
   go_wp2
   go_ret2
   exact⟨rfl,HW.out⟩
theorem same_bytes (w:World) (e:TypeId) (s:ByteArray):Same w (Lib.bytesWorld w e s):=
 ⟨fun b o hb=>Lib.bytesWorld_old w e s ⟨b,o,none⟩ hb,fun k cs t m hk=>Lib.bytesWorld_at_old w e s k (Array.getElem?_eq_some_iff.1 hk).1,by rw[Lib.bytesWorld_size];omega⟩
theorem satoi_fn (s:ByteArray) (m:Nat) (b0:UInt8) (hl:s.size≤18) (hpos:0 < s.size) (hs0:s[0]'hpos=b0) (hn45:b0≠45) (hn43:b0≠43) (hm:Lib.decFrom 0 s.data.toList=some m) :
  FnOk Tryz.prog 119 [.t (.lit (.string s))] [] (.tup [.t (.int m),.t (.lit .nilIface)]) []:=by
 intro G w us hh hr
 unfold RepPs at hr
 obtain⟨u1,r1,rfl,h1,hr⟩:=hr
 unfold RepPs at hr
 subst hr
 unfold RepS Rep at h1
 obtain⟨rfl,_⟩:=h1
 have key:Calls Tryz.prog 119 #[.string s] w fun e w'=>e = .returned (.tuple #[.int .i64 m,.nilIface])∧w'=Lib.bytesWorld w 5 s:=by
  go_enter Tryz.func119,Tryz.ntmps119
  go_wp2_with (go_at_call 129;refine (atoi_raw s m b0 hl hpos hs0 hn45 hn43 hm _).mono ?_;rintro e w' ⟨rfl,rfl⟩)
  go_ret2
  exact⟨rfl,rfl⟩
 refine key.mono ?_
 rintro e w' ⟨rfl,rfl⟩
 have hS:=same_bytes w 5 s
 refine⟨_,G,rfl,⟨rfl,rfl,rfl,hS.size,fun b hb _=>Lib.bytesWorld_at_old w _ s b hb,fun l b k h=>by simp[lkB]at h,fun _ h=>h,fun _ h=> .inl h,fun _ _=>rfl⟩,hh.same hS,?_⟩
 unfold RepS
 refine⟨[.int .i64 m,.nilIface],rfl,?_⟩
 unfold RepPs
 refine⟨_,_,rfl,by unfold RepS Rep;exact⟨rfl,rfl⟩,?_⟩
 unfold RepPs
 refine⟨_,_,rfl,by unfold RepS Rep;exact⟨rfl,rfl⟩,?_⟩
 unfold RepPs;rfl
def ixQ (c:Nat):List UInt8→Nat→Option Nat
 | [],_=>none
 | b :: l,k=>bif Nat.beq b.toNat c then some k else ixQ c l (k+1)
theorem ixQ_spec (c:UInt8):∀ (l:List UInt8) (k:Nat),Lib.indexByte l c=match ixQ c.toNat l k with
  | some i=>(i:Int) - k
  | none=>-1
 | [],k=>rfl
 | b :: l,k=>by
  have ih:=ixQ_spec c l (k+1)
  have hb:(b == c)=Nat.beq b.toNat c.toNat:=by
   rw[Bool.eq_iff_iff]
   simp[UInt8.toNat_inj]
  unfold Lib.indexByte
  unfold ixQ
  rw[hb]
  cases hc:Nat.beq b.toNat c.toNat with
  | true=>simp
  | false=>
   simp only[cond_false,Bool.false_eq_true,if_false]
   rw[ih]
   cases hq:ixQ c.toNat l (k+1) with
   | none=>simp
   | some i=>
    have:k+1≤i:=by
     have gen:∀ (l:List UInt8) (m i:Nat),ixQ c.toNat l m=some i→m≤i:=by
      intro l
      induction l with
      | nil=>intro m i h;simp[ixQ]at h
      | cons x r ih=>
       intro m i h
       unfold ixQ at h
       cases hx:Nat.beq x.toNat c.toNat<;>rw[hx]at h<;>simp only[cond_true,cond_false]at h
       ·have:=ih _ _ h;omega
       ·cases h;omega
     exact gen _ _ _ hq
    dsimp only
    have e1:((k+1:Nat):Int)=(k:Int)+1:=rfl
    have e2:¬ (((i:Int) - ((k:Int)+1)) == -1)=true:=by simp;omega
    rw[e1,if_neg e2]
    show (i:Int) - ((k:Int)+1)+1=(i:Int) - k
    exact (by intro x y;omega:∀ x y:Int,x - (y+1)+1=x - y) i k
def cntQ (c:Nat):List UInt8→Nat
 | []=>0
 | b :: l=>bif Nat.beq b.toNat c then cntQ c l+1 else cntQ c l
theorem cntQ_spec (c:UInt8):∀ l:List UInt8,Lib.countByte l c=cntQ c.toNat l
 | []=>rfl
 | b :: l=>by
  have ih:=cntQ_spec c l
  unfold Lib.countByte at *
  have hb:(b == c)=Nat.beq b.toNat c.toNat:=by
   rw[Bool.eq_iff_iff]
   simp[UInt8.toNat_inj]
  rw[List.count_cons,ih,hb]
  rw[cntQ]
  cases Nat.beq b.toNat c.toNat<;>simp
abbrev KnT:=FuncId→List S→List (Nat×Blk)→Option (S×List (Nat×Blk))
def KnOk (kn:KnT):Prop:=∀ f ss pre r post,kn f ss pre=some (r,post)→FnOk Tryz.prog f ss pre r post
def knIx (ss:List S) (pre:List (Nat×Blk)):Option (S×List (Nat×Blk)):=match ss,pre with
 | [.t (.lit (.string s)),.t (.lit (.int .u8 (.ofNat c)))],[]=>bif Nat.ble c 255 then (match ixQ c s.data.toList 0 with
  | some i=>some (.t (.int (i:Nat)),[])
  | none=>some (.t (.int (-1)),[])) else none
 | _,_=>none
theorem knIx_ok {ss:List S} {pre:List (Nat×Blk)} {r:S} {post:List (Nat×Blk)} (h:knIx ss pre=some (r,post)):FnOk Tryz.prog 131 ss pre r post:=by
 unfold knIx at h
 split at h
 ·rename_i s c
  cases hc:Nat.ble c 255<;>rw[hc]at h<;>simp only[cond_true,cond_false]at h
  ·cases h
  have hc:=Nat.le_of_ble_eq_true hc
  have f1:=sib_fn s (.ofNat c)
  have e:(Int.ofNat c).toNat.toUInt8.toNat=c:=by simp;omega
  have e2:=ixQ_spec (Int.ofNat c).toNat.toUInt8 s.data.toList 0
  rw[e]at e2
  split at h
  ·rename_i i hi
   cases h
   rw[hi]at e2
   simp at e2
   simp only[Int.ofNat_eq_natCast,Int.toNat_natCast]at f1
   rw[e2]at f1
   exact f1
  ·rename_i hi
   cases h
   rw[hi]at e2
   simp at e2
   simp only[Int.ofNat_eq_natCast,Int.toNat_natCast]at f1
   rw[e2]at f1
   exact f1
 ·cases h
def knCt (ss:List S) (pre:List (Nat×Blk)):Option (S×List (Nat×Blk)):=match ss,pre with
 | [.t (.lit (.string s)),.t (.lit (.string ⟨⟨[c]⟩⟩))],[]=>some (.t (.int (cntQ c.toNat s.data.toList:Nat)),[])
 | _,_=>none
theorem knCt_ok {ss:List S} {pre:List (Nat×Blk)} {r:S} {post:List (Nat×Blk)} (h:knCt ss pre=some (r,post)):FnOk Tryz.prog 72 ss pre r post:=by
 unfold knCt at h
 split at h
 ·rename_i s c
  cases h
  have f1:=scount_fn s c
  rw[cntQ_spec]at f1
  exact f1
 ·cases h
def knAt (ss:List S) (pre:List (Nat×Blk)):Option (S×List (Nat×Blk)):=match ss,pre with
 | [.t (.lit (.string ⟨⟨b :: r⟩⟩))],[]=>bif Nat.ble r.length 17 && !(Nat.beq b.toNat 45) && !(Nat.beq b.toNat 43) then (match Lib.decFrom 0 (b :: r) with
  | some m=>some (.tup [.t (.int (m:Nat)),.t (.lit .nilIface)],[])
  | none=>none) else none
 | _,_=>none
theorem knAt_ok {ss:List S} {pre:List (Nat×Blk)} {r:S} {post:List (Nat×Blk)} (h:knAt ss pre=some (r,post)):FnOk Tryz.prog 119 ss pre r post:=by
 unfold knAt at h
 split at h
 ·rename_i b l
  cases hc:(Nat.ble l.length 17 && !(Nat.beq b.toNat 45) && !(Nat.beq b.toNat 43))<;>rw[hc]at h<;>simp only[cond_true,cond_false]at h
  ·cases h
  simp only[Bool.and_eq_true,Bool.not_eq_true']at hc
  obtain⟨⟨h1,h2⟩,h3⟩:=hc
  have h1:=Nat.le_of_ble_eq_true h1
  split at h
  ·rename_i m hm
   cases h
   refine satoi_fn ⟨⟨b :: l⟩⟩ m b (by show l.length+1≤18;omega) (by show 0 < l.length+1;omega) rfl (fun e=>?_) (fun e=>?_) hm
   ·subst e;simp at h2
   ·subst e;simp at h3
  ·cases h
 ·cases h
def knS (kn:KnT):KnT:=fun f ss pre=>bif Nat.beq f 131 then knIx ss pre else bif Nat.beq f 72 then knCt ss pre else bif Nat.beq f 119 then knAt ss pre else kn f ss pre
theorem knS_ok {kn:KnT} (h:KnOk kn):KnOk (knS kn):=by
 intro f ss pre r post e
 unfold knS at e
 cases h1:Nat.beq f 131<;>rw[h1]at e<;>simp only[cond_true,cond_false]at e
 ·cases h2:Nat.beq f 72<;>rw[h2]at e<;>simp only[cond_true,cond_false]at e
  ·cases h3:Nat.beq f 119<;>rw[h3]at e<;>simp only[cond_true,cond_false]at e
   ·exact h f ss pre r post e
   ·rw[Nat.eq_of_beq_eq_true h3];exact knAt_ok e
  ·rw[Nat.eq_of_beq_eq_true h2];exact knCt_ok e
 ·rw[Nat.eq_of_beq_eq_true h1];exact knIx_ok e
def formOf (k:List Nat):Option (Nat×Int×Int×Int×FuncId):=
 if k=[110,101,116,119,111,114,107] then some (0,1,2,0,112)
 else if k=[110,111,100,101] then some (1,2,1,1,113)
 else if k=[115,101,103,109,101,110,116] then some (2,3,6,3,114)
 else if k=[112,111,105,110,116] then some (3,3,3,0,115)
 else if k=[112,111,114,116] then some (4,4,3,2,116)
 else none
theorem formOf_ok {k:List Nat} {i:Nat} {a b c:Int} {f:FuncId} (h:formOf k=some (i,a,b,c,f)):∀ p,Instr.findNow .string (.string (str k)) (formsE p).toList 0=some (some (i,frm p a b c f)):=by
 intro p
 unfold formOf at h
 split at h
 ·rename_i e;subst e;cases h;kernel_rfl
 split at h
 ·rename_i e;subst e;cases h;kernel_rfl
 split at h
 ·rename_i e;subst e;cases h;kernel_rfl
 split at h
 ·rename_i e;subst e;cases h;kernel_rfl
 split at h
 ·rename_i e;subst e;cases h;kernel_rfl
 ·cases h
noncomputable def knLine (kn:KnT) (fz:List FuncId) (fuel n:Nat) (ss:List S) (pre:List (Nat×Blk)):Option (S×List (Nat×Blk)):=match ss with
 | [.pt 0 [] 0,.t (.sl 1 (.lit (.string kb) :: ws))]=>match formOf (kb.data.toList.map fun c=>c.toNat) with
  | some (i,a,b,c,f)=>bif pre.all fun q=>q.1 != 105 && q.2.free 105 then
    (match evC Tryz.prog (callC (evF Tryz.prog kn fz fuel n)) fuel lineRest ⟨[(6,.t (.bool true)),(5,.pt 105 [] 0),(0,.pt 0 [] 0),(1,.t (.sl 1 (.lit (.string kb) :: ws)))],(105,.box 131 (.ag [.t (.int a),.t (.int b),.t (.int c),.fb f [.pt 0 [] 0]])) :: pre⟩ with
    | some (.ret,σ)=>finX Tryz.prog false Tryz.f54.results.toList σ
    | _=>none)
   else none
  | none=>none
 | _=>none
theorem knLine_ok {kn:KnT} (hk:KnOk kn) {fz:List FuncId} {fuel n:Nat} {ss:List S} {pre:List (Nat×Blk)} {r:S} {post:List (Nat×Blk)} (h:knLine kn fz fuel n ss pre=some (r,post)):FnOk Tryz.prog 54 ss pre r post:=by
 unfold knLine at h
 split at h
 ·rename_i kb ws
  split at h
  ·rename_i i a b c f hf
   cases hp:(pre.all fun q=>q.1 != 105 && q.2.free 105)<;>rw[hp]at h<;>simp only[cond_true,cond_false]at h
   ·cases h
   have hs:str (kb.data.toList.map fun c=>c.toNat)=kb:=by
    obtain⟨⟨l⟩⟩:=kb
    simp[str,Function.comp_def]
   split at h
   ·rename_i σ hσ
    have:=line_cw (kb.data.toList.map fun c=>c.toNat) a b c f i (formOf_ok hf) ws pre hp r post
    rw[hs]at this
    exact this (evC_sound (fun σ=>callC_spec (evF_spec (fz:=fz) (fuel:=fuel) fact_mixed hk n) σ) lineRest _ _ .ret _ hσ (finX_spec h))
   ·cases h
  ·cases h
 ·cases h
end Go.Proofs.YtdjmklobfjigoaaGreatDoor
namespace Go.Proofs.YtdjmklobfjigoaaGreatDoor
open Go.RowKit Sy
open Go.IntWalk renaming iteOmega → iO, toNatUp → tN
abbrev segF:List T:=[.lit (.string (str [115])),.int 0,.int 1,.int 10,.int 0,.int 0]
abbrev ptT (a h l:Int):T:=.agg [.int a,.int h,.int l]
abbrev segR (pts:List T):Blk:=.rows 38 7 [.fw segF 35 3 pts] []
abbrev rdP (last:List Nat):Blk:=.box 106 (.ag [.ag [.t (.sl 1 [.lit (.string (str [97])),.lit (.string (str [98]))]),.own 2,.t (.lit (.slice none 0 0)),.t (.lit (.slice none 0 0)),.t (.int 0),.t (.int 0)],.t (.int 3),.t (.lit (.string (str last)))])
theorem point_fn (ws:List T) (last:List Nat) (pts:List T) (hp:pts.length≤5) (hw:∀ y∈pts,y.width=3) (a h l:Int) :
  FnOk Tryz.prog 115 [.pt 0 [] 0,.t (.sl 1 ws),.t (.sl 1 [.int a,.int h,.int l])] [(0,rdP last),(2,segR pts)] (.t (.int 0)) [(0,rdP last),(2,segR (pts++[ptT a h l]))]:=by
 refine FnOk.intro fact_mixed Tryz.func115 rfl Tryz.ntmps115 (by rfl) (by simp) ?_
 iterate 2 (refine n1s rfl ?_;simp[go_sem,↓iO,iO,tN];(repeat (refine anI ?_));try (refine⟨dcK,?_⟩))
 refine CW.openRow 2 0 555 (us:=[.fw segF 35 3 pts]) (ex:=[]) (u:=.fw segF 35 3 pts) (b:=.list 35 3 pts) (by rfl) (by rfl) (by rfl) (by rfl) (by kernel_rfl) (by omega) ?_
 simp[go_sem,↓iO,iO,tN]
 iterate 1 (refine n1s rfl ?_;simp[go_sem,↓iO,iO,tN,hp];(repeat (refine anI ?_));try (refine⟨dcK,?_⟩))
 refine CW.closeRow 2 0 137 (.fw segF 35 3 (pts++[ptT a h l])) (us:=[.fw segF 35 3 pts]) (e:=38) (s:=7) (e':=35) (s':=3) (xs:=pts++[ptT a h l])
  (ex:=[(0,.ag [.t (.lit (.string (str [115]))),.t (.int 0),.t (.int 1),.t (.int 10),.t (.int 0),.t (.int 0),.own 137])]) (by rfl) (by rfl) (by rfl) (by rfl) ?_
 simp[go_sem,↓iO,iO,tN]
 repeat (first|(refine n1s rfl ?_;simp[go_sem,↓iO,iO,tN])|refine anI ?_|refine⟨dcK,?_⟩|refine iP ?_|refine iN ?_)
 first|rw[TqR]|rw[TqN]
 refine⟨[(0,some 0),(2,some 2)],?_⟩
 simp[go_sem,↓iO,iO,tN]
abbrev lnP (s1 s2 s3:List Nat):T:=.sl 1 [.lit (.string (str [112,111,105,110,116])),.lit (.string (str s1)),.lit (.string (str s2)),.lit (.string (str s3))]
def numsP (a h l:Int):Nat→List Int
 | 0=>[]
 | 1=>[a]
 | 2=>[a,h]
 | _=>[a,h,l]
abbrev NumC (s:List Nat) (n:Int):Prop:=FnOk Tryz.prog 78 [.t (.lit (.string (str s)))] [] (.tup [.t (.int n),.t (.int 0)]) []
theorem pline_fn (s1 s2 s3:List Nat) (a h l:Int) (c1:NumC s1 a) (c2:NumC s2 h) (c3:NumC s3 l) (pts:List T) (hp:pts.length≤5) (hw:∀ y∈pts,y.width=3) :
  FnOk Tryz.prog 54 [.pt 0 [] 0,.t (lnP s1 s2 s3)] [(0,rdP [115,101,103,109,101,110,116]),(2,segR pts)] (.t (.int 0)) [(0,rdP [112,111,105,110,116]),(2,segR (pts++[ptT a h l]))]:=by
 refine line_cw [112,111,105,110,116] 3 3 0 115 3 (fun p=>by kernel_rfl) _ _ (by rfl) _ _ ?_
 have cp:=point_fn [] [112,111,105,110,116] pts hp hw a h l
 have hq1:(str [112,111,105,110,116]).toList=[112,111,105,110,116]:=by kernel_rfl
 have hq2:(str [115,101,103,109,101,110,116]).toList=[115,101,103,109,101,110,116]:=by kernel_rfl
 have hq3:¬ (str [112,111,105,110,116]).toList=[115,101,103,109,101,110,116]:=by rw[hq1];decide
 unfold lineRest lineC
 simp only[Tryz.f54,Option.getD]
 repeat (first|(refine n1s rfl ?_;simp[go_sem,↓iO,iO,tN])|refine anI ?_|refine⟨dcK,?_⟩|refine iP ?_|refine iN ?_)
 refine nf1_sound' _ _ _ ?_;simp only[nf1]
 refine CW.loop (ι:=Nat) (fun k=>⟨[(0,.pt 0 [] 0),(1,.t (lnP s1 s2 s3)),(5,.pt 505 [] 0),(7,.own 507),(36,.t (.sl 1 [.lit (.string (str s1)),.lit (.string (str s2)),.lit (.string (str s3))])),(37,.t (.int 3)),(38,.t (.int k))],[(0,rdP [115,101,103,109,101,110,116]),(2,segR pts),(505,.box 131 (.ag [.t (.int 3),.t (.int 3),.t (.int 0),.fb 115 [.pt 0 [] 0]])),(507,.list 3 1 ((numsP a h l k).map encI))]⟩) (fun k=>k≤3) (fun k=>3 - k) 0 [(0,some 0),(2,some 2),(505,some 105),(507,none)] (by omega) ?_ ?_
 ·simp[go_sem,↓iO,iO,tN,numsP]
 intro k hk
 have h4:k=0∨k=1∨k=2∨k=3:=by omega
 rcases h4 with rfl|rfl|rfl|rfl
 ·repeat (first|(refine n1s rfl ?_;simp[go_sem,↓iO,iO,tN,numsP])|refine anI ?_|refine⟨dcK,?_⟩|refine iP ?_|refine iN ?_)
  refine cF (c1) [] ?_ ?_ ?_ ?_<;>simp[go_sem,↓iO,iO,tN]
  repeat (first|(refine n1s rfl ?_;simp[go_sem,↓iO,iO,tN,numsP])|refine anI ?_|refine⟨dcK,?_⟩|refine iP ?_|refine iN ?_)
  rw[RqN];refine⟨1,[(0,some 0),(2,some 2),(505,some 505),(507,some 152)],?_,?_,?_⟩
  ·omega
  ·omega
  simp[go_sem,↓iO,iO,tN,numsP]
 ·repeat (first|(refine n1s rfl ?_;simp[go_sem,↓iO,iO,tN,numsP])|refine anI ?_|refine⟨dcK,?_⟩|refine iP ?_|refine iN ?_)
  refine cF (c2) [] ?_ ?_ ?_ ?_<;>simp[go_sem,↓iO,iO,tN]
  repeat (first|(refine n1s rfl ?_;simp[go_sem,↓iO,iO,tN,numsP])|refine anI ?_|refine⟨dcK,?_⟩|refine iP ?_|refine iN ?_)
  rw[RqN];refine⟨2,[(0,some 0),(2,some 2),(505,some 505),(507,some 152)],?_,?_,?_⟩
  ·omega
  ·omega
  simp[go_sem,↓iO,iO,tN,numsP]
 ·repeat (first|(refine n1s rfl ?_;simp[go_sem,↓iO,iO,tN,numsP])|refine anI ?_|refine⟨dcK,?_⟩|refine iP ?_|refine iN ?_)
  refine cF (c3) [] ?_ ?_ ?_ ?_<;>simp[go_sem,↓iO,iO,tN]
  repeat (first|(refine n1s rfl ?_;simp[go_sem,↓iO,iO,tN,numsP])|refine anI ?_|refine⟨dcK,?_⟩|refine iP ?_|refine iN ?_)
  rw[RqN];refine⟨3,[(0,some 0),(2,some 2),(505,some 505),(507,some 152)],?_,?_,?_⟩
  ·omega
  ·omega
  simp[go_sem,↓iO,iO,tN,numsP]
 ·repeat (first|(refine n1s rfl ?_;simp[go_sem,↓iO,iO,tN,numsP,hq1,hq2,hq3])|refine anI ?_|refine⟨dcK,?_⟩|refine iP ?_|refine iN ?_)
  refine CallK.fn (cp) [(0,0),(2,2)] [] [507] (by kernel_rfl) ?_ ?_ ?_ (Or.inl rfl) ?_<;>simp[go_sem,↓iO,iO,tN,numsP]
  repeat (first|(refine n1s rfl ?_;simp[go_sem,↓iO,iO,tN])|refine anI ?_|refine⟨dcK,?_⟩|refine iP ?_|refine iN ?_)
  first|rw[TqR]|rw[TqN]
  refine⟨[(0,some 0),(2,some 2)],?_⟩
  simp[go_sem,↓iO,iO,tN]
theorem pline2_fn (s1 s2 s3:List Nat) (a h l:Int) (c1:NumC s1 a) (c2:NumC s2 h) (c3:NumC s3 l) (pts:List T) (hp:pts.length≤5) (hw:∀ y∈pts,y.width=3) :
  FnOk Tryz.prog 54 [.pt 0 [] 0,.t (lnP s1 s2 s3)] [(0,rdP [112,111,105,110,116]),(2,segR pts)] (.t (.int 0)) [(0,rdP [112,111,105,110,116]),(2,segR (pts++[ptT a h l]))]:=by
 refine line_cw [112,111,105,110,116] 3 3 0 115 3 (fun p=>by kernel_rfl) _ _ (by rfl) _ _ ?_
 have cp:=point_fn [] [112,111,105,110,116] pts hp hw a h l
 have hq1:(str [112,111,105,110,116]).toList=[112,111,105,110,116]:=by kernel_rfl
 have hq2:(str [115,101,103,109,101,110,116]).toList=[115,101,103,109,101,110,116]:=by kernel_rfl
 have hq3:¬ (str [112,111,105,110,116]).toList=[115,101,103,109,101,110,116]:=by rw[hq1];decide
 unfold lineRest lineC
 simp only[Tryz.f54,Option.getD]
 repeat (first|(refine n1s rfl ?_;simp[go_sem,↓iO,iO,tN])|refine anI ?_|refine⟨dcK,?_⟩|refine iP ?_|refine iN ?_)
 refine nf1_sound' _ _ _ ?_;simp only[nf1]
 refine CW.loop (ι:=Nat) (fun k=>⟨[(0,.pt 0 [] 0),(1,.t (lnP s1 s2 s3)),(5,.pt 505 [] 0),(7,.own 507),(36,.t (.sl 1 [.lit (.string (str s1)),.lit (.string (str s2)),.lit (.string (str s3))])),(37,.t (.int 3)),(38,.t (.int k))],[(0,rdP [112,111,105,110,116]),(2,segR pts),(505,.box 131 (.ag [.t (.int 3),.t (.int 3),.t (.int 0),.fb 115 [.pt 0 [] 0]])),(507,.list 3 1 ((numsP a h l k).map encI))]⟩) (fun k=>k≤3) (fun k=>3 - k) 0 [(0,some 0),(2,some 2),(505,some 105),(507,none)] (by omega) ?_ ?_
 ·simp[go_sem,↓iO,iO,tN,numsP]
 intro k hk
 have h4:k=0∨k=1∨k=2∨k=3:=by omega
 rcases h4 with rfl|rfl|rfl|rfl
 ·repeat (first|(refine n1s rfl ?_;simp[go_sem,↓iO,iO,tN,numsP])|refine anI ?_|refine⟨dcK,?_⟩|refine iP ?_|refine iN ?_)
  refine cF (c1) [] ?_ ?_ ?_ ?_<;>simp[go_sem,↓iO,iO,tN]
  repeat (first|(refine n1s rfl ?_;simp[go_sem,↓iO,iO,tN,numsP])|refine anI ?_|refine⟨dcK,?_⟩|refine iP ?_|refine iN ?_)
  rw[RqN];refine⟨1,[(0,some 0),(2,some 2),(505,some 505),(507,some 152)],?_,?_,?_⟩
  ·omega
  ·omega
  simp[go_sem,↓iO,iO,tN,numsP]
 ·repeat (first|(refine n1s rfl ?_;simp[go_sem,↓iO,iO,tN,numsP])|refine anI ?_|refine⟨dcK,?_⟩|refine iP ?_|refine iN ?_)
  refine cF (c2) [] ?_ ?_ ?_ ?_<;>simp[go_sem,↓iO,iO,tN]
  repeat (first|(refine n1s rfl ?_;simp[go_sem,↓iO,iO,tN,numsP])|refine anI ?_|refine⟨dcK,?_⟩|refine iP ?_|refine iN ?_)
  rw[RqN];refine⟨2,[(0,some 0),(2,some 2),(505,some 505),(507,some 152)],?_,?_,?_⟩
  ·omega
  ·omega
  simp[go_sem,↓iO,iO,tN,numsP]
 ·repeat (first|(refine n1s rfl ?_;simp[go_sem,↓iO,iO,tN,numsP])|refine anI ?_|refine⟨dcK,?_⟩|refine iP ?_|refine iN ?_)
  refine cF (c3) [] ?_ ?_ ?_ ?_<;>simp[go_sem,↓iO,iO,tN]
  repeat (first|(refine n1s rfl ?_;simp[go_sem,↓iO,iO,tN,numsP])|refine anI ?_|refine⟨dcK,?_⟩|refine iP ?_|refine iN ?_)
  rw[RqN];refine⟨3,[(0,some 0),(2,some 2),(505,some 505),(507,some 152)],?_,?_,?_⟩
  ·omega
  ·omega
  simp[go_sem,↓iO,iO,tN,numsP]
 ·repeat (first|(refine n1s rfl ?_;simp[go_sem,↓iO,iO,tN,numsP,hq1,hq2,hq3])|refine anI ?_|refine⟨dcK,?_⟩|refine iP ?_|refine iN ?_)
  refine CallK.fn (cp) [(0,0),(2,2)] [] [507] (by kernel_rfl) ?_ ?_ ?_ (Or.inl rfl) ?_<;>simp[go_sem,↓iO,iO,tN,numsP]
  repeat (first|(refine n1s rfl ?_;simp[go_sem,↓iO,iO,tN])|refine anI ?_|refine⟨dcK,?_⟩|refine iP ?_|refine iN ?_)
  first|rw[TqR]|rw[TqN]
  refine⟨[(0,some 0),(2,some 2)],?_⟩
  simp[go_sem,↓iO,iO,tN]
end Go.Proofs.YtdjmklobfjigoaaGreatDoor
