/- An evaluator of functions on symbolic states, which the kernel runs: what it finds is a contract. No condition. -/
import Derived.Test.YtcehllkmfkoncaaGreatSyX
namespace Go.Proofs.YtcehllkmfkoncaaGreat.Sy
open Go.RowKit
set_option linter.unusedVariables false
set_option linter.unusedSimpArgs false
set_option maxHeartbeats 1000000

/-! ### Own lists as trees -/
mutual
def S.tree (bor : List Nat) (h : Nat → Option Blk) : S → Option T
  | .t x => some x
  | .own l => bif bor.contains l then match h l with
    | some (.list _ s xs) => some (.sl s xs)
    | some (.rows _ s us []) => some (.sl s (us.map U.toT))
    | _ => none else none
  | .ag fs => match S.trees bor h fs with
    | some xs => some (.agg xs)
    | none => none
  | _ => none
def S.trees (bor : List Nat) (h : Nat → Option Blk) : List S → Option (List T)
  | [] => some []
  | x :: r => match x.tree bor h with
    | some y => match S.trees bor h r with
      | some q => bif Nat.beq y.width x.width then some (y :: q) else none
      | none => none
    | none => none
end
section
variable {bor : List Nat} {h : Nat → Option Blk}
section
variable {ρ : List (Nat × Nat)}
mutual
theorem tree_argR : ∀ (s : S) (x : T), s.tree bor h = some x → argR ρ h bor s (.t x)
  | .dead, x, e => by simp only [S.tree] at e; cases e
  | .t y, x, e => by simp only [S.tree] at e; cases e; unfold argR; exact wkT_refl y
  | .rp y, x, e => by simp only [S.tree] at e; cases e
  | .own l, x, e => by
    simp only [S.tree] at e
    cases hc : bor.contains l <;> rw [hc] at e <;> simp only [cond_true, cond_false] at e
    · cases e
    have hm : l ∈ bor := by simpa using hc
    split at e
    · rename_i hl
      cases e; unfold argR
      refine ⟨hm, ?_⟩
      rw [hl]; exact ⟨rfl, rfl⟩
    · rename_i hl
      cases e; unfold argR
      refine ⟨hm, ?_⟩
      rw [hl]; exact ⟨rfl, rfl, rfl⟩
    · cases e
  | .pt _ _ _, x, e => by simp only [S.tree] at e; cases e
  | .wn _ _ _ _, x, e => by simp only [S.tree] at e; cases e
  | .cl _ _, x, e => by simp only [S.tree] at e; cases e
  | .ag fs, x, e => by
    simp only [S.tree] at e
    split at e
    · rename_i xs hx
      cases e; unfold argR; exact trees_argRs fs xs hx
    · cases e
  | .tup _, x, e => by simp only [S.tree] at e; cases e
  | .fn _ _, x, e => by simp only [S.tree] at e; cases e
  | .fb _ _, x, e => by simp only [S.tree] at e; cases e
theorem trees_argRs : ∀ (fs : List S) (xs : List T), S.trees bor h fs = some xs → argRs ρ h bor fs (xs.map S.t)
  | [], xs, e => by simp only [S.trees] at e; cases e; simp only [List.map_nil]; unfold argRs; trivial
  | x :: r, xs, e => by
    simp only [S.trees] at e
    split at e
    · rename_i y hy
      split at e
      · rename_i q hq
        cases hw : Nat.beq y.width x.width <;> rw [hw] at e <;> simp only [cond_true, cond_false] at e <;> cases e
        simp only [List.map_cons]
        unfold argRs
        exact ⟨Nat.eq_of_beq_eq_true hw, tree_argR x y hy, trees_argRs r q hq⟩
      · cases e
    · cases e
end
end
section
variable {ρ : List (Nat × Option Nat)}
mutual
theorem tree_wk (hb : ∀ l ∈ bor, offR l ρ = true) : ∀ (s : S) (x : T), s.tree bor h = some x → wkS ρ h s (.t x)
  | .dead, x, e => by simp only [S.tree] at e; cases e
  | .t y, x, e => by simp only [S.tree] at e; cases e; unfold wkS; exact wkT_refl y
  | .rp y, x, e => by simp only [S.tree] at e; cases e
  | .own l, x, e => by
    simp only [S.tree] at e
    cases hc : bor.contains l <;> rw [hc] at e <;> simp only [cond_true, cond_false] at e
    · cases e
    have hm : l ∈ bor := by simpa using hc
    split at e
    · rename_i hl
      cases e; unfold wkS
      refine ⟨hb l hm, ?_⟩
      rw [hl]; exact ⟨rfl, rfl⟩
    · rename_i hl
      cases e; unfold wkS
      refine ⟨hb l hm, ?_⟩
      rw [hl]; exact ⟨rfl, rfl, rfl⟩
    · cases e
  | .pt _ _ _, x, e => by simp only [S.tree] at e; cases e
  | .wn _ _ _ _, x, e => by simp only [S.tree] at e; cases e
  | .cl _ _, x, e => by simp only [S.tree] at e; cases e
  | .ag fs, x, e => by
    simp only [S.tree] at e
    split at e
    · rename_i xs hx
      cases e; unfold wkS; exact trees_wk hb fs xs hx
    · cases e
  | .tup _, x, e => by simp only [S.tree] at e; cases e
  | .fn _ _, x, e => by simp only [S.tree] at e; cases e
  | .fb _ _, x, e => by simp only [S.tree] at e; cases e
theorem trees_wk (hb : ∀ l ∈ bor, offR l ρ = true) : ∀ (fs : List S) (xs : List T), S.trees bor h fs = some xs → wkSs ρ h fs (xs.map S.t)
  | [], xs, e => by simp only [S.trees] at e; cases e; simp only [List.map_nil]; unfold wkSs; trivial
  | x :: r, xs, e => by
    simp only [S.trees] at e
    split at e
    · rename_i y hy
      split at e
      · rename_i q hq
        cases hw : Nat.beq y.width x.width <;> rw [hw] at e <;> simp only [cond_true, cond_false] at e <;> cases e
        simp only [List.map_cons]
        unfold wkSs
        exact ⟨Nat.eq_of_beq_eq_true hw, tree_wk hb x y hy, trees_wk hb r q hq⟩
      · cases e
    · cases e
end
end
end

/-! ### Labels -/
mutual
def S.labs : S → List Nat
  | .own l => [l]
  | .pt l _ _ => [l]
  | .wn l _ _ _ => [l]
  | .ag fs => S.labss fs
  | .tup fs => S.labss fs
  | .fn _ fs => S.labss fs
  | .fb _ fs => S.labss fs
  | _ => []
def S.labss : List S → List Nat
  | [] => []
  | x :: r => x.labs ++ S.labss r
end
mutual
/-- Labels that a callee must be handed. -/
def S.plabs : S → List Nat
  | .pt l _ _ => [l]
  | .wn l _ _ _ => [l]
  | .ag fs => S.plabss fs
  | .tup fs => S.labss fs
  | .fn _ fs => S.labss fs
  | .fb _ fs => S.labss fs
  | _ => []
def S.plabss : List S → List Nat
  | [] => []
  | x :: r => x.plabs ++ S.plabss r
end
mutual
/-- Labels of lists that a callee may read as trees. -/
def S.olabs : S → List Nat
  | .own l => [l]
  | .ag fs => S.olabss fs
  | _ => []
def S.olabss : List S → List Nat
  | [] => []
  | x :: r => x.olabs ++ S.olabss r
end
def blabs : Option Blk → List Nat
  | some (.box _ c) => c.labs
  | _ => []
def addN : List Nat → List Nat → List Nat
  | [], a => a
  | l :: r, a => bif a.contains l then addN r a else addN r (a ++ [l])
def clos (h : Nat → Option Blk) : Nat → List Nat → List Nat
  | 0, a => a
  | k + 1, a => clos h k (addN (a.flatMap fun l => blabs (h l)) a)
def maxL : List Nat → Nat → Nat
  | [], m => m
  | l :: r, m => maxL r (bif Nat.blt l m then m else l + 1)
def topG : List (Nat × S) → Nat → Nat
  | [], m => m
  | (_, s) :: r, m => topG r (maxL s.labs m)
def topH : List (Nat × Blk) → Nat → Nat
  | [], m => m
  | (l, b) :: r, m => topH r (maxL (l :: blabs (some b)) m)
mutual
def flatTb : T → Bool
  | .lit _ => true
  | .sl _ _ => false
  | .agg fs => flatTsb fs
def flatTsb : List T → Bool
  | [] => true
  | x :: r => flatTb x && flatTsb r
end
mutual
theorem flatTb_spec : ∀ x : T, flatTb x = true → flatT x
  | .lit _, _ => by unfold flatT; trivial
  | .sl _ _, h => by simp only [flatTb] at h; cases h
  | .agg fs, h => by simp only [flatTb] at h; unfold flatT; exact flatTsb_spec fs h
theorem flatTsb_spec : ∀ xs : List T, flatTsb xs = true → flatTs xs
  | [], _ => by unfold flatTs; trivial
  | x :: r, h => by
    simp only [flatTsb, Bool.and_eq_true] at h
    unfold flatTs
    exact ⟨flatTb_spec x h.1, flatTsb_spec r h.2⟩
end
mutual
def flatSb : S → Bool
  | .dead => true
  | .t x => flatTb x
  | .rp _ => false
  | .own _ => true
  | .pt _ _ _ => true
  | .wn _ _ _ _ => true
  | .cl _ _ => false
  | .ag fs => flatSsb fs
  | .tup fs => flatSsb fs
  | .fn _ fs => flatSsb fs
  | .fb _ fs => flatSsb fs
def flatSsb : List S → Bool
  | [] => true
  | x :: r => flatSb x && flatSsb r
end
mutual
theorem flatSb_spec : ∀ x : S, flatSb x = true → flatS x
  | .dead, _ => by unfold flatS; trivial
  | .t x, h => by simp only [flatSb] at h; unfold flatS; exact flatTb_spec x h
  | .rp _, h => by simp only [flatSb] at h; cases h
  | .own _, _ => by unfold flatS; trivial
  | .pt _ _ _, _ => by unfold flatS; trivial
  | .wn _ _ _ _, _ => by unfold flatS; trivial
  | .cl _ _, h => by simp only [flatSb] at h; cases h
  | .ag fs, h => by simp only [flatSb] at h; unfold flatS; exact flatSsb_spec fs h
  | .tup fs, h => by simp only [flatSb] at h; unfold flatS; exact flatSsb_spec fs h
  | .fn _ fs, h => by simp only [flatSb] at h; unfold flatS; exact flatSsb_spec fs h
  | .fb _ fs, h => by simp only [flatSb] at h; unfold flatS; exact flatSsb_spec fs h
theorem flatSsb_spec : ∀ xs : List S, flatSsb xs = true → flatSs xs
  | [], _ => by unfold flatSs; trivial
  | x :: r, h => by
    simp only [flatSsb, Bool.and_eq_true] at h
    unfold flatSs
    exact ⟨flatSb_spec x h.1, flatSsb_spec r h.2⟩
end
def flatHb : List (Nat × Blk) → Bool
  | [] => true
  | (_, .list _ _ xs) :: r => flatTsb xs && flatHb r
  | (_, .box _ c) :: r => flatSb c && flatHb r
  | (_, .rows _ _ _ _) :: r => false
theorem flatHb_spec : ∀ h : List (Nat × Blk), flatHb h = true → flatH h
  | [], _ => trivial
  | (_, .list _ _ xs) :: r, h => by
    simp only [flatHb, Bool.and_eq_true] at h
    exact ⟨flatTsb_spec xs h.1, flatHb_spec r h.2⟩
  | (_, .box _ c) :: r, h => by
    simp only [flatHb, Bool.and_eq_true] at h
    exact ⟨flatSb_spec c h.1, flatHb_spec r h.2⟩
  | (_, .rows _ _ _ _) :: r, h => by simp only [flatHb] at h; cases h

/-! ### Calls -/
def argX (m : List (Nat × Nat)) (bor : List Nat) (h : Nat → Option Blk) (a : S) : Option S := match a.rel m with
  | some s => match a with
    | .ag fs => match s with
      | .ag gs => some (.ag gs)
      | _ => none
    | _ => some s
  | none => match a.tree bor h with
    | some x => some (.t x)
    | none => none
def argsX (m : List (Nat × Nat)) (bor : List Nat) (h : Nat → Option Blk) : List S → Option (List S)
  | [] => some []
  | a :: r => match argX m bor h a with
    | some s => match argsX m bor h r with
      | some q => some (s :: q)
      | none => none
    | none => none
theorem argX_spec {m : List (Nat × Nat)} {ρ : List (Nat × Nat)} {bor : List Nat} {h : Nat → Option Blk} (hm : ∀ l l', mlk m l = some l' → rn ρ l' = l) {a s : S} (e : argX m bor h a = some s) : argR ρ h bor a s := by
  unfold argX at e
  split at e
  · rename_i s0 hs
    have hr := rel_ren hm _ _ hs
    cases a with
    | ag fs =>
      simp only at e
      split at e
      · rename_i gs
        cases e
        unfold argR
        exact hr
      · cases e
    | dead => simp only [Option.some.injEq] at e; subst e; simp only [S.rel] at hs; cases hs; unfold argR; rfl
    | t x => simp only [Option.some.injEq] at e; subst e; simp only [S.rel] at hs; cases hs; unfold argR; exact wkT_refl x
    | rp x => simp only [Option.some.injEq] at e; subst e; simp only [S.rel] at hs; cases hs; unfold argR; rfl
    | own l => simp only [Option.some.injEq] at e; subst e; simp only [S.rel] at hs; (split at hs <;> cases hs); unfold argR; exact hr
    | pt l p o => simp only [Option.some.injEq] at e; subst e; simp only [S.rel] at hs; (split at hs <;> cases hs); unfold argR; exact hr
    | wn l p o n => simp only [Option.some.injEq] at e; subst e; simp only [S.rel] at hs; (split at hs <;> cases hs); unfold argR; exact hr
    | cl _ _ => simp only [S.rel] at hs; cases hs
    | tup fs => simp only [Option.some.injEq] at e; subst e; simp only [S.rel] at hs; (split at hs <;> cases hs); unfold argR; exact hr
    | fn f fs => simp only [Option.some.injEq] at e; subst e; simp only [S.rel] at hs; (split at hs <;> cases hs); unfold argR; exact hr
    | fb f fs => simp only [Option.some.injEq] at e; subst e; simp only [S.rel] at hs; (split at hs <;> cases hs); unfold argR; exact hr
  · split at e
    · rename_i x hx
      cases e
      exact tree_argR _ _ hx
    · cases e
theorem argsX_spec {m : List (Nat × Nat)} {ρ : List (Nat × Nat)} {bor : List Nat} {h : Nat → Option Blk} (hm : ∀ l l', mlk m l = some l' → rn ρ l' = l) : ∀ {as ss : List S}, argsX m bor h as = some ss → argPs ρ h bor as ss
  | [], ss, e => by simp only [argsX] at e; cases e; unfold argPs; trivial
  | a :: r, ss, e => by
    simp only [argsX] at e
    split at e
    · rename_i s hs
      split at e
      · rename_i q hq
        cases e
        unfold argPs
        exact ⟨argX_spec hm hs, argsX_spec hm hq⟩
      · cases e
    · cases e
def enumM : List Nat → Nat → List (Nat × Nat)
  | [], _ => []
  | l :: r, k => (l, k) :: enumM r (k + 1)
def freshM : List Nat → Nat → List (Nat × Nat)
  | [], _ => []
  | l :: r, k => (l, k) :: freshM r (k + 1)
def chkR (m ρ : List (Nat × Nat)) : Bool := m.all fun q => Nat.beq (rn ρ q.2) q.1
theorem chkR_spec {m ρ : List (Nat × Nat)} (h : chkR m ρ = true) : ∀ p ∈ m, rn ρ p.2 = p.1 := fun p hp => Nat.eq_of_beq_eq_true (List.all_eq_true.1 h p hp)
def borB (h : Nat → Option Blk) : List Nat → Bool
  | [] => true
  | l :: r => (h l).isSome && borB h r
theorem borB_spec {h : Nat → Option Blk} : ∀ {ls : List Nat}, borB h ls = true → borR h ls
  | [], _ => trivial
  | l :: r, e => by
    simp only [borB, Bool.and_eq_true] at e
    exact ⟨e.1, borB_spec e.2⟩
/-- A call: what the callee is handed, and what becomes of it. -/
def callC (ev : FuncId → List S → List (Nat × Blk) → Option (S × List (Nat × Blk))) (σ : St) (f : FuncId) (as : List S) : Option Eff :=
  let h := lkB σ.h
  let m := enumM (clos h 4 (addN (S.plabss as) [])) 0
  let bor := (addN (S.olabss as) []).filter fun l => !((m.map (·.1)).contains l)
  match argsX m bor h as with
  | some ss => match relH m σ.h m with
    | some pre => match ev f ss pre with
      | some (r, post) =>
        let ρ := m.map (fun q => (q.2, q.1)) ++ freshM (newL pre post) (topH σ.h (topG σ.g (maxL (S.labss as) 1000)))
        let fl := bor.isEmpty || (flatSb r && flatHb post)
        let bo := bif fl then bor else []
        let fr := bif fl then [] else bor
        bif callChk ρ (bo ++ fr) pre post r && chkR m ρ && borB h (bo ++ fr) then some (callE ρ bo fr pre post r) else none
      | none => none
    | none => none
  | none => none
theorem callC_spec {P : Program} {ev : FuncId → List S → List (Nat × Blk) → Option (S × List (Nat × Blk))} (hev : ∀ f ss pre r post, ev f ss pre = some (r, post) → FnOk P f ss pre r post) (σ : St) : CfOk P (lkB σ.h) (callC ev σ) := by
  intro f as E e
  unfold callC at e
  simp only at e
  generalize enumM (clos (lkB σ.h) 4 (addN (S.plabss as) [])) 0 = m at e
  generalize ((addN (S.olabss as) []).filter fun l => !((m.map (·.1)).contains l)) = bor at e
  split at e
  · rename_i ss hss
    split at e
    · rename_i pre hpre
      split at e
      · rename_i r post hr
        generalize (m.map (fun q => (q.2, q.1)) ++ freshM (newL pre post) (topH σ.h (topG σ.g (maxL (S.labss as) 1000)))) = ρ at e
        have hfn := hev f ss pre r post hr
        have go : ∀ bo fr, bo ++ fr = bor → (bo = [] ∨ (flatS r ∧ flatH post)) → (bif callChk ρ (bo ++ fr) pre post r && chkR m ρ && borB (lkB σ.h) (bo ++ fr) then some (callE ρ bo fr pre post r) else none) = some E →
            CallOk P f as (lkB σ.h) E ∧ ∀ l ∈ E.nw, 100 ≤ l := by
          intro bo fr hb hfl e
          cases hc : (callChk ρ (bo ++ fr) pre post r && chkR m ρ && borB (lkB σ.h) (bo ++ fr)) <;> rw [hc] at e <;> simp only [cond_true, cond_false] at e
          · cases e
          cases e
          simp only [Bool.and_eq_true] at hc
          have hm := chkR_spec hc.1.2
          have hm' : ∀ l l', mlk m l = some l' → rn ρ l' = l := fun l l' e => hm (l, l') (mlk_mem e)
          have := CallK.fn (K := fun E => E = callE ρ bo fr pre post r) (d := 0) hfn ρ bo fr hc.1.1 (by rw [hb]; exact argsX_spec hm' hss) (relH_ren hm' hm hpre) (borB_spec hc.2) hfl rfl
          obtain ⟨E, h1, h2, rfl⟩ := this
          exact ⟨h1, h2⟩
        cases hf : (bor.isEmpty || (flatSb r && flatHb post)) <;> rw [hf] at e <;> simp only [cond_true, cond_false] at e
        · exact go [] bor rfl (.inl rfl) e
        · refine go bor [] (by simp) ?_ e
          simp only [Bool.or_eq_true, Bool.and_eq_true, List.isEmpty_iff] at hf
          exact hf.imp id fun h => ⟨flatSb_spec r h.1, flatHb_spec post h.2⟩
      · cases e
    · cases e
  · cases e

/-! ### Functions -/
def retX (P : Program) (g : Nat → S) (h : Nat → Option Blk) : List ResultVar → Option (List S)
  | [] => some []
  | .tmp t :: r => match retX P g h r with
    | some l => some (g t :: l)
    | none => none
  | .cell a t :: r => match g a with
    | .pt l p off => match h l with
      | some blk => match blk.at p with
        | some (o, y) => gd (o = off ∧ y.solid = true ∧ okLd P t y) (match retX P g h r with
          | some l => some (y :: l)
          | none => none)
        | none => none
      | none => none
    | _ => none
theorem retX_spec {P : Program} {g : Nat → S} {h : Nat → Option Blk} : ∀ {rs : List ResultVar} {l : List S} {K : List S → Prop}, retX P g h rs = some l → K l → retK P g h rs K
  | [], l, K, e, hK => by simp only [retX] at e; cases e; exact hK
  | .tmp t :: r, l, K, e, hK => by
    simp only [retX] at e
    split at e
    · rename_i l' hl
      cases e
      exact retX_spec (K := fun l => K (g t :: l)) hl hK
    · cases e
  | .cell a t :: r, l, K, e, hK => by
    simp only [retX] at e
    simp only [retK]
    split at e
    · rename_i l0 p off ha
      simp only [ha]
      split at e
      · rename_i blk hl
        simp only [hl]
        split at e
        · rename_i o y hat
          simp only [hat]
          rw [gd_some] at e
          obtain ⟨⟨h1, h2, h3⟩, e⟩ := e
          refine ⟨h1, h2, h3, ?_⟩
          split at e
          · rename_i l' hl'
            cases e
            exact retX_spec (K := fun l => K (y :: l)) hl' hK
          · cases e
        · cases e
      · cases e
    · cases e
/-- A result: its own lists stay its own, or are read as trees. -/
def outX (m : List (Nat × Nat)) (fz : List Nat) (h : Nat → Option Blk) (s : S) : Option S := match s.tree fz h with
  | some x => some (.t x)
  | none => s.rel m
theorem outX_spec {m : List (Nat × Nat)} {ρ : List (Nat × Option Nat)} {fz : List Nat} {h : Nat → Option Blk} (hm : ∀ l l', mlk m l = some l' → lkR ρ l' = some (some l)) (hb : ∀ l ∈ fz, offR l ρ = true) {s s' : S} (e : outX m fz h s = some s') : wkS ρ h s s' := by
  unfold outX at e
  split at e
  · rename_i x hx
    cases e
    exact tree_wk hb _ _ hx
  · exact rel_wk hm _ _ e
def outsX (m : List (Nat × Nat)) (fz : List Nat) (h : Nat → Option Blk) : List S → Option (List S)
  | [] => some []
  | s :: r => match outX m fz h s with
    | some s' => match outsX m fz h r with
      | some q => some (s' :: q)
      | none => none
    | none => none
theorem outsX_spec {m : List (Nat × Nat)} {ρ : List (Nat × Option Nat)} {fz : List Nat} {h : Nat → Option Blk} (hm : ∀ l l', mlk m l = some l' → lkR ρ l' = some (some l)) (hb : ∀ l ∈ fz, offR l ρ = true) : ∀ {ss q : List S}, outsX m fz h ss = some q → wkPs ρ h ss q
  | [], q, e => by simp only [outsX] at e; cases e; unfold wkPs; trivial
  | s :: r, q, e => by
    simp only [outsX] at e
    split at e
    · rename_i s' hs
      split at e
      · rename_i q' hq
        cases e
        unfold wkPs
        exact ⟨outX_spec hm hb hs, outsX_spec hm hb hq⟩
      · cases e
    · cases e
theorem wk_oneOf {ρ : List (Nat × Option Nat)} {h : Nat → Option Blk} {ss q : List S} (hw : wkPs ρ h ss q) : wkS ρ h (oneOf ss) (oneOf q) := by
  match ss, q, hw with
  | [], [], hw => unfold oneOf; unfold wkS; exact hw
  | [s], [s'], hw => unfold wkPs at hw; exact hw.1
  | s :: s2 :: r, s' :: s2' :: r', hw => unfold oneOf; unfold wkS; exact hw
  | [], _ :: _, hw => unfold wkPs at hw; exact hw.elim
  | _ :: _, [], hw => unfold wkPs at hw; exact hw.elim
  | [s], _ :: _ :: _, hw => unfold wkPs at hw; unfold wkPs at hw; exact hw.2.elim
  | _ :: _ :: _, [s], hw => unfold wkPs at hw; unfold wkPs at hw; exact hw.2.elim
def offsB (fz : List Nat) (ρ : List (Nat × Option Nat)) : Bool := fz.all fun l => offR l ρ
/-- The end of a function. -/
noncomputable def finX (P : Program) (frz : Bool) (rs : List ResultVar) (σ : St) : Option (S × List (Nat × Blk)) :=
  let h := lkB σ.h
  match retX P (lkQ σ.g) h rs with
  | some l =>
    let fz := bif frz then addN (S.olabss l) [] else []
    let low := ((σ.h.map (·.1)).filter fun l => Nat.blt l 100)
    let keep := (clos h 4 (addN (bif frz then S.plabss l else S.labss l) low)).filter fun l => !fz.contains l
    let m := fltM σ.h (fltM σ.h (keep.map fun l => (l, l)))
    let ρ := rhoM m
    match outsX m fz h l with
    | some q => match relH m σ.h m with
      | some post => bif rhoOk ρ && chkM m ρ && offsB fz ρ then some (oneOf q, post) else none
      | none => none
    | none => none
  | none => none
theorem finX_spec {P : Program} {frz : Bool} {rs : List ResultVar} {σ : St} {r : S} {post : List (Nat × Blk)} (e : finX P frz rs σ = some (r, post)) : RetQ P rs r post .ret σ := by
  unfold finX at e
  simp only [lkQ_eq] at e
  split at e
  · rename_i l hl
    generalize (bif frz then addN (S.olabss l) [] else []) = fz at e
    generalize (fltM σ.h (fltM σ.h (((clos (lkB σ.h) 4 (addN (bif frz then S.plabss l else S.labss l) ((σ.h.map (·.1)).filter fun l => Nat.blt l 100))).filter fun l => !fz.contains l).map fun l => (l, l)))) = m at e
    split at e
    · rename_i q hq
      split at e
      · rename_i post' hp
        cases hc : (rhoOk (rhoM m) && chkM m (rhoM m) && offsB fz (rhoM m)) <;> rw [hc] at e <;> simp only [cond_true, cond_false] at e
        · cases e
        cases e
        simp only [Bool.and_eq_true] at hc
        have h1 := chkM_spec hc.1.2
        have hm : ∀ l l', mlk m l = some l' → lkR (rhoM m) l' = some (some l) := fun l l' e => h1 (l, l') (mlk_mem e)
        have hb : ∀ l ∈ fz, offR l (rhoM m) = true := fun l hl => List.all_eq_true.1 hc.2 l hl
        exact ⟨rhoM m, retX_spec hl ⟨hc.1.1, wk_oneOf (outsX_spec hm hb hq), relH_wk hm h1 hp⟩⟩
      · cases e
    · cases e
  · cases e
/-- What a function gives; kn: contracts that are known; fz: functions whose results are read as trees; n: how deep calls go; fuel: rounds of a loop. -/
noncomputable def evF (P : Program) (kn : FuncId → List S → List (Nat × Blk) → Option (S × List (Nat × Blk))) (fz : List FuncId) (fuel : Nat) : Nat → FuncId → List S → List (Nat × Blk) → Option (S × List (Nat × Blk))
  | 0, _, _, _ => none
  | n + 1, f, ss, pre => match kn f ss pre with
    | some q => some q
    | none => match P.funcs[f]? with
      | some fn => match fn.body with
        | some c => bif okCode fn.ntmps c && Nat.ble ss.length fn.ntmps then match evC P (callC (evF P kn fz fuel n)) fuel c ⟨enumS 0 ss, pre⟩ with
            | some (.ret, σ) => finX P (fz.contains f) fn.results.toList σ
            | some (.normal, σ) => finX P (fz.contains f) fn.results.toList σ
            | _ => none
          else none
        | none => none
      | none => none
theorem evF_spec {P : Program} {kn : FuncId → List S → List (Nat × Blk) → Option (S × List (Nat × Blk))} {fz : List FuncId} {fuel : Nat} (hm : P.follows .mixedOrders = true) (hkn : ∀ f ss pre r post, kn f ss pre = some (r, post) → FnOk P f ss pre r post) :
    ∀ (n : Nat) (f : FuncId) (ss : List S) (pre : List (Nat × Blk)) (r : S) (post : List (Nat × Blk)), evF P kn fz fuel n f ss pre = some (r, post) → FnOk P f ss pre r post
  | 0, f, ss, pre, r, post, e => by simp only [evF] at e; cases e
  | n + 1, f, ss, pre, r, post, e => by
    simp only [evF] at e
    split at e
    · rename_i q hq
      cases e
      exact hkn _ _ _ _ _ hq
    · split at e
      · rename_i fn hfn
        split at e
        · rename_i c hc
          cases hok : (okCode fn.ntmps c && Nat.ble ss.length fn.ntmps) <;> rw [hok] at e <;> simp only [cond_true, cond_false] at e
          · cases e
          rw [Bool.and_eq_true] at hok
          refine FnOk.intro hm hfn hc rfl hok.1 (Nat.le_of_ble_eq_true hok.2) ?_
          have hcf := fun σ => callC_spec (evF_spec (fz := fz) (fuel := fuel) hm hkn n) σ
          split at e
          · rename_i σ hσ
            exact evC_sound hcf c _ σ .ret _ hσ (finX_spec e)
          · rename_i σ hσ
            exact evC_sound hcf c _ σ .normal _ hσ (finX_spec e)
          · cases e
        · cases e
      · cases e
/-! ### Contracts that are known -/
def kEq : IntKind → IntKind → Bool
  | .i64, .i64 => true
  | .u8, .u8 => true
  | .u64, .u64 => true
  | .u32, .u32 => true
  | _, _ => false
def vEq : Value → Value → Bool
  | .int k x, .int k' y => kEq k k' && decide (x = y)
  | .bool x, .bool y => x == y
  | .string x, .string y => strEq x y
  | .slice none 0 0, .slice none 0 0 => true
  | _, _ => false
theorem kEq_spec {a b : IntKind} (h : kEq a b = true) : a = b := by cases a <;> cases b <;> first | rfl | cases h
theorem strEq_spec {x y : ByteArray} (h : strEq x y = true) : x = y := by
  unfold strEq at h
  have h2 := eq_of_beq h
  have h3 : ∀ a b : List UInt8, (a.map fun c => c.toNat) = (b.map fun c => c.toNat) → a = b := by
    intro a
    induction a with
    | nil => intro b hb; cases b <;> first | rfl | (simp at hb)
    | cons c r ih =>
      intro b hb
      cases b with
      | nil => simp at hb
      | cons d s =>
        simp only [List.map_cons, List.cons.injEq] at hb
        rw [UInt8.toNat_inj.1 hb.1, ih s hb.2]
  have h4 := h3 _ _ h2
  obtain ⟨⟨a⟩⟩ := x
  obtain ⟨⟨b⟩⟩ := y
  simp at h4
  rw [h4]
theorem vEq_spec {a b : Value} (h : vEq a b = true) : a = b := by
  unfold vEq at h
  split at h
  · simp only [Bool.and_eq_true, decide_eq_true_eq] at h
    rw [kEq_spec h.1, h.2]
  · rw [eq_of_beq h]
  · rw [strEq_spec h]
  · rfl
  · cases h
mutual
def tEq : T → T → Bool
  | .lit a, .lit b => vEq a b
  | .sl s xs, .sl s' ys => Nat.beq s s' && tsEq xs ys
  | .agg xs, .agg ys => tsEq xs ys
  | _, _ => false
def tsEq : List T → List T → Bool
  | [], [] => true
  | x :: r, y :: s => tEq x y && tsEq r s
  | _, _ => false
end
mutual
theorem tEq_spec : ∀ a b : T, tEq a b = true → a = b
  | .lit a, .lit b, h => by simp only [tEq] at h; rw [vEq_spec h]
  | .sl s xs, .sl s' ys, h => by
    simp only [tEq, Bool.and_eq_true] at h
    rw [Nat.eq_of_beq_eq_true h.1, tsEq_spec xs ys h.2]
  | .agg xs, .agg ys, h => by simp only [tEq] at h; rw [tsEq_spec xs ys h]
  | .lit _, .sl _ _, h => by simp only [tEq] at h; cases h
  | .lit _, .agg _, h => by simp only [tEq] at h; cases h
  | .sl _ _, .lit _, h => by simp only [tEq] at h; cases h
  | .sl _ _, .agg _, h => by simp only [tEq] at h; cases h
  | .agg _, .lit _, h => by simp only [tEq] at h; cases h
  | .agg _, .sl _ _, h => by simp only [tEq] at h; cases h
theorem tsEq_spec : ∀ a b : List T, tsEq a b = true → a = b
  | [], [], _ => rfl
  | x :: r, y :: s, h => by
    simp only [tsEq, Bool.and_eq_true] at h
    rw [tEq_spec x y h.1, tsEq_spec r s h.2]
  | [], _ :: _, h => by simp only [tsEq] at h; cases h
  | _ :: _, [], h => by simp only [tsEq] at h; cases h
end
def asTs : List S → List T → Bool
  | [], [] => true
  | .t x :: r, y :: s => tEq x y && asTs r s
  | _, _ => false
theorem asTs_spec : ∀ {a : List S} {b : List T}, asTs a b = true → a = b.map S.t
  | [], [], _ => rfl
  | .t x :: r, y :: s, h => by
    simp only [asTs, Bool.and_eq_true] at h
    rw [tEq_spec x y h.1, asTs_spec h.2]; rfl
  | [], _ :: _, h => by simp only [asTs] at h; cases h
  | .dead :: _, _, h => by simp only [asTs] at h; cases h
  | .rp _ :: _, _, h => by simp only [asTs] at h; cases h
  | .own _ :: _, _, h => by simp only [asTs] at h; cases h
  | .pt _ _ _ :: _, _, h => by simp only [asTs] at h; cases h
  | .wn _ _ _ _ :: _, _, h => by simp only [asTs] at h; cases h
  | .cl _ _ :: _, _, h => by simp only [asTs] at h; cases h
  | .ag _ :: _, _, h => by simp only [asTs] at h; cases h
  | .tup _ :: _, _, h => by simp only [asTs] at h; cases h
  | .fn _ _ :: _, _, h => by simp only [asTs] at h; cases h
  | .fb _ _ :: _, _, h => by simp only [asTs] at h; cases h
  | .t _ :: _, [], h => by simp only [asTs] at h; cases h
structure Ent where
  f : FuncId
  ss : List T
  r : S
  post : List (Nat × Blk)
def knL : List Ent → FuncId → List S → List (Nat × Blk) → Option (S × List (Nat × Blk))
  | [], _, _, _ => none
  | e :: r, f, ss, pre => match pre with
    | [] => bif Nat.beq e.f f && asTs ss e.ss then some (e.r, e.post) else knL r f ss []
    | _ => none
def Ents (P : Program) : List Ent → Prop
  | [] => True
  | e :: r => FnOk P e.f (e.ss.map S.t) [] e.r e.post ∧ Ents P r
theorem knL_ok {P : Program} : ∀ {l : List Ent}, Ents P l → ∀ f ss pre r post, knL l f ss pre = some (r, post) → FnOk P f ss pre r post
  | [], _, f, ss, pre, r, post, h => by cases h
  | e :: l, hl, f, ss, pre, r, post, h => by
    simp only [knL] at h
    split at h
    · cases hc : (Nat.beq e.f f && asTs ss e.ss) <;> rw [hc] at h <;> simp only [cond_true, cond_false] at h
      · exact knL_ok hl.2 f ss [] r post h
      · cases h
        rw [Bool.and_eq_true] at hc
        rw [← Nat.eq_of_beq_eq_true hc.1, asTs_spec hc.2]
        exact hl.1
    · cases h
/-- A contract, found by the kernel. -/
theorem fnByEval {P : Program} {l : List Ent} (fz : List FuncId) (fuel n : Nat) {f : FuncId} {ss : List S} {r : S} (hm : P.follows .mixedOrders = true) (hl : Ents P l) (h : evF P (knL l) fz fuel n f ss [] = some (r, [])) : FnOk P f ss [] r [] :=
  evF_spec hm (knL_ok hl) n f ss [] r [] h
def noKn : FuncId → List S → List (Nat × Blk) → Option (S × List (Nat × Blk)) := fun _ _ _ => none
theorem noKn_ok {P : Program} : ∀ f ss pre r post, noKn f ss pre = some (r, post) → FnOk P f ss pre r post := fun _ _ _ _ _ h => by cases h
end Go.Proofs.YtcehllkmfkoncaaGreat.Sy
