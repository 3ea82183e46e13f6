/- An evaluator of code and functions on symbolic states, which the kernel runs: what it finds is a contract. No condition. -/
import Derived.Test.YtcehllkmfkoncaaGreatSyV
namespace Go.Proofs.YtcehllkmfkoncaaGreat.Sy
open Go.RowKit
set_option linter.unusedVariables false
set_option linter.unusedSimpArgs false
set_option maxHeartbeats 1000000

/-! ### New names for labels -/
def mlk : List (Nat × Nat) → Nat → Option Nat
  | [], _ => none
  | (l, l') :: r, k => bif Nat.beq k l then some l' else mlk r k
theorem mlk_mem : ∀ {m : List (Nat × Nat)} {l l' : Nat}, mlk m l = some l' → (l, l') ∈ m
  | [], l, l', h => by cases h
  | (k, k') :: r, l, l', h => by
    simp only [mlk] at h
    cases hb : Nat.beq l k <;> rw [hb] at h
    · exact List.mem_cons_of_mem _ (mlk_mem h)
    · have := Nat.eq_of_beq_eq_true hb
      subst this
      simp at h; subst h; simp
mutual
def S.rel (m : List (Nat × Nat)) : S → Option S
  | .dead => some .dead
  | .t x => some (.t x)
  | .rp x => some (.rp x)
  | .own l => match mlk m l with
    | some k => some (.own k)
    | none => none
  | .pt l p o => match mlk m l with
    | some k => some (.pt k p o)
    | none => none
  | .wn l p o n => match mlk m l with
    | some k => some (.wn k p o n)
    | none => none
  | .cl _ _ => none
  | .ag fs => match S.rels m fs with
    | some gs => some (.ag gs)
    | none => none
  | .tup fs => match S.rels m fs with
    | some gs => some (.tup gs)
    | none => none
  | .fn f fs => match S.rels m fs with
    | some gs => some (.fn f gs)
    | none => none
  | .fb f fs => match S.rels m fs with
    | some gs => some (.fb f gs)
    | none => none
def S.rels (m : List (Nat × Nat)) : List S → Option (List S)
  | [] => some []
  | x :: r => match x.rel m with
    | some y => match S.rels m r with
      | some q => some (y :: q)
      | none => none
    | none => none
end
section
variable {m : List (Nat × Nat)}
mutual
theorem rel_width : ∀ (s s' : S), s.rel m = some s' → s'.width = s.width
  | .dead, s', h => by simp only [S.rel] at h; cases h; rfl
  | .t x, s', h => by simp only [S.rel] at h; cases h; rfl
  | .rp x, s', h => by simp only [S.rel] at h; cases h; rfl
  | .own l, s', h => by simp only [S.rel] at h; split at h <;> cases h; rfl
  | .pt l p o, s', h => by simp only [S.rel] at h; split at h <;> cases h; rfl
  | .wn l p o n, s', h => by simp only [S.rel] at h; split at h <;> cases h; rfl
  | .cl _ _, s', h => by simp only [S.rel] at h; cases h
  | .ag fs, s', h => by
    simp only [S.rel] at h
    split at h
    · rename_i gs hg
      cases h
      simp only [S.width]
      exact rels_widths fs gs hg
    · cases h
  | .tup fs, s', h => by simp only [S.rel] at h; split at h <;> cases h; rfl
  | .fn f fs, s', h => by simp only [S.rel] at h; split at h <;> cases h; rfl
  | .fb f fs, s', h => by simp only [S.rel] at h; split at h <;> cases h; rfl
theorem rels_widths : ∀ (fs gs : List S), S.rels m fs = some gs → S.widths gs = S.widths fs
  | [], gs, h => by simp only [S.rels] at h; cases h; rfl
  | x :: r, gs, h => by
    simp only [S.rels] at h
    split at h
    · rename_i y hy
      split at h
      · rename_i q hq
        cases h
        simp only [S.widths]
        rw [rel_width x y hy, rels_widths r q hq]
      · cases h
    · cases h
end
section
variable {ρ : List (Nat × Option Nat)} {h : Nat → Option Blk}
mutual
theorem rel_wk (hm : ∀ l l', mlk m l = some l' → lkR ρ l' = some (some l)) : ∀ (s s' : S), s.rel m = some s' → wkS ρ h s s'
  | .dead, s', e => by simp only [S.rel] at e; cases e; unfold wkS; trivial
  | .t x, s', e => by simp only [S.rel] at e; cases e; unfold wkS; exact wkT_refl x
  | .rp x, s', e => by simp only [S.rel] at e; cases e; unfold wkS; rfl
  | .own l, s', e => by
    simp only [S.rel] at e
    split at e
    · rename_i k hk
      cases e; unfold wkS; exact hm _ _ hk
    · cases e
  | .pt l p o, s', e => by
    simp only [S.rel] at e
    split at e
    · rename_i k hk
      cases e; unfold wkS; exact ⟨hm _ _ hk, rfl, rfl⟩
    · cases e
  | .wn l p o n, s', e => by
    simp only [S.rel] at e
    split at e
    · rename_i k hk
      cases e; unfold wkS; exact ⟨hm _ _ hk, rfl, rfl, rfl⟩
    · cases e
  | .cl _ _, s', e => by simp only [S.rel] at e; cases e
  | .ag fs, s', e => by
    simp only [S.rel] at e
    split at e
    · rename_i gs hg
      cases e; unfold wkS; exact rels_wkSs hm fs gs hg
    · cases e
  | .tup fs, s', e => by
    simp only [S.rel] at e
    split at e
    · rename_i gs hg
      cases e; unfold wkS; exact rels_wkPs hm fs gs hg
    · cases e
  | .fn f fs, s', e => by
    simp only [S.rel] at e
    split at e
    · rename_i gs hg
      cases e; unfold wkS; exact ⟨rfl, rels_wkPs hm fs gs hg⟩
    · cases e
  | .fb f fs, s', e => by
    simp only [S.rel] at e
    split at e
    · rename_i gs hg
      cases e; unfold wkS; exact ⟨rfl, rels_wkPs hm fs gs hg⟩
    · cases e
theorem rels_wkSs (hm : ∀ l l', mlk m l = some l' → lkR ρ l' = some (some l)) : ∀ (fs gs : List S), S.rels m fs = some gs → wkSs ρ h fs gs
  | [], gs, e => by simp only [S.rels] at e; cases e; unfold wkSs; trivial
  | x :: r, gs, e => by
    simp only [S.rels] at e
    split at e
    · rename_i y hy
      split at e
      · rename_i q hq
        cases e
        unfold wkSs
        exact ⟨rel_width x y hy, rel_wk hm x y hy, rels_wkSs hm r q hq⟩
      · cases e
    · cases e
theorem rels_wkPs (hm : ∀ l l', mlk m l = some l' → lkR ρ l' = some (some l)) : ∀ (fs gs : List S), S.rels m fs = some gs → wkPs ρ h fs gs
  | [], gs, e => by simp only [S.rels] at e; cases e; unfold wkPs; trivial
  | x :: r, gs, e => by
    simp only [S.rels] at e
    split at e
    · rename_i y hy
      split at e
      · rename_i q hq
        cases e
        unfold wkPs
        exact ⟨rel_wk hm x y hy, rels_wkPs hm r q hq⟩
      · cases e
    · cases e
end
end
section
variable {ρ : List (Nat × Nat)}
mutual
theorem rel_ren (hm : ∀ l l', mlk m l = some l' → rn ρ l' = l) : ∀ (s s' : S), s.rel m = some s' → s = s'.ren ρ
  | .dead, s', e => by simp only [S.rel] at e; cases e; unfold S.ren; rfl
  | .t x, s', e => by simp only [S.rel] at e; cases e; unfold S.ren; rfl
  | .rp x, s', e => by simp only [S.rel] at e; cases e; unfold S.ren; rfl
  | .own l, s', e => by
    simp only [S.rel] at e
    split at e
    · rename_i k hk
      cases e; unfold S.ren; rw [hm _ _ hk]
    · cases e
  | .pt l p o, s', e => by
    simp only [S.rel] at e
    split at e
    · rename_i k hk
      cases e; unfold S.ren; rw [hm _ _ hk]
    · cases e
  | .wn l p o n, s', e => by
    simp only [S.rel] at e
    split at e
    · rename_i k hk
      cases e; unfold S.ren; rw [hm _ _ hk]
    · cases e
  | .cl _ _, s', e => by simp only [S.rel] at e; cases e
  | .ag fs, s', e => by
    simp only [S.rel] at e
    split at e
    · rename_i gs hg
      cases e; unfold S.ren; rw [rels_ren hm fs gs hg]
    · cases e
  | .tup fs, s', e => by
    simp only [S.rel] at e
    split at e
    · rename_i gs hg
      cases e; unfold S.ren; rw [rels_ren hm fs gs hg]
    · cases e
  | .fn f fs, s', e => by
    simp only [S.rel] at e
    split at e
    · rename_i gs hg
      cases e; unfold S.ren; rw [rels_ren hm fs gs hg]
    · cases e
  | .fb f fs, s', e => by
    simp only [S.rel] at e
    split at e
    · rename_i gs hg
      cases e; unfold S.ren; rw [rels_ren hm fs gs hg]
    · cases e
theorem rels_ren (hm : ∀ l l', mlk m l = some l' → rn ρ l' = l) : ∀ (fs gs : List S), S.rels m fs = some gs → fs = S.rens ρ gs
  | [], gs, e => by simp only [S.rels] at e; cases e; unfold S.rens; rfl
  | x :: r, gs, e => by
    simp only [S.rels] at e
    split at e
    · rename_i y hy
      split at e
      · rename_i q hq
        cases e
        unfold S.rens
        rw [← rel_ren hm x y hy, ← rels_ren hm r q hq]
      · cases e
    · cases e
end
end
end
def Blk.rel (m : List (Nat × Nat)) : Blk → Option Blk
  | .list e s xs => some (.list e s xs)
  | .box e c => match c.rel m with
    | some c' => bif c'.solid then some (.box e c') else none
    | none => none
  | .rows e s us [] => some (.rows e s us [])
  | .rows _ _ _ (_ :: _) => none
theorem blkRel_wk {m : List (Nat × Nat)} {ρ : List (Nat × Option Nat)} {h : Nat → Option Blk} (hm : ∀ l l', mlk m l = some l' → lkR ρ l' = some (some l)) {b b' : Blk} (e : b.rel m = some b') : wkB ρ h b b' := by
  cases b with
  | list e0 s xs => simp only [Blk.rel] at e; cases e; exact ⟨rfl, rfl, rfl⟩
  | box e0 c =>
    simp only [Blk.rel] at e
    split at e
    · rename_i c' hc
      cases hs : c'.solid <;> rw [hs] at e <;> simp at e
      subst e
      exact ⟨rfl, rel_width _ _ hc, hs, rel_wk hm _ _ hc⟩
    · cases e
  | rows e0 s us ex =>
    cases ex with
    | nil => simp only [Blk.rel] at e; cases e; exact ⟨rfl, rfl, rfl, trivial⟩
    | cons q r => simp only [Blk.rel] at e; cases e
theorem blkRel_ren {m ρ : List (Nat × Nat)} (hm : ∀ l l', mlk m l = some l' → rn ρ l' = l) {b b' : Blk} (e : b.rel m = some b') : b = b'.ren ρ := by
  cases b with
  | list e0 s xs => simp only [Blk.rel] at e; cases e; rfl
  | box e0 c =>
    simp only [Blk.rel] at e
    split at e
    · rename_i c' hc
      cases hs : c'.solid <;> rw [hs] at e <;> simp at e
      subst e
      simp only [Blk.ren]
      rw [← rel_ren hm _ _ hc]
    · cases e
  | rows e0 s us ex =>
    cases ex with
    | nil => simp only [Blk.rel] at e; cases e; rfl
    | cons q r => simp only [Blk.rel] at e; cases e
def relH (m : List (Nat × Nat)) (h : List (Nat × Blk)) : List (Nat × Nat) → Option (List (Nat × Blk))
  | [] => some []
  | (l, l') :: r => match lkB h l with
    | some b => match b.rel m with
      | some b' => match relH m h r with
        | some q => some ((l', b') :: q)
        | none => none
      | none => none
    | none => none
theorem relH_wk {m : List (Nat × Nat)} {ρ : List (Nat × Option Nat)} {h : List (Nat × Blk)} (hm : ∀ l l', mlk m l = some l' → lkR ρ l' = some (some l)) : ∀ {r : List (Nat × Nat)} {q : List (Nat × Blk)}, (∀ p ∈ r, lkR ρ p.2 = some (some p.1)) → relH m h r = some q → wkH ρ (lkB h) q
  | [], q, _, e => by simp only [relH] at e; cases e; unfold wkH; trivial
  | (l, l') :: r, q, hr, e => by
    simp only [relH] at e
    split at e
    · rename_i b hb
      split at e
      · rename_i b' hb'
        split at e
        · rename_i q' hq
          cases e
          unfold wkH
          have h1 := hr (l, l') (by simp)
          simp only at h1
          refine ⟨?_, relH_wk hm (fun p hp => hr p (List.mem_cons_of_mem _ hp)) hq⟩
          simp only [h1, hb]
          exact blkRel_wk hm hb'
        · cases e
      · cases e
    · cases e
theorem relH_ren {m ρ : List (Nat × Nat)} {h : List (Nat × Blk)} (hm : ∀ l l', mlk m l = some l' → rn ρ l' = l) : ∀ {r : List (Nat × Nat)} {q : List (Nat × Blk)}, (∀ p ∈ r, rn ρ p.2 = p.1) → relH m h r = some q → preR ρ (lkB h) q
  | [], q, _, e => by simp only [relH] at e; cases e; unfold preR; trivial
  | (l, l') :: r, q, hr, e => by
    simp only [relH] at e
    split at e
    · rename_i b hb
      split at e
      · rename_i b' hb'
        split at e
        · rename_i q' hq
          cases e
          unfold preR
          have h1 := hr (l, l') (by simp)
          simp only at h1
          refine ⟨?_, relH_ren hm (fun p hp => hr p (List.mem_cons_of_mem _ hp)) hq⟩
          rw [h1, hb, ← blkRel_ren hm hb']
        · cases e
      · cases e
    · cases e
def relG (m : List (Nat × Nat)) : List (Nat × S) → Nat → List (Nat × S)
  | [], _ => []
  | (t, s) :: r, seen => bif bitB seen t then relG m r seen else match s.rel m with
    | some s' => (t, s') :: relG m r (Nat.lor seen (Nat.shiftLeft 1 t))
    | none => relG m r (Nat.lor seen (Nat.shiftLeft 1 t))
theorem bitB_set (seen t k : Nat) : bitB (Nat.lor seen (Nat.shiftLeft 1 t)) k = (bitB seen k || decide (t = k)) := by
  rw [bitB_eq, bitB_eq]
  show (seen ||| 1 <<< t).testBit k = _
  rw [Nat.testBit_or, Nat.one_shiftLeft, Nat.testBit_two_pow]
theorem relG_wk {m : List (Nat × Nat)} {ρ : List (Nat × Option Nat)} {h : Nat → Option Blk} {g : List (Nat × S)} (hm : ∀ l l', mlk m l = some l' → lkR ρ l' = some (some l)) : ∀ (r : List (Nat × S)) (seen : Nat), (∀ t, bitB seen t = false → lkS g t = lkS r t) → wkG ρ h (lkS g) (relG m r seen)
  | [], seen, _ => by unfold relG wkG; trivial
  | (t, s) :: r, seen, hr => by
    unfold relG
    cases hb : bitB seen t <;> simp only [cond_true, cond_false]
    · have h1 : lkS g t = s := by rw [hr t hb]; simp [lkS]
      have h2 : ∀ k, bitB (Nat.lor seen (Nat.shiftLeft 1 t)) k = false → lkS g k = lkS r k := by
        intro k hk
        rw [bitB_set] at hk
        simp only [Bool.or_eq_false_iff, decide_eq_false_iff_not] at hk
        rw [hr k hk.1]
        simp only [lkS]
        rw [if_neg (fun e => hk.2 e.symm)]
      split
      · rename_i s' hs
        unfold wkG
        refine ⟨?_, relG_wk hm r _ h2⟩
        rw [h1]
        exact rel_wk hm _ _ hs
      · exact relG_wk hm r _ h2
    · refine relG_wk hm r seen fun k hk => ?_
      rw [hr k hk]
      simp only [lkS]
      rw [if_neg]
      rintro rfl
      rw [hb] at hk; cases hk
def nameM : List (Nat × Blk) → Nat → List (Nat × Nat)
  | [], _ => []
  | (l, _) :: r, k => bif Nat.blt l 100 then (l, l) :: nameM r k else (l, 500 + k) :: nameM r (k + 1)
def fltM (h : List (Nat × Blk)) (m : List (Nat × Nat)) : List (Nat × Nat) := m.filter fun q => match lkB h q.1 with
  | some b => (b.rel m).isSome
  | none => false
def rhoM (m : List (Nat × Nat)) : List (Nat × Option Nat) := m.map fun q => (q.2, some q.1)
def chkM (m : List (Nat × Nat)) (ρ : List (Nat × Option Nat)) : Bool := m.all fun q => match lkR ρ q.2 with
  | some (some l) => Nat.beq l q.1
  | _ => false
theorem chkM_spec {m : List (Nat × Nat)} {ρ : List (Nat × Option Nat)} (h : chkM m ρ = true) : ∀ p ∈ m, lkR ρ p.2 = some (some p.1) := by
  intro p hp
  have := List.all_eq_true.1 h p hp
  split at this
  · rename_i l hl
    rw [hl, Nat.eq_of_beq_eq_true this]
  · cases this
/-- New names for all labels. -/
def relab1 (σ : St) : Option St :=
  let m := fltM σ.h (fltM σ.h (nameM σ.h 0))
  let ρ := rhoM m
  bif rhoOk ρ && chkM m ρ then match relH m σ.h m with
    | some h' => some ⟨relG m σ.g 0, h'⟩
    | none => none
  else none
theorem relab1_spec {σ σ' : St} (h : relab1 σ = some σ') : ∃ ρ, Wk ρ σ σ' := by
  unfold relab1 at h
  simp only at h
  generalize fltM σ.h (fltM σ.h (nameM σ.h 0)) = m at h
  cases hc : (rhoOk (rhoM m) && chkM m (rhoM m)) <;> rw [hc] at h <;> simp only [cond_true, cond_false] at h
  · cases h
  rw [Bool.and_eq_true] at hc
  split at h
  · rename_i h' hh
    cases h
    have h1 := chkM_spec hc.2
    have hm : ∀ l l', mlk m l = some l' → lkR (rhoM m) l' = some (some l) := fun l l' e => h1 (l, l') (mlk_mem e)
    exact ⟨rhoM m, hc.1, relG_wk hm σ.g 0 (fun t _ => rfl), relH_wk hm h1 hh⟩
  · cases h
mutual
/-- A label that the next round may make again. -/
def S.hot : S → Bool
  | .own l => Nat.ble 100 l && Nat.blt l 500
  | .pt l _ _ => Nat.ble 100 l && Nat.blt l 500
  | .wn l _ _ _ => Nat.ble 100 l && Nat.blt l 500
  | .ag fs => S.hots fs
  | .tup fs => S.hots fs
  | .fn _ fs => S.hots fs
  | .fb _ fs => S.hots fs
  | _ => false
def S.hots : List S → Bool
  | [] => false
  | x :: r => x.hot || S.hots r
end
def hotG : List (Nat × S) → Nat → Bool
  | [], k => Nat.blt 90 k
  | (_, s) :: r, k => s.hot || hotG r (k + 1)
def hotH : List (Nat × Blk) → Bool
  | [] => false
  | (l, _) :: r => (Nat.ble 100 l && Nat.blt l 500) || hotH r
def relab (σ : St) : Option St := bif hotH σ.h || hotG σ.g 0 then relab1 σ else some σ
/-- Whatever is as the one state says is as the other one says. -/
def Imp (σ σ' : St) : Prop := ∀ (N : Nat) (W : World) (G0 : Gh) (A : Nat → Prop) (a : Act) (w : World), Sat N W G0 A σ a w → Sat N W G0 A σ' a w
theorem relab_spec {σ σ' : St} (h : relab σ = some σ') : Imp σ σ' := by
  unfold relab at h
  cases hc : (hotH σ.h || hotG σ.g 0) <;> rw [hc] at h <;> simp only [cond_true, cond_false] at h
  · cases h
    exact fun _ _ _ _ _ _ h => h
  · obtain ⟨ρ, hρ⟩ := relab1_spec h
    exact fun _ _ _ _ _ _ h => h.weak hρ

/-! ### The check of a drawn order, in two parts: the region's shape (which the kernel computes once), and what its operations do -/
def dstFree (ops : List Oper) (i j : Nat) : Bool := match (ops.getD i default).dst with
  | some t => !((ops.getD j default).looksAt ops.toArray).contains t
  | none => true
/-- msks, which the kernel computes faster. -/
def mskOfQ (len : Nat) (rev : List Nat) (o : Oper) : Nat := (o.after.toList.filter fun e => Region.binds .any e).foldr (fun e m => Nat.lor (Nat.shiftLeft 1 e.on) (Nat.lor (bif Nat.blt e.on len then rev.getD (Nat.sub (Nat.sub len 1) e.on) 0 else 0) m)) 0
def mskFromQ : List Oper → Nat → List Nat → List Nat
  | [], _, rev => rev.reverse
  | o :: r, len, rev => mskFromQ r (len + 1) (mskOfQ len rev o :: rev)
def msksQ (ops : List Oper) : List Nat := mskFromQ ops 0 []
theorem mskOfQ_eq (acc : List Nat) (o : Oper) : mskOfQ acc.length acc.reverse o = mskOf acc o := by
  unfold mskOfQ mskOf
  congr 1
  funext e m
  have h : (bif Nat.blt e.on acc.length then acc.reverse.getD (Nat.sub (Nat.sub acc.length 1) e.on) 0 else 0) = acc.getD e.on 0 := by
    by_cases hl : e.on < acc.length
    · have hb : Nat.blt e.on acc.length = true := by simp [Nat.blt]; omega
      rw [hb]
      show acc.reverse.getD (acc.length - 1 - e.on) 0 = _
      simp only [cond_true, List.getD_eq_getElem?_getD]
      rw [List.getElem?_reverse (by omega)]
      congr 2
      omega
    · have hb : Nat.blt e.on acc.length = false := by
        cases h : Nat.blt e.on acc.length
        · rfl
        · exact (hl (by simp [Nat.blt] at h; omega)).elim
      rw [hb]
      simp only [cond_false, List.getD_eq_getElem?_getD]
      rw [List.getElem?_eq_none (by omega)]
      rfl
  rw [h]
theorem mskFromQ_eq : ∀ (r : List Oper) (acc : List Nat), mskFromQ r acc.length acc.reverse = mskFrom r acc
  | [], acc => by simp [mskFromQ, mskFrom]
  | o :: r, acc => by
    simp only [mskFromQ, mskFrom]
    rw [mskOfQ_eq, ← mskFromQ_eq r (acc ++ [mskOf acc o])]
    simp
theorem msksQ_eq (ops : List Oper) : msksQ ops = msks ops := mskFromQ_eq ops []
def lookM : List Tmp → Nat
  | [] => 0
  | t :: r => Nat.lor (lookM r) (Nat.shiftLeft 1 t)
theorem lookM_bit (k : Nat) : ∀ l : List Tmp, bitB (lookM l) k = l.contains k
  | [] => by simp [lookM, bitB_eq]
  | t :: r => by
    simp only [lookM]
    rw [bitB_set, lookM_bit k r]
    simp only [List.contains_cons, Bool.or_comm]
    congr 1
    by_cases h : t = k
    · simp [h]
    · have : ¬ k = t := fun e => h e.symm
      simp [h, this]
structure Row where
  ix : Nat
  an : Nat
  look : Nat
  dst : Option Tmp
def rowsOf (ops : List Oper) : List Row := (List.range ops.length).map fun i => ⟨i, (msksQ ops).getD i 0, lookM ((ops.getD i default).looksAt ops.toArray), (ops.getD i default).dst⟩
def rowOk (a b : Row) : Bool := Nat.beq a.ix b.ix || (bitB b.an a.ix || (bitB a.an b.ix || match a.dst with
  | some t => !bitB b.look t
  | none => true))
def strOk (ops : List Oper) : Bool :=
  Region.noSelect ops.toArray && nodupB (ops.filterMap (·.dst)) &&
  ((List.range ops.length).all fun j => (ops.getD j default).after.toList.all fun e => !Region.binds .any e || decide (e.on < j)) &&
  ((rowsOf ops).all fun b => (rowsOf ops).all fun a => rowOk a b)
theorem strOk_spec {ops : List Oper} (h : strOk ops = true) : ∀ j < ops.length, ((ops.getD j default).after.toList.all fun e => !Region.binds .any e || decide (e.on < j)) = true ∧ ∀ i < ops.length, (i == j || (orddM (msks ops) i j || dstFree ops i j)) = true := by
  simp only [strOk, Bool.and_eq_true, List.all_eq_true, List.mem_range] at h
  intro j hj
  refine ⟨by simpa only [List.all_eq_true] using h.1.2 j hj, fun i hi => ?_⟩
  have hr := h.2 _ (List.mem_map.2 ⟨j, List.mem_range.2 hj, rfl⟩) _ (List.mem_map.2 ⟨i, List.mem_range.2 hi, rfl⟩)
  simp only [rowOk, msksQ_eq, Bool.or_eq_true] at hr
  rw [Bool.or_eq_true, Bool.or_eq_true]
  rcases hr with hr | hr | hr | hr
  · left; simpa using Nat.eq_of_beq_eq_true hr
  · right; left; simp only [orddM, Bool.or_eq_true]; exact .inl hr
  · right; left; simp only [orddM, Bool.or_eq_true]; exact .inr hr
  · right; right
    unfold dstFree
    cases hd : (ops.getD i default).dst with
    | none => rfl
    | some t =>
      rw [hd] at hr
      simp only at hr ⊢
      rw [lookM_bit] at hr
      exact hr
def esOk (ops : List Oper) (es : List (Option Eff)) : Bool :=
  let an := msksQ ops
  let n := ops.length
  (List.range n).all fun i =>
    (match (eff (es.getD i none)).u with
      | [] => true
      | u => (List.range n).all fun j => i == j || (orddM an i j || u.all (fun q => !(eff (es.getD j none)).fp.contains q.1 && !((eff (es.getD j none)).u.map (·.1)).contains q.1))) &&
    (match (eff (es.getD i none)).nw with
      | [] => true
      | _ => (List.range n).all fun k => k == i || (bitB (an.getD k 0) i || unspoken ops es k i))
def drawQ (ops : List Oper) (es : List (Option Eff)) : Bool := strOk ops && (Nat.beq es.length ops.length && esOk ops es)
theorem drawQ_spec {ops : List Oper} {es : List (Option Eff)} (h : drawQ ops es = true) : drawOk2 ops es = true := by
  simp only [drawQ, Bool.and_eq_true] at h
  obtain ⟨h1, h2, h3⟩ := h
  have h5 := strOk_spec h1
  simp only [strOk, Bool.and_eq_true] at h1
  simp only [esOk, msksQ_eq, Bool.and_eq_true, List.all_eq_true, List.mem_range] at h3
  simp only [drawOk2, Bool.and_eq_true, List.all_eq_true, List.mem_range, decide_eq_true_eq]
  refine ⟨⟨⟨h1.1.1.1, Nat.eq_of_beq_eq_true h2⟩, h1.1.1.2⟩, fun j hj => ⟨by simpa only [List.all_eq_true] using (h5 j hj).1, fun i hi => ?_⟩⟩
  have a1 := (h5 j hj).2 i hi
  rw [Bool.or_eq_true] at a1 ⊢
  rcases a1 with a1 | a1
  · exact .inl a1
  by_cases hij : i = j
  · left; simp [hij]
  right
  rw [Bool.and_eq_true]
  constructor
  · rw [Bool.or_eq_true] at a1 ⊢
    rcases a1 with a1 | a1
    · exact .inl a1
    cases ho : orddM (msks ops) i j
    · right
      have b1 := (h3 i hi).1
      unfold apart
      simp only [Bool.and_eq_true]
      refine ⟨a1, ?_⟩
      split at b1
      · rename_i hu
        rw [hu]; rfl
      · rw [List.all_eq_true] at b1
        have b2 := b1 j (List.mem_range.2 hj)
        rw [Bool.or_eq_true, Bool.or_eq_true] at b2
        rcases b2 with b2 | b2 | b2
        · exact (hij (by simpa using b2)).elim
        · rw [ho] at b2; cases b2
        · exact b2
    · exact .inl rfl
  · have b1 := (h3 j hj).2
    split at b1
    · rename_i hu
      rw [Bool.or_eq_true]; right
      unfold unspoken
      simp only
      rw [hu]; rfl
    · rw [List.all_eq_true] at b1
      have b2 := b1 i (List.mem_range.2 hi)
      rw [Bool.or_eq_true] at b2
      rcases b2 with b2 | b2
      · exact (hij (by simpa using b2)).elim
      · exact b2

/-! ### Code -/
noncomputable def loopX (body : St → Option (Exit × St)) : Nat → St → Option (Exit × St)
  | 0, _ => none
  | k + 1, σ => match relab σ with
    | some σ1 => match body σ1 with
      | some (.normal, σ2) => loopX body k σ2
      | r => r
    | none => none
noncomputable def evC (P : Program) (cf : St → FuncId → List S → Option Eff) (fuel : Nat) : Code → St → Option (Exit × St)
  | .skip, σ => some (.normal, σ)
  | .region _ ops false, σ => match opsX P cf ops.toList ops.toList σ [] with
    | some (σ', _) => some (.normal, σ')
    | none => none
  | .region _ ops true, σ => match opsX P cf ops.toList ops.toList σ [] with
    | some (σ', acc) => bif drawQ ops.toList acc.reverse && nwsOk σ acc then some (.normal, σ') else none
    | none => none
  | .seq a b, σ => match evC P cf fuel a σ with
    | some (.normal, σ') => evC P cf fuel b σ'
    | r => r
  | .cond c x y, σ => match rdS (lkQ σ.g) c with
    | .t (.lit (.bool v)) => bif v then evC P cf fuel x σ else evC P cf fuel y σ
    | _ => none
  | .block id c, σ => match evC P cf fuel c σ with
    | some (.exit i, σ') => bif Nat.beq i id then some (.normal, σ') else some (.exit i, σ')
    | r => r
  | .exit id, σ => some (.exit id, σ)
  | .ret, σ => some (.ret, σ)
  | .loop c, σ => loopX (evC P cf fuel c) fuel σ
  | .scope c, σ => match evC P cf fuel c σ with
    | some (.goto _, _) => none
    | r => r
  | .label _, σ => some (.normal, σ)
  | _, _ => none
section
variable {N : Nat} {P : Program} {cf : St → FuncId → List S → Option Eff} {fuel : Nat}
def RoundI {ι : Type} (I : ι → St) (Inv : ι → Prop) (μ : ι → Nat) (i : ι) (Q : Exit → St → Prop) (e : Exit) (σ : St) : Prop := match e with
  | .normal => ∃ j, Inv j ∧ μ j < μ i ∧ Imp σ (I j)
  | e => Q e σ
theorem CW.loopI {ι : Type} {Q : Exit → St → Prop} (I : ι → St) (Inv : ι → Prop) (μ : ι → Nat) (i0 : ι) {c : Code} {σ : St} (h0 : Inv i0) (hstart : Imp σ (I i0))
    (round : ∀ i, Inv i → CW N P c (RoundI I Inv μ i Q) (I i)) : CW N P (.loop c) Q σ := by
  intro hm hc W G0 A a w hs
  simp only [okCode] at hc
  classical
  let J : Act → World → ι → Prop := fun a w i => Inv i ∧ Sat N W G0 A (I i) a w
  have key : ∀ n, ∀ a w i, J a w i → μ i = n → ∀ (b : Frame) (k : List Item) (cs : List Frame), ∃ e a' w', (∃ σ', Q e σ' ∧ Sat N W G0 A σ' a' w') ∧ Arrives P (lone (b.at a (.code c :: .inLoop c :: k)) cs w) b k cs e a' w' := by
    intro n
    induction n using Nat.strongRecOn with
    | _ n ih =>
      rintro a w i ⟨hi, hs⟩ hn b k cs
      obtain ⟨e, a₁, w₁, ⟨σ', hq, hs'⟩, harr⟩ := round i hi hm hc W G0 A a w hs b (.inLoop c :: k) cs
      cases e with
      | normal =>
        obtain ⟨j, hj, hlt, hw⟩ := hq
        obtain ⟨e₂, a₂, w₂, hq₂, harr₂⟩ := ih (μ j) (by omega) a₁ w₁ j ⟨hj, hw N W G0 A a₁ w₁ hs'⟩ rfl b k cs
        exact ⟨e₂, a₂, w₂, hq₂, .of_steps (Steps.trans harr (.one step_inLoop)) harr₂⟩
      | exit id => exact ⟨_, a₁, w₁, ⟨σ', hq, hs'⟩, .pass (x := .inLoop c) rfl (fun _ _ => .inl (by simp)) harr⟩
      | goto l => exact ⟨_, a₁, w₁, ⟨σ', hq, hs'⟩, .pass (x := .inLoop c) rfl (fun _ _ => .inl (by simp)) harr⟩
      | ret => exact ⟨_, a₁, w₁, ⟨σ', hq, hs'⟩, .pass (x := .inLoop c) rfl (fun _ _ => .inl (by simp)) harr⟩
      | panic ch => exact ⟨_, a₁, w₁, ⟨σ', hq, hs'⟩, .pass (x := .inLoop c) rfl (fun _ _ => .inl (by simp)) harr⟩
      | outgrown => exact ⟨_, a₁, w₁, ⟨σ', hq, hs'⟩, .pass (x := .inLoop c) rfl (fun _ _ => .inl (by simp)) harr⟩
  intro b k cs
  obtain ⟨e, a', w', hq, harr⟩ := key _ a w i0 ⟨h0, hstart N W G0 A a w hs⟩ rfl b k cs
  exact ⟨e, a', w', hq, .of_steps (.one step_loop) harr⟩
theorem loopX_sound {c : Code} {body : St → Option (Exit × St)} (hb : ∀ (σ σ' : St) (e : Exit) (Q : Exit → St → Prop), body σ = some (e, σ') → Q e σ' → CW N P c Q σ) (n : Nat) (σ σ' : St) (e : Exit) (Q : Exit → St → Prop) (h : loopX body n σ = some (e, σ')) (hq : Q e σ') : CW N P (.loop c) Q σ := by
  cases n with
  | zero => cases h
  | succ n =>
    simp only [loopX] at h
    split at h
    · rename_i σ1 h1
      refine CW.loopI (ι := Nat × St) (fun i => i.2) (fun i => (match body i.2 with | some (.normal, σ2) => loopX body i.1 σ2 | r => r) = some (e, σ')) (fun i => i.1) (n, σ1) h (relab_spec h1) ?_
      rintro ⟨k, σ2⟩ hi
      simp only at hi ⊢
      split at hi
      · rename_i σ3 h3
        cases k with
        | zero => cases hi
        | succ k =>
          simp only [loopX] at hi
          split at hi
          · rename_i σ4 h4
            exact hb σ2 σ3 .normal _ h3 ⟨(k, σ4), hi, Nat.lt_succ_self k, relab_spec h4⟩
          · cases hi
      · rename_i r hr
        refine hb σ2 σ' e _ hi ?_
        cases e with
        | normal => exact (hr _ hi).elim
        | _ => exact hq
    · cases h
theorem evC_sound (hcf : ∀ σ, CfOk P (lkB σ.h) (cf σ)) : ∀ (c : Code) (σ σ' : St) (e : Exit) (Q : Exit → St → Prop), evC P cf fuel c σ = some (e, σ') → Q e σ' → CW N P c Q σ
  | .skip, σ, σ', e, Q, h, hq => by
    simp only [evC] at h; cases h
    exact nf_sound (stop := []) .skip Q σ hq
  | .region id ops false, σ, σ', e, Q, h, hq => by
    simp only [evC] at h
    split at h
    · rename_i σ1 acc h1
      cases h
      exact CW.region (opsX_spec hcf _ _ _ _ _ h1 hq)
    · cases h
  | .region id ops true, σ, σ', e, Q, h, hq => by
    simp only [evC] at h
    split at h
    · rename_i σ1 acc h1
      cases hc : (drawQ ops.toList acc.reverse && nwsOk σ acc) <;> rw [hc] at h <;> simp only [cond_true, cond_false] at h
      · cases h
      · cases h
        rw [Bool.and_eq_true] at hc
        exact CW.draws (opsX_spec hcf _ _ _ _ _ h1 ⟨DrawChk_of (by rw [Bool.and_eq_true]; exact ⟨drawQ_spec hc.1, hc.2⟩), hq⟩)
    · cases h
  | .seq a b, σ, σ', e, Q, h, hq => by
    simp only [evC] at h
    split at h
    · rename_i σ1 h1
      exact CW.seq (evC_sound hcf a σ σ1 .normal _ h1 (evC_sound hcf b σ1 σ' e Q h hq))
    · rename_i r hr
      refine CW.seq (evC_sound hcf a σ σ' e _ h ?_)
      cases e with
      | normal => exact (hr _ h).elim
      | _ => exact hq
  | .cond c x y, σ, σ', e, Q, h, hq => by
    simp only [evC] at h
    split at h
    · rename_i v hv
      rw [lkQ_eq] at hv
      refine CW.cond hv ?_
      cases v
      · exact evC_sound hcf y σ σ' e Q h hq
      · exact evC_sound hcf x σ σ' e Q h hq
    · cases h
  | .block id c, σ, σ', e, Q, h, hq => by
    simp only [evC] at h
    refine CW.block ?_
    split at h
    · rename_i i σ1 h1
      refine evC_sound hcf c σ σ1 (.exit i) _ h1 ?_
      simp only [BlockQ]
      cases hb : Nat.beq i id <;> rw [hb] at h <;> simp only [cond_true, cond_false] at h <;> cases h
      · rw [if_neg (by intro he; subst he; rw [Nat.beq_refl] at hb; cases hb)]
        exact hq
      · rw [if_pos (Nat.eq_of_beq_eq_true hb)]
        exact hq
    · rename_i r hr
      refine evC_sound hcf c σ σ' e _ h ?_
      cases e with
      | exit i => exact (hr _ _ h).elim
      | _ => exact hq
  | .exit id, σ, σ', e, Q, h, hq => by
    simp only [evC] at h; cases h
    exact nf_sound (stop := []) (.exit id) Q σ hq
  | .ret, σ, σ', e, Q, h, hq => by
    simp only [evC] at h; cases h
    exact nf_sound (stop := []) .ret Q σ hq
  | .loop c, σ, σ', e, Q, h, hq => by
    simp only [evC] at h
    exact loopX_sound (fun σ σ' e Q h hq => evC_sound hcf c σ σ' e Q h hq) fuel σ σ' e Q h hq
  | .scope c, σ, σ', e, Q, h, hq => by
    simp only [evC] at h
    refine CW.scope ?_
    split at h
    · cases h
    · rename_i r hr
      refine evC_sound hcf c σ σ' e _ h ?_
      cases e with
      | goto l => exact (hr _ _ h).elim
      | _ => exact hq
  | .label l, σ, σ', e, Q, h, hq => by
    simp only [evC] at h; cases h
    exact nf_sound (stop := []) (.label l) Q σ hq
  | .rangeFunc _ _ _ _, σ, σ', e, Q, h, hq => by simp only [evC] at h; cases h
  | .goto _, σ, σ', e, Q, h, hq => by simp only [evC] at h; cases h
  | .refuse _, σ, σ', e, Q, h, hq => by simp only [evC] at h; cases h
end
end Go.Proofs.YtcehllkmfkoncaaGreat.Sy
