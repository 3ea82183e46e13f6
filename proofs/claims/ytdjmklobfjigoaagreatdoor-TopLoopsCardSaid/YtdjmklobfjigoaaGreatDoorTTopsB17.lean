/- Several texts of this proof, one behind the other. No condition. -/
import Derived.Test.YtdjmklobfjigoaaGreatDoorTTopsB16
import Derived.Test.YtdjmklobfjigoaaGreatDoorTTopsB9
import Derived.Lib.Strings
import Derived.Lib.Walk
import Derived.WalkKit
import Derived.Lib.Bytealg
import Derived.MapKept
import Derived.Test.YtdjmklobfjigoaaGreatDoorTTopsB8
import Derived.Orders
import Derived.OrdersIn
set_option maxRecDepth 100000
set_option maxHeartbeats 16000000
set_option linter.unusedVariables false
set_option linter.unusedSimpArgs false
/- An evaluator of code and functions on symbolic states, which the kernel runs: what it finds is a contract. No condition. -/
namespace Go.Proofs.YtdjmklobfjigoaaGreatDoor.Sy
open Go.RowKit
set_option maxHeartbeats 1000000
/-! ### New names for labels -/
def mlk : List (Nat × Nat) → Nat → Option Nat
  | [], _ => none
  | (l, l') :: r, k => bif Nat.beq k l then some l' else mlk r k
theorem mlk_mem : ∀ {m : List (Nat × Nat)} {l l' : Nat}, mlk m l = some l' → (l, l') ∈ m
  | [], l, l', h => by cases h
  | (k, k') :: r, l, l', h => by
    simp only [mlk] at h
    cases hb : Nat.beq l k <;> rw [hb] at h
    · exact List.mem_cons_of_mem _ (mlk_mem h)
    · have := Nat.eq_of_beq_eq_true hb
      subst this
      simp at h; subst h; simp
mutual
def S.rel (m : List (Nat × Nat)) : S → Option S
  | .dead => some .dead
  | .t x => some (.t x)
  | .rp x => some (.rp x)
  | .own l => match mlk m l with
    | some k => some (.own k)
    | none => none
  | .pt l p o => match mlk m l with
    | some k => some (.pt k p o)
    | none => none
  | .wn l p o n => match mlk m l with
    | some k => some (.wn k p o n)
    | none => none
  | .cl _ _ => none
  | .ag fs => match S.rels m fs with
    | some gs => some (.ag gs)
    | none => none
  | .tup fs => match S.rels m fs with
    | some gs => some (.tup gs)
    | none => none
  | .fn f fs => match S.rels m fs with
    | some gs => some (.fn f gs)
    | none => none
  | .fb f fs => match S.rels m fs with
    | some gs => some (.fb f gs)
    | none => none
def S.rels (m : List (Nat × Nat)) : List S → Option (List S)
  | [] => some []
  | x :: r => match x.rel m with
    | some y => match S.rels m r with
      | some q => some (y :: q)
      | none => none
    | none => none
end
section
variable {m : List (Nat × Nat)}
mutual
theorem rel_width : ∀ (s s' : S), s.rel m = some s' → s'.width = s.width
  | .dead, s', h => by simp only [S.rel] at h; cases h; rfl
  | .t x, s', h => by simp only [S.rel] at h; cases h; rfl
  | .rp x, s', h => by simp only [S.rel] at h; cases h; rfl
  | .own l, s', h => by simp only [S.rel] at h; split at h <;> cases h; rfl
  | .pt l p o, s', h => by simp only [S.rel] at h; split at h <;> cases h; rfl
  | .wn l p o n, s', h => by simp only [S.rel] at h; split at h <;> cases h; rfl
  | .cl _ _, s', h => by simp only [S.rel] at h; cases h
  | .ag fs, s', h => by
    simp only [S.rel] at h
    split at h
    · rename_i gs hg
      cases h
      simp only [S.width]
      exact rels_widths fs gs hg
    · cases h
  | .tup fs, s', h => by simp only [S.rel] at h; split at h <;> cases h; rfl
  | .fn f fs, s', h => by simp only [S.rel] at h; split at h <;> cases h; rfl
  | .fb f fs, s', h => by simp only [S.rel] at h; split at h <;> cases h; rfl
theorem rels_widths : ∀ (fs gs : List S), S.rels m fs = some gs → S.widths gs = S.widths fs
  | [], gs, h => by simp only [S.rels] at h; cases h; rfl
  | x :: r, gs, h => by
    simp only [S.rels] at h
    split at h
    · rename_i y hy
      split at h
      · rename_i q hq
        cases h
        simp only [S.widths]
        rw [rel_width x y hy, rels_widths r q hq]
      · cases h
    · cases h
end
section
variable {ρ : List (Nat × Option Nat)} {h : Nat → Option Blk}
mutual
theorem rel_wk (hm : ∀ l l', mlk m l = some l' → lkR ρ l' = some (some l)) : ∀ (s s' : S), s.rel m = some s' → wkS ρ h s s'
  | .dead, s', e => by simp only [S.rel] at e; cases e; unfold wkS; trivial
  | .t x, s', e => by simp only [S.rel] at e; cases e; unfold wkS; exact wkT_refl x
  | .rp x, s', e => by simp only [S.rel] at e; cases e; unfold wkS; rfl
  | .own l, s', e => by
    simp only [S.rel] at e
    split at e
    · rename_i k hk
      cases e; unfold wkS; exact hm _ _ hk
    · cases e
  | .pt l p o, s', e => by
    simp only [S.rel] at e
    split at e
    · rename_i k hk
      cases e; unfold wkS; exact ⟨hm _ _ hk, rfl, rfl⟩
    · cases e
  | .wn l p o n, s', e => by
    simp only [S.rel] at e
    split at e
    · rename_i k hk
      cases e; unfold wkS; exact ⟨hm _ _ hk, rfl, rfl, rfl⟩
    · cases e
  | .cl _ _, s', e => by simp only [S.rel] at e; cases e
  | .ag fs, s', e => by
    simp only [S.rel] at e
    split at e
    · rename_i gs hg
      cases e; unfold wkS; exact rels_wkSs hm fs gs hg
    · cases e
  | .tup fs, s', e => by
    simp only [S.rel] at e
    split at e
    · rename_i gs hg
      cases e; unfold wkS; exact rels_wkPs hm fs gs hg
    · cases e
  | .fn f fs, s', e => by
    simp only [S.rel] at e
    split at e
    · rename_i gs hg
      cases e; unfold wkS; exact ⟨rfl, rels_wkPs hm fs gs hg⟩
    · cases e
  | .fb f fs, s', e => by
    simp only [S.rel] at e
    split at e
    · rename_i gs hg
      cases e; unfold wkS; exact ⟨rfl, rels_wkPs hm fs gs hg⟩
    · cases e
theorem rels_wkSs (hm : ∀ l l', mlk m l = some l' → lkR ρ l' = some (some l)) : ∀ (fs gs : List S), S.rels m fs = some gs → wkSs ρ h fs gs
  | [], gs, e => by simp only [S.rels] at e; cases e; unfold wkSs; trivial
  | x :: r, gs, e => by
    simp only [S.rels] at e
    split at e
    · rename_i y hy
      split at e
      · rename_i q hq
        cases e
        unfold wkSs
        exact ⟨rel_width x y hy, rel_wk hm x y hy, rels_wkSs hm r q hq⟩
      · cases e
    · cases e
theorem rels_wkPs (hm : ∀ l l', mlk m l = some l' → lkR ρ l' = some (some l)) : ∀ (fs gs : List S), S.rels m fs = some gs → wkPs ρ h fs gs
  | [], gs, e => by simp only [S.rels] at e; cases e; unfold wkPs; trivial
  | x :: r, gs, e => by
    simp only [S.rels] at e
    split at e
    · rename_i y hy
      split at e
      · rename_i q hq
        cases e
        unfold wkPs
        exact ⟨rel_wk hm x y hy, rels_wkPs hm r q hq⟩
      · cases e
    · cases e
end
end
section
variable {ρ : List (Nat × Nat)}
mutual
theorem rel_ren (hm : ∀ l l', mlk m l = some l' → rn ρ l' = l) : ∀ (s s' : S), s.rel m = some s' → s = s'.ren ρ
  | .dead, s', e => by simp only [S.rel] at e; cases e; unfold S.ren; rfl
  | .t x, s', e => by simp only [S.rel] at e; cases e; unfold S.ren; rfl
  | .rp x, s', e => by simp only [S.rel] at e; cases e; unfold S.ren; rfl
  | .own l, s', e => by
    simp only [S.rel] at e
    split at e
    · rename_i k hk
      cases e; unfold S.ren; rw [hm _ _ hk]
    · cases e
  | .pt l p o, s', e => by
    simp only [S.rel] at e
    split at e
    · rename_i k hk
      cases e; unfold S.ren; rw [hm _ _ hk]
    · cases e
  | .wn l p o n, s', e => by
    simp only [S.rel] at e
    split at e
    · rename_i k hk
      cases e; unfold S.ren; rw [hm _ _ hk]
    · cases e
  | .cl _ _, s', e => by simp only [S.rel] at e; cases e
  | .ag fs, s', e => by
    simp only [S.rel] at e
    split at e
    · rename_i gs hg
      cases e; unfold S.ren; rw [rels_ren hm fs gs hg]
    · cases e
  | .tup fs, s', e => by
    simp only [S.rel] at e
    split at e
    · rename_i gs hg
      cases e; unfold S.ren; rw [rels_ren hm fs gs hg]
    · cases e
  | .fn f fs, s', e => by
    simp only [S.rel] at e
    split at e
    · rename_i gs hg
      cases e; unfold S.ren; rw [rels_ren hm fs gs hg]
    · cases e
  | .fb f fs, s', e => by
    simp only [S.rel] at e
    split at e
    · rename_i gs hg
      cases e; unfold S.ren; rw [rels_ren hm fs gs hg]
    · cases e
theorem rels_ren (hm : ∀ l l', mlk m l = some l' → rn ρ l' = l) : ∀ (fs gs : List S), S.rels m fs = some gs → fs = S.rens ρ gs
  | [], gs, e => by simp only [S.rels] at e; cases e; unfold S.rens; rfl
  | x :: r, gs, e => by
    simp only [S.rels] at e
    split at e
    · rename_i y hy
      split at e
      · rename_i q hq
        cases e
        unfold S.rens
        rw [← rel_ren hm x y hy, ← rels_ren hm r q hq]
      · cases e
    · cases e
end
end
end
def Blk.rel (m : List (Nat × Nat)) : Blk → Option Blk
  | .list e s xs => some (.list e s xs)
  | .box e c => match c.rel m with
    | some c' => bif c'.solid then some (.box e c') else none
    | none => none
  | .rows e s us [] => some (.rows e s us [])
  | .rows _ _ _ (_ :: _) => none
theorem blkRel_wk {m : List (Nat × Nat)} {ρ : List (Nat × Option Nat)} {h : Nat → Option Blk} (hm : ∀ l l', mlk m l = some l' → lkR ρ l' = some (some l)) {b b' : Blk} (e : b.rel m = some b') : wkB ρ h b b' := by
  cases b with
  | list e0 s xs => simp only [Blk.rel] at e; cases e; exact ⟨rfl, rfl, rfl⟩
  | box e0 c =>
    simp only [Blk.rel] at e
    split at e
    · rename_i c' hc
      cases hs : c'.solid <;> rw [hs] at e <;> simp at e
      subst e
      exact ⟨rfl, rel_width _ _ hc, hs, rel_wk hm _ _ hc⟩
    · cases e
  | rows e0 s us ex =>
    cases ex with
    | nil => simp only [Blk.rel] at e; cases e; exact ⟨rfl, rfl, rfl, trivial⟩
    | cons q r => simp only [Blk.rel] at e; cases e
theorem blkRel_ren {m ρ : List (Nat × Nat)} (hm : ∀ l l', mlk m l = some l' → rn ρ l' = l) {b b' : Blk} (e : b.rel m = some b') : b = b'.ren ρ := by
  cases b with
  | list e0 s xs => simp only [Blk.rel] at e; cases e; rfl
  | box e0 c =>
    simp only [Blk.rel] at e
    split at e
    · rename_i c' hc
      cases hs : c'.solid <;> rw [hs] at e <;> simp at e
      subst e
      simp only [Blk.ren]
      rw [← rel_ren hm _ _ hc]
    · cases e
  | rows e0 s us ex =>
    cases ex with
    | nil => simp only [Blk.rel] at e; cases e; rfl
    | cons q r => simp only [Blk.rel] at e; cases e
def relH (m : List (Nat × Nat)) (h : List (Nat × Blk)) : List (Nat × Nat) → Option (List (Nat × Blk))
  | [] => some []
  | (l, l') :: r => match lkB h l with
    | some b => match b.rel m with
      | some b' => match relH m h r with
        | some q => some ((l', b') :: q)
        | none => none
      | none => none
    | none => none
theorem relH_wk {m : List (Nat × Nat)} {ρ : List (Nat × Option Nat)} {h : List (Nat × Blk)} (hm : ∀ l l', mlk m l = some l' → lkR ρ l' = some (some l)) : ∀ {r : List (Nat × Nat)} {q : List (Nat × Blk)}, (∀ p ∈ r, lkR ρ p.2 = some (some p.1)) → relH m h r = some q → wkH ρ (lkB h) q
  | [], q, _, e => by simp only [relH] at e; cases e; unfold wkH; trivial
  | (l, l') :: r, q, hr, e => by
    simp only [relH] at e
    split at e
    · rename_i b hb
      split at e
      · rename_i b' hb'
        split at e
        · rename_i q' hq
          cases e
          unfold wkH
          have h1 := hr (l, l') (by simp)
          simp only at h1
          refine ⟨?_, relH_wk hm (fun p hp => hr p (List.mem_cons_of_mem _ hp)) hq⟩
          simp only [h1, hb]
          exact blkRel_wk hm hb'
        · cases e
      · cases e
    · cases e
theorem relH_ren {m ρ : List (Nat × Nat)} {h : List (Nat × Blk)} (hm : ∀ l l', mlk m l = some l' → rn ρ l' = l) : ∀ {r : List (Nat × Nat)} {q : List (Nat × Blk)}, (∀ p ∈ r, rn ρ p.2 = p.1) → relH m h r = some q → preR ρ (lkB h) q
  | [], q, _, e => by simp only [relH] at e; cases e; unfold preR; trivial
  | (l, l') :: r, q, hr, e => by
    simp only [relH] at e
    split at e
    · rename_i b hb
      split at e
      · rename_i b' hb'
        split at e
        · rename_i q' hq
          cases e
          unfold preR
          have h1 := hr (l, l') (by simp)
          simp only at h1
          refine ⟨?_, relH_ren hm (fun p hp => hr p (List.mem_cons_of_mem _ hp)) hq⟩
          rw [h1, hb, ← blkRel_ren hm hb']
        · cases e
      · cases e
    · cases e
def relG (m : List (Nat × Nat)) : List (Nat × S) → Nat → List (Nat × S)
  | [], _ => []
  | (t, s) :: r, seen => bif bitB seen t then relG m r seen else match s.rel m with
    | some s' => (t, s') :: relG m r (Nat.lor seen (Nat.shiftLeft 1 t))
    | none => relG m r (Nat.lor seen (Nat.shiftLeft 1 t))
theorem bitB_set (seen t k : Nat) : bitB (Nat.lor seen (Nat.shiftLeft 1 t)) k = (bitB seen k || decide (t = k)) := by
  rw [bitB_eq, bitB_eq]
  show (seen ||| 1 <<< t).testBit k = _
  rw [Nat.testBit_or, Nat.one_shiftLeft, Nat.testBit_two_pow]
theorem relG_wk {m : List (Nat × Nat)} {ρ : List (Nat × Option Nat)} {h : Nat → Option Blk} {g : List (Nat × S)} (hm : ∀ l l', mlk m l = some l' → lkR ρ l' = some (some l)) : ∀ (r : List (Nat × S)) (seen : Nat), (∀ t, bitB seen t = false → lkS g t = lkS r t) → wkG ρ h (lkS g) (relG m r seen)
  | [], seen, _ => by unfold relG wkG; trivial
  | (t, s) :: r, seen, hr => by
    unfold relG
    cases hb : bitB seen t <;> simp only [cond_true, cond_false]
    · have h1 : lkS g t = s := by rw [hr t hb]; simp [lkS]
      have h2 : ∀ k, bitB (Nat.lor seen (Nat.shiftLeft 1 t)) k = false → lkS g k = lkS r k := by
        intro k hk
        rw [bitB_set] at hk
        simp only [Bool.or_eq_false_iff, decide_eq_false_iff_not] at hk
        rw [hr k hk.1]
        simp only [lkS]
        rw [if_neg (fun e => hk.2 e.symm)]
      split
      · rename_i s' hs
        unfold wkG
        refine ⟨?_, relG_wk hm r _ h2⟩
        rw [h1]
        exact rel_wk hm _ _ hs
      · exact relG_wk hm r _ h2
    · refine relG_wk hm r seen fun k hk => ?_
      rw [hr k hk]
      simp only [lkS]
      rw [if_neg]
      rintro rfl
      rw [hb] at hk; cases hk
def nameM : List (Nat × Blk) → Nat → List (Nat × Nat)
  | [], _ => []
  | (l, _) :: r, k => bif Nat.blt l 100 then (l, l) :: nameM r k else (l, 500 + k) :: nameM r (k + 1)
def fltM (h : List (Nat × Blk)) (m : List (Nat × Nat)) : List (Nat × Nat) := m.filter fun q => match lkB h q.1 with
  | some b => (b.rel m).isSome
  | none => false
def rhoM (m : List (Nat × Nat)) : List (Nat × Option Nat) := m.map fun q => (q.2, some q.1)
def chkM (m : List (Nat × Nat)) (ρ : List (Nat × Option Nat)) : Bool := m.all fun q => match lkR ρ q.2 with
  | some (some l) => Nat.beq l q.1
  | _ => false
theorem chkM_spec {m : List (Nat × Nat)} {ρ : List (Nat × Option Nat)} (h : chkM m ρ = true) : ∀ p ∈ m, lkR ρ p.2 = some (some p.1) := by
  intro p hp
  have := List.all_eq_true.1 h p hp
  split at this
  · rename_i l hl
    rw [hl, Nat.eq_of_beq_eq_true this]
  · cases this
def relab1 (σ : St) : Option St :=
  let m := fltM σ.h (fltM σ.h (nameM σ.h 0))
  let ρ := rhoM m
  bif rhoOk ρ && chkM m ρ then match relH m σ.h m with
    | some h' => some ⟨relG m σ.g 0, h'⟩
    | none => none
  else none
theorem relab1_spec {σ σ' : St} (h : relab1 σ = some σ') : ∃ ρ, Wk ρ σ σ' := by
  unfold relab1 at h
  simp only at h
  generalize fltM σ.h (fltM σ.h (nameM σ.h 0)) = m at h
  cases hc : (rhoOk (rhoM m) && chkM m (rhoM m)) <;> rw [hc] at h <;> simp only [cond_true, cond_false] at h
  · cases h
  rw [Bool.and_eq_true] at hc
  split at h
  · rename_i h' hh
    cases h
    have h1 := chkM_spec hc.2
    have hm : ∀ l l', mlk m l = some l' → lkR (rhoM m) l' = some (some l) := fun l l' e => h1 (l, l') (mlk_mem e)
    exact ⟨rhoM m, hc.1, relG_wk hm σ.g 0 (fun t _ => rfl), relH_wk hm h1 hh⟩
  · cases h
mutual
def S.hot : S → Bool
  | .own l => Nat.ble 100 l && Nat.blt l 500
  | .pt l _ _ => Nat.ble 100 l && Nat.blt l 500
  | .wn l _ _ _ => Nat.ble 100 l && Nat.blt l 500
  | .ag fs => S.hots fs
  | .tup fs => S.hots fs
  | .fn _ fs => S.hots fs
  | .fb _ fs => S.hots fs
  | _ => false
def S.hots : List S → Bool
  | [] => false
  | x :: r => x.hot || S.hots r
end
def hotG : List (Nat × S) → Nat → Bool
  | [], k => Nat.blt 90 k
  | (_, s) :: r, k => s.hot || hotG r (k + 1)
def hotH : List (Nat × Blk) → Bool
  | [] => false
  | (l, _) :: r => (Nat.ble 100 l && Nat.blt l 500) || hotH r
def relab (σ : St) : Option St := bif hotH σ.h || hotG σ.g 0 then relab1 σ else some σ
def Imp (σ σ' : St) : Prop := ∀ (N : Nat) (W : World) (G0 : Gh) (A : Nat → Prop) (a : Act) (w : World), Sat N W G0 A σ a w → Sat N W G0 A σ' a w
theorem relab_spec {σ σ' : St} (h : relab σ = some σ') : Imp σ σ' := by
  unfold relab at h
  cases hc : (hotH σ.h || hotG σ.g 0) <;> rw [hc] at h <;> simp only [cond_true, cond_false] at h
  · cases h
    exact fun _ _ _ _ _ _ h => h
  · obtain ⟨ρ, hρ⟩ := relab1_spec h
    exact fun _ _ _ _ _ _ h => h.weak hρ
/-! ### The check of a drawn order, in two parts: the region's shape (which the kernel computes once), and what its operations do -/
def dstFree (ops : List Oper) (i j : Nat) : Bool := match (ops.getD i default).dst with
  | some t => !((ops.getD j default).looksAt ops.toArray).contains t
  | none => true
def mskOfQ (len : Nat) (rev : List Nat) (o : Oper) : Nat := (o.after.toList.filter fun e => Region.binds .any e).foldr (fun e m => Nat.lor (Nat.shiftLeft 1 e.on) (Nat.lor (bif Nat.blt e.on len then rev.getD (Nat.sub (Nat.sub len 1) e.on) 0 else 0) m)) 0
def mskFromQ : List Oper → Nat → List Nat → List Nat
  | [], _, rev => rev.reverse
  | o :: r, len, rev => mskFromQ r (len + 1) (mskOfQ len rev o :: rev)
def msksQ (ops : List Oper) : List Nat := mskFromQ ops 0 []
theorem mskOfQ_eq (acc : List Nat) (o : Oper) : mskOfQ acc.length acc.reverse o = mskOf acc o := by
  unfold mskOfQ mskOf
  congr 1
  funext e m
  have h : (bif Nat.blt e.on acc.length then acc.reverse.getD (Nat.sub (Nat.sub acc.length 1) e.on) 0 else 0) = acc.getD e.on 0 := by
    by_cases hl : e.on < acc.length
    · have hb : Nat.blt e.on acc.length = true := by simp [Nat.blt]; omega
      rw [hb]
      show acc.reverse.getD (acc.length - 1 - e.on) 0 = _
      simp only [cond_true, List.getD_eq_getElem?_getD]
      rw [List.getElem?_reverse (by omega)]
      congr 2
      omega
    · have hb : Nat.blt e.on acc.length = false := by
        cases h : Nat.blt e.on acc.length
        · rfl
        · exact (hl (by simp [Nat.blt] at h; omega)).elim
      rw [hb]
      simp only [cond_false, List.getD_eq_getElem?_getD]
      rw [List.getElem?_eq_none (by omega)]
      rfl
  rw [h]
theorem mskFromQ_eq : ∀ (r : List Oper) (acc : List Nat), mskFromQ r acc.length acc.reverse = mskFrom r acc
  | [], acc => by simp [mskFromQ, mskFrom]
  | o :: r, acc => by
    simp only [mskFromQ, mskFrom]
    rw [mskOfQ_eq, ← mskFromQ_eq r (acc ++ [mskOf acc o])]
    simp
theorem msksQ_eq (ops : List Oper) : msksQ ops = msks ops := mskFromQ_eq ops []
def lookM : List Tmp → Nat
  | [] => 0
  | t :: r => Nat.lor (lookM r) (Nat.shiftLeft 1 t)
theorem lookM_bit (k : Nat) : ∀ l : List Tmp, bitB (lookM l) k = l.contains k
  | [] => by simp [lookM, bitB_eq]
  | t :: r => by
    simp only [lookM]
    rw [bitB_set, lookM_bit k r]
    simp only [List.contains_cons, Bool.or_comm]
    congr 1
    by_cases h : t = k
    · simp [h]
    · have : ¬ k = t := fun e => h e.symm
      simp [h, this]
structure Row where
  ix : Nat
  an : Nat
  look : Nat
  dst : Option Tmp
def rowsOf (ops : List Oper) : List Row := (List.range ops.length).map fun i => ⟨i, (msksQ ops).getD i 0, lookM ((ops.getD i default).looksAt ops.toArray), (ops.getD i default).dst⟩
def rowOk (a b : Row) : Bool := Nat.beq a.ix b.ix || (bitB b.an a.ix || (bitB a.an b.ix || match a.dst with
  | some t => !bitB b.look t
  | none => true))
def strOk (ops : List Oper) : Bool :=
  Region.noSelect ops.toArray && nodupB (ops.filterMap (·.dst)) &&
  ((List.range ops.length).all fun j => (ops.getD j default).after.toList.all fun e => !Region.binds .any e || decide (e.on < j)) &&
  ((rowsOf ops).all fun b => (rowsOf ops).all fun a => rowOk a b)
theorem strOk_spec {ops : List Oper} (h : strOk ops = true) : ∀ j < ops.length, ((ops.getD j default).after.toList.all fun e => !Region.binds .any e || decide (e.on < j)) = true ∧ ∀ i < ops.length, (i == j || (orddM (msks ops) i j || dstFree ops i j)) = true := by
  simp only [strOk, Bool.and_eq_true, List.all_eq_true, List.mem_range] at h
  intro j hj
  refine ⟨by simpa only [List.all_eq_true] using h.1.2 j hj, fun i hi => ?_⟩
  have hr := h.2 _ (List.mem_map.2 ⟨j, List.mem_range.2 hj, rfl⟩) _ (List.mem_map.2 ⟨i, List.mem_range.2 hi, rfl⟩)
  simp only [rowOk, msksQ_eq, Bool.or_eq_true] at hr
  rw [Bool.or_eq_true, Bool.or_eq_true]
  rcases hr with hr | hr | hr | hr
  · left; simpa using Nat.eq_of_beq_eq_true hr
  · right; left; simp only [orddM, Bool.or_eq_true]; exact .inl hr
  · right; left; simp only [orddM, Bool.or_eq_true]; exact .inr hr
  · right; right
    unfold dstFree
    cases hd : (ops.getD i default).dst with
    | none => rfl
    | some t =>
      rw [hd] at hr
      simp only at hr ⊢
      rw [lookM_bit] at hr
      exact hr
def esOk (ops : List Oper) (es : List (Option Eff)) : Bool :=
  let an := msksQ ops
  let n := ops.length
  (List.range n).all fun i =>
    (match (eff (es.getD i none)).u with
      | [] => true
      | u => (List.range n).all fun j => i == j || (orddM an i j || u.all (fun q => !(eff (es.getD j none)).fp.contains q.1 && !((eff (es.getD j none)).u.map (·.1)).contains q.1))) &&
    (match (eff (es.getD i none)).nw with
      | [] => true
      | _ => (List.range n).all fun k => k == i || (bitB (an.getD k 0) i || unspoken ops es k i))
def drawQ (ops : List Oper) (es : List (Option Eff)) : Bool := strOk ops && (Nat.beq es.length ops.length && esOk ops es)
theorem drawQ_spec {ops : List Oper} {es : List (Option Eff)} (h : drawQ ops es = true) : drawOk2 ops es = true := by
  simp only [drawQ, Bool.and_eq_true] at h
  obtain ⟨h1, h2, h3⟩ := h
  have h5 := strOk_spec h1
  simp only [strOk, Bool.and_eq_true] at h1
  simp only [esOk, msksQ_eq, Bool.and_eq_true, List.all_eq_true, List.mem_range] at h3
  simp only [drawOk2, Bool.and_eq_true, List.all_eq_true, List.mem_range, decide_eq_true_eq]
  refine ⟨⟨⟨h1.1.1.1, Nat.eq_of_beq_eq_true h2⟩, h1.1.1.2⟩, fun j hj => ⟨by simpa only [List.all_eq_true] using (h5 j hj).1, fun i hi => ?_⟩⟩
  have a1 := (h5 j hj).2 i hi
  rw [Bool.or_eq_true] at a1 ⊢
  rcases a1 with a1 | a1
  · exact .inl a1
  by_cases hij : i = j
  · left; simp [hij]
  right
  rw [Bool.and_eq_true]
  constructor
  · rw [Bool.or_eq_true] at a1 ⊢
    rcases a1 with a1 | a1
    · exact .inl a1
    cases ho : orddM (msks ops) i j
    · right
      have b1 := (h3 i hi).1
      unfold apart
      simp only [Bool.and_eq_true]
      refine ⟨a1, ?_⟩
      split at b1
      · rename_i hu
        rw [hu]; rfl
      · rw [List.all_eq_true] at b1
        have b2 := b1 j (List.mem_range.2 hj)
        rw [Bool.or_eq_true, Bool.or_eq_true] at b2
        rcases b2 with b2 | b2 | b2
        · exact (hij (by simpa using b2)).elim
        · rw [ho] at b2; cases b2
        · exact b2
    · exact .inl rfl
  · have b1 := (h3 j hj).2
    split at b1
    · rename_i hu
      rw [Bool.or_eq_true]; right
      unfold unspoken
      simp only
      rw [hu]; rfl
    · rw [List.all_eq_true] at b1
      have b2 := b1 i (List.mem_range.2 hi)
      rw [Bool.or_eq_true] at b2
      rcases b2 with b2 | b2
      · exact (hij (by simpa using b2)).elim
      · exact b2
/-! ### Code -/
noncomputable def loopX (body : St → Option (Exit × St)) : Nat → St → Option (Exit × St)
  | 0, _ => none
  | k + 1, σ => match relab σ with
    | some σ1 => match body σ1 with
      | some (.normal, σ2) => loopX body k σ2
      | r => r
    | none => none
noncomputable def evC (P : Program) (cf : St → FuncId → List S → Option Eff) (fuel : Nat) : Code → St → Option (Exit × St)
  | .skip, σ => some (.normal, σ)
  | .region _ ops false, σ => match opsX P cf ops.toList ops.toList σ [] with
    | some (σ', _) => some (.normal, σ')
    | none => none
  | .region _ ops true, σ => match opsX P cf ops.toList ops.toList σ [] with
    | some (σ', acc) => bif drawQ ops.toList acc.reverse && nwsOk σ acc then some (.normal, σ') else none
    | none => none
  | .seq a b, σ => match evC P cf fuel a σ with
    | some (.normal, σ') => evC P cf fuel b σ'
    | r => r
  | .cond c x y, σ => match rdS (lkQ σ.g) c with
    | .t (.lit (.bool v)) => bif v then evC P cf fuel x σ else evC P cf fuel y σ
    | _ => none
  | .block id c, σ => match evC P cf fuel c σ with
    | some (.exit i, σ') => bif Nat.beq i id then some (.normal, σ') else some (.exit i, σ')
    | r => r
  | .exit id, σ => some (.exit id, σ)
  | .ret, σ => some (.ret, σ)
  | .loop c, σ => loopX (evC P cf fuel c) fuel σ
  | .scope c, σ => match evC P cf fuel c σ with
    | some (.goto _, _) => none
    | r => r
  | .label _, σ => some (.normal, σ)
  | _, _ => none
section
variable {N : Nat} {P : Program} {cf : St → FuncId → List S → Option Eff} {fuel : Nat}
def RoundI {ι : Type} (I : ι → St) (Inv : ι → Prop) (μ : ι → Nat) (i : ι) (Q : Exit → St → Prop) (e : Exit) (σ : St) : Prop := match e with
  | .normal => ∃ j, Inv j ∧ μ j < μ i ∧ Imp σ (I j)
  | e => Q e σ
theorem CW.loopI {ι : Type} {Q : Exit → St → Prop} (I : ι → St) (Inv : ι → Prop) (μ : ι → Nat) (i0 : ι) {c : Code} {σ : St} (h0 : Inv i0) (hstart : Imp σ (I i0))
    (round : ∀ i, Inv i → CW N P c (RoundI I Inv μ i Q) (I i)) : CW N P (.loop c) Q σ := by
  intro hm hc W G0 A a w hs
  simp only [okCode] at hc
  classical
  let J : Act → World → ι → Prop := fun a w i => Inv i ∧ Sat N W G0 A (I i) a w
  have key : ∀ n, ∀ a w i, J a w i → μ i = n → ∀ (b : Frame) (k : List Item) (cs : List Frame), ∃ e a' w', (∃ σ', Q e σ' ∧ Sat N W G0 A σ' a' w') ∧ Arrives P (lone (b.at a (.code c :: .inLoop c :: k)) cs w) b k cs e a' w' := by
    intro n
    induction n using Nat.strongRecOn with
    | _ n ih =>
      rintro a w i ⟨hi, hs⟩ hn b k cs
      obtain ⟨e, a₁, w₁, ⟨σ', hq, hs'⟩, harr⟩ := round i hi hm hc W G0 A a w hs b (.inLoop c :: k) cs
      cases e with
      | normal =>
        obtain ⟨j, hj, hlt, hw⟩ := hq
        obtain ⟨e₂, a₂, w₂, hq₂, harr₂⟩ := ih (μ j) (by omega) a₁ w₁ j ⟨hj, hw N W G0 A a₁ w₁ hs'⟩ rfl b k cs
        exact ⟨e₂, a₂, w₂, hq₂, .of_steps (Steps.trans harr (.one step_inLoop)) harr₂⟩
      | exit id => exact ⟨_, a₁, w₁, ⟨σ', hq, hs'⟩, .pass (x := .inLoop c) rfl (fun _ _ => .inl (by simp)) harr⟩
      | goto l => exact ⟨_, a₁, w₁, ⟨σ', hq, hs'⟩, .pass (x := .inLoop c) rfl (fun _ _ => .inl (by simp)) harr⟩
      | ret => exact ⟨_, a₁, w₁, ⟨σ', hq, hs'⟩, .pass (x := .inLoop c) rfl (fun _ _ => .inl (by simp)) harr⟩
      | panic ch => exact ⟨_, a₁, w₁, ⟨σ', hq, hs'⟩, .pass (x := .inLoop c) rfl (fun _ _ => .inl (by simp)) harr⟩
      | outgrown => exact ⟨_, a₁, w₁, ⟨σ', hq, hs'⟩, .pass (x := .inLoop c) rfl (fun _ _ => .inl (by simp)) harr⟩
  intro b k cs
  obtain ⟨e, a', w', hq, harr⟩ := key _ a w i0 ⟨h0, hstart N W G0 A a w hs⟩ rfl b k cs
  exact ⟨e, a', w', hq, .of_steps (.one step_loop) harr⟩
theorem loopX_sound {c : Code} {body : St → Option (Exit × St)} (hb : ∀ (σ σ' : St) (e : Exit) (Q : Exit → St → Prop), body σ = some (e, σ') → Q e σ' → CW N P c Q σ) (n : Nat) (σ σ' : St) (e : Exit) (Q : Exit → St → Prop) (h : loopX body n σ = some (e, σ')) (hq : Q e σ') : CW N P (.loop c) Q σ := by
  cases n with
  | zero => cases h
  | succ n =>
    simp only [loopX] at h
    split at h
    · rename_i σ1 h1
      refine CW.loopI (ι := Nat × St) (fun i => i.2) (fun i => (match body i.2 with | some (.normal, σ2) => loopX body i.1 σ2 | r => r) = some (e, σ')) (fun i => i.1) (n, σ1) h (relab_spec h1) ?_
      rintro ⟨k, σ2⟩ hi
      simp only at hi ⊢
      split at hi
      · rename_i σ3 h3
        cases k with
        | zero => cases hi
        | succ k =>
          simp only [loopX] at hi
          split at hi
          · rename_i σ4 h4
            exact hb σ2 σ3 .normal _ h3 ⟨(k, σ4), hi, Nat.lt_succ_self k, relab_spec h4⟩
          · cases hi
      · rename_i r hr
        refine hb σ2 σ' e _ hi ?_
        cases e with
        | normal => exact (hr _ hi).elim
        | _ => exact hq
    · cases h
theorem evC_sound (hcf : ∀ σ, CfOk P (lkB σ.h) (cf σ)) : ∀ (c : Code) (σ σ' : St) (e : Exit) (Q : Exit → St → Prop), evC P cf fuel c σ = some (e, σ') → Q e σ' → CW N P c Q σ
  | .skip, σ, σ', e, Q, h, hq => by
    simp only [evC] at h; cases h
    exact nf_sound (stop := []) .skip Q σ hq
  | .region id ops false, σ, σ', e, Q, h, hq => by
    simp only [evC] at h
    split at h
    · rename_i σ1 acc h1
      cases h
      exact CW.region (opsX_spec hcf _ _ _ _ _ h1 hq)
    · cases h
  | .region id ops true, σ, σ', e, Q, h, hq => by
    simp only [evC] at h
    split at h
    · rename_i σ1 acc h1
      cases hc : (drawQ ops.toList acc.reverse && nwsOk σ acc) <;> rw [hc] at h <;> simp only [cond_true, cond_false] at h
      · cases h
      · cases h
        rw [Bool.and_eq_true] at hc
        exact CW.draws (opsX_spec hcf _ _ _ _ _ h1 ⟨DrawChk_of (by rw [Bool.and_eq_true]; exact ⟨drawQ_spec hc.1, hc.2⟩), hq⟩)
    · cases h
  | .seq a b, σ, σ', e, Q, h, hq => by
    simp only [evC] at h
    split at h
    · rename_i σ1 h1
      exact CW.seq (evC_sound hcf a σ σ1 .normal _ h1 (evC_sound hcf b σ1 σ' e Q h hq))
    · rename_i r hr
      refine CW.seq (evC_sound hcf a σ σ' e _ h ?_)
      cases e with
      | normal => exact (hr _ h).elim
      | _ => exact hq
  | .cond c x y, σ, σ', e, Q, h, hq => by
    simp only [evC] at h
    split at h
    · rename_i v hv
      rw [lkQ_eq] at hv
      refine CW.cond hv ?_
      cases v
      · exact evC_sound hcf y σ σ' e Q h hq
      · exact evC_sound hcf x σ σ' e Q h hq
    · cases h
  | .block id c, σ, σ', e, Q, h, hq => by
    simp only [evC] at h
    refine CW.block ?_
    split at h
    · rename_i i σ1 h1
      refine evC_sound hcf c σ σ1 (.exit i) _ h1 ?_
      simp only [BlockQ]
      cases hb : Nat.beq i id <;> rw [hb] at h <;> simp only [cond_true, cond_false] at h <;> cases h
      · rw [if_neg (by intro he; subst he; rw [Nat.beq_refl] at hb; cases hb)]
        exact hq
      · rw [if_pos (Nat.eq_of_beq_eq_true hb)]
        exact hq
    · rename_i r hr
      refine evC_sound hcf c σ σ' e _ h ?_
      cases e with
      | exit i => exact (hr _ _ h).elim
      | _ => exact hq
  | .exit id, σ, σ', e, Q, h, hq => by
    simp only [evC] at h; cases h
    exact nf_sound (stop := []) (.exit id) Q σ hq
  | .ret, σ, σ', e, Q, h, hq => by
    simp only [evC] at h; cases h
    exact nf_sound (stop := []) .ret Q σ hq
  | .loop c, σ, σ', e, Q, h, hq => by
    simp only [evC] at h
    exact loopX_sound (fun σ σ' e Q h hq => evC_sound hcf c σ σ' e Q h hq) fuel σ σ' e Q h hq
  | .scope c, σ, σ', e, Q, h, hq => by
    simp only [evC] at h
    refine CW.scope ?_
    split at h
    · cases h
    · rename_i r hr
      refine evC_sound hcf c σ σ' e _ h ?_
      cases e with
      | goto l => exact (hr _ _ h).elim
      | _ => exact hq
  | .label l, σ, σ', e, Q, h, hq => by
    simp only [evC] at h; cases h
    exact nf_sound (stop := []) (.label l) Q σ hq
  | .rangeFunc _ _ _ _, σ, σ', e, Q, h, hq => by simp only [evC] at h; cases h
  | .goto _, σ, σ', e, Q, h, hq => by simp only [evC] at h; cases h
  | .refuse _, σ, σ', e, Q, h, hq => by simp only [evC] at h; cases h
end
end Go.Proofs.YtdjmklobfjigoaaGreatDoor.Sy
/- An evaluator of functions on symbolic states, which the kernel runs: what it finds is a contract. No condition. -/
namespace Go.Proofs.YtdjmklobfjigoaaGreatDoor.Sy
open Go.RowKit
set_option maxHeartbeats 1000000
/-! ### Own lists az trees -/
mutual
def S.tree (bor : List Nat) (h : Nat → Option Blk) : S → Option T
  | .t x => some x
  | .own l => bif bor.contains l then match h l with
    | some (.list _ s xs) => some (.sl s xs)
    | some (.rows _ s us []) => some (.sl s (us.map U.toT))
    | _ => none else none
  | .ag fs => match S.trees bor h fs with
    | some xs => some (.agg xs)
    | none => none
  | _ => none
def S.trees (bor : List Nat) (h : Nat → Option Blk) : List S → Option (List T)
  | [] => some []
  | x :: r => match x.tree bor h with
    | some y => match S.trees bor h r with
      | some q => bif Nat.beq y.width x.width then some (y :: q) else none
      | none => none
    | none => none
end
section
variable {bor : List Nat} {h : Nat → Option Blk}
section
variable {ρ : List (Nat × Nat)}
mutual
theorem tree_argR : ∀ (s : S) (x : T), s.tree bor h = some x → argR ρ h bor s (.t x)
  | .dead, x, e => by simp only [S.tree] at e; cases e
  | .t y, x, e => by simp only [S.tree] at e; cases e; unfold argR; exact wkT_refl y
  | .rp y, x, e => by simp only [S.tree] at e; cases e
  | .own l, x, e => by
    simp only [S.tree] at e
    cases hc : bor.contains l <;> rw [hc] at e <;> simp only [cond_true, cond_false] at e
    · cases e
    have hm : l ∈ bor := by simpa using hc
    split at e
    · rename_i hl
      cases e; unfold argR
      refine ⟨hm, ?_⟩
      rw [hl]; exact ⟨rfl, rfl⟩
    · rename_i hl
      cases e; unfold argR
      refine ⟨hm, ?_⟩
      rw [hl]; exact ⟨rfl, rfl, rfl⟩
    · cases e
  | .pt _ _ _, x, e => by simp only [S.tree] at e; cases e
  | .wn _ _ _ _, x, e => by simp only [S.tree] at e; cases e
  | .cl _ _, x, e => by simp only [S.tree] at e; cases e
  | .ag fs, x, e => by
    simp only [S.tree] at e
    split at e
    · rename_i xs hx
      cases e; unfold argR; exact trees_argRs fs xs hx
    · cases e
  | .tup _, x, e => by simp only [S.tree] at e; cases e
  | .fn _ _, x, e => by simp only [S.tree] at e; cases e
  | .fb _ _, x, e => by simp only [S.tree] at e; cases e
theorem trees_argRs : ∀ (fs : List S) (xs : List T), S.trees bor h fs = some xs → argRs ρ h bor fs (xs.map S.t)
  | [], xs, e => by simp only [S.trees] at e; cases e; simp only [List.map_nil]; unfold argRs; trivial
  | x :: r, xs, e => by
    simp only [S.trees] at e
    split at e
    · rename_i y hy
      split at e
      · rename_i q hq
        cases hw : Nat.beq y.width x.width <;> rw [hw] at e <;> simp only [cond_true, cond_false] at e <;> cases e
        simp only [List.map_cons]
        unfold argRs
        exact ⟨Nat.eq_of_beq_eq_true hw, tree_argR x y hy, trees_argRs r q hq⟩
      · cases e
    · cases e
end
end
section
variable {ρ : List (Nat × Option Nat)}
mutual
theorem tree_wk (hb : ∀ l ∈ bor, offR l ρ = true) : ∀ (s : S) (x : T), s.tree bor h = some x → wkS ρ h s (.t x)
  | .dead, x, e => by simp only [S.tree] at e; cases e
  | .t y, x, e => by simp only [S.tree] at e; cases e; unfold wkS; exact wkT_refl y
  | .rp y, x, e => by simp only [S.tree] at e; cases e
  | .own l, x, e => by
    simp only [S.tree] at e
    cases hc : bor.contains l <;> rw [hc] at e <;> simp only [cond_true, cond_false] at e
    · cases e
    have hm : l ∈ bor := by simpa using hc
    split at e
    · rename_i hl
      cases e; unfold wkS
      refine ⟨hb l hm, ?_⟩
      rw [hl]; exact ⟨rfl, rfl⟩
    · rename_i hl
      cases e; unfold wkS
      refine ⟨hb l hm, ?_⟩
      rw [hl]; exact ⟨rfl, rfl, rfl⟩
    · cases e
  | .pt _ _ _, x, e => by simp only [S.tree] at e; cases e
  | .wn _ _ _ _, x, e => by simp only [S.tree] at e; cases e
  | .cl _ _, x, e => by simp only [S.tree] at e; cases e
  | .ag fs, x, e => by
    simp only [S.tree] at e
    split at e
    · rename_i xs hx
      cases e; unfold wkS; exact trees_wk hb fs xs hx
    · cases e
  | .tup _, x, e => by simp only [S.tree] at e; cases e
  | .fn _ _, x, e => by simp only [S.tree] at e; cases e
  | .fb _ _, x, e => by simp only [S.tree] at e; cases e
theorem trees_wk (hb : ∀ l ∈ bor, offR l ρ = true) : ∀ (fs : List S) (xs : List T), S.trees bor h fs = some xs → wkSs ρ h fs (xs.map S.t)
  | [], xs, e => by simp only [S.trees] at e; cases e; simp only [List.map_nil]; unfold wkSs; trivial
  | x :: r, xs, e => by
    simp only [S.trees] at e
    split at e
    · rename_i y hy
      split at e
      · rename_i q hq
        cases hw : Nat.beq y.width x.width <;> rw [hw] at e <;> simp only [cond_true, cond_false] at e <;> cases e
        simp only [List.map_cons]
        unfold wkSs
        exact ⟨Nat.eq_of_beq_eq_true hw, tree_wk hb x y hy, trees_wk hb r q hq⟩
      · cases e
    · cases e
end
end
end
/-! ### Labels -/
mutual
def S.labs : S → List Nat
  | .own l => [l]
  | .pt l _ _ => [l]
  | .wn l _ _ _ => [l]
  | .ag fs => S.labss fs
  | .tup fs => S.labss fs
  | .fn _ fs => S.labss fs
  | .fb _ fs => S.labss fs
  | _ => []
def S.labss : List S → List Nat
  | [] => []
  | x :: r => x.labs ++ S.labss r
end
mutual
def S.plabs : S → List Nat
  | .pt l _ _ => [l]
  | .wn l _ _ _ => [l]
  | .ag fs => S.plabss fs
  | .tup fs => S.labss fs
  | .fn _ fs => S.labss fs
  | .fb _ fs => S.labss fs
  | _ => []
def S.plabss : List S → List Nat
  | [] => []
  | x :: r => x.plabs ++ S.plabss r
end
mutual
def S.olabs : S → List Nat
  | .own l => [l]
  | .ag fs => S.olabss fs
  | _ => []
def S.olabss : List S → List Nat
  | [] => []
  | x :: r => x.olabs ++ S.olabss r
end
def blabs : Option Blk → List Nat
  | some (.box _ c) => c.labs
  | _ => []
def addN : List Nat → List Nat → List Nat
  | [], a => a
  | l :: r, a => bif a.contains l then addN r a else addN r (a ++ [l])
def clos (h : Nat → Option Blk) : Nat → List Nat → List Nat
  | 0, a => a
  | k + 1, a => clos h k (addN (a.flatMap fun l => blabs (h l)) a)
def maxL : List Nat → Nat → Nat
  | [], m => m
  | l :: r, m => maxL r (bif Nat.blt l m then m else l + 1)
def topG : List (Nat × S) → Nat → Nat
  | [], m => m
  | (_, s) :: r, m => topG r (maxL s.labs m)
def topH : List (Nat × Blk) → Nat → Nat
  | [], m => m
  | (l, b) :: r, m => topH r (maxL (l :: blabs (some b)) m)
mutual
def flatTb : T → Bool
  | .lit _ => true
  | .sl _ _ => false
  | .agg fs => flatTsb fs
def flatTsb : List T → Bool
  | [] => true
  | x :: r => flatTb x && flatTsb r
end
mutual
theorem flatTb_spec : ∀ x : T, flatTb x = true → flatT x
  | .lit _, _ => by unfold flatT; trivial
  | .sl _ _, h => by simp only [flatTb] at h; cases h
  | .agg fs, h => by simp only [flatTb] at h; unfold flatT; exact flatTsb_spec fs h
theorem flatTsb_spec : ∀ xs : List T, flatTsb xs = true → flatTs xs
  | [], _ => by unfold flatTs; trivial
  | x :: r, h => by
    simp only [flatTsb, Bool.and_eq_true] at h
    unfold flatTs
    exact ⟨flatTb_spec x h.1, flatTsb_spec r h.2⟩
end
mutual
def flatSb : S → Bool
  | .dead => true
  | .t x => flatTb x
  | .rp _ => false
  | .own _ => true
  | .pt _ _ _ => true
  | .wn _ _ _ _ => true
  | .cl _ _ => false
  | .ag fs => flatSsb fs
  | .tup fs => flatSsb fs
  | .fn _ fs => flatSsb fs
  | .fb _ fs => flatSsb fs
def flatSsb : List S → Bool
  | [] => true
  | x :: r => flatSb x && flatSsb r
end
mutual
theorem flatSb_spec : ∀ x : S, flatSb x = true → flatS x
  | .dead, _ => by unfold flatS; trivial
  | .t x, h => by simp only [flatSb] at h; unfold flatS; exact flatTb_spec x h
  | .rp _, h => by simp only [flatSb] at h; cases h
  | .own _, _ => by unfold flatS; trivial
  | .pt _ _ _, _ => by unfold flatS; trivial
  | .wn _ _ _ _, _ => by unfold flatS; trivial
  | .cl _ _, h => by simp only [flatSb] at h; cases h
  | .ag fs, h => by simp only [flatSb] at h; unfold flatS; exact flatSsb_spec fs h
  | .tup fs, h => by simp only [flatSb] at h; unfold flatS; exact flatSsb_spec fs h
  | .fn _ fs, h => by simp only [flatSb] at h; unfold flatS; exact flatSsb_spec fs h
  | .fb _ fs, h => by simp only [flatSb] at h; unfold flatS; exact flatSsb_spec fs h
theorem flatSsb_spec : ∀ xs : List S, flatSsb xs = true → flatSs xs
  | [], _ => by unfold flatSs; trivial
  | x :: r, h => by
    simp only [flatSsb, Bool.and_eq_true] at h
    unfold flatSs
    exact ⟨flatSb_spec x h.1, flatSsb_spec r h.2⟩
end
def flatHb : List (Nat × Blk) → Bool
  | [] => true
  | (_, .list _ _ xs) :: r => flatTsb xs && flatHb r
  | (_, .box _ c) :: r => flatSb c && flatHb r
  | (_, .rows _ _ _ _) :: r => false
theorem flatHb_spec : ∀ h : List (Nat × Blk), flatHb h = true → flatH h
  | [], _ => trivial
  | (_, .list _ _ xs) :: r, h => by
    simp only [flatHb, Bool.and_eq_true] at h
    exact ⟨flatTsb_spec xs h.1, flatHb_spec r h.2⟩
  | (_, .box _ c) :: r, h => by
    simp only [flatHb, Bool.and_eq_true] at h
    exact ⟨flatSb_spec c h.1, flatHb_spec r h.2⟩
  | (_, .rows _ _ _ _) :: r, h => by simp only [flatHb] at h; cases h
/-! ### Calls -/
def argX (m : List (Nat × Nat)) (bor : List Nat) (h : Nat → Option Blk) (a : S) : Option S := match a.rel m with
  | some s => match a with
    | .ag fs => match s with
      | .ag gs => some (.ag gs)
      | _ => none
    | _ => some s
  | none => match a.tree bor h with
    | some x => some (.t x)
    | none => none
def argsX (m : List (Nat × Nat)) (bor : List Nat) (h : Nat → Option Blk) : List S → Option (List S)
  | [] => some []
  | a :: r => match argX m bor h a with
    | some s => match argsX m bor h r with
      | some q => some (s :: q)
      | none => none
    | none => none
theorem argX_spec {m : List (Nat × Nat)} {ρ : List (Nat × Nat)} {bor : List Nat} {h : Nat → Option Blk} (hm : ∀ l l', mlk m l = some l' → rn ρ l' = l) {a s : S} (e : argX m bor h a = some s) : argR ρ h bor a s := by
  unfold argX at e
  split at e
  · rename_i s0 hs
    have hr := rel_ren hm _ _ hs
    cases a with
    | ag fs =>
      simp only at e
      split at e
      · rename_i gs
        cases e
        unfold argR
        exact hr
      · cases e
    | dead => simp only [Option.some.injEq] at e; subst e; simp only [S.rel] at hs; cases hs; unfold argR; rfl
    | t x => simp only [Option.some.injEq] at e; subst e; simp only [S.rel] at hs; cases hs; unfold argR; exact wkT_refl x
    | rp x => simp only [Option.some.injEq] at e; subst e; simp only [S.rel] at hs; cases hs; unfold argR; rfl
    | own l => simp only [Option.some.injEq] at e; subst e; simp only [S.rel] at hs; (split at hs <;> cases hs); unfold argR; exact hr
    | pt l p o => simp only [Option.some.injEq] at e; subst e; simp only [S.rel] at hs; (split at hs <;> cases hs); unfold argR; exact hr
    | wn l p o n => simp only [Option.some.injEq] at e; subst e; simp only [S.rel] at hs; (split at hs <;> cases hs); unfold argR; exact hr
    | cl _ _ => simp only [S.rel] at hs; cases hs
    | tup fs => simp only [Option.some.injEq] at e; subst e; simp only [S.rel] at hs; (split at hs <;> cases hs); unfold argR; exact hr
    | fn f fs => simp only [Option.some.injEq] at e; subst e; simp only [S.rel] at hs; (split at hs <;> cases hs); unfold argR; exact hr
    | fb f fs => simp only [Option.some.injEq] at e; subst e; simp only [S.rel] at hs; (split at hs <;> cases hs); unfold argR; exact hr
  · split at e
    · rename_i x hx
      cases e
      exact tree_argR _ _ hx
    · cases e
theorem argsX_spec {m : List (Nat × Nat)} {ρ : List (Nat × Nat)} {bor : List Nat} {h : Nat → Option Blk} (hm : ∀ l l', mlk m l = some l' → rn ρ l' = l) : ∀ {az ss : List S}, argsX m bor h az = some ss → argPs ρ h bor az ss
  | [], ss, e => by simp only [argsX] at e; cases e; unfold argPs; trivial
  | a :: r, ss, e => by
    simp only [argsX] at e
    split at e
    · rename_i s hs
      split at e
      · rename_i q hq
        cases e
        unfold argPs
        exact ⟨argX_spec hm hs, argsX_spec hm hq⟩
      · cases e
    · cases e
def enumM : List Nat → Nat → List (Nat × Nat)
  | [], _ => []
  | l :: r, k => (l, k) :: enumM r (k + 1)
def freshM : List Nat → Nat → List (Nat × Nat)
  | [], _ => []
  | l :: r, k => (l, k) :: freshM r (k + 1)
def chkR (m ρ : List (Nat × Nat)) : Bool := m.all fun q => Nat.beq (rn ρ q.2) q.1
theorem chkR_spec {m ρ : List (Nat × Nat)} (h : chkR m ρ = true) : ∀ p ∈ m, rn ρ p.2 = p.1 := fun p hp => Nat.eq_of_beq_eq_true (List.all_eq_true.1 h p hp)
def borB (h : Nat → Option Blk) : List Nat → Bool
  | [] => true
  | l :: r => (h l).isSome && borB h r
theorem borB_spec {h : Nat → Option Blk} : ∀ {ls : List Nat}, borB h ls = true → borR h ls
  | [], _ => trivial
  | l :: r, e => by
    simp only [borB, Bool.and_eq_true] at e
    exact ⟨e.1, borB_spec e.2⟩
def callC (ev : FuncId → List S → List (Nat × Blk) → Option (S × List (Nat × Blk))) (σ : St) (f : FuncId) (az : List S) : Option Eff :=
  let h := lkB σ.h
  let m := enumM (clos h 4 (addN (S.plabss az) [])) 0
  let bor := (addN (S.olabss az) []).filter fun l => !((m.map (·.1)).contains l)
  match argsX m bor h az with
  | some ss => match relH m σ.h m with
    | some pre => match ev f ss pre with
      | some (r, post) =>
        let ρ := m.map (fun q => (q.2, q.1)) ++ freshM (newL pre post) (topH σ.h (topG σ.g (maxL (S.labss az) 1000)))
        let fl := bor.isEmpty || (flatSb r && flatHb post)
        let bo := bif fl then bor else []
        let fr := bif fl then [] else bor
        bif callChk ρ (bo ++ fr) pre post r && chkR m ρ && borB h (bo ++ fr) then some (callE ρ bo fr pre post r) else none
      | none => none
    | none => none
  | none => none
theorem callC_spec {P : Program} {ev : FuncId → List S → List (Nat × Blk) → Option (S × List (Nat × Blk))} (hev : ∀ f ss pre r post, ev f ss pre = some (r, post) → FnOk P f ss pre r post) (σ : St) : CfOk P (lkB σ.h) (callC ev σ) := by
  intro f az E e
  unfold callC at e
  simp only at e
  generalize enumM (clos (lkB σ.h) 4 (addN (S.plabss az) [])) 0 = m at e
  generalize ((addN (S.olabss az) []).filter fun l => !((m.map (·.1)).contains l)) = bor at e
  split at e
  · rename_i ss hss
    split at e
    · rename_i pre hpre
      split at e
      · rename_i r post hr
        generalize (m.map (fun q => (q.2, q.1)) ++ freshM (newL pre post) (topH σ.h (topG σ.g (maxL (S.labss az) 1000)))) = ρ at e
        have hfn := hev f ss pre r post hr
        have go : ∀ bo fr, bo ++ fr = bor → (bo = [] ∨ (flatS r ∧ flatH post)) → (bif callChk ρ (bo ++ fr) pre post r && chkR m ρ && borB (lkB σ.h) (bo ++ fr) then some (callE ρ bo fr pre post r) else none) = some E →
            CallOk P f az (lkB σ.h) E ∧ ∀ l ∈ E.nw, 100 ≤ l := by
          intro bo fr hb hfl e
          cases hc : (callChk ρ (bo ++ fr) pre post r && chkR m ρ && borB (lkB σ.h) (bo ++ fr)) <;> rw [hc] at e <;> simp only [cond_true, cond_false] at e
          · cases e
          cases e
          simp only [Bool.and_eq_true] at hc
          have hm := chkR_spec hc.1.2
          have hm' : ∀ l l', mlk m l = some l' → rn ρ l' = l := fun l l' e => hm (l, l') (mlk_mem e)
          have := CallK.fn (K := fun E => E = callE ρ bo fr pre post r) (d := 0) hfn ρ bo fr hc.1.1 (by rw [hb]; exact argsX_spec hm' hss) (relH_ren hm' hm hpre) (borB_spec hc.2) hfl rfl
          obtain ⟨E, h1, h2, rfl⟩ := this
          exact ⟨h1, h2⟩
        cases hf : (bor.isEmpty || (flatSb r && flatHb post)) <;> rw [hf] at e <;> simp only [cond_true, cond_false] at e
        · exact go [] bor rfl (.inl rfl) e
        · refine go bor [] (by simp) ?_ e
          simp only [Bool.or_eq_true, Bool.and_eq_true, List.isEmpty_iff] at hf
          exact hf.imp id fun h => ⟨flatSb_spec r h.1, flatHb_spec post h.2⟩
      · cases e
    · cases e
  · cases e
/-! ### Functions -/
def retX (P : Program) (g : Nat → S) (h : Nat → Option Blk) : List ResultVar → Option (List S)
  | [] => some []
  | .tmp t :: r => match retX P g h r with
    | some l => some (g t :: l)
    | none => none
  | .cell a t :: r => match g a with
    | .pt l p off => match h l with
      | some blk => match blk.at p with
        | some (o, y) => gd (o = off ∧ y.solid = true ∧ okLd P t y) (match retX P g h r with
          | some l => some (y :: l)
          | none => none)
        | none => none
      | none => none
    | _ => none
theorem retX_spec {P : Program} {g : Nat → S} {h : Nat → Option Blk} : ∀ {rs : List ResultVar} {l : List S} {K : List S → Prop}, retX P g h rs = some l → K l → retK P g h rs K
  | [], l, K, e, hK => by simp only [retX] at e; cases e; exact hK
  | .tmp t :: r, l, K, e, hK => by
    simp only [retX] at e
    split at e
    · rename_i l' hl
      cases e
      exact retX_spec (K := fun l => K (g t :: l)) hl hK
    · cases e
  | .cell a t :: r, l, K, e, hK => by
    simp only [retX] at e
    simp only [retK]
    split at e
    · rename_i l0 p off ha
      simp only [ha]
      split at e
      · rename_i blk hl
        simp only [hl]
        split at e
        · rename_i o y hat
          simp only [hat]
          rw [gd_some] at e
          obtain ⟨⟨h1, h2, h3⟩, e⟩ := e
          refine ⟨h1, h2, h3, ?_⟩
          split at e
          · rename_i l' hl'
            cases e
            exact retX_spec (K := fun l => K (y :: l)) hl' hK
          · cases e
        · cases e
      · cases e
    · cases e
def outX (m : List (Nat × Nat)) (fz : List Nat) (h : Nat → Option Blk) (s : S) : Option S := match s.tree fz h with
  | some x => some (.t x)
  | none => s.rel m
theorem outX_spec {m : List (Nat × Nat)} {ρ : List (Nat × Option Nat)} {fz : List Nat} {h : Nat → Option Blk} (hm : ∀ l l', mlk m l = some l' → lkR ρ l' = some (some l)) (hb : ∀ l ∈ fz, offR l ρ = true) {s s' : S} (e : outX m fz h s = some s') : wkS ρ h s s' := by
  unfold outX at e
  split at e
  · rename_i x hx
    cases e
    exact tree_wk hb _ _ hx
  · exact rel_wk hm _ _ e
def outsX (m : List (Nat × Nat)) (fz : List Nat) (h : Nat → Option Blk) : List S → Option (List S)
  | [] => some []
  | s :: r => match outX m fz h s with
    | some s' => match outsX m fz h r with
      | some q => some (s' :: q)
      | none => none
    | none => none
theorem outsX_spec {m : List (Nat × Nat)} {ρ : List (Nat × Option Nat)} {fz : List Nat} {h : Nat → Option Blk} (hm : ∀ l l', mlk m l = some l' → lkR ρ l' = some (some l)) (hb : ∀ l ∈ fz, offR l ρ = true) : ∀ {ss q : List S}, outsX m fz h ss = some q → wkPs ρ h ss q
  | [], q, e => by simp only [outsX] at e; cases e; unfold wkPs; trivial
  | s :: r, q, e => by
    simp only [outsX] at e
    split at e
    · rename_i s' hs
      split at e
      · rename_i q' hq
        cases e
        unfold wkPs
        exact ⟨outX_spec hm hb hs, outsX_spec hm hb hq⟩
      · cases e
    · cases e
theorem wk_oneOf {ρ : List (Nat × Option Nat)} {h : Nat → Option Blk} {ss q : List S} (hw : wkPs ρ h ss q) : wkS ρ h (oneOf ss) (oneOf q) := by
  match ss, q, hw with
  | [], [], hw => unfold oneOf; unfold wkS; exact hw
  | [s], [s'], hw => unfold wkPs at hw; exact hw.1
  | s :: s2 :: r, s' :: s2' :: r', hw => unfold oneOf; unfold wkS; exact hw
  | [], _ :: _, hw => unfold wkPs at hw; exact hw.elim
  | _ :: _, [], hw => unfold wkPs at hw; exact hw.elim
  | [s], _ :: _ :: _, hw => unfold wkPs at hw; unfold wkPs at hw; exact hw.2.elim
  | _ :: _ :: _, [s], hw => unfold wkPs at hw; unfold wkPs at hw; exact hw.2.elim
def offsB (fz : List Nat) (ρ : List (Nat × Option Nat)) : Bool := fz.all fun l => offR l ρ
noncomputable def finX (P : Program) (frz : Bool) (rs : List ResultVar) (σ : St) : Option (S × List (Nat × Blk)) :=
  let h := lkB σ.h
  match retX P (lkQ σ.g) h rs with
  | some l =>
    let fz := bif frz then addN (S.olabss l) [] else []
    let low := ((σ.h.map (·.1)).filter fun l => Nat.blt l 100)
    let keep := (clos h 4 (addN (bif frz then S.plabss l else S.labss l) low)).filter fun l => !fz.contains l
    let m := fltM σ.h (fltM σ.h (keep.map fun l => (l, l)))
    let ρ := rhoM m
    match outsX m fz h l with
    | some q => match relH m σ.h m with
      | some post => bif rhoOk ρ && chkM m ρ && offsB fz ρ then some (oneOf q, post) else none
      | none => none
    | none => none
  | none => none
theorem finX_spec {P : Program} {frz : Bool} {rs : List ResultVar} {σ : St} {r : S} {post : List (Nat × Blk)} (e : finX P frz rs σ = some (r, post)) : RetQ P rs r post .ret σ := by
  unfold finX at e
  simp only [lkQ_eq] at e
  split at e
  · rename_i l hl
    generalize (bif frz then addN (S.olabss l) [] else []) = fz at e
    generalize (fltM σ.h (fltM σ.h (((clos (lkB σ.h) 4 (addN (bif frz then S.plabss l else S.labss l) ((σ.h.map (·.1)).filter fun l => Nat.blt l 100))).filter fun l => !fz.contains l).map fun l => (l, l)))) = m at e
    split at e
    · rename_i q hq
      split at e
      · rename_i post' hp
        cases hc : (rhoOk (rhoM m) && chkM m (rhoM m) && offsB fz (rhoM m)) <;> rw [hc] at e <;> simp only [cond_true, cond_false] at e
        · cases e
        cases e
        simp only [Bool.and_eq_true] at hc
        have h1 := chkM_spec hc.1.2
        have hm : ∀ l l', mlk m l = some l' → lkR (rhoM m) l' = some (some l) := fun l l' e => h1 (l, l') (mlk_mem e)
        have hb : ∀ l ∈ fz, offR l (rhoM m) = true := fun l hl => List.all_eq_true.1 hc.2 l hl
        exact ⟨rhoM m, retX_spec hl ⟨hc.1.1, wk_oneOf (outsX_spec hm hb hq), relH_wk hm h1 hp⟩⟩
      · cases e
    · cases e
  · cases e
noncomputable def evF (P : Program) (kn : FuncId → List S → List (Nat × Blk) → Option (S × List (Nat × Blk))) (fz : List FuncId) (fuel : Nat) : Nat → FuncId → List S → List (Nat × Blk) → Option (S × List (Nat × Blk))
  | 0, _, _, _ => none
  | n + 1, f, ss, pre => match kn f ss pre with
    | some q => some q
    | none => match P.funcs[f]? with
      | some fn => match fn.body with
        | some c => bif okCode fn.ntmps c && Nat.ble ss.length fn.ntmps then match evC P (callC (evF P kn fz fuel n)) fuel c ⟨enumS 0 ss, pre⟩ with
            | some (.ret, σ) => finX P (fz.contains f) fn.results.toList σ
            | some (.normal, σ) => finX P (fz.contains f) fn.results.toList σ
            | _ => none
          else none
        | none => none
      | none => none
theorem evF_spec {P : Program} {kn : FuncId → List S → List (Nat × Blk) → Option (S × List (Nat × Blk))} {fz : List FuncId} {fuel : Nat} (hm : P.follows .mixedOrders = true) (hkn : ∀ f ss pre r post, kn f ss pre = some (r, post) → FnOk P f ss pre r post) :
    ∀ (n : Nat) (f : FuncId) (ss : List S) (pre : List (Nat × Blk)) (r : S) (post : List (Nat × Blk)), evF P kn fz fuel n f ss pre = some (r, post) → FnOk P f ss pre r post
  | 0, f, ss, pre, r, post, e => by simp only [evF] at e; cases e
  | n + 1, f, ss, pre, r, post, e => by
    simp only [evF] at e
    split at e
    · rename_i q hq
      cases e
      exact hkn _ _ _ _ _ hq
    · split at e
      · rename_i fn hfn
        split at e
        · rename_i c hc
          cases hok : (okCode fn.ntmps c && Nat.ble ss.length fn.ntmps) <;> rw [hok] at e <;> simp only [cond_true, cond_false] at e
          · cases e
          rw [Bool.and_eq_true] at hok
          refine FnOk.intro hm hfn hc rfl hok.1 (Nat.le_of_ble_eq_true hok.2) ?_
          have hcf := fun σ => callC_spec (evF_spec (fz := fz) (fuel := fuel) hm hkn n) σ
          split at e
          · rename_i σ hσ
            exact evC_sound hcf c _ σ .ret _ hσ (finX_spec e)
          · rename_i σ hσ
            exact evC_sound hcf c _ σ .normal _ hσ (finX_spec e)
          · cases e
        · cases e
      · cases e
/-! ### Contracts that are known -/
def noKn : FuncId → List S → List (Nat × Blk) → Option (S × List (Nat × Blk)) := fun _ _ _ => none
theorem noKn_ok {P : Program} : ∀ f ss pre r post, noKn f ss pre = some (r, post) → FnOk P f ss pre r post := fun _ _ _ _ _ h => by cases h
end Go.Proofs.YtdjmklobfjigoaaGreatDoor.Sy
namespace Go.Proofs.YtdjmklobfjigoaaGreatDoor
open Go.RowKit Sy
theorem sib_fn (s : ByteArray) (c : Int) : FnOk Tryz.prog 131 [.t (.lit (.string s)), .t (.lit (.int .u8 c))] [] (.t (.int (Lib.indexByte s.data.toList c.toNat.toUInt8))) [] := by
  intro G w us hh hr
  unfold RepPs at hr
  obtain ⟨u1, r1, rfl, h1, hr⟩ := hr
  unfold RepPs at hr
  obtain ⟨u2, r2, rfl, h2, hr⟩ := hr
  unfold RepPs at hr
  subst hr
  unfold RepS Rep at h1 h2
  obtain ⟨rfl, _⟩ := h1
  obtain ⟨rfl, _⟩ := h2
  have key : Calls Tryz.prog 131 #[.string s, .int .u8 c] w fun e w' => e = .returned (.int .i64 (Lib.indexByte s.data.toList c.toNat.toUInt8)) ∧ w' = w := by
    go_enter Tryz.func131, Tryz.ntmps131
    go_wp2
    rw [run_callFunc_extern Tryz.func143 (by kernel_rfl) (by kernel_rfl) (by kernel_rfl) (e := Extern.BytealgIndexByte.indexByte) (by kernel_rfl), Lib.run_indexByteString]
    simp only [Result.andThen]
    rw [Oper.upon_value]
    go_wp2
    go_ret
    exact ⟨rfl, rfl⟩
  refine key.mono ?_
  rintro e w' ⟨rfl, rfl⟩
  exact ⟨_, G, rfl, ⟨rfl, rfl, rfl, Nat.le_refl _, fun _ _ _ => rfl, fun l b k h => by simp [lkB] at h, fun _ h => h, fun _ h => .inl h, fun _ _ => rfl⟩, hh, by unfold RepS; unfold Rep; exact ⟨rfl, rfl⟩⟩
theorem scount_fn (s : ByteArray) (c : UInt8) : FnOk Tryz.prog 72 [.t (.lit (.string s)), .t (.lit (.string ⟨#[c]⟩))] [] (.t (.int (Lib.countByte s.data.toList c : Nat))) [] := by
  intro G w us hh hr
  unfold RepPs at hr
  obtain ⟨u1, r1, rfl, h1, hr⟩ := hr
  unfold RepPs at hr
  obtain ⟨u2, r2, rfl, h2, hr⟩ := hr
  unfold RepPs at hr
  subst hr
  unfold RepS Rep at h1 h2
  obtain ⟨rfl, _⟩ := h1
  obtain ⟨rfl, _⟩ := h2
  have key : Calls Tryz.prog 72 #[.string s, .string ⟨#[c]⟩] w fun e w' => e = .returned (.int .i64 (Lib.countByte s.data.toList c : Nat)) ∧ w' = w := by
    have hsz : (⟨#[c]⟩ : ByteArray).size = 1 := rfl
    have hget : (⟨#[c]⟩ : ByteArray).get! 0 = c := rfl
    go_enter Tryz.func72, Tryz.ntmps72
    go_wp2
    rw [run_callFunc_extern Tryz.func106 (by kernel_rfl) (by kernel_rfl) (by kernel_rfl) (e := Extern.BytealgCount.count) (by kernel_rfl), Lib.run_countString]
    simp only [Result.andThen]
    rw [Oper.upon_value]
    go_wp2
    go_ret
    exact ⟨rfl, rfl⟩
  refine key.mono ?_
  rintro e w' ⟨rfl, rfl⟩
  exact ⟨_, G, rfl, ⟨rfl, rfl, rfl, Nat.le_refl _, fun _ _ _ => rfl, fun l b k h => by simp [lkB] at h, fun _ h => h, fun _ h => .inl h, fun _ _ => rfl⟩, hh, by unfold RepS; unfold Rep; exact ⟨rfl, rfl⟩⟩
end Go.Proofs.YtdjmklobfjigoaaGreatDoor
namespace Go.Proofs.YtdjmklobfjigoaaGreatDoor
open Go.RowKit Go.MapKept Sy
@[go_sem] theorem run_makeMap_none (P : Program) (t : TypeId) (w : World) : (Instr.makeMap t none).run P w = .ok (.map (some w.heap.size)) (w.alloc (.map #[] 0)) := by
  simp [Instr.makeMap]
theorem setObj_alloc (w : World) (o o' : Obj) : { (w.alloc o) with heap := (w.alloc o).heap.setIfInBounds w.heap.size o' } = w.alloc o' := by
  have h : (w.heap.push o).setIfInBounds w.heap.size o' = w.heap.push o' := by
    apply Array.toList_inj.1
    simp
  show { (w.alloc o) with heap := (w.heap.push o).setIfInBounds w.heap.size o' } = w.alloc o'
  rw [h]; rfl
theorem run_mapUp {P : Program} {t kt vt : TypeId} (ht : P.underlying t = some (.map kt vt)) (hk : P.underlying kt = some .string) (w : World) (es : Array MapEntry) (clk : Nat) (s : ByteArray) (v : Value) (hf : Instr.findNow .string (.string s) es.toList 0 = some none) :
    (Instr.mapUpdate t (.map (some w.heap.size)) (.string s) v).run P (w.alloc (.map es clk)) = .ok () (w.alloc (.map (es.push { key := .string s, val := v, born := clk }) (clk + 1))) := by
  have hb := World.alloc_heap_new w (.map es clk)
  have h1 := run_checkKey (P := P) (w := w.alloc (.map es clk)) (k := .string s) hk trivial false 9999
  have h2 := run_findKey (P := P) (w := w.alloc (.map es clk)) hk hf
  have h3 := run_setObj_map (P := P) (.map (es.push { key := .string s, val := v, born := clk }) (clk + 1)) hb
  rw [setObj_alloc] at h3
  simp [Instr.mapUpdate, run_underlying ht, Go.MapKept.run_getObj_map hb, h1, h2, h3]
theorem run_lookS {P : Program} {t kt vt : TypeId} (ht : P.underlying t = some (.map kt vt)) (hk : P.underlying kt = some .string) (w : World) (r : Nat) (es : Array MapEntry) (clk : Nat) (hb : w.heap[r]? = some (.map es clk)) (s : ByteArray) (i : Nat) (v : Value)
    (hf : Instr.findNow .string (.string s) es.toList 0 = some (some (i, v))) : (Instr.lookup t (.map (some r)) (.string s) true).run P w = .ok (.tuple #[v, .bool true]) w := by
  have h1 := run_checkKey (P := P) (w := w) (k := .string s) hk trivial es.isEmpty 9999
  have h2 := run_findKey (P := P) (w := w) hk hf
  simp [Instr.lookup, run_underlying ht, Go.MapKept.run_getObj_map hb, h1, h2]
theorem und_mp : Tryz.prog.underlying 133 = some (.map 9 131) := by kernel_rfl
theorem und_st : Tryz.prog.underlying 9 = some .string := by kernel_rfl
def frm (p : Value) (a b c : Int) (f : FuncId) : Value := .agg #[.int .i64 a, .int .i64 b, .int .i64 c, .func (.func f) #[p] #[]]
def ent (p : Value) (k : List Nat) (a b c : Int) (f : FuncId) (n : Nat) : MapEntry := { key := .string (str k), val := frm p a b c f, born := n }
def formsE (p : Value) : Array MapEntry := #[ent p [110, 101, 116, 119, 111, 114, 107] 1 2 0 112 0, ent p [110, 111, 100, 101] 2 1 1 113 1, ent p [115, 101, 103, 109, 101, 110, 116] 3 6 3 114 2,
  ent p [112, 111, 105, 110, 116] 3 3 0 115 3, ent p [112, 111, 114, 116] 4 3 2 116 4, ent p [115, 116, 97, 116, 105, 111, 110] 5 5 2 117 5]
theorem forms_raw (p : Value) (w : World) : Calls Tryz.prog 77 #[p] w fun e w' => e = .returned (.map (some w.heap.size)) ∧ w' = w.alloc (.map (formsE p) 6) := by
  go_enter Tryz.func77, Tryz.ntmps77
  go_wp2
  rw [run_mapUp und_mp und_st _ _ _ ⟨#[110, 101, 116, 119, 111, 114, 107]⟩ _ (by kernel_rfl)]
  simp only [Result.andThen, Oper.upon_skip]
  go_wp2
  rw [run_mapUp und_mp und_st _ _ _ ⟨#[110, 111, 100, 101]⟩ _ (by kernel_rfl)]
  simp only [Result.andThen, Oper.upon_skip]
  go_wp2
  rw [run_mapUp und_mp und_st _ _ _ ⟨#[115, 101, 103, 109, 101, 110, 116]⟩ _ (by kernel_rfl)]
  simp only [Result.andThen, Oper.upon_skip]
  go_wp2
  rw [run_mapUp und_mp und_st _ _ _ ⟨#[112, 111, 105, 110, 116]⟩ _ (by kernel_rfl)]
  simp only [Result.andThen, Oper.upon_skip]
  go_wp2
  rw [run_mapUp und_mp und_st _ _ _ ⟨#[112, 111, 114, 116]⟩ _ (by kernel_rfl)]
  simp only [Result.andThen, Oper.upon_skip]
  go_wp2
  rw [run_mapUp und_mp und_st _ _ _ ⟨#[115, 116, 97, 116, 105, 111, 110]⟩ _ (by kernel_rfl)]
  simp only [Result.andThen, Oper.upon_skip]
  go_wp2
  go_ret
  exact ⟨rfl, rfl⟩
end Go.Proofs.YtdjmklobfjigoaaGreatDoor
/- Regions that draw their order, by hand: an operation that only reads is taken first (wpAny_still). No condition. -/
namespace Go.Proofs.YtdjmklobfjigoaaGreatDoor.Sy
open Go.RowKit
def onlyR (Q : Exit → Act → World → Prop) : Exit → Act → World → Prop
  | .normal, a, w => Q .normal a w
  | _, _, _ => False
theorem onlyR_imp {Q : Exit → Act → World → Prop} {e : Exit} {a : Act} {w : World} (h : onlyR Q e a w) : Q e a w := by
  cases e <;> first | exact h | exact h.elim
section
variable {P : Program} {ops : Array Oper} {Q : Exit → Act → World → Prop}
def YieldsAt (P : Program) (ops : Array Oper) (o : Oper) (v : Value) (a : Act) (w : World) : Prop := Region.wanted o (yielded ops a.tmps) = true ∧ (execOp a.eval o).run P w = .ok (.value v) w
theorem YieldsAt.put {oi oj : Oper} {v u : Value} {a : Act} {w : World} (hs : ∀ cs b, oi.op ≠ .select cs b) (hap : oi.apart ops oj = true) (h : YieldsAt P ops oi v a w) : YieldsAt P ops oi v (a.put oj.dst u) w := by
  obtain ⟨_, _, h3⟩ := Oper.apart_spec hap
  refine ⟨by rw [wanted_put oi a oj.dst u h3]; exact h.1, by rw [execOp_put oi hs a oj.dst u h3]; exact h.2⟩
theorem YieldsAt.wpOp {i : Nat} {o : Oper} {v : Value} {a : Act} {w : World} (hi : ops[i]? = some o) (hy : YieldsAt P ops o v a w) (K : Act → World → Prop) : Go.wpOp P ops Q i K a w ↔ (K (a.put o.dst v) w ∨ (o.asks P a w ∧ LetsOut Q)) := by
  unfold Go.wpOp
  simp only [hi, hy.1, if_true, Oper.wp, hy.2, Oper.upon]
theorem wpOp_value {K : Act → World → Prop} {a : Act} {w w' : World} {i : Nat} {o : Oper} {v : Value} (ho : ops[i]? = some o) (hw : Region.wanted o (yielded ops a.tmps) = true) (hrun : (execOp a.eval o).run P w = .ok (.value v) w') (h : K (a.put o.dst v) w') : Go.wpOp P ops Q i K a w := by
  unfold Go.wpOp
  simp only [ho, hw, if_true, Oper.wp, hrun, Oper.upon]
  exact .inl h
theorem wpOp_skip {K : Act → World → Prop} {a : Act} {w w' : World} {i : Nat} {o : Oper} (ho : ops[i]? = some o) (hw : Region.wanted o (yielded ops a.tmps) = true) (hrun : (execOp a.eval o).run P w = .ok .skip w') (h : K (a.put o.dst undef) w') : Go.wpOp P ops Q i K a w := by
  unfold Go.wpOp
  simp only [ho, hw, if_true, Oper.wp, hrun, Oper.upon]
  exact .inl h
theorem wpOp_enter {K : Act → World → Prop} {a : Act} {w w' : World} {i : Nat} {o : Oper} {f : FuncId} {args : Array Value} {R : Ending → World → Prop} (ho : ops[i]? = some o) (hw : Region.wanted o (yielded ops a.tmps) = true) (hrun : (execOp a.eval o).run P w = .ok (.enter f args) w') (hc : Calls P f args w' R) (h : ∀ e w'', R e w'' → ∃ v, e = .returned v ∧ K (a.put o.dst v) w'') : Go.wpOp P ops Q i K a w := by
  unfold Go.wpOp
  simp only [ho, hw, if_true, Oper.wp, hrun, Oper.upon]
  refine .inl (Calls.mono hc fun e w'' he => ?_)
  obtain ⟨v, rfl, hv⟩ := h e w'' he
  exact hv
theorem wpAny_one {fuel : Nat} {listed : Array Bool} {a : Act} {w : World} {i : Nat} (hr : Region.ready .any ops listed = [i]) (h : Go.wpOp P ops Q i (wpAny P .any ops Q fuel (listed.setIfInBounds i true)) a w) : wpAny P .any ops Q (fuel + 1) listed a w :=
  wpAny_all hr (by simp) (fun j hj => by rw [List.mem_singleton] at hj; subst hj; exact h)
theorem wpAny_two {fuel : Nat} {listed : Array Bool} {a : Act} {w : World} {i j : Nat} (hr : Region.ready .any ops listed = [i, j]) (h : Go.wpOp P ops Q i (wpAny P .any ops Q fuel (listed.setIfInBounds i true)) a w) (h' : Go.wpOp P ops Q j (wpAny P .any ops Q fuel (listed.setIfInBounds j true)) a w) : wpAny P .any ops Q (fuel + 1) listed a w :=
  wpAny_all hr (by simp) (fun k hk => by
    simp only [List.mem_cons, List.not_mem_nil, or_false] at hk
    rcases hk with rfl | rfl
    · exact h
    · exact h')
theorem wpAny_three {fuel : Nat} {listed : Array Bool} {a : Act} {w : World} {i j k : Nat} (hr : Region.ready .any ops listed = [i, j, k]) (h : Go.wpOp P ops Q i (wpAny P .any ops Q fuel (listed.setIfInBounds i true)) a w) (h' : Go.wpOp P ops Q j (wpAny P .any ops Q fuel (listed.setIfInBounds j true)) a w)
    (h'' : Go.wpOp P ops Q k (wpAny P .any ops Q fuel (listed.setIfInBounds k true)) a w) : wpAny P .any ops Q (fuel + 1) listed a w :=
  wpAny_all hr (by simp) (fun m hk => by
    simp only [List.mem_cons, List.not_mem_nil, or_false] at hk
    rcases hk with rfl | rfl | rfl
    · exact h
    · exact h'
    · exact h'')
end
end Go.Proofs.YtdjmklobfjigoaaGreatDoor.Sy
