/- What keep.Fill makes is a valid fill. Plain Lean. -/
import Derived.Test.YtpfolkjimdmdhaaKFill
namespace Go.Proofs.Ytpfolkjimdmdhaa
open Go.RowKit
set_option linter.unusedVariables false
set_option linter.unusedSimpArgs false
theorem fGo_ind {l : List Int} {b : Int} {C : FSt → Prop} (hs : ∀ s, C s → 0 < s.v → s.out.length < 12 → C (fStep l b s)) : ∀ (f : Nat) (s : FSt), C s → C (fGo l b f s)
  | 0, s, h => h
  | f + 1, s, h => by
    simp only [fGo]
    split
    · rename_i hh
      exact fGo_ind hs f _ (hs s h hh.1 hh.2)
    · exact h
theorem emod_ne {x b : Int} (hx : 0 ≤ x) (hxb : x < b) (hb : 2 ≤ b) : x ≠ (x + 1) % b := by
  by_cases h : x + 1 < b
  · rw [Int.emod_eq_of_lt (by omega) h]; omega
  · have : x + 1 = b := by omega
    rw [this, Int.emod_self]; omega
def FC (v0 : Int) (s : FSt) : Prop := Pc.Canon s.out ∧ Pc.vol s.out = v0 - s.v
theorem vol_one (p : Int × Int) : Pc.vol [p] = p.2 := by simp [Pc.vol]
theorem fStep_c {l : List Int} {b v0 : Int} {s : FSt} (h : FC v0 s) (h1 : 0 < s.v) : FC v0 (fStep l b s) := by
  obtain ⟨hc, hv⟩ := h
  have hfv := fV_range (l := l) h1
  refine ⟨?_, ?_⟩
  · unfold fStep; simp only
    split
    · rename_i hn
      exact (Pc.canon_snoc _ _).2 ⟨hc, by simp only; omega, fun q hq => by rw [hn] at hq; cases hq⟩
    · rename_i q hq
      split
      · rename_i he
        split
        · have hsp := Pc.last_split hq
          rw [hsp] at hc
          have h2 := (Pc.canon_snoc _ _).1 hc
          exact (Pc.canon_snoc _ _).2 ⟨h2.1, by have := h2.2.1; simp only; omega, h2.2.2⟩
        · rename_i he2
          exact (Pc.canon_snoc _ _).2 ⟨hc, by simp only; omega, fun q' hq' => by rw [hq] at hq'; obtain rfl := Option.some.inj hq'; exact he2⟩
      · rename_i he
        exact (Pc.canon_snoc _ _).2 ⟨hc, by simp only; omega, fun q' hq' => by rw [hq] at hq'; obtain rfl := Option.some.inj hq'; exact he⟩
  · rw [fStep_v.1]
    unfold fStep; simp only
    split
    · simp only [Pc.vol_append, vol_one]; omega
    · rename_i q hq
      split
      · split
        · have hsp := Pc.last_split hq
          rw [hsp, Pc.vol_append, vol_one] at hv
          simp only [Pc.vol_append, vol_one]; omega
        · simp only [Pc.vol_append, vol_one]; omega
      · simp only [Pc.vol_append, vol_one]; omega
structure FillOk (l : List Int) (k : Nat) (v b : Int) : Prop where
  src : SrcOk l (fillS l k v b).k
  vd : Pc.Vd (fillS l k v b).out
  len : (fillS l k v b).out.length ≤ 12
  vol : Pc.vol (fillS l k v b).out ≤ v
  batch : ∀ p ∈ (fillS l k v b).out, 0 ≤ p.1 ∧ p.1 < b
theorem fill_ok {l : List Int} {k : Nat} {v b : Int} (h : SrcOk l k) (hb : 1 ≤ b) (hb2 : b ≤ 1000) (hv : 0 ≤ v) (hv2 : v ≤ 1000000) : FillOk l k v b := by
  have h1 : FI l b (fillS l k v b) ∧ FC v (fillS l k v b) :=
    fGo_ind (C := fun s => FI l b s ∧ FC v s) (fun s hs h1 h2 => ⟨fStep_ok hs.1 hb h1 h2, fStep_c hs.2 h1⟩) _ _ ⟨⟨h, hv, hv2, by simp, by simp⟩, by simp [Pc.Canon], by simp [Pc.vol]⟩
  obtain ⟨⟨a1, a2, a3, a4, a5⟩, a6, a7⟩ := h1
  have hvol : Pc.vol (fillS l k v b).out ≤ v := by omega
  exact ⟨a1, Pc.vd_of_canon a6 (fun p hp => by have := a5 p hp; omega) (by omega) (by omega), a4, hvol, fun p hp => by have := a5 p hp; omega⟩
theorem fGo_stop {l : List Int} {b : Int} : ∀ (f : Nat) (s : FSt), s.v.toNat ≤ f → ¬ (0 < (fGo l b f s).v ∧ (fGo l b f s).out.length < 12)
  | 0, s, h => by simp only [fGo]; omega
  | f + 1, s, h => by
    simp only [fGo]
    split
    · rename_i hh
      refine fGo_stop f _ ?_
      rw [fStep_v.1]
      have := fV_range (l := l) hh.1
      omega
    · assumption
theorem fStep_full {l : List Int} {b : Int} {s : FSt} (h2 : s.out.length < 12) (h1 : 0 < s.v) : (fStep l b s).out.length = 12 → (fStep l b s).v = 0 := by
  rw [fStep_v.1]
  intro h
  have h11 : s.out.length = 11 := by
    unfold fStep at h; simp only at h
    split at h
    · simp at h; omega
    · split at h
      · split at h <;> simp at h <;> omega
      · simp at h; omega
  unfold fV; rw [if_pos h11]; omega
theorem fill_vol {l : List Int} {k : Nat} {v b : Int} (h : SrcOk l k) (hb : 1 ≤ b) (hv : 0 ≤ v) (hv2 : v ≤ 1000000) : Pc.vol (fillS l k v b).out = v := by
  have h1 : FI l b (fillS l k v b) ∧ FC v (fillS l k v b) ∧ ((fillS l k v b).out.length = 12 → (fillS l k v b).v = 0) :=
    fGo_ind (C := fun s => FI l b s ∧ FC v s ∧ (s.out.length = 12 → s.v = 0)) (fun s hs h1 h2 => ⟨fStep_ok hs.1 hb h1 h2, fStep_c hs.2.1 h1, fStep_full h2 h1⟩) _ _ ⟨⟨h, hv, hv2, by simp, by simp⟩, ⟨by simp [Pc.Canon], by simp [Pc.vol]⟩, by simp⟩
  have h2 := fGo_stop (l := l) (b := b) v.toNat ⟨k, v, []⟩ (Nat.le_refl _)
  obtain ⟨⟨a1, a2, a3, a4, a5⟩, ⟨a6, a7⟩, a8⟩ := h1
  change ¬ (0 < (fillS l k v b).v ∧ (fillS l k v b).out.length < 12) at h2
  omega
end Go.Proofs.Ytpfolkjimdmdhaa
