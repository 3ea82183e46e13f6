/- Symbolic execution: states made weaker, loops, functions and their contracts. No condition. -/
import Derived.Test.YtgjfkklemelejaaSyJ
namespace Go.Proofs.Ytgjfkklemelejaa.Sy
open Go.RowKit
set_option linter.unusedVariables false
set_option linter.unusedSimpArgs false

/-! ### A state made weaker -/
/-- Which label of the stronger state stands behind a label of the weaker one ('none': a nil slice). -/
def lkR : List (Nat × Option Nat) → Nat → Option (Option Nat)
  | [], _ => none
  | (l, r) :: q, k => if k = l then some r else lkR q k
def offR (l : Nat) : List (Nat × Option Nat) → Bool
  | [] => true
  | (_, r) :: q => r != some l && offR l q
def rhoOk : List (Nat × Option Nat) → Bool
  | [] => true
  | (l, r) :: q => (match r with | some k => offR k q | none => true) && (decide (100 ≤ l) || r == some l) && rhoOk q

mutual
def wkT : T → T → Prop
  | .lit (.slice none 0 0), .sl _ [] => True
  | .agg xs, .agg ys => wkTs xs ys
  | x, y => x = y
def wkTs : List T → List T → Prop
  | [], [] => True
  | x :: xs, y :: ys => wkT x y ∧ wkTs xs ys
  | _, _ => False
end
mutual
theorem wkT_refl : ∀ x : T, wkT x x
  | .lit v => by unfold wkT; first | rfl | (split <;> simp_all)
  | .sl s xs => by unfold wkT; first | rfl | (split <;> simp_all)
  | .agg xs => by unfold wkT; exact wkTs_refl xs
theorem wkTs_refl : ∀ xs : List T, wkTs xs xs
  | [] => by unfold wkTs; trivial
  | x :: r => by unfold wkTs; exact ⟨wkT_refl x, wkTs_refl r⟩
end
theorem wkT_same (x : T) : wkT x x = True := eq_true (wkT_refl x)
theorem wkTs_same (xs : List T) : wkTs xs xs = True := eq_true (wkTs_refl xs)
mutual
def wkS (ρ : List (Nat × Option Nat)) (h : Nat → Option Blk) : S → S → Prop
  | _, .dead => True
  | .t x, .t y => wkT x y
  | .t (.lit (.slice none 0 0)), .own l' => lkR ρ l' = some none
  | .own l, .own l' => lkR ρ l' = some (some l)
  | .own l, .t (.sl s xs) => offR l ρ = true ∧ match h l with
    | some (.list _ s' ys) => s' = s ∧ ys = xs
    | _ => False
  | .pt l p o, .pt l' p' o' => lkR ρ l' = some (some l) ∧ p' = p ∧ o' = o
  | .rp x, .rp y => x = y
  | .ag fs, .ag gs => wkSs ρ h fs gs
  | .ag fs, .t (.agg xs) => wkSs ρ h fs (xs.map S.t)
  | .t (.agg xs), .ag gs => wkXs ρ xs gs
  | .tup fs, .tup gs => wkPs ρ h fs gs
  | .fn f fs, .fn f' gs => f' = f ∧ wkPs ρ h fs gs
  | .fb f fs, .fb f' gs => f' = f ∧ wkPs ρ h fs gs
  | _, _ => False
def wkSs (ρ : List (Nat × Option Nat)) (h : Nat → Option Blk) : List S → List S → Prop
  | [], [] => True
  | x :: xs, y :: ys => y.width = x.width ∧ wkS ρ h x y ∧ wkSs ρ h xs ys
  | _, _ => False
def wkPs (ρ : List (Nat × Option Nat)) (h : Nat → Option Blk) : List S → List S → Prop
  | [], [] => True
  | x :: xs, y :: ys => wkS ρ h x y ∧ wkPs ρ h xs ys
  | _, _ => False
def wkXs (ρ : List (Nat × Option Nat)) : List T → List S → Prop
  | [], [] => True
  | x :: xs, y :: ys => (match x, y with | .lit (.slice none 0 0), .own l' => lkR ρ l' = some none | x, .t y => wkT x y | _, _ => False) ∧ y.width = x.width ∧ wkXs ρ xs ys
  | _, _ => False
end
def wkB (ρ : List (Nat × Option Nat)) (h : Nat → Option Blk) : Blk → Blk → Prop
  | .list e s xs, .list e' s' ys => e' = e ∧ s' = s ∧ ys = xs
  | .box e c, .box e' c' => e' = e ∧ c'.width = c.width ∧ c'.solid = true ∧ wkS ρ h c c'
  | _, _ => False
def wkG (ρ : List (Nat × Option Nat)) (h : Nat → Option Blk) (g : Nat → S) : List (Nat × S) → Prop
  | [] => True
  | (t, s) :: r => wkS ρ h (g t) s ∧ wkG ρ h g r
def wkH (ρ : List (Nat × Option Nat)) (h : Nat → Option Blk) : List (Nat × Blk) → Prop
  | [] => True
  | (l', b') :: r => (match lkR ρ l' with
    | some (some l) => (match h l with | some b => wkB ρ h b b' | none => False)
    | some none => (match b' with | .list _ _ [] => True | _ => False)
    | none => False) ∧ wkH ρ h r
def Wk (ρ : List (Nat × Option Nat)) (σ σ' : St) : Prop := rhoOk ρ = true ∧ wkG ρ (lkB σ.h) (lkS σ.g) σ'.g ∧ wkH ρ (lkB σ.h) σ'.h

/-- The ghost of the weaker state. -/
def wkGh (ρ : List (Nat × Option Nat)) (h : Nat → Option Blk) (G : Gh) : Gh where
  F := fun b => G.F b ∨ ∃ l x, h l = some x ∧ offR l ρ = true ∧ hblk (G.β l) = some b
  β := fun l => match lkR ρ l with
    | some (some k) => G.β k
    | some none => .slice none 0 0
    | none => G.β l

section
variable {ρ : List (Nat × Option Nat)} {h : Nat → Option Blk} {G : Gh} {w : World}
theorem offR_spec {l : Nat} : ∀ {ρ : List (Nat × Option Nat)}, offR l ρ = true → ∀ k, lkR ρ k ≠ some (some l)
  | [], _, k, e => by simp [lkR] at e
  | (j, r) :: q, h, k, e => by
    simp only [offR, Bool.and_eq_true, bne_iff_ne] at h
    simp only [lkR] at e
    split at e
    · exact h.1 (by simpa using e)
    · exact offR_spec h.2 k e
theorem on_of {l k : Nat} : ∀ {ρ : List (Nat × Option Nat)}, lkR ρ k = some (some l) → offR l ρ = false
  | [], e => by simp [lkR] at e
  | (j, r) :: q, e => by
    simp only [lkR] at e
    simp only [offR, Bool.and_eq_false_iff]
    split at e
    · left; simp at e; simp [e]
    · right; exact on_of e
theorem rhoOk_inj : ∀ {ρ : List (Nat × Option Nat)}, rhoOk ρ = true → ∀ {k k' l : Nat}, lkR ρ k = some (some l) → lkR ρ k' = some (some l) → k = k'
  | [], _, k, k', l, e, _ => by simp [lkR] at e
  | (j, r) :: q, h, k, k', l, e, e' => by
    simp only [rhoOk, Bool.and_eq_true] at h
    simp only [lkR] at e e'
    split at e <;> split at e'
    · omega
    · simp at e
      subst e
      exact (offR_spec h.1.1 k' e').elim
    · simp at e'
      subst e'
      exact (offR_spec h.1.1 k e).elim
    · exact rhoOk_inj h.2 e e'
theorem rhoOk_low : ∀ {ρ : List (Nat × Option Nat)}, rhoOk ρ = true → ∀ {k : Nat} {r : Option Nat}, lkR ρ k = some r → k < 100 → r = some k
  | [], _, k, r, e, _ => by simp [lkR] at e
  | (j, r0) :: q, h, k, r, e, hk => by
    simp only [rhoOk, Bool.and_eq_true, Bool.or_eq_true, decide_eq_true_eq, beq_iff_eq] at h
    simp only [lkR] at e
    split at e
    · rename_i hj
      subst hj
      simp at e
      subst e
      rcases h.1.2 with h1 | h1
      · omega
      · exact h1
    · exact rhoOk_low h.2 e hk

theorem rep_nil {F : Nat → Prop} (s : Nat) : Rep F w (.sl s []) (.slice none 0 0) := by
  unfold Rep
  exact ⟨none, 0, [], rfl, by unfold Reps; rfl, by simp, ⟨Nat.le_refl _, by unfold maxLen; omega, by simp, fun _ => rfl, .inl rfl⟩⟩
mutual
theorem wkT_spec {F : Nat → Prop} : ∀ (x y : T) (u : Value), wkT x y → Rep F w x u → Rep F w y u
  | x, y, u, hw, hr => by
    unfold wkT at hw
    split at hw
    · unfold Rep at hr; rw [hr.1]; exact rep_nil _
    · rename_i xs ys
      unfold Rep at hr ⊢
      obtain ⟨cells, h1, h2⟩ := hr
      exact ⟨cells, h1, wkTs_spec xs ys cells hw h2⟩
    · subst hw; exact hr
theorem wkTs_spec {F : Nat → Prop} : ∀ (xs ys : List T) (cs : List Value), wkTs xs ys → Reps F w xs cs → Reps F w ys cs
  | [], ys, cs, hw, hr => by
    cases ys with
    | nil => exact hr
    | cons y ys => unfold wkTs at hw; exact hw.elim
  | x :: xs, ys, cs, hw, hr => by
    cases ys with
    | nil => unfold wkTs at hw; exact hw.elim
    | cons y ys =>
      unfold wkTs at hw
      unfold Reps at hr ⊢
      obtain ⟨v, cs', h1, h2, h3⟩ := hr
      exact ⟨v, cs', h1, wkT_spec x y v hw.1 h2, wkTs_spec xs ys cs' hw.2 h3⟩
end

theorem fsub_wk : ∀ b, G.F b → (wkGh ρ h G).F b := fun b hb => .inl hb
mutual
theorem wkS_spec (hh : HeapOk G w h) : ∀ (a b : S) (u : Value), wkS ρ h a b → RepS G w a u → RepS (wkGh ρ h G) w b u
  | a, b, u, hw, hr => by
    unfold wkS at hw
    split at hw
    · unfold RepS; trivial
    · rename_i x y
      unfold RepS at hr ⊢
      exact Rep.mono fsub_wk (fun _ _ _ => rfl) y u (wkT_spec x y u hw hr)
    · rename_i l'
      unfold RepS at hr ⊢
      unfold Rep at hr
      refine ⟨?_, none, 0, 0, hr.1⟩
      rw [hr.1]
      simp only [wkGh, hw]
    · rename_i l l'
      unfold RepS at hr ⊢
      refine ⟨?_, hr.2⟩
      rw [hr.1]
      simp only [wkGh, hw]
    · rename_i l s xs
      obtain ⟨h1, h2⟩ := hw
      split at h2
      · rename_i e s' ys hl
        obtain ⟨rfl, rfl⟩ := h2
        unfold RepS at hr ⊢
        rw [hr.1]
        exact rep_of_list (hh.rep l _ hl) fsub_wk (fun b hb => .inr ⟨l, _, hl, h1, hb⟩)
      · exact h2.elim
    · rename_i l p o l' p' o'
      obtain ⟨h1, rfl, rfl⟩ := hw
      unfold RepS at hr ⊢
      obtain ⟨b, h2, h3⟩ := hr
      refine ⟨b, ?_, h3⟩
      simp only [wkGh, h1]
      exact h2
    · rename_i x y
      subst hw
      unfold RepS at hr ⊢
      obtain ⟨b, off, v, h1, h2, h3, h4⟩ := hr
      exact ⟨b, off, v, h1, .inl h2, Rep.mono fsub_wk (fun _ _ _ => rfl) _ v h3, h4⟩
    · rename_i fs gs
      unfold RepS at hr ⊢
      obtain ⟨cells, h1, h2⟩ := hr
      exact ⟨cells, h1, wkSs_spec hh fs gs cells hw h2⟩
    · rename_i fs xs
      unfold RepS at hr ⊢
      obtain ⟨cells, h1, h2⟩ := hr
      have h3 := wkSs_spec hh fs (xs.map S.t) cells hw h2
      unfold Rep
      refine ⟨cells, h1, ?_⟩
      have : ∀ {ys : List T} {cs : List Value}, RepSs (wkGh ρ h G) w (ys.map S.t) cs → Reps (wkGh ρ h G).F w ys cs := by
        intro ys
        induction ys with
        | nil => intro cs h; simp only [List.map_nil] at h; unfold RepSs at h; unfold Reps; exact h
        | cons y ys ih =>
          intro cs h
          simp only [List.map_cons] at h
          unfold RepSs at h
          obtain ⟨v, cs', h4, _, _, h5, h6⟩ := h
          unfold Reps
          unfold RepS at h5
          exact ⟨v, cs', h4, h5, ih h6⟩
      exact this h3
    · rename_i xs gs
      unfold RepS at hr
      unfold Rep at hr
      obtain ⟨cells, h1, h2⟩ := hr
      unfold RepS
      refine ⟨cells, h1, ?_⟩
      have : ∀ (xs : List T) (gs : List S) (cs : List Value), wkXs ρ xs gs → Reps G.F w xs cs → RepSs (wkGh ρ h G) w gs cs := by
        intro xs
        induction xs with
        | nil =>
          intro gs cs hx hc
          cases gs with
          | nil => unfold Reps at hc; unfold RepSs; exact hc
          | cons g gs => unfold wkXs at hx; exact hx.elim
        | cons x xs ih =>
          intro gs cs hx hc
          cases gs with
          | nil => unfold wkXs at hx; exact hx.elim
          | cons g gs =>
            unfold wkXs at hx
            unfold Reps at hc
            obtain ⟨v, cs', h3, h4, h5⟩ := hc
            obtain ⟨h6, h7, h8⟩ := hx
            unfold RepSs
            refine ⟨v, cs', h3, by rw [Rep.width _ _ h4, h7], Rep.one _ _ h4, ?_, ih gs cs' h8 h5⟩
            split at h6
            · rename_i l'
              unfold Rep at h4
              unfold RepS
              refine ⟨?_, none, 0, 0, h4.1⟩
              rw [h4.1]
              simp only [wkGh, h6]
            · rename_i y
              unfold RepS
              exact Rep.mono fsub_wk (fun _ _ _ => rfl) y v (wkT_spec x y v h6 h4)
            · exact h6.elim
      exact this xs gs cells hw h2
    · rename_i fs gs
      unfold RepS at hr ⊢
      obtain ⟨us, h1, h2⟩ := hr
      exact ⟨us, h1, wkPs_spec hh fs gs us hw h2⟩
    · rename_i f fs f' gs
      obtain ⟨rfl, hw⟩ := hw
      unfold RepS at hr ⊢
      obtain ⟨us, h1, h2⟩ := hr
      exact ⟨us, h1, wkPs_spec hh fs gs us hw h2⟩
    · rename_i f fs f' gs
      obtain ⟨rfl, hw⟩ := hw
      unfold RepS at hr ⊢
      obtain ⟨us, h1, h2⟩ := hr
      exact ⟨us, h1, wkPs_spec hh fs gs us hw h2⟩
    · exact hw.elim
theorem wkSs_spec (hh : HeapOk G w h) : ∀ (xs ys : List S) (cs : List Value), wkSs ρ h xs ys → RepSs G w xs cs → RepSs (wkGh ρ h G) w ys cs
  | [], ys, cs, hw, hr => by
    cases ys with
    | nil => unfold RepSs at *; exact hr
    | cons y ys => unfold wkSs at hw; exact hw.elim
  | x :: xs, ys, cs, hw, hr => by
    cases ys with
    | nil => unfold wkSs at hw; exact hw.elim
    | cons y ys =>
      unfold wkSs at hw
      unfold RepSs at hr ⊢
      obtain ⟨v, cs', h1, h2, h3, h4, h5⟩ := hr
      exact ⟨v, cs', h1, by rw [h2, hw.1], h3, wkS_spec hh x y v hw.2.1 h4, wkSs_spec hh xs ys cs' hw.2.2 h5⟩
theorem wkPs_spec (hh : HeapOk G w h) : ∀ (xs ys : List S) (us : List Value), wkPs ρ h xs ys → RepPs G w xs us → RepPs (wkGh ρ h G) w ys us
  | [], ys, us, hw, hr => by
    cases ys with
    | nil => unfold RepPs at *; exact hr
    | cons y ys => unfold wkPs at hw; exact hw.elim
  | x :: xs, ys, us, hw, hr => by
    cases ys with
    | nil => unfold wkPs at hw; exact hw.elim
    | cons y ys =>
      unfold wkPs at hw
      unfold RepPs at hr ⊢
      obtain ⟨v, us', h1, h2, h3⟩ := hr
      exact ⟨v, us', h1, wkS_spec hh x y v hw.1 h2, wkPs_spec hh xs ys us' hw.2 h3⟩
end

theorem wkB_spec (hh : HeapOk G w h) {b b' : Blk} {u : Value} (hw : wkB ρ h b b') (hr : RepB G w b u) : RepB (wkGh ρ h G) w b' u := by
  cases b with
  | list e s xs =>
    cases b' with
    | list e' s' ys =>
      obtain ⟨rfl, rfl, rfl⟩ := hw
      obtain ⟨x, cap, cells, h1, h2, h3, h4⟩ := hr
      exact ⟨x, cap, cells, h1, Reps.mono fsub_wk (fun _ _ _ => rfl) _ _ h2, h3, h4⟩
    | box _ _ => exact hw.elim
  | box e c =>
    cases b' with
    | list _ _ _ => exact hw.elim
    | box e' c' =>
      obtain ⟨rfl, h1, h2, h3⟩ := hw
      obtain ⟨b, v, h4, h5, h6, h7, h8⟩ := hr
      exact ⟨b, v, h4, wkS_spec hh c c' v h3 h5, by rw [h6, h1], h7, h8⟩
theorem wkH_get : ∀ {hs : List (Nat × Blk)} {l' : Nat} {b' : Blk}, wkH ρ h hs → lkB hs l' = some b' → (∃ l b, lkR ρ l' = some (some l) ∧ h l = some b ∧ wkB ρ h b b') ∨ (lkR ρ l' = some none ∧ ∃ e s, b' = .list e s [])
  | [], l', b', _, e => by simp [lkB] at e
  | (k, b0) :: r, l', b', hw, e => by
    simp only [lkB] at e
    split at e
    · rename_i hk
      subst hk
      simp at e
      subst e
      have h1 := hw.1
      split at h1
      · rename_i l hl
        split at h1
        · rename_i b hb
          exact .inl ⟨l, b, hl, hb, h1⟩
        · exact h1.elim
      · rename_i hl
        split at h1
        · exact .inr ⟨hl, _, _, rfl⟩
        · exact h1.elim
      · exact h1.elim
    · exact wkH_get hw.2 e

/-- The memory of the weaker state. -/
theorem wk_heap {hs : List (Nat × Blk)} (hρ : rhoOk ρ = true) (hh : HeapOk G w h) (hw : wkH ρ h hs) : HeapOk (wkGh ρ h G) w (lkB hs) := by
  have blk : ∀ l' b' k, lkB hs l' = some b' → hblk ((wkGh ρ h G).β l') = some k → ∃ l b, lkR ρ l' = some (some l) ∧ h l = some b ∧ hblk (G.β l) = some k := by
    intro l' b' k hl hk
    rcases wkH_get hw hl with ⟨l, b, h1, h2, _⟩ | ⟨h1, _⟩
    · simp only [wkGh, h1] at hk
      exact ⟨l, b, h1, h2, hk⟩
    · simp only [wkGh, h1, hblk] at hk
      cases hk
  refine ⟨?_, ?_, ?_, ?_⟩
  · intro l' b' hl
    rcases wkH_get hw hl with ⟨l, b, h1, h2, h3⟩ | ⟨h1, e, s, rfl⟩
    · have := wkB_spec hh h3 (hh.rep l b h2)
      simpa only [wkGh, h1] using this
    · simp only [wkGh, h1]
      exact ⟨none, 0, [], rfl, by unfold Reps; rfl, by simp, World.ownsRow_nil _ _ _ _⟩
  · intro l' b' k hl hk hF
    obtain ⟨l, b, h1, h2, h3⟩ := blk l' b' k hl hk
    rcases hF with hF | ⟨l2, x, h4, h5, h6⟩
    · exact hh.sep l b k h2 h3 hF
    · have := hh.inj l l2 b x k h2 h4 h3 h6
      subst this
      exact offR_spec h5 l' h1
  · intro l' l'' b' b'' k hl hl' hk hk'
    obtain ⟨l, b, h1, h2, h3⟩ := blk l' b' k hl hk
    obtain ⟨l2, b2, h4, h5, h6⟩ := blk l'' b'' k hl' hk'
    have := hh.inj l l2 b b2 k h2 h5 h3 h6
    subst this
    exact rhoOk_inj hρ h1 h4
  · intro b hb
    rcases hb with hb | ⟨l, x, h1, _, h3⟩
    · exact hh.fb b hb
    · exact (hh.rep l x h1).lt h3
theorem wk_from {hs : List (Nat × Blk)} {W : World} {G0 : Gh} {A : Nat → Prop} (hρ : rhoOk ρ = true) (hw : wkH ρ h hs) (f : From W G0 A G w h) : From W G0 A (wkGh ρ h G) w (lkB hs) := by
  refine ⟨f.os, f.tape, f.output, f.size, f.block, ?_, fun b hb => .inl (f.fin b hb), ?_, ?_⟩
  · intro l' b' k hl hk
    rcases wkH_get hw hl with ⟨l, b, h1, h2, _⟩ | ⟨h1, _⟩
    · simp only [wkGh, h1] at hk
      exact f.own l b k h2 hk
    · simp only [wkGh, h1, hblk] at hk
      cases hk
  · intro b hb
    rcases hb with hb | ⟨l, x, h1, _, h3⟩
    · exact f.fout b hb
    · rcases f.own l x b h1 h3 with h4 | h4
      · exact .inr (.inl h4)
      · exact .inr (.inr h4)
  · intro l hl
    simp only [wkGh]
    split
    · rename_i k hk
      have := rhoOk_low hρ hk hl
      simp at this
      subst this
      exact f.same _ hl
    · rename_i hk
      have := rhoOk_low hρ hk hl
      cases this
    · exact f.same l hl
theorem wkG_get {g : Nat → S} : ∀ {gs : List (Nat × S)} (t : Nat), wkG ρ h g gs → wkS ρ h (g t) (lkS gs t)
  | [], t, _ => by simp only [lkS]; unfold wkS; trivial
  | (k, s) :: r, t, hw => by
    simp only [lkS]
    split
    · subst_vars; exact hw.1
    · exact wkG_get t hw.2
theorem Sat.weak {N : Nat} {W : World} {G0 : Gh} {A : Nat → Prop} {σ σ' : St} {a : Act} (hs : Sat N W G0 A σ a w) (hw : Wk ρ σ σ') : Sat N W G0 A σ' a w := by
  obtain ⟨G, hs⟩ := hs
  obtain ⟨h1, h2, h3⟩ := hw
  exact ⟨wkGh ρ (lkB σ.h) G, hs.size, hs.defers, fun t => wkS_spec hs.heap _ _ _ (wkG_get t h2) (hs.slots t), wk_heap h1 hs.heap h3, wk_from h1 h3 hs.frm⟩
end

section
variable {N : Nat} {P : Program} {Q : Exit → St → Prop}
theorem CW.weak {c : Code} {σ σ' : St} {ρ : List (Nat × Option Nat)} (hw : Wk ρ σ σ') (h : CW N P c Q σ') : CW N P c Q σ :=
  fun hm hc W G0 A a w hs => h hm hc W G0 A a w (hs.weak hw)

/-- The end of a loop's round. -/
def RoundQ {ι : Type} (I : ι → St) (Inv : ι → Prop) (μ : ι → Nat) (i : ι) (Q : Exit → St → Prop) (e : Exit) (σ : St) : Prop := match e with
  | .normal => ∃ j ρ, Inv j ∧ μ j < μ i ∧ Wk ρ σ (I j)
  | e => Q e σ
/-- A loop: the states at its head are I i, for i with Inv i; μ goes down. -/
theorem CW.loop {ι : Type} (I : ι → St) (Inv : ι → Prop) (μ : ι → Nat) (i0 : ι) (ρ : List (Nat × Option Nat)) {c : Code} {σ : St} (h0 : Inv i0) (hstart : Wk ρ σ (I i0))
    (round : ∀ i, Inv i → CW N P c (RoundQ I Inv μ i Q) (I i)) : CW N P (.loop c) Q σ := by
  intro hm hc W G0 A a w hs
  simp only [okCode] at hc
  classical
  let J : Act → World → ι → Prop := fun a w i => Inv i ∧ Sat N W G0 A (I i) a w
  have key : ∀ n, ∀ a w i, J a w i → μ i = n → ∀ (b : Frame) (k : List Item) (cs : List Frame), ∃ e a' w', (∃ σ', Q e σ' ∧ Sat N W G0 A σ' a' w') ∧ Arrives P (lone (b.at a (.code c :: .inLoop c :: k)) cs w) b k cs e a' w' := by
    intro n
    induction n using Nat.strongRecOn with
    | _ n ih =>
      rintro a w i ⟨hi, hs⟩ hn b k cs
      obtain ⟨e, a₁, w₁, ⟨σ', hq, hs'⟩, harr⟩ := round i hi hm hc W G0 A a w hs b (.inLoop c :: k) cs
      cases e with
      | normal =>
        obtain ⟨j, ρ', hj, hlt, hw⟩ := hq
        obtain ⟨e₂, a₂, w₂, hq₂, harr₂⟩ := ih (μ j) (by omega) a₁ w₁ j ⟨hj, hs'.weak hw⟩ rfl b k cs
        exact ⟨e₂, a₂, w₂, hq₂, .of_steps (Steps.trans harr (.one step_inLoop)) harr₂⟩
      | exit id => exact ⟨_, a₁, w₁, ⟨σ', hq, hs'⟩, .pass (x := .inLoop c) rfl (fun _ _ => .inl (by simp)) harr⟩
      | goto l => exact ⟨_, a₁, w₁, ⟨σ', hq, hs'⟩, .pass (x := .inLoop c) rfl (fun _ _ => .inl (by simp)) harr⟩
      | ret => exact ⟨_, a₁, w₁, ⟨σ', hq, hs'⟩, .pass (x := .inLoop c) rfl (fun _ _ => .inl (by simp)) harr⟩
      | panic ch => exact ⟨_, a₁, w₁, ⟨σ', hq, hs'⟩, .pass (x := .inLoop c) rfl (fun _ _ => .inl (by simp)) harr⟩
      | outgrown => exact ⟨_, a₁, w₁, ⟨σ', hq, hs'⟩, .pass (x := .inLoop c) rfl (fun _ _ => .inl (by simp)) harr⟩
  intro b k cs
  obtain ⟨e, a', w', hq, harr⟩ := key _ a w i0 ⟨h0, hs.weak hstart⟩ rfl b k cs
  exact ⟨e, a', w', hq, .of_steps (.one step_loop) harr⟩

/-- Ways that meet: what is known behind the first part. -/
def CutQ {ι : Type} (I : ι → St) (Inv : ι → Prop) (Q : Exit → St → Prop) (e : Exit) (σ : St) : Prop := match e with
  | .normal => ∃ j ρ, Inv j ∧ Wk ρ σ (I j)
  | e => Q e σ
theorem CW.cut {ι : Type} (I : ι → St) (Inv : ι → Prop) {x y : Code} {σ : St} (h : CW N P x (CutQ I Inv Q) σ) (h2 : ∀ j, Inv j → CW N P y Q (I j)) : CW N P (.seq x y) Q σ := by
  refine CW.seq (h.mono ?_)
  intro e σ' hq
  cases e with
  | normal =>
    obtain ⟨j, ρ, hj, hw⟩ := hq
    exact (h2 j hj).weak hw
  | _ => exact hq

/-! ### Functions -/
def ownA (G : Gh) (pre : List (Nat × Blk)) (b : Nat) : Prop := ∃ l x, lkB pre l = some x ∧ hblk (G.β l) = some b
/-- The contract of a function: its arguments, the caller's memory that it is handed, its result, and what becomes of that memory. -/
def FnOk (P : Program) (f : FuncId) (ss : List S) (pre : List (Nat × Blk)) (r : S) (post : List (Nat × Blk)) : Prop :=
  ∀ (G : Gh) (w : World) (us : List Value), HeapOk G w (lkB pre) → RepPs G w ss us →
    Calls P f us.toArray w fun e w' => ∃ v G', e = .returned v ∧ From w G (ownA G pre) G' w' (lkB post) ∧ HeapOk G' w' (lkB post) ∧ RepS G' w' r v

def enumS : Nat → List S → List (Nat × S)
  | _, [] => []
  | k, s :: r => (k, s) :: enumS (k + 1) r
def retK (P : Program) (g : Nat → S) (h : Nat → Option Blk) : List ResultVar → (List S → Prop) → Prop
  | [], K => K []
  | .tmp t :: r, K => retK P g h r fun l => K (g t :: l)
  | .cell a t :: r, K => match g a with
    | .pt l p off => match h l with
      | some blk => match blk.at p with
        | some (o, y) => o = off ∧ y.solid = true ∧ okLd P t y ∧ retK P g h r fun l => K (y :: l)
        | none => False
      | none => False
    | _ => False
def oneOf : List S → S
  | [s] => s
  | l => .tup l
/-- What a function's end must be like. -/
def RetQ (P : Program) (rs : List ResultVar) (r : S) (post : List (Nat × Blk)) (e : Exit) (σ : St) : Prop := match e with
  | .ret => ∃ ρ, retK P (lkS σ.g) (lkB σ.h) rs fun l => rhoOk ρ = true ∧ wkS ρ (lkB σ.h) (oneOf l) r ∧ wkH ρ (lkB σ.h) post
  | .normal => ∃ ρ, retK P (lkS σ.g) (lkB σ.h) rs fun l => rhoOk ρ = true ∧ wkS ρ (lkB σ.h) (oneOf l) r ∧ wkH ρ (lkB σ.h) post
  | _ => False

theorem enumS_get {G : Gh} {w : World} : ∀ {ss : List S} {us : List Value} {k t : Nat}, RepPs G w ss us → (t < k ∨ ¬ t < k + ss.length → lkS (enumS k ss) t = .dead) ∧ (∀ i, t = k + i → i < ss.length → ∃ u, us[i]? = some u ∧ RepS G w (lkS (enumS k ss) t) u)
  | [], us, k, t, h => ⟨fun _ => rfl, fun i _ hi => by simp at hi⟩
  | s :: r, us, k, t, h => by
    unfold RepPs at h
    obtain ⟨v, us', rfl, h1, h2⟩ := h
    have ih := enumS_get (k := k + 1) (t := t) h2
    refine ⟨fun ht => ?_, fun i hi hl => ?_⟩
    · simp only [enumS, lkS]
      rw [if_neg (by simp only [List.length_cons] at ht; omega)]
      refine ih.1 ?_
      simp only [List.length_cons] at ht
      omega
    · cases i with
      | zero =>
        refine ⟨v, rfl, ?_⟩
        simp only [enumS, lkS]
        rw [if_pos (by omega)]
        exact h1
      | succ i =>
        obtain ⟨u, h3, h4⟩ := ih.2 i (by omega) (by simpa using hl)
        refine ⟨u, by simpa using h3, ?_⟩
        simp only [enumS, lkS]
        rw [if_neg (by omega)]
        exact h4
theorem RepPs.length {G : Gh} {w : World} : ∀ {ss : List S} {us : List Value}, RepPs G w ss us → us.length = ss.length
  | [], us, h => by unfold RepPs at h; subst h; rfl
  | s :: r, us, h => by
    unfold RepPs at h
    obtain ⟨v, us', rfl, h1, h2⟩ := h
    simp [RepPs.length h2]
def resV (tmps : Array Value) (x : ResultVar) : Sem Value := match x with
  | .tmp t => pure (tmps.getD t undef)
  | .cell a t => do loadVar t (← asAddr (tmps.getD a undef))
theorem results_eq (fn : Func) (tmps : Array Value) : results fn tmps = (do
    let vs ← fn.results.mapM (resV tmps)
    pure (if h : vs.size = 1 then vs[0] else .tuple vs)) := by
  unfold results
  congr 1
theorem retK_spec {G : Gh} {w : World} {g : Nat → S} {h : Nat → Option Blk} {tmps : Array Value} (hh : HeapOk G w h) (hg : ∀ t, RepS G w (g t) (tmps.getD t undef)) : ∀ {rs : List ResultVar} {K : List S → Prop}, retK P g h rs K →
    ∃ l us, K l ∧ (rs.mapM (resV tmps)).run P w = .ok us w ∧ RepPs G w l us
  | [], K, hk => ⟨[], [], hk, by simp, by unfold RepPs; rfl⟩
  | .tmp t :: r, K, hk => by
    obtain ⟨l, us, h1, h2, h3⟩ := retK_spec hh hg (rs := r) (K := fun l => K (g t :: l)) hk
    refine ⟨g t :: l, tmps.getD t undef :: us, h1, ?_, by unfold RepPs; exact ⟨_, us, rfl, hg t, h3⟩⟩
    rw [List.mapM_cons]
    simp [h2, resV]
  | .cell a t :: r, K, hk => by
    simp only [retK] at hk
    split at hk
    · rename_i l0 p off ha
      split at hk
      · rename_i blk hl
        split at hk
        · rename_i o y hat
          obtain ⟨rfl, hso, hok, hk⟩ := hk
          obtain ⟨l, us, h1, h2, h3⟩ := retK_spec hh hg hk
          have h4 := hg a
          rw [ha] at h4
          unfold RepS at h4
          obtain ⟨b, h5, h6⟩ := h4
          obtain ⟨v, h7, h8, h9, h10⟩ := RepB.at_spec (hh.rep l0 blk hl) hat h5
          have h11 := run_load_any (P := P) h7 hso hok h10
          have h12 : (loadVar t ⟨b, o, none⟩).run P w = .ok v w := by
            simpa only [Instr.loadAt, Instr.sureAddr, Sem.run_bind, Sem.run_pure, Result.andThen_ok] using h11
          refine ⟨y :: l, v :: us, h1, ?_, by unfold RepPs; exact ⟨_, us, rfl, h7, h3⟩⟩
          rw [List.mapM_cons]
          simp [h2, resV, h6, asAddr, h12]
        · exact hk.elim
      · exact hk.elim
    · exact hk.elim
theorem results_spec {G : Gh} {w : World} {fn : Func} {tmps : Array Value} {l : List S} {us : List Value} (h1 : (fn.results.toList.mapM (resV tmps)).run P w = .ok us w) (h2 : RepPs G w l us) :
    ∃ v, (results fn tmps).run P w = .ok v w ∧ RepS G w (oneOf l) v := by
  have h3 : (fn.results.mapM (resV tmps)).run P w = .ok us.toArray w := by
    rw [Array.mapM_eq_mapM_toList]
    simp [h1]
  have hlen := h2.length
  match l, us, hlen, h2, h3 with
  | [s], [u], _, h2, h3 =>
    unfold RepPs at h2
    obtain ⟨v, us', h4, h5, _⟩ := h2
    cases h4
    refine ⟨u, ?_, h5⟩
    rw [results_eq]
    rw [Sem.run_bind, h3]
    simp
  | [], [], _, h2, h3 =>
    refine ⟨.tuple #[], ?_, by unfold oneOf RepS; exact ⟨[], rfl, h2⟩⟩
    rw [results_eq]
    rw [Sem.run_bind, h3]
    simp
  | s :: s' :: r, u :: u' :: us, _, h2, h3 =>
    refine ⟨.tuple (u :: u' :: us).toArray, ?_, by unfold oneOf RepS; exact ⟨_, rfl, h2⟩⟩
    rw [results_eq]
    rw [Sem.run_bind, h3]
    simp

theorem FnOk.intro {f : FuncId} {fn : Func} {c : Code} {ss : List S} {pre post : List (Nat × Blk)} {r : S} {N : Nat} (hm : P.follows .mixedOrders = true) (hf : P.funcs[f]? = some fn) (hb : fn.body = some c) (hN : fn.ntmps = N) (hok : okCode N c = true) (hlen : ss.length ≤ N)
    (h : CW N P c (RetQ P fn.results.toList r post) ⟨enumS 0 ss, pre⟩) : FnOk P f ss pre r post := by
  intro G w us hh hr
  have hul := hr.length
  refine calls_of_wp hf hb ?_
  refine wp_mono (h hm hok w G (ownA G pre) _ w ⟨G, ?_, rfl, ?_, hh, ?_⟩) ?_
  · simp only [Array.size_append, Array.size_replicate, List.size_toArray]; omega
  · intro t
    have he := enumS_get (k := 0) (t := t) hr
    by_cases ht : t < ss.length
    · obtain ⟨u, h1, h2⟩ := he.2 t (by omega) ht
      have : (us.toArray ++ Array.replicate (fn.ntmps - us.toArray.size) undef).getD t undef = u := by
        rw [Array.getD_eq_getD_getElem?, Array.getElem?_append_left (by simp; omega)]
        simp [h1]
      rw [this]; exact h2
    · rw [he.1 (by omega)]
      unfold RepS; trivial
  · exact ⟨rfl, rfl, rfl, Nat.le_refl _, fun _ _ _ => rfl, fun l b k h1 h2 => .inl ⟨l, b, h1, h2⟩, fun _ h => h, fun _ h => .inl h, fun _ _ => rfl⟩
  · rintro e a' w' ⟨σ', hq, G', hs⟩
    have fin : ∀ ρ, retK P (lkS σ'.g) (lkB σ'.h) fn.results.toList (fun l => rhoOk ρ = true ∧ wkS ρ (lkB σ'.h) (oneOf l) r ∧ wkH ρ (lkB σ'.h) post) →
        a'.defers = [] ∧ ∃ v, (results fn a'.tmps).run P w' = .ok v w' ∧ ∃ v' G', Ending.returned v = .returned v' ∧ From w G (ownA G pre) G' w' (lkB post) ∧ HeapOk G' w' (lkB post) ∧ RepS G' w' r v' := by
      intro ρ h1
      obtain ⟨l, us, ⟨h2, h3, h4⟩, h5, h6⟩ := retK_spec hs.heap hs.slots h1
      obtain ⟨v, h7, h8⟩ := results_spec (P := P) (fn := fn) h5 h6
      exact ⟨hs.defers, v, h7, v, wkGh ρ (lkB σ'.h) G', rfl, wk_from h2 h4 hs.frm, wk_heap h2 hs.heap h4, wkS_spec hs.heap _ _ _ h3 h8⟩
    cases e with
    | ret =>
      obtain ⟨ρ, hq⟩ := hq
      exact fin ρ hq
    | normal =>
      obtain ⟨ρ, hq⟩ := hq
      exact fin ρ hq
    | exit _ => exact hq.elim
    | goto _ => exact hq.elim
    | panic _ => exact hq.elim
    | outgrown => exact hq.elim
end
end Go.Proofs.Ytgjfkklemelejaa.Sy
