/- Calls by contract: from a function's contract to what a call does in a caller's state. No condition. -/
import Derived.Test.YtgjfkklemelejaaSyK
namespace Go.Proofs.Ytgjfkklemelejaa.Sy
open Go.RowKit
set_option linter.unusedVariables false
set_option linter.unusedSimpArgs false

def rn : List (Nat × Nat) → Nat → Nat
  | [], k => k
  | (l, r) :: q, k => if k = l then r else rn q k
mutual
def S.ren (ρ : List (Nat × Nat)) : S → S
  | .dead => .dead
  | .t x => .t x
  | .rp x => .rp x
  | .own l => .own (rn ρ l)
  | .pt l p o => .pt (rn ρ l) p o
  | .ag fs => .ag (S.rens ρ fs)
  | .tup fs => .tup (S.rens ρ fs)
  | .fn f fs => .fn f (S.rens ρ fs)
  | .fb f fs => .fb f (S.rens ρ fs)
def S.rens (ρ : List (Nat × Nat)) : List S → List S
  | [] => []
  | x :: r => x.ren ρ :: S.rens ρ r
end
def Blk.ren (ρ : List (Nat × Nat)) : Blk → Blk
  | .list e s xs => .list e s xs
  | .box e c => .box e (c.ren ρ)
mutual
def S.within (ls : List Nat) : S → Bool
  | .own l => ls.contains l
  | .pt l _ _ => ls.contains l
  | .ag fs => S.withins ls fs
  | .tup fs => S.withins ls fs
  | .fn _ fs => S.withins ls fs
  | .fb _ fs => S.withins ls fs
  | _ => true
def S.withins (ls : List Nat) : List S → Bool
  | [] => true
  | x :: r => x.within ls && S.withins ls r
end
def Blk.within (ls : List Nat) : Blk → Bool
  | .list _ _ _ => true
  | .box _ c => c.within ls
mutual
def flatT : T → Prop
  | .lit _ => True
  | .sl _ _ => False
  | .agg fs => flatTs fs
def flatTs : List T → Prop
  | [] => True
  | x :: r => flatT x ∧ flatTs r
end
mutual
def flatS : S → Prop
  | .dead => True
  | .t x => flatT x
  | .rp _ => False
  | .own _ => True
  | .pt _ _ _ => True
  | .ag fs => flatSs fs
  | .tup fs => flatSs fs
  | .fn _ fs => flatSs fs
  | .fb _ fs => flatSs fs
def flatSs : List S → Prop
  | [] => True
  | x :: r => flatS x ∧ flatSs r
end
def flatB : Blk → Prop
  | .list _ _ xs => flatTs xs
  | .box _ c => flatS c
def flatH : List (Nat × Blk) → Prop
  | [] => True
  | (_, b) :: r => flatB b ∧ flatH r
theorem flatTs_map {α : Type} {f : α → T} (hf : ∀ x, flatT (f x)) : ∀ (l : List α), flatTs (l.map f)
  | [] => by simp only [List.map_nil]; unfold flatTs; trivial
  | x :: r => by simp only [List.map_cons]; unfold flatTs; exact ⟨hf x, flatTs_map hf r⟩

mutual
theorem Rep.flat {F F' : Nat → Prop} {w w' : World} : ∀ (x : T) (u : Value), flatT x → Rep F w x u → Rep F' w' x u
  | .lit v, u, _, h => by unfold Rep at *; exact h
  | .sl _ _, u, hf, h => by unfold flatT at hf; exact hf.elim
  | .agg fs, u, hf, h => by
    unfold flatT at hf
    unfold Rep at *
    obtain ⟨cells, h1, h2⟩ := h
    exact ⟨cells, h1, Reps.flat fs cells hf h2⟩
theorem Reps.flat {F F' : Nat → Prop} {w w' : World} : ∀ (xs : List T) (cs : List Value), flatTs xs → Reps F w xs cs → Reps F' w' xs cs
  | [], cs, _, h => by unfold Reps at *; exact h
  | x :: r, cs, hf, h => by
    unfold flatTs at hf
    unfold Reps at *
    obtain ⟨v, cs', h1, h2, h3⟩ := h
    exact ⟨v, cs', h1, Rep.flat x v hf.1 h2, Reps.flat r cs' hf.2 h3⟩
end

section
variable {G G' : Gh} {w : World} {ρ : List (Nat × Nat)} {ls : List Nat}
mutual
theorem width_ren : ∀ (s : S), (s.ren ρ).width = s.width
  | .dead => rfl
  | .t _ => rfl
  | .rp _ => rfl
  | .own _ => rfl
  | .pt _ _ _ => rfl
  | .tup _ => rfl
  | .fn _ _ => rfl
  | .fb _ _ => rfl
  | .ag fs => by simp only [S.ren, S.width]; exact widths_ren fs
theorem widths_ren : ∀ (fs : List S), S.widths (S.rens ρ fs) = S.widths fs
  | [] => rfl
  | x :: r => by simp only [S.rens, S.widths]; rw [width_ren x, widths_ren r]
end
/-- From the callee's names to the caller's. -/
structure To (G G' : Gh) (ρ : List (Nat × Nat)) (ls : List Nat) : Prop where
  β : ∀ l, ls.contains l = true → G'.β (rn ρ l) = G.β l
mutual
theorem RepS.to (h : To G G' ρ ls) : ∀ (s : S) (u : Value), s.within ls = true → ((∀ b, G.F b → G'.F b) ∨ flatS s) → RepS G w s u → RepS G' w (s.ren ρ) u
  | .dead, u, _, _, hr => by simp only [S.ren]; unfold RepS; trivial
  | .t x, u, _, hF, hr => by
    simp only [S.ren]
    unfold RepS at *
    rcases hF with hF | hF
    · exact Rep.mono hF (fun _ _ _ => rfl) x u hr
    · unfold flatS at hF; exact Rep.flat x u hF hr
  | .rp x, u, _, hF, hr => by
    simp only [S.ren]
    unfold RepS at *
    rcases hF with hF | hF
    · obtain ⟨b, off, v, h1, h2, h3, h4⟩ := hr
      exact ⟨b, off, v, h1, hF b h2, Rep.mono hF (fun _ _ _ => rfl) x v h3, h4⟩
    · unfold flatS at hF; exact hF.elim
  | .own l, u, hl, hF, hr => by
    simp only [S.ren]
    unfold RepS at *
    refine ⟨?_, hr.2⟩
    rw [hr.1, h.β l (by simpa [S.within] using hl)]
  | .pt l p o, u, hl, hF, hr => by
    simp only [S.ren]
    unfold RepS at *
    obtain ⟨b, h1, h2⟩ := hr
    exact ⟨b, by rw [h.β l (by simpa [S.within] using hl)]; exact h1, h2⟩
  | .ag fs, u, hl, hF, hr => by
    simp only [S.ren]
    unfold RepS at *
    obtain ⟨cells, h1, h2⟩ := hr
    exact ⟨cells, h1, RepSs.to h fs cells (by simpa [S.within] using hl) (by simpa [flatS] using hF) h2⟩
  | .tup fs, u, hl, hF, hr => by
    simp only [S.ren]
    unfold RepS at *
    obtain ⟨us, h1, h2⟩ := hr
    exact ⟨us, h1, RepPs.to h fs us (by simpa [S.within] using hl) (by simpa [flatS] using hF) h2⟩
  | .fn f fs, u, hl, hF, hr => by
    simp only [S.ren]
    unfold RepS at *
    obtain ⟨us, h1, h2⟩ := hr
    exact ⟨us, h1, RepPs.to h fs us (by simpa [S.within] using hl) (by simpa [flatS] using hF) h2⟩
  | .fb f fs, u, hl, hF, hr => by
    simp only [S.ren]
    unfold RepS at *
    obtain ⟨us, h1, h2⟩ := hr
    exact ⟨us, h1, RepPs.to h fs us (by simpa [S.within] using hl) (by simpa [flatS] using hF) h2⟩
theorem RepSs.to (h : To G G' ρ ls) : ∀ (fs : List S) (cs : List Value), S.withins ls fs = true → ((∀ b, G.F b → G'.F b) ∨ flatSs fs) → RepSs G w fs cs → RepSs G' w (S.rens ρ fs) cs
  | [], cs, _, _, hr => by simp only [S.rens]; unfold RepSs at *; exact hr
  | x :: r, cs, hl, hF, hr => by
    simp only [S.rens]
    simp only [S.withins, Bool.and_eq_true] at hl
    unfold RepSs at *
    obtain ⟨v, cs', h1, h2, h3, h4, h5⟩ := hr
    exact ⟨v, cs', h1, by rw [h2, width_ren x], h3, RepS.to h x v hl.1 (hF.imp id fun hf => by unfold flatSs at hf; exact hf.1) h4, RepSs.to h r cs' hl.2 (hF.imp id fun hf => by unfold flatSs at hf; exact hf.2) h5⟩
theorem RepPs.to (h : To G G' ρ ls) : ∀ (fs : List S) (us : List Value), S.withins ls fs = true → ((∀ b, G.F b → G'.F b) ∨ flatSs fs) → RepPs G w fs us → RepPs G' w (S.rens ρ fs) us
  | [], us, _, _, hr => by simp only [S.rens]; unfold RepPs at *; exact hr
  | x :: r, us, hl, hF, hr => by
    simp only [S.rens]
    simp only [S.withins, Bool.and_eq_true] at hl
    unfold RepPs at *
    obtain ⟨v, us', h1, h4, h5⟩ := hr
    exact ⟨v, us', h1, RepS.to h x v hl.1 (hF.imp id fun hf => by unfold flatSs at hf; exact hf.1) h4, RepPs.to h r us' hl.2 (hF.imp id fun hf => by unfold flatSs at hf; exact hf.2) h5⟩
end
theorem RepB.to (h : To G G' ρ ls) {b : Blk} {u : Value} (hl : b.within ls = true) (hF : (∀ b, G.F b → G'.F b) ∨ flatB b) (hr : RepB G w b u) : RepB G' w (b.ren ρ) u := by
  cases b with
  | list e s xs =>
    obtain ⟨x, cap, cells, h1, h2, h3, h4⟩ := hr
    refine ⟨x, cap, cells, h1, ?_, h3, h4⟩
    rcases hF with hF | hF
    · exact Reps.mono hF (fun _ _ _ => rfl) _ _ h2
    · exact Reps.flat _ _ hF h2
  | box e c =>
    obtain ⟨b, v, h4, h5, h6, h7, h8⟩ := hr
    exact ⟨b, v, h4, RepS.to h c v hl hF h5, by rw [h6, width_ren c], h7, h8⟩
mutual
/-- From the caller's names to the callee's. -/
theorem RepS.back (hF : ∀ b, G.F b → G'.F b) (hβ : ∀ l, G'.β l = G.β (rn ρ l)) : ∀ (s : S) (u : Value), RepS G w (s.ren ρ) u → RepS G' w s u
  | .dead, u, hr => by unfold RepS; trivial
  | .t x, u, hr => by simp only [S.ren] at hr; unfold RepS at *; exact Rep.mono hF (fun _ _ _ => rfl) x u hr
  | .rp x, u, hr => by
    simp only [S.ren] at hr
    unfold RepS at *
    obtain ⟨b, off, v, h1, h2, h3, h4⟩ := hr
    exact ⟨b, off, v, h1, hF b h2, Rep.mono hF (fun _ _ _ => rfl) x v h3, h4⟩
  | .own l, u, hr => by simp only [S.ren] at hr; unfold RepS at *; exact ⟨by rw [hr.1, hβ], hr.2⟩
  | .pt l p o, u, hr => by
    simp only [S.ren] at hr
    unfold RepS at *
    obtain ⟨b, h1, h2⟩ := hr
    exact ⟨b, by rw [hβ]; exact h1, h2⟩
  | .ag fs, u, hr => by
    simp only [S.ren] at hr
    unfold RepS at *
    obtain ⟨cells, h1, h2⟩ := hr
    exact ⟨cells, h1, RepSs.back hF hβ fs cells h2⟩
  | .tup fs, u, hr => by
    simp only [S.ren] at hr
    unfold RepS at *
    obtain ⟨us, h1, h2⟩ := hr
    exact ⟨us, h1, RepPs.back hF hβ fs us h2⟩
  | .fn f fs, u, hr => by
    simp only [S.ren] at hr
    unfold RepS at *
    obtain ⟨us, h1, h2⟩ := hr
    exact ⟨us, h1, RepPs.back hF hβ fs us h2⟩
  | .fb f fs, u, hr => by
    simp only [S.ren] at hr
    unfold RepS at *
    obtain ⟨us, h1, h2⟩ := hr
    exact ⟨us, h1, RepPs.back hF hβ fs us h2⟩
theorem RepSs.back (hF : ∀ b, G.F b → G'.F b) (hβ : ∀ l, G'.β l = G.β (rn ρ l)) : ∀ (fs : List S) (cs : List Value), RepSs G w (S.rens ρ fs) cs → RepSs G' w fs cs
  | [], cs, hr => by simp only [S.rens] at hr; unfold RepSs at *; exact hr
  | x :: r, cs, hr => by
    simp only [S.rens] at hr
    unfold RepSs at *
    obtain ⟨v, cs', h1, h2, h3, h4, h5⟩ := hr
    exact ⟨v, cs', h1, by rw [h2, width_ren x], h3, RepS.back hF hβ x v h4, RepSs.back hF hβ r cs' h5⟩
theorem RepPs.back (hF : ∀ b, G.F b → G'.F b) (hβ : ∀ l, G'.β l = G.β (rn ρ l)) : ∀ (fs : List S) (us : List Value), RepPs G w (S.rens ρ fs) us → RepPs G' w fs us
  | [], us, hr => by simp only [S.rens] at hr; unfold RepPs at *; exact hr
  | x :: r, us, hr => by
    simp only [S.rens] at hr
    unfold RepPs at *
    obtain ⟨v, us', h1, h4, h5⟩ := hr
    exact ⟨v, us', h1, RepS.back hF hβ x v h4, RepPs.back hF hβ r us' h5⟩
end
theorem RepB.back (hF : ∀ b, G.F b → G'.F b) (hβ : ∀ l, G'.β l = G.β (rn ρ l)) {b : Blk} {u : Value} (hr : RepB G w (b.ren ρ) u) : RepB G' w b u := by
  cases b with
  | list e s xs =>
    obtain ⟨x, cap, cells, h1, h2, h3, h4⟩ := hr
    exact ⟨x, cap, cells, h1, Reps.mono hF (fun _ _ _ => rfl) _ _ h2, h3, h4⟩
  | box e c =>
    obtain ⟨b, v, h4, h5, h6, h7, h8⟩ := hr
    exact ⟨b, v, h4, RepS.back hF hβ c v h5, by rw [h6, width_ren c], h7, h8⟩
end

/-! ### Arguments -/
mutual
def argR (ρ : List (Nat × Nat)) (h : Nat → Option Blk) (bor : List Nat) : S → S → Prop
  | .own l, .t (.sl s xs) => l ∈ bor ∧ match h l with
    | some (.list _ s' ys) => s' = s ∧ ys = xs
    | _ => False
  | .t x, .t y => wkT x y
  | .ag fs, .t (.agg xs) => argRs ρ h bor fs (xs.map S.t)
  | a, s => a = s.ren ρ
def argRs (ρ : List (Nat × Nat)) (h : Nat → Option Blk) (bor : List Nat) : List S → List S → Prop
  | [], [] => True
  | a :: as, s :: ss => s.width = a.width ∧ argR ρ h bor a s ∧ argRs ρ h bor as ss
  | _, _ => False
end
def argPs (ρ : List (Nat × Nat)) (h : Nat → Option Blk) (bor : List Nat) : List S → List S → Prop
  | [], [] => True
  | a :: as, s :: ss => argR ρ h bor a s ∧ argPs ρ h bor as ss
  | _, _ => False

section
variable {G : Gh} {w : World} {ρ : List (Nat × Nat)} {h : Nat → Option Blk} {bor : List Nat}
/-- The callee's ghost. -/
def calG (G : Gh) (ρ : List (Nat × Nat)) (bor : List Nat) : Gh := ⟨fun b => G.F b ∨ ∃ l ∈ bor, hblk (G.β l) = some b, fun l => G.β (rn ρ l)⟩
mutual
theorem argR_spec (hh : ∀ l ∈ bor, ∀ b, h l = some b → RepB G w b (G.β l)) : ∀ (a s : S) (u : Value), argR ρ h bor a s → RepS G w a u → RepS (calG G ρ bor) w s u
  | a, s, u, ha, hr => by
    have hF : ∀ b, G.F b → (calG G ρ bor).F b := fun b hb => .inl hb
    unfold argR at ha
    split at ha
    · rename_i l s xs
      obtain ⟨h1, h2⟩ := ha
      split at h2
      · rename_i e s' ys hl
        obtain ⟨rfl, rfl⟩ := h2
        unfold RepS at hr ⊢
        rw [hr.1]
        exact rep_of_list (hh l h1 _ hl) hF (fun b hb => .inr ⟨l, h1, hb⟩)
      · exact h2.elim
    · rename_i x y
      unfold RepS at hr ⊢
      exact Rep.mono hF (fun _ _ _ => rfl) y u (wkT_spec x y u ha hr)
    · rename_i fs xs
      unfold RepS at hr ⊢
      obtain ⟨cells, h1, h2⟩ := hr
      have h3 := argRs_spec hh fs (xs.map S.t) cells ha h2
      unfold Rep
      refine ⟨cells, h1, ?_⟩
      have : ∀ {ys : List T} {cs : List Value}, RepSs (calG G ρ bor) w (ys.map S.t) cs → Reps (calG G ρ bor).F w ys cs := by
        intro ys
        induction ys with
        | nil => intro cs h; simp only [List.map_nil] at h; unfold RepSs at h; unfold Reps; exact h
        | cons y ys ih =>
          intro cs h
          simp only [List.map_cons] at h
          unfold RepSs at h
          obtain ⟨v, cs', h4, _, _, h5, h6⟩ := h
          unfold Reps
          unfold RepS at h5
          exact ⟨v, cs', h4, h5, ih h6⟩
      exact this h3
    · subst ha
      exact RepS.back hF (fun _ => rfl) s u hr
theorem argRs_spec (hh : ∀ l ∈ bor, ∀ b, h l = some b → RepB G w b (G.β l)) : ∀ (as ss : List S) (cs : List Value), argRs ρ h bor as ss → RepSs G w as cs → RepSs (calG G ρ bor) w ss cs
  | [], ss, cs, ha, hr => by
    cases ss with
    | nil => unfold RepSs at *; exact hr
    | cons s ss => unfold argRs at ha; exact ha.elim
  | a :: as, ss, cs, ha, hr => by
    cases ss with
    | nil => unfold argRs at ha; exact ha.elim
    | cons s ss =>
      unfold argRs at ha
      unfold RepSs at hr ⊢
      obtain ⟨v, cs', h1, h2, h3, h4, h5⟩ := hr
      exact ⟨v, cs', h1, by rw [h2, ha.1], h3, argR_spec hh a s v ha.2.1 h4, argRs_spec hh as ss cs' ha.2.2 h5⟩
end
theorem argPs_spec (hh : ∀ l ∈ bor, ∀ b, h l = some b → RepB G w b (G.β l)) : ∀ (as ss : List S) (us : List Value), argPs ρ h bor as ss → RepPs G w as us → RepPs (calG G ρ bor) w ss us
  | [], ss, us, ha, hr => by
    cases ss with
    | nil => unfold RepPs at *; exact hr
    | cons s ss => unfold argPs at ha; exact ha.elim
  | a :: as, ss, us, ha, hr => by
    cases ss with
    | nil => unfold argPs at ha; exact ha.elim
    | cons s ss =>
      unfold argPs at ha
      unfold RepPs at hr ⊢
      obtain ⟨v, us', h1, h4, h5⟩ := hr
      exact ⟨v, us', h1, argR_spec hh a s v ha.1 h4, argPs_spec hh as ss us' ha.2 h5⟩
end

/-! ### The rule -/
def preR (ρ : List (Nat × Nat)) (h : Nat → Option Blk) : List (Nat × Blk) → Prop
  | [] => True
  | (l, b) :: r => h (rn ρ l) = some (b.ren ρ) ∧ preR ρ h r
def borR (h : Nat → Option Blk) : List Nat → Prop
  | [] => True
  | l :: r => (h l).isSome = true ∧ borR h r
def newL (pre post : List (Nat × Blk)) : List Nat := (post.map (·.1)).filter fun l => !(pre.map (·.1)).contains l
def postU (ρ : List (Nat × Nat)) : List (Nat × Blk) → List (Nat × Option Blk)
  | [] => []
  | (l, b) :: r => (rn ρ l, some (b.ren ρ)) :: postU ρ r
/-- What the callee has taken over: the caller's no longer. -/
def lostL (pre post : List (Nat × Blk)) : List Nat := (pre.map (·.1)).filter fun l => !(post.map (·.1)).contains l
def namL (pre post : List (Nat × Blk)) : List Nat := post.map (·.1) ++ lostL pre post
def frU : List Nat → List (Nat × Option Blk)
  | [] => []
  | l :: r => (l, none) :: frU r
theorem frU_nil : frU [] = [] := rfl
/-- What a call does: the frozen labels (fr) are the caller's no longer, and never change again; the borrowed ones (bor) come back. -/
def callE (ρ : List (Nat × Nat)) (bor fr : List Nat) (pre post : List (Nat × Blk)) (r : S) : Eff := ⟨r.ren ρ, postU ρ post ++ frU ((lostL pre post).map (rn ρ) ++ fr), (pre.map fun q => rn ρ q.1) ++ (bor ++ fr), (newL pre post).map (rn ρ)⟩
theorem hupd_fr {h : Nat → Option Blk} {k : Nat} : ∀ {fr : List Nat} {x : Blk}, hupd (frU fr) h k = some x → k ∉ fr ∧ h k = some x
  | [], x, e => ⟨by simp, e⟩
  | l :: r, x, e => by
    simp only [frU, hupd, hput] at e
    split at e
    · cases e
    · obtain ⟨h1, h2⟩ := hupd_fr e
      exact ⟨by simp_all, h2⟩
/-- The names fit. -/
def callChk (ρ : List (Nat × Nat)) (bor : List Nat) (pre post : List (Nat × Blk)) (r : S) : Bool :=
  nodupB ((namL pre post).map (rn ρ)) && (pre.all fun q => decide (q.1 < 100)) && ((newL pre post).all fun l => decide (100 ≤ rn ρ l)) &&
  (bor.all fun l => !((namL pre post).map (rn ρ)).contains l) && r.within (post.map (·.1)) && (post.all fun q => q.2.within (post.map (·.1)))

theorem preR_get {ρ : List (Nat × Nat)} {h : Nat → Option Blk} : ∀ {pre : List (Nat × Blk)} {l : Nat} {b : Blk}, preR ρ h pre → lkB pre l = some b → h (rn ρ l) = some (b.ren ρ)
  | [], l, b, _, e => by simp [lkB] at e
  | (k, b0) :: r, l, b, hp, e => by
    simp only [lkB] at e
    split at e
    · subst_vars; simp at e; subst e; exact hp.1
    · exact preR_get hp.2 e
theorem borR_get {h : Nat → Option Blk} : ∀ {bor : List Nat} {l : Nat}, borR h bor → l ∈ bor → ∃ b, h l = some b
  | [], l, _, e => by cases e
  | k :: r, l, hb, e => by
    rcases List.mem_cons.1 e with rfl | e
    · exact Option.isSome_iff_exists.1 hb.1
    · exact borR_get hb.2 e
theorem lkB_mem {l : Nat} {b : Blk} : ∀ {hs : List (Nat × Blk)}, lkB hs l = some b → (l, b) ∈ hs
  | [], e => by simp [lkB] at e
  | (k, b0) :: r, e => by
    simp only [lkB] at e
    split at e
    · subst_vars; simp at e; subst e; simp
    · simp [lkB_mem e]
theorem lkB_some {l : Nat} : ∀ {hs : List (Nat × Blk)}, l ∈ hs.map (·.1) → ∃ b, lkB hs l = some b
  | [], e => by simp at e
  | (k, b0) :: r, e => by
    simp only [lkB]
    by_cases h : l = k
    · rw [if_pos h]; exact ⟨b0, rfl⟩
    · rw [if_neg h]
      simp only [List.map_cons, List.mem_cons] at e
      exact lkB_some (e.resolve_left h)
theorem nodup_inj {α : Type} {f : α → Nat} : ∀ {l : List α}, nodupB (l.map f) = true → ∀ {x y : α}, x ∈ l → y ∈ l → f x = f y → x = y
  | [], _, x, y, hx, _, _ => by cases hx
  | a :: r, h, x, y, hx, hy, e => by
    simp only [List.map_cons, nodupB, Bool.and_eq_true, Bool.not_eq_true', List.contains_eq_mem, decide_eq_false_iff_not] at h
    rcases List.mem_cons.1 hx with hx1 | hx1 <;> rcases List.mem_cons.1 hy with hy1 | hy1
    · rw [hx1, hy1]
    · exact (h.1 (by rw [← hx1, e]; exact List.mem_map_of_mem hy1)).elim
    · exact (h.1 (by rw [← hy1, ← e]; exact List.mem_map_of_mem hx1)).elim
    · exact nodup_inj h.2 hx1 hy1 e
theorem hupd_post {ρ : List (Nat × Nat)} {h : Nat → Option Blk} {k : Nat} : ∀ {post : List (Nat × Blk)}, nodupB (post.map fun q => rn ρ q.1) = true →
    (∃ l b, lkB post l = some b ∧ rn ρ l = k ∧ hupd (postU ρ post) h k = some (b.ren ρ)) ∨ ((∀ q ∈ post, rn ρ q.1 ≠ k) ∧ hupd (postU ρ post) h k = h k)
  | [], _ => .inr ⟨by simp, rfl⟩
  | (l, b) :: r, hn => by
    have hn' := hn
    simp only [List.map_cons, nodupB, Bool.and_eq_true, Bool.not_eq_true', List.contains_eq_mem, decide_eq_false_iff_not] at hn'
    simp only [postU, hupd, hput]
    by_cases e : k = rn ρ l
    · subst e
      rw [if_pos rfl]
      exact .inl ⟨l, b, by simp [lkB], rfl, rfl⟩
    · rw [if_neg e]
      rcases hupd_post (k := k) (h := h) hn'.2 with ⟨l', b', h1, h2, h3⟩ | ⟨h1, h2⟩
      · refine .inl ⟨l', b', ?_, h2, h3⟩
        simp only [lkB]
        rw [if_neg ?_]
        · exact h1
        · rintro rfl; exact e h2.symm
      · refine .inr ⟨?_, h2⟩
        intro q hq
        rcases List.mem_cons.1 hq with rfl | hq
        · exact fun h => e h.symm
        · exact h1 q hq

theorem RepB.keep2 {G G' : Gh} {w w' : World} {nw : List Nat} (K : Keep G w G' w' nw) {b : Blk} {u : Value} (hf : ∀ l ∈ nw, b.free l = true) (hb : ∀ k, hblk u = some k → w'.heap[k]? = w.heap[k]?)
    (h : RepB G w b u) : RepB G' w' b u := by
  cases b with
  | list e s xs =>
    obtain ⟨x, cap, cells, rfl, h2, h3, h4⟩ := h
    refine ⟨x, cap, cells, rfl, Reps.mono K.fsub K.fcell xs cells h2, h3, h4.1, ?_⟩
    rcases h4.2 with h5 | ⟨g, cap', cur, hv, hB, hh, hr⟩
    · exact .inl h5
    · refine .inr ⟨g, cap', cur, hv, hB, ?_, hr⟩
      rw [hb g (by rw [hv]; rfl)]; exact hh
  | box e c =>
    obtain ⟨b, v, rfl, h2, h3, h4, h5⟩ := h
    refine ⟨b, v, rfl, RepS.keep K c v (fun l hl => by have := hf l hl; simpa [Blk.free] using this) h2, h3, h4, ?_⟩
    rw [hb b rfl]
    exact h5

theorem nodupB_left : ∀ {a b : List Nat}, nodupB (a ++ b) = true → nodupB a = true
  | [], b, _ => rfl
  | x :: a, b, h => by
    simp only [List.cons_append, nodupB, Bool.and_eq_true, Bool.not_eq_true', List.contains_eq_mem, decide_eq_false_iff_not, List.mem_append] at h ⊢
    exact ⟨fun hx => h.1 (.inl hx), nodupB_left h.2⟩
theorem CallK.fn {P : Program} {f : FuncId} {ss : List S} {pre post : List (Nat × Blk)} {r : S} (hfn : FnOk P f ss pre r post) (ρ : List (Nat × Nat)) (bor fr : List Nat) {as : List S} {h : Nat → Option Blk} {d : Nat} {K : Eff → Prop}
    (hchk : callChk ρ (bor ++ fr) pre post r = true) (hargs : argPs ρ h (bor ++ fr) as ss) (hpre : preR ρ h pre) (hbor : borR h (bor ++ fr)) (hflat : bor = [] ∨ (flatS r ∧ flatH post)) (hK : K (callE ρ bor fr pre post r)) : CallK P f as h d K := by
  simp only [callChk, Bool.and_eq_true, List.all_eq_true, decide_eq_true_eq, Bool.not_eq_true', List.contains_eq_mem, decide_eq_false_iff_not] at hchk
  obtain ⟨⟨⟨⟨⟨hnd, hpp⟩, hnew⟩, hbo⟩, hrw⟩, hpw⟩ := hchk
  refine ⟨callE ρ bor fr pre post r, ?_, ?_, hK⟩
  · intro G h' w us hh hr hfp hnw
    have hp' : ∀ l b, lkB pre l = some b → h' (rn ρ l) = some (b.ren ρ) := by
      intro l b hl
      rw [hfp (rn ρ l) (List.mem_append.2 (.inl (List.mem_map.2 ⟨(l, b), lkB_mem hl, rfl⟩)))]
      exact preR_get hpre hl
    have hb' : ∀ l ∈ bor ++ fr, h' l = h l := fun l hl => hfp l (List.mem_append.2 (.inr hl))
    have hnd' : nodupB (post.map fun q => rn ρ q.1) = true := by
      have h1 := hnd
      unfold namL at h1
      rw [List.map_append, List.map_map] at h1
      exact nodupB_left h1
    have hpm : ∀ {x : Nat}, x ∈ post.map (·.1) → x ∈ namL pre post := fun hx => List.mem_append.2 (.inl hx)
    have hpl : ∀ l b, lkB pre l = some b → l ∈ namL pre post ∧ l < 100 := fun l b hl => by
      refine ⟨?_, hpp (l, b) (lkB_mem hl)⟩
      by_cases hm : l ∈ post.map (·.1)
      · exact hpm hm
      · exact List.mem_append.2 (.inr (List.mem_filter.2 ⟨List.mem_map.2 ⟨(l, b), lkB_mem hl, rfl⟩, by simpa using hm⟩))
    have hbp : ∀ l ∈ bor ++ fr, ∀ k b, lkB pre k = some b → rn ρ k ≠ l := by
      intro l hl k b hk e
      exact hbo l hl (List.mem_map.2 ⟨k, (hpl k b hk).1, e⟩)
    have hinj : ∀ {x y : Nat}, x ∈ namL pre post → y ∈ namL pre post → rn ρ x = rn ρ y → x = y := fun hx hy e => nodup_inj hnd hx hy e
    have hcal : HeapOk (calG G ρ (bor ++ fr)) w (lkB pre) := by
      refine ⟨?_, ?_, ?_, ?_⟩
      · intro l b hl
        exact RepB.back (G' := calG G ρ (bor ++ fr)) (fun b hb => Or.inl hb) (fun _ => rfl) (hh.rep _ _ (hp' l b hl))
      · intro l b k hl hk hF
        rcases hF with hF | ⟨l2, h2, h3⟩
        · exact hh.sep _ _ k (hp' l b hl) hk hF
        · obtain ⟨b2, h4⟩ := borR_get hbor h2
          exact hbp l2 h2 l b hl (hh.inj _ _ _ _ k (hp' l b hl) (by rw [hb' l2 h2]; exact h4) hk h3)
      · intro l l' b b' k hl hl' hk hk'
        exact hinj (hpl l b hl).1 (hpl l' b' hl').1 (hh.inj _ _ _ _ k (hp' l b hl) (hp' l' b' hl') hk hk')
      · intro b hb
        rcases hb with hb | ⟨l, h2, h3⟩
        · exact hh.fb b hb
        · obtain ⟨b2, h4⟩ := borR_get hbor h2
          exact (hh.rep l b2 (by rw [hb' l h2]; exact h4)).lt h3
    have hus : RepPs (calG G ρ (bor ++ fr)) w ss us := argPs_spec (fun l hl b hb => hh.rep l b (by rw [hb' l hl]; exact hb)) as ss us hargs hr
    refine (hfn (calG G ρ (bor ++ fr)) w us hcal hus).mono ?_
    rintro e w' ⟨v, G1, rfl, hfr, hh1, hr1⟩
    let β' : Nat → Value := fun l => match (newL pre post).find? (fun x => rn ρ x == l) with
      | some x => G1.β x
      | none => G.β l
    let G' : Gh := ⟨fun b => G1.F b ∧ ∀ l ∈ bor, hblk (G.β l) ≠ some b, β'⟩
    have hnewmem : ∀ x, x ∈ newL pre post → x ∈ post.map (·.1) ∧ x ∉ pre.map (·.1) := by
      intro x hx
      have := List.mem_filter.1 hx
      refine ⟨this.1, ?_⟩
      simpa using this.2
    have hβnew : ∀ l, l ∉ (newL pre post).map (rn ρ) → β' l = G.β l := by
      intro l hl
      show (match (newL pre post).find? (fun x => rn ρ x == l) with | some x => G1.β x | none => G.β l) = G.β l
      cases hf : (newL pre post).find? (fun x => rn ρ x == l) with
      | none => rfl
      | some x =>
        have h1 := List.find?_some hf
        have h2 := List.mem_of_find?_eq_some hf
        simp at h1
        exact (hl (List.mem_map.2 ⟨x, h2, h1⟩)).elim
    have hβpost : ∀ x, x ∈ post.map (·.1) → β' (rn ρ x) = G1.β x := by
      intro x hx
      by_cases hxp : x ∈ pre.map (·.1)
      · rw [hβnew]
        · obtain ⟨b, hb⟩ := lkB_some hxp
          exact (hfr.same x (hpl x b hb).2).symm
        · intro hm
          obtain ⟨y, hy, hy2⟩ := List.mem_map.1 hm
          have := hinj (hpm (hnewmem y hy).1) (hpm hx) hy2
          subst this
          exact (hnewmem y hy).2 hxp
      · have hxn : x ∈ newL pre post := List.mem_filter.2 ⟨hx, by simpa using hxp⟩
        show (match (newL pre post).find? (fun y => rn ρ y == rn ρ x) with | some y => G1.β y | none => G.β (rn ρ x)) = G1.β x
        cases hf : (newL pre post).find? (fun y => rn ρ y == rn ρ x) with
        | none =>
          have := List.find?_eq_none.1 hf x hxn
          simp at this
        | some y =>
          have h1 := List.find?_some hf
          have h2 := List.mem_of_find?_eq_some hf
          simp at h1
          have := hinj (hpm (hnewmem y h2).1) (hpm hx) h1
          subst this
          rfl
    have hto : To G1 G' ρ (post.map (·.1)) := ⟨fun l hl => hβpost l (by simpa using hl)⟩
    have hFto : bor = [] → ∀ b, G1.F b → G'.F b := by
      intro hb b hF
      exact ⟨hF, by rw [hb]; simp⟩
    have hownA : ∀ b, ownA (calG G ρ (bor ++ fr)) pre b → ∃ l x, h' l = some x ∧ hblk (G.β l) = some b ∧ ∃ l0, lkB pre l0 = some (Classical.choice ⟨x⟩) ∨ rn ρ l0 = l := by
      rintro b ⟨l, x, h1, h2⟩
      exact ⟨rn ρ l, _, hp' l x h1, h2, l, .inr rfl⟩
    have hownA' : ∀ b, ownA (calG G ρ (bor ++ fr)) pre b → ∃ l0 x0, lkB pre l0 = some x0 ∧ hblk (G.β (rn ρ l0)) = some b := by
      rintro b ⟨l, x, h1, h2⟩
      exact ⟨l, x, h1, h2⟩
    have hkeep : Keep G w G' w' ((newL pre post).map (rn ρ)) := by
      refine ⟨fun b hb => ⟨hfr.fin b (.inl hb), fun l hl e => ?_⟩, fun b o hb => cell_block (hfr.block b (hh.fb b hb) ?_), hβnew⟩
      · have hl := List.mem_append_left fr hl
        obtain ⟨b2, h4⟩ := borR_get hbor hl
        exact hh.sep l b2 b (by rw [hb' l hl]; exact h4) e hb
      · intro hA
        obtain ⟨l0, x0, h1, h2⟩ := hownA' b hA
        exact hh.sep _ _ b (hp' l0 x0 h1) h2 hb
    -- a label of the caller's that the call does not know
    have hother : ∀ {k : Nat} {x : Blk} {b : Nat}, (∀ q ∈ namL pre post, rn ρ q ≠ k) → h' k = some x → hblk (G.β k) = some b → ¬ ownA (calG G ρ (bor ++ fr)) pre b := by
      intro k x b hk hx hb hA
      obtain ⟨l0, x0, h1, h2⟩ := hownA' b hA
      have := hh.inj _ _ _ _ b hx (hp' l0 x0 h1) hb h2
      exact hk l0 (hpl l0 x0 h1).1 this.symm
    have hknew : ∀ {k : Nat}, (∀ q ∈ namL pre post, rn ρ q ≠ k) → k ∉ (newL pre post).map (rn ρ) := by
      intro k hk hm
      obtain ⟨y, hy, hy2⟩ := List.mem_map.1 hm
      exact hk y (hpm (hnewmem y hy).1) hy2
    have cases' : ∀ k x, hupd (postU ρ post ++ frU ((lostL pre post).map (rn ρ) ++ fr)) h' k = some x → (∃ l b, lkB post l = some b ∧ rn ρ l = k ∧ x = b.ren ρ) ∨ (((∀ q ∈ namL pre post, rn ρ q ≠ k) ∧ k ∉ fr) ∧ h' k = some x) := by
      intro k x hx
      rw [hupd_app] at hx
      rcases hupd_post (k := k) (h := hupd (frU ((lostL pre post).map (rn ρ) ++ fr)) h') hnd' with ⟨l, b, h1, h2, h3⟩ | ⟨h1, h2⟩
      · rw [h3] at hx
        simp at hx
        exact .inl ⟨l, b, h1, h2, hx.symm⟩
      · rw [h2] at hx
        have h3 := (hupd_fr hx).1
        simp only [List.mem_append, not_or] at h3
        refine .inr ⟨⟨?_, h3.2⟩, (hupd_fr hx).2⟩
        intro q hq
        rcases List.mem_append.1 hq with hq | hq
        · obtain ⟨p, hp, rfl⟩ := List.mem_map.1 hq
          exact h1 p hp
        · exact fun e => h3.1 (List.mem_map.2 ⟨q, hq, e⟩)
    have hmemp : ∀ l b, lkB post l = some b → l ∈ post.map (·.1) := fun l b hl => List.mem_map.2 ⟨(l, b), lkB_mem hl, rfl⟩
    have hflatB : ∀ l b, lkB post l = some b → (∀ b, G1.F b → G'.F b) ∨ flatB b := by
      intro l b hl
      rcases hflat with h1 | ⟨_, h1⟩
      · exact .inl (hFto h1)
      · right
        have : ∀ {hs : List (Nat × Blk)}, flatH hs → lkB hs l = some b → flatB b := by
          intro hs
          induction hs with
          | nil => intro _ e; simp [lkB] at e
          | cons q rs ih =>
            obtain ⟨k, b0⟩ := q
            intro hf e
            simp only [lkB] at e
            split at e
            · simp at e; subst e; exact hf.1
            · exact ih hf.2 e
        exact this h1 hl
    have hheap : HeapOk G' w' (hupd (postU ρ post ++ frU ((lostL pre post).map (rn ρ) ++ fr)) h') := by
      refine ⟨?_, ?_, ?_, fun b hb => hh1.fb b hb.1⟩
      · intro k x hx
        rcases cases' k x hx with ⟨l, b, h1, rfl, rfl⟩ | ⟨⟨h1, h1f⟩, h2⟩
        · show RepB G' w' (b.ren ρ) (β' (rn ρ l))
          rw [hβpost l (hmemp l b h1)]
          exact RepB.to hto (hpw (l, b) (lkB_mem h1)) (hflatB l b h1) (hh1.rep l b h1)
        · show RepB G' w' x (β' k)
          rw [hβnew k (hknew h1)]
          refine RepB.keep2 hkeep (fun l hl => (hnw l hl).2 k x h2) ?_ (hh.rep k x h2)
          intro b hb
          exact hfr.block b ((hh.rep k x h2).lt hb) (hother h1 h2 hb)
      · intro k x b hx hb hF
        rcases cases' k x hx with ⟨l, b0, h1, rfl, rfl⟩ | ⟨⟨h1, h1f⟩, h2⟩
        · have hb2 : hblk (β' (rn ρ l)) = some b := hb
          rw [hβpost l (hmemp l b0 h1)] at hb2
          exact hh1.sep l b0 b h1 hb2 hF.1
        · have hb2 : hblk (β' k) = some b := hb
          rw [hβnew k (hknew h1)] at hb2
          rcases hfr.fout b hF.1 with h3 | h3 | h3
          · rcases h3 with h3 | ⟨l2, h4, h5⟩
            · exact hh.sep k x b h2 hb2 h3
            · rcases List.mem_append.1 h4 with h6 | h6
              · exact hF.2 l2 h6 h5
              · obtain ⟨b2, h7⟩ := borR_get hbor h4
                have := hh.inj k l2 _ _ b h2 (by rw [hb' l2 h4]; exact h7) hb2 h5
                exact h1f (this ▸ h6)
          · exact hother h1 h2 hb2 h3
          · have := (hh.rep k x h2).lt hb2
            omega
      · have cross : ∀ k x l b0 b, (∀ q ∈ namL pre post, rn ρ q ≠ k) → h' k = some x → lkB post l = some b0 → hblk (G.β k) = some b → hblk (G1.β l) = some b → False := by
          intro k x l b0 b h1 h2 h3 h4 h5
          rcases hfr.own l b0 b h3 h5 with h6 | h6
          · exact hother h1 h2 h4 h6
          · have := (hh.rep k x h2).lt h4
            omega
        intro k k' x x' b hx hx' hb hb'
        have hb2 : hblk (β' k) = some b := hb
        have hb2' : hblk (β' k') = some b := hb'
        rcases cases' k x hx with ⟨l, b0, h1, rfl, rfl⟩ | ⟨⟨h1, h1f⟩, h2⟩ <;> rcases cases' k' x' hx' with ⟨l', b0', h1', rfl, rfl⟩ | ⟨⟨h1', h1f'⟩, h2'⟩
        · rw [hβpost l (hmemp l b0 h1)] at hb2
          rw [hβpost l' (hmemp l' b0' h1')] at hb2'
          rw [hh1.inj l l' b0 b0' b h1 h1' hb2 hb2']
        · rw [hβpost l (hmemp l b0 h1)] at hb2
          rw [hβnew k' (hknew h1')] at hb2'
          exact (cross k' x' l b0 b h1' h2' h1 hb2' hb2).elim
        · rw [hβnew k (hknew h1)] at hb2
          rw [hβpost l' (hmemp l' b0' h1')] at hb2'
          exact (cross k x l' b0' b h1 h2 h1' hb2 hb2').elim
        · rw [hβnew k (hknew h1)] at hb2
          rw [hβnew k' (hknew h1')] at hb2'
          exact hh.inj k k' x x' b h2 h2' hb2 hb2'
    refine ⟨v, G', rfl, ⟨hkeep, hheap, hfr.os, hfr.tape, hfr.output, hfr.size, ?_, ?_, ?_⟩, ?_⟩
    · intro b hb hno
      refine hfr.block b hb ?_
      intro hA
      obtain ⟨l0, x0, h1, h2⟩ := hownA' b hA
      exact hno _ _ (hp' l0 x0 h1) h2
    · intro k x b hx hb
      have hb2 : hblk (β' k) = some b := hb
      rcases cases' k x hx with ⟨l, b0, h1, rfl, rfl⟩ | ⟨⟨h1, h1f⟩, h2⟩
      · rw [hβpost l (hmemp l b0 h1)] at hb2
        rcases hfr.own l b0 b h1 hb2 with h3 | h3
        · obtain ⟨l0, x0, h4, h5⟩ := hownA' b h3
          exact .inl ⟨_, _, hp' l0 x0 h4, h5⟩
        · exact .inr h3
      · rw [hβnew k (hknew h1)] at hb2
        exact .inl ⟨k, x, h2, hb2⟩
    · intro b hb
      rcases hfr.fout b hb.1 with h3 | h3 | h3
      · rcases h3 with h3 | ⟨l2, h4, h5⟩
        · exact .inl h3
        · rcases List.mem_append.1 h4 with h6 | h6
          · exact (hb.2 l2 h6 h5).elim
          · obtain ⟨b2, h7⟩ := borR_get hbor h4
            exact .inr (.inl ⟨l2, b2, by rw [hb' l2 h4]; exact h7, h5⟩)
      · obtain ⟨l0, x0, h4, h5⟩ := hownA' b h3
        exact .inr (.inl ⟨_, _, hp' l0 x0 h4, h5⟩)
      · exact .inr (.inr h3)
    · exact RepS.to hto r v hrw (hflat.imp (fun h => hFto h) fun h => h.1) hr1
  · intro l hl
    obtain ⟨x, hx, rfl⟩ := List.mem_map.1 hl
    exact hnew x hx
end Go.Proofs.Ytgjfkklemelejaa.Sy
