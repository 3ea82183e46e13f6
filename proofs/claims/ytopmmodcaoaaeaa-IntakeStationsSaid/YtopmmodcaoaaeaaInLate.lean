/- IntakeLate, the plain part: what comes late is given out in order. No condition. The law IntakeLate. No condition. The law IntakeLate, walked. No condition. -/
import Derived.Test.YtopmmodcaoaaeaaInY
import Derived.Test.YtopmmodcaoaaeaaKPick
import Derived.Test.YtopmmodcaoaaeaaKArg
namespace Go.Proofs.Ytopmmodcaoaaeaa
open Go.RowKit Sy
set_option linter.unusedVariables false
set_option linter.unusedSimpArgs false
namespace Lt
theorem asc_cons {a : Int} {l : List Int} (h : ∀ x ∈ l, a < x) (hl : Asc l) : Asc (a :: l) := by
  cases l with
  | nil => trivial
  | cons b r => exact ⟨h b (by simp), hl⟩
theorem asc_ext : ∀ {L M : List Int}, Asc L → Asc M → (∀ x, x ∈ L ↔ x ∈ M) → L = M
  | [], [], _, _, _ => rfl
  | [], b :: M, _, _, h => by have := (h b).2 (by simp); simp at this
  | a :: L, [], _, _, h => by have := (h a).1 (by simp); simp at this
  | a :: L, b :: M, h1, h2, h => by
    have e : a = b := by
      rcases List.mem_cons.1 ((h a).1 (by simp)) with e | e
      · exact e
      · rcases List.mem_cons.1 ((h b).2 (by simp)) with e2 | e2
        · exact e2.symm
        · have := asc_lt h1 b e2; have := asc_lt h2 a e; omega
    subst e
    rw [asc_ext (asc_tail h1) (asc_tail h2) fun x => ?_]
    constructor
    · intro hx
      rcases List.mem_cons.1 ((h x).1 (List.mem_cons_of_mem _ hx)) with e | e
      · have := asc_lt h1 x hx; omega
      · exact e
    · intro hx
      rcases List.mem_cons.1 ((h x).2 (List.mem_cons_of_mem _ hx)) with e | e
      · have := asc_lt h2 x hx; omega
      · exact e
theorem asc_len : ∀ {L : List Int} {a b : Int}, Asc L → (∀ x ∈ L, a < x ∧ x ≤ b) → (L.length : Int) ≤ max (b - a) 0
  | [], a, b, _, _ => by simp; omega
  | x :: L, a, b, h, hx => by
    have h1 := hx x (by simp)
    have h2 := asc_len (a := x) (b := b) (asc_tail h) fun y hy => ⟨asc_lt h y hy, (hx y (List.mem_cons_of_mem _ hy)).2⟩
    simp only [List.length_cons]
    omega
/-- The numbers below n of which P holds. -/
def sel (n : Nat) (P : Nat → Bool) : List Int := ((List.range n).filter P).map fun i : Nat => (i : Int)
theorem asc_map : ∀ {l : List Nat}, l.Pairwise (· < ·) → Asc (l.map fun i : Nat => (i : Int))
  | [], _ => trivial
  | a :: l, h => by
    rw [List.pairwise_cons] at h
    refine asc_cons (fun x hx => ?_) (asc_map h.2)
    obtain ⟨y, hy, rfl⟩ := List.mem_map.1 hx
    have := h.1 y hy
    show (a : Int) < (y : Int)
    omega
theorem sel_asc (n : Nat) (P : Nat → Bool) : Asc (sel n P) := asc_map (List.Pairwise.filter _ List.pairwise_lt_range)
theorem mem_sel {n : Nat} {P : Nat → Bool} {x : Int} : x ∈ sel n P ↔ ∃ i : Nat, x = (i : Int) ∧ i < n ∧ P i = true := by
  unfold sel
  simp only [List.mem_map, List.mem_filter, List.mem_range]
  constructor
  · rintro ⟨i, ⟨h1, h2⟩, rfl⟩; exact ⟨i, rfl, h1, h2⟩
  · rintro ⟨i, rfl, h1, h2⟩; exact ⟨i, ⟨h1, h2⟩, rfl⟩
def lTg (i : Int) : Tg := ⟨7, 0, i, 0, 1, []⟩
theorem lTg_ok {i : Int} (h0 : 0 ≤ i) (h1 : i ≤ 1000) : TgOk (lTg i) := ⟨by simp [lTg], by simp [lTg], by simp [lTg]; omega, by simp [lTg], by simp [lTg], by simp [lTg], by simp [lTg]⟩
theorem keys_map (L : List Int) : keys (L.map lTg) = L := by
  unfold keys
  rw [List.map_map]
  conv => rhs; rw [← List.map_id L]
  rfl
/-- Those that come next, one behind the other. -/
theorem give_run : ∀ (L : List Int) (f : Int), Asc L → (∀ x ∈ L, f ≤ x) → ∃ m, giveN f (L.map lTg) = m ∧ m ≤ L.length ∧ L.take m = (List.range m).map (fun j : Nat => f + (j : Int)) ∧ ∀ x ∈ L.drop m, f + m < x
  | [], f, _, _ => ⟨0, rfl, by simp, by simp, by simp⟩
  | a :: L, f, h, hf => by
    have ha := hf a (by simp)
    by_cases e : a = f
    · subst e
      obtain ⟨m, h1, h2, h3, h4⟩ := give_run L (a + 1) (asc_tail h) fun x hx => by have := asc_lt h x hx; omega
      refine ⟨m + 1, ?_, by simp; omega, ?_, ?_⟩
      · rw [List.map_cons]
        unfold giveN
        rw [if_pos (show (lTg a).sq = a from rfl), h1]
      · rw [List.take_succ_cons, h3, List.range_succ_eq_map, List.map_cons, List.map_map]
        simp only [List.cons.injEq]
        refine ⟨by simp, List.map_congr_left fun j _ => ?_⟩
        simp only [Function.comp]
        omega
      · intro x hx
        rw [List.drop_succ_cons] at hx
        have := h4 x hx
        omega
    · refine ⟨0, ?_, by simp, by simp, ?_⟩
      · rw [List.map_cons]
        unfold giveN
        rw [if_neg (by simpa [lTg] using e)]
      · intro x hx
        rw [List.drop_zero] at hx
        rcases List.mem_cons.1 hx with rfl | hx
        · omega
        · have := asc_lt h x hx; omega
/-- What the entry holds when those in c have come, and f is the least that has not. -/
def ent (c : Nat → Bool) (f n : Nat) : Wt := ⟨7, 0, f, (sel n fun i => c i && decide (f < i)).map lTg⟩
def upd (c : Nat → Bool) (q : Nat) : Nat → Bool := fun i => c i || decide (i = q)
structure Inv (c : Nat → Bool) (f n win : Nat) : Prop where
  le : f ≤ n
  lo : ∀ i, i < f → c i = true
  at' : f < n → c f = false
  hi : ∀ i, i < n → c i = true → i ≤ f + win
theorem take_first {c : Nat → Bool} {f n win q : Nat} (h : Inv c f n win) (hq : c q = false) (hqn : q < n) (hqw : q ≤ f + win) :
    ∃ f', Inv (upd c q) f' n win ∧ f ≤ f' ∧ takeV (ent c f n) (lTg q) win = (ent (upd c q) f' n, ((List.range (f' - f)).map fun j : Nat => ((f + j : Nat) : Int)).map lTg) := by
  have hfq : f ≤ q := by
    rcases Nat.lt_or_ge q f with h1 | h1
    · have := h.lo q h1; rw [hq] at this; cases this
    · exact h1
  obtain ⟨K, hK⟩ : ∃ K, K = sel n fun i => c i && decide (f < i) := ⟨_, rfl⟩
  obtain ⟨L, hL⟩ : ∃ L, L = sel n fun i => upd c q i && decide (f ≤ i) := ⟨_, rfl⟩
  have hKa : Asc K := by rw [hK]; exact sel_asc _ _
  have hLa : Asc L := by rw [hL]; exact sel_asc _ _
  have mK : ∀ x, x ∈ K ↔ ∃ i : Nat, x = (i : Int) ∧ i < n ∧ c i = true ∧ f < i := fun x => by rw [hK, mem_sel]; simp
  have mL : ∀ x, x ∈ L ↔ ∃ i : Nat, x = (i : Int) ∧ i < n ∧ (c i = true ∨ i = q) ∧ f ≤ i := fun x => by rw [hL, mem_sel]; simp [upd]
  have hqK : (q : Int) ∉ K := fun hx => by
    obtain ⟨i, h1, _, h2, _⟩ := (mK _).1 hx
    have : i = q := by omega
    subst this
    rw [hq] at h2; cases h2
  have hne : K[lb q K]? ≠ some (q : Int) := fun hx => hqK (List.mem_of_getElem? hx)
  have hins : K.take (lb q K) ++ (q : Int) :: K.drop (lb q K) = L := by
    refine asc_ext (asc_ins hKa hne) hLa fun x => ?_
    rw [mL]
    simp only [List.mem_append, List.mem_cons]
    constructor
    · rintro (hx | rfl | hx)
      · obtain ⟨i, h1, h2, h3, h4⟩ := (mK x).1 (List.mem_of_mem_take hx)
        exact ⟨i, h1, h2, .inl h3, by omega⟩
      · exact ⟨q, rfl, hqn, .inr rfl, hfq⟩
      · obtain ⟨i, h1, h2, h3, h4⟩ := (mK x).1 (List.mem_of_mem_drop hx)
        exact ⟨i, h1, h2, .inl h3, by omega⟩
    · rintro ⟨i, rfl, h2, h3, h4⟩
      rcases h3 with h3 | rfl
      · have hfi : f ≠ i := by
          rintro rfl
          have := h.at' h2
          rw [this] at h3; cases h3
        have hx : (i : Int) ∈ K := (mK _).2 ⟨i, rfl, h2, h3, by omega⟩
        rw [← List.take_append_drop (lb q K) K, List.mem_append] at hx
        rcases hx with hx | hx
        · exact .inl hx
        · exact .inr (.inr hx)
      · exact .inr (.inl rfl)
  obtain ⟨m, g1, g2, g3, g4⟩ := give_run L f hLa fun x hx => by obtain ⟨i, rfl, _, _, h4⟩ := (mL x).1 hx; omega
  have hsplit : ∀ x, x ∈ L ↔ x ∈ L.take m ∨ x ∈ L.drop m := fun x => by rw [← List.mem_append, List.take_append_drop]
  have mT : ∀ x, x ∈ L.take m ↔ ∃ j : Nat, j < m ∧ x = f + (j : Int) := fun x => by
    rw [g3]; simp only [List.mem_map, List.mem_range]
    constructor
    · rintro ⟨j, h1, rfl⟩; exact ⟨j, h1, rfl⟩
    · rintro ⟨j, h1, rfl⟩; exact ⟨j, h1, rfl⟩
  have hrun : ∀ i, f ≤ i → i < f + m → upd c q i = true ∧ i < n := fun i h1 h2 => by
    have : (i : Int) ∈ L := (hsplit _).2 (.inl ((mT _).2 ⟨i - f, by omega, by omega⟩))
    obtain ⟨i', h3, h4, h5, _⟩ := (mL _).1 this
    have : i = i' := by omega
    subst this
    exact ⟨by unfold upd; rcases h5 with h5 | h5 <;> simp [h5], h4⟩
  have hn' : f + m ≤ n := by
    rcases Nat.eq_zero_or_pos m with h0 | h0
    · rw [h0]; exact h.le
    · have := (hrun (f + m - 1) (by omega) (by omega)).2; omega
  have hat : f + m < n → upd c q (f + m) = false := fun h1 => by
    cases hu : upd c q (f + m) with
    | false => rfl
    | true =>
      exfalso
      have : ((f + m : Nat) : Int) ∈ L := (mL _).2 ⟨f + m, rfl, h1, by unfold upd at hu; simpa using hu, by omega⟩
      rcases (hsplit _).1 this with hx | hx
      · obtain ⟨j, h2, h3⟩ := (mT _).1 hx; omega
      · have := g4 _ hx; omega
  have hhi : ∀ i, i < n → upd c q i = true → i ≤ f + win := fun i h1 h2 => by
    unfold upd at h2
    simp only [Bool.or_eq_true, decide_eq_true_eq] at h2
    rcases h2 with h2 | rfl
    · exact h.hi i h1 h2
    · exact hqw
  have hinv : Inv (upd c q) (f + m) n win := ⟨hn', fun i hi => by
      rcases Nat.lt_or_ge i f with h1 | h1
      · unfold upd; rw [h.lo i h1]; rfl
      · exact (hrun i h1 hi).1, hat, fun i h1 h2 => by have := hhi i h1 h2; omega⟩
  have hdrop : L.drop m = sel n fun i => upd c q i && decide (f + m < i) := by
    have hda : Asc (L.drop m) := by
      have : ∀ (M : List Int) (j : Nat), Asc M → Asc (M.drop j) := by
        intro M j
        induction j generalizing M with
        | zero => intro h; simpa using h
        | succ j ih =>
          intro h
          cases M with
          | nil => simpa using h
          | cons a M => rw [List.drop_succ_cons]; exact ih M (asc_tail h)
      exact this L m hLa
    refine asc_ext hda (sel_asc _ _) fun x => ?_
    rw [mem_sel]
    constructor
    · intro hx
      have h1 := g4 x hx
      obtain ⟨i, rfl, h2, h3, h4⟩ := (mL x).1 ((hsplit x).2 (.inr hx))
      exact ⟨i, rfl, h2, by unfold upd; simp only [Bool.and_eq_true, Bool.or_eq_true, decide_eq_true_eq]; exact ⟨h3, by omega⟩⟩
    · rintro ⟨i, rfl, h2, h3⟩
      unfold upd at h3
      simp only [Bool.and_eq_true, Bool.or_eq_true, decide_eq_true_eq] at h3
      have : (i : Int) ∈ L := (mL _).2 ⟨i, rfl, h2, h3.1, by omega⟩
      rcases (hsplit _).1 this with hx | hx
      · obtain ⟨j, h4, h5⟩ := (mT _).1 hx; omega
      · exact hx
  refine ⟨f + m, hinv, by omega, ?_⟩
  have hkeys : keys (ent c f n).held = K := by unfold ent; dsimp only; rw [keys_map, hK]
  have hdl : ((L.drop m).length : Int) ≤ win := by
    have := asc_len (L := L.drop m) (a := ((f + m : Nat) : Int)) (b := ((f + win : Nat) : Int)) (by rw [hdrop]; exact sel_asc _ _) fun x hx => by
      have h1 := g4 x hx
      obtain ⟨i, rfl, h2, h3, h4⟩ := (mL x).1 ((hsplit x).2 (.inr hx))
      have := hhi i h2 (by unfold upd; rcases h3 with h3 | h3 <;> simp [h3])
      omega
    omega
  have hput : takeV (ent c f n) (lTg q) win = endV ⟨7, 0, f, L.map lTg⟩ [] win := by
    unfold takeV
    rw [if_neg (by show ¬ ((0 : Int) < 0 ∨ (0 : Int) = 0 ∧ (q : Int) < (f : Int)); omega), if_neg (by show ¬ (0 : Int) < 0; omega)]
    unfold putV
    have hno : ¬ ∃ x, (ent c f n).held[lb (lTg q).sq (keys (ent c f n).held)]? = some x ∧ x.sq = (lTg q).sq := by
      rw [← keys_at, hkeys]
      exact hne
    rw [if_neg hno, hkeys]
    congr 1
    show Wt.mk 7 0 (f : Int) _ = _
    congr 1
    rw [← hins]
    unfold ent
    dsimp only
    rw [← hK, List.map_append, List.map_cons, List.map_take, List.map_drop]
    simp [lTg]
  rw [hput]
  have hgW : gvW ⟨7, 0, f, L.map lTg⟩ = ent (upd c q) (f + m) n := by
    unfold gvW ent
    dsimp only
    rw [g1, ← List.map_drop, hdrop]
    congr 1
  have hgL : gvL ⟨7, 0, f, L.map lTg⟩ = ((List.range m).map fun j : Nat => ((f + j : Nat) : Int)).map lTg := by
    unfold gvL
    dsimp only
    rw [g1, ← List.map_take, g3]
    congr 1
  rw [show f + m - f = m by omega]
  unfold endV
  rw [hgW, hgL]
  have hlen : ((ent (upd c q) (f + m) n).held.length : Int) ≤ win := by
    unfold ent
    dsimp only
    rw [List.length_map, ← hdrop]
    exact hdl
  cases hh : (ent (upd c q) (f + m) n).held with
  | nil => rfl
  | cons x r =>
    dsimp only
    rw [if_neg (by rw [hh] at hlen; simpa using hlen)]
    simp
/-- What has come is not given out again. -/
theorem take_again {c : Nat → Bool} {f n win q : Nat} (h : Inv c f n win) (hq : c q = true) (hqn : q < n) : takeV (ent c f n) (lTg q) win = (ent c f n, []) := by
  unfold takeV
  by_cases h1 : q < f
  · rw [if_pos (.inr ⟨rfl, by show (q : Int) < (f : Int); omega⟩)]
  · rw [if_neg (by show ¬ ((0 : Int) < 0 ∨ (0 : Int) = 0 ∧ (q : Int) < (f : Int)); omega), if_neg (by show ¬ (0 : Int) < 0; omega)]
    unfold putV
    rw [if_pos]
    rw [← keys_at]
    have hkeys : keys (ent c f n).held = sel n fun i => c i && decide (f < i) := by unfold ent; dsimp only; rw [keys_map]
    rw [hkeys]
    have hfq : f ≠ q := by
      rintro rfl
      rw [h.at' hqn] at hq; cases hq
    have hm : (q : Int) ∈ sel n fun i => c i && decide (f < i) := mem_sel.2 ⟨q, rfl, hqn, by simp [hq]; omega⟩
    obtain ⟨j, hj⟩ := List.mem_iff_getElem?.1 hm
    have ha := sel_asc n fun i => c i && decide (f < i)
    have h3 : ∀ (l : List Int), Asc l → (q : Int) ∈ l → l[lb q l]? = some (q : Int) := by
      intro l
      induction l with
      | nil => intro _ hx; simp at hx
      | cons a r ih =>
        intro ha hx
        unfold lb
        rcases List.mem_cons.1 hx with rfl | hx
        · rw [if_neg (by omega)]; rfl
        · rw [if_pos (asc_lt ha _ hx)]
          simpa using ih (asc_tail ha) hx
    exact h3 _ ha hm
end Lt
end Go.Proofs.Ytopmmodcaoaaeaa
namespace Go.Proofs.Ytopmmodcaoaaeaa
open Go.RowKit Sy
set_option linter.unusedVariables false
set_option linter.unusedSimpArgs false
namespace Lt
def mis (n : Nat) (c : Nat → Bool) : List Int := sel n fun i => !c i
def cam (n : Nat) (c : Nat → Bool) : List T := (List.range n).map fun i => T.bool (c i)
theorem mis0 (n : Nat) : mis n (fun _ => false) = (List.range n).map fun i : Nat => (i : Int) := by
  unfold mis sel
  congr 1
  exact List.filter_eq_self.2 (by simp)
theorem mis_len {n : Nat} {c : Nat → Bool} : (mis n c).length ≤ n := by
  unfold mis sel
  rw [List.length_map]
  have := List.length_filter_le (fun i => !c i) (List.range n)
  simpa using this
theorem cam_len {n : Nat} {c : Nat → Bool} : (cam n c).length = n := by simp [cam]
theorem cam_get {n : Nat} {c : Nat → Bool} {i : Nat} (h : i < n) : (cam n c)[i]? = some (T.bool (c i)) := by simp [cam, h]
theorem cam_set {n : Nat} {c : Nat → Bool} {q : Nat} : (cam n c).set q (T.bool true) = cam n (upd c q) := by
  apply List.ext_getElem?
  intro i
  rw [List.getElem?_set]
  by_cases h : q = i
  · subst h
    rw [if_pos rfl, cam_len]
    split
    · rename_i h2
      rw [cam_get h2]
      simp [upd]
    · rename_i h2
      simp [cam, h2]
  · rw [if_neg h]
    by_cases h2 : i < n
    · rw [cam_get h2, cam_get h2]
      have : ¬ i = q := fun e => h e.symm
      simp [upd, this]
    · simp [cam, h2]
theorem mis_del {n : Nat} {c : Nat → Bool} {k q : Nat} (h : (mis n c)[k]? = some (q : Int)) : (mis n c).take k ++ (mis n c).drop (k + 1) = mis n (upd c q) := by
  have ha : Asc (mis n c) := sel_asc _ _
  have key : ∀ (L : List Int) (k : Nat) (q : Int), Asc L → L[k]? = some q → Asc (L.take k ++ L.drop (k + 1)) ∧ ∀ x, x ∈ L.take k ++ L.drop (k + 1) ↔ x ∈ L ∧ x ≠ q := by
    intro L
    induction L with
    | nil => intro k q _ h; simp at h
    | cons a r ih =>
      intro k q ha hk
      cases k with
      | zero =>
        simp at hk
        subst hk
        refine ⟨by simpa using asc_tail ha, fun x => ?_⟩
        simp only [List.take_zero, List.nil_append, List.drop_succ_cons, List.drop_zero, List.mem_cons]
        constructor
        · intro hx; have := asc_lt ha x hx; exact ⟨.inr hx, by omega⟩
        · rintro ⟨rfl | hx, h2⟩
          · exact absurd rfl h2
          · exact hx
      | succ k =>
        simp at hk
        obtain ⟨h1, h2⟩ := ih k q (asc_tail ha) hk
        rw [List.take_succ_cons, List.drop_succ_cons, List.cons_append]
        refine ⟨asc_cons (fun x hx => asc_lt ha x ((h2 x).1 hx).1) h1, fun x => ?_⟩
        simp only [List.mem_cons, h2]
        have hq := asc_lt ha q (List.mem_of_getElem? hk)
        constructor
        · rintro (rfl | ⟨hx, h3⟩)
          · exact ⟨.inl rfl, by omega⟩
          · exact ⟨.inr hx, h3⟩
        · rintro ⟨rfl | hx, h3⟩
          · exact .inl rfl
          · exact .inr ⟨hx, h3⟩
  obtain ⟨h1, h2⟩ := key _ k q ha h
  refine asc_ext h1 (sel_asc _ _) fun x => ?_
  rw [h2]
  unfold mis
  rw [mem_sel, mem_sel]
  constructor
  · rintro ⟨⟨i, rfl, h3, h4⟩, h5⟩
    refine ⟨i, rfl, h3, ?_⟩
    have : ¬ i = q := fun e => h5 (by rw [e])
    unfold upd
    simp only [Bool.not_eq_true'] at h4
    simp [h4, this]
  · rintro ⟨i, rfl, h3, h4⟩
    unfold upd at h4
    simp only [Bool.not_eq_true', Bool.or_eq_false_iff, decide_eq_false_iff_not] at h4
    exact ⟨⟨i, rfl, h3, by simp [h4.1]⟩, by omega⟩
theorem mis_at {n : Nat} {c : Nat → Bool} {k : Nat} (h : k < (mis n c).length) : ∃ q : Nat, (mis n c)[k]? = some (q : Int) ∧ q < n ∧ c q = false := by
  obtain ⟨x, hx⟩ := has_get h
  obtain ⟨i, rfl, h1, h2⟩ := mem_sel.1 (mem_get hx)
  exact ⟨i, hx, h1, by simpa using h2⟩
/-- The first that is missing. -/
theorem mis_first {n win : Nat} {c : Nat → Bool} {f : Nat} (h : Inv c f n win) {q : Nat} (hq : (mis n c)[0]? = some (q : Int)) : q = f := by
  obtain ⟨i, hi, h1, h2⟩ := mem_sel.1 (mem_get hq)
  have : i = q := by omega
  subst this
  have hfi : f ≤ i := by
    rcases Nat.lt_or_ge i f with h3 | h3
    · have := h.lo i h3; simp [this] at h2
    · exact h3
  have hf : (f : Int) ∈ mis n c := mem_sel.2 ⟨f, rfl, by omega, by simp [h.at' (by omega)]⟩
  have ha : Asc (mis n c) := sel_asc _ _
  cases hm : mis n c with
  | nil => rw [hm] at hq; simp at hq
  | cons a r =>
    rw [hm] at hq hf ha
    simp at hq
    subst hq
    rcases List.mem_cons.1 hf with e | e
    · omega
    · have := asc_lt ha _ e; omega
theorem mis_nil {n win : Nat} {c : Nat → Bool} {f : Nat} (h : Inv c f n win) (hq : (mis n c).length = 0) : f = n := by
  have := h.le
  rcases Nat.lt_or_ge f n with h1 | h1
  · have hf : (f : Int) ∈ mis n c := mem_sel.2 ⟨f, rfl, h1, by simp [h.at' h1]⟩
    rw [List.length_eq_zero_iff.1 hq] at hf
    simp at hf
  · omega
/-- The intake. -/
def StL (s : In) (c : Nat → Bool) (f n win : Nat) : Prop := InOk s ∧ (s = ⟨win, [], [ent c f n]⟩ ∨ s = ⟨win, [], []⟩ ∧ ent c f n = ⟨7, 0, 0, []⟩)
theorem accL {s : In} {c : Nat → Bool} {f n win q : Nat} (h : StL s c f n win) (hq : q ≤ 1000) : accV s (lTg q) = (⟨win, [], [(takeV (ent c f n) (lTg q) win).1]⟩, (takeV (ent c f n) (lTg q) win).2, 0) := by
  rcases h.2 with rfl | ⟨rfl, he⟩
  · exact accV_old1 (lTg_ok (by omega) (by omega)) rfl
  · rw [he]
    exact accV_new1 (lTg_ok (by omega) (by omega))
theorem stL_sized {s : In} {c : Nat → Bool} {f n win : Nat} (h : StL s c f n win) : Sized s := by
  have ht : s.tail = [] := by rcases h.2 with rfl | ⟨rfl, _⟩ <;> rfl
  refine ⟨by rw [ht]; simp, by have := h.1.sl; omega, by rw [ht]; simp, fun w hw => ?_⟩
  obtain ⟨_, _, _, _, _, _, h7, h8⟩ := h.1.each w hw
  have := h.1.wx
  exact ⟨by omega, fun t ht => by have := (held_mem h8 t ht).2.1.ln; omega⟩
def pk {α : Type} (a b : α) : Nat → α
  | 0 => a
  | _ + 1 => b
/-- One telegram, that comes at least once. -/
theorem step_ex {s : In} {c : Nat → Bool} {f n win q : Nat} (hs : StL s c f n win) (hi : Inv c f n win) (hq : c q = false) (hqn : q < n) (hqw : q ≤ f + win) (hn : n ≤ 20) :
    ∃ (f' : Nat) (S : Nat → In) (O : Nat → List Tg) (G : Nat → Nat), S 0 = s ∧ G 0 = f ∧ Inv (upd c q) f' n win ∧ f ≤ f' ∧ (∀ j, StL (S (j + 1)) (upd c q) f' n win ∧ G (j + 1) = f') ∧
      ∀ j, Sized (S j) ∧ InOk (S j) ∧ accV (S j) (lTg q) = (S (j + 1), O j, 0) ∧ (O j).length ≤ 20 ∧ G j + (O j).length = G (j + 1) ∧ ∀ i t, (O j)[i]? = some t → t.sq = ((G j + i : Nat) : Int) := by
  obtain ⟨f', h1, h2, h3⟩ := take_first hi hq hqn hqw
  have h4 := take_again h1 (by simp [upd]) hqn
  have a1 := accL hs (q := q) (by omega)
  rw [h3] at a1
  obtain ⟨s', hs'⟩ : ∃ s' : In, s' = ⟨win, [], [ent (upd c q) f' n]⟩ := ⟨_, rfl⟩
  have hok' : StL s' (upd c q) f' n win := by
    have := accV_ok (t := lTg q) hs.1
    rw [a1] at this
    exact ⟨by rw [hs']; exact this, .inl hs'⟩
  have a2 := accL hok' (q := q) (by omega)
  rw [h4] at a2
  have hle := h1.le
  refine ⟨f', pk s s', pk (((List.range (f' - f)).map fun j : Nat => ((f + j : Nat) : Int)).map lTg) [], pk f f', rfl, rfl, h1, h2, fun j => ⟨hok', rfl⟩, fun j => ?_⟩
  cases j with
  | zero =>
    refine ⟨stL_sized hs, hs.1, ?_, ?_, ?_, ?_⟩
    · show accV s (lTg q) = (s', _, 0)
      rw [a1, hs']
      rfl
    · simp [pk]; omega
    · simp [pk]; omega
    · intro i t ht
      simp only [pk, List.getElem?_map] at ht ⊢
      by_cases hi2 : i < f' - f
      · rw [List.getElem?_range hi2] at ht
        simp at ht
        rw [← ht]
        simp [lTg]
      · rw [List.getElem?_eq_none (by simp; omega)] at ht
        cases ht
  | succ j =>
    refine ⟨stL_sized hok', hok'.1, ?_, by simp [pk], rfl, ?_⟩
    · show accV s' (lTg q) = (s', [], 0)
      rw [a2, hs']
    · intro i t ht
      simp [pk] at ht
end Lt
end Go.Proofs.Ytopmmodcaoaaeaa
namespace Go.Proofs.Ytopmmodcaoaaeaa
open Go.RowKit Sy
set_option linter.unusedVariables false
set_option linter.unusedSimpArgs false
open Lt
set_option maxRecDepth 100000 in
set_option maxHeartbeats 16000000 in
theorem late_fn (l : List Int) (cnt : Nat) (hl : l.length ≤ 9223372036854775807) (wl : ∀ z ∈ l, -9223372036854775808 ≤ z ∧ z ≤ 9223372036854775807) (hc : cnt < 256) : FnOk Try.prog 3 [.t (encIs l), .t (.lit (.int .u8 cnt))] [] (.t (.bool true)) [] := by
  have hnl := new_fn l hl
  have hsr := new_ok wl
  obtain ⟨W, hW⟩ : ∃ W, newL2 l = W := ⟨_, rfl⟩
  rw [hW] at hnl hsr
  obtain ⟨v, hv, cv⟩ := n_ex hsr 5 (by omega) (by omega)
  have hsr1 := hsr.next
  obtain ⟨K1, hK1⟩ : ∃ K, nextK W 0 = K := ⟨_, rfl⟩
  rw [hK1] at cv hsr1
  obtain ⟨win, rfl⟩ : ∃ w : Nat, v = (w : Int) := ⟨v.toNat, by omega⟩
  have cw := inew_fn (win : Int) ⟨win, [], []⟩ 0 (by unfold newV; rw [if_neg (by omega)])
  have ca := inawake_fn
  obtain ⟨n, hn⟩ : ∃ n : Nat, n = cnt % 20 := ⟨_, rfl⟩
  have hn20 : n < 20 := by omega
  have hmod : (cnt : Int).tmod 20 = (n : Int) := by rw [Int.tmod_eq_emod_of_nonneg (by omega)]; omega
  have hmod2 : (cnt : Int) % 20 = (n : Int) := by omega
  have hwc : IntKind.i64.wrap (cnt : Int) = (cnt : Int) := by rw [IntKind.wrap_i64]; omega
  have hi0 : InOk ⟨win, [], []⟩ := inOk_of (by dsimp only; omega) (by dsimp only; omega) (by simp) (by simp) (.inl rfl) (by simp) trivial
  have hs0 : StL ⟨win, [], []⟩ (fun _ => false) 0 n win := ⟨hi0, .inr ⟨rfl, by unfold ent sel; simp⟩⟩
  have hv0 : Inv (fun _ => false) 0 n win := ⟨by omega, by simp, by simp, by simp⟩
  refine FnOk.intro fact_mixed Try.func3 rfl Try.ntmps3 (by rfl) (by simp) ?_
  repeat (first | (refine nf1_sound rfl ?_; simp [go_sem, ↓IntWalk.iteOmega, IntWalk.iteOmega, IntWalk.toNatUp]; (repeat (refine And.intro (by omega) ?_)); try (refine ⟨DrawChk_of (by kernel_rfl), ?_⟩)) | (refine itePos (by omega) ?_; try simp [go_sem, ↓IntWalk.iteOmega, IntWalk.iteOmega, IntWalk.toNatUp]) | (refine iteNeg (by omega) ?_; try simp [go_sem, ↓IntWalk.iteOmega, IntWalk.iteOmega, IntWalk.toNatUp]) | (refine ⟨DrawChk_of (by kernel_rfl), ?_⟩))
  refine CallK.fn (hnl) [(1000, 605)] [] [] (by kernel_rfl) (by simp [go_sem, ↓IntWalk.iteOmega, IntWalk.iteOmega, IntWalk.toNatUp]) (by simp [go_sem, ↓IntWalk.iteOmega, IntWalk.iteOmega, IntWalk.toNatUp]) (by simp [go_sem, ↓IntWalk.iteOmega, IntWalk.iteOmega, IntWalk.toNatUp]) (Or.inl rfl) ?_
  simp [go_sem, ↓IntWalk.iteOmega, IntWalk.iteOmega, IntWalk.toNatUp]
  repeat (refine And.intro (by omega) ?_)
  try (refine ⟨DrawChk_of (by kernel_rfl), ?_⟩)
  repeat (first | (refine nf1_sound rfl ?_; simp [go_sem, ↓IntWalk.iteOmega, IntWalk.iteOmega, IntWalk.toNatUp, hmod, hmod2, hwc]; (repeat (refine And.intro (by omega) ?_)); try (refine ⟨DrawChk_of (by kernel_rfl), ?_⟩)) | (refine itePos (by omega) ?_; try simp [go_sem, ↓IntWalk.iteOmega, IntWalk.iteOmega, IntWalk.toNatUp, hmod, hmod2, hwc]) | (refine iteNeg (by omega) ?_; try simp [go_sem, ↓IntWalk.iteOmega, IntWalk.iteOmega, IntWalk.toNatUp, hmod, hmod2, hwc]) | (refine ⟨DrawChk_of (by kernel_rfl), ?_⟩))
  refine CallK.fn (cv) [(0, 605)] [] [] (by kernel_rfl) (by simp [go_sem, ↓IntWalk.iteOmega, IntWalk.iteOmega, IntWalk.toNatUp, hmod, hmod2, hwc]) (by simp [go_sem, ↓IntWalk.iteOmega, IntWalk.iteOmega, IntWalk.toNatUp, hmod, hmod2, hwc]) (by simp [go_sem, ↓IntWalk.iteOmega, IntWalk.iteOmega, IntWalk.toNatUp, hmod, hmod2, hwc]) (Or.inl rfl) ?_
  simp [go_sem, ↓IntWalk.iteOmega, IntWalk.iteOmega, IntWalk.toNatUp, hmod, hmod2, hwc]
  repeat (refine And.intro (by omega) ?_)
  try (refine ⟨DrawChk_of (by kernel_rfl), ?_⟩)
  repeat (first | (refine nf1_sound rfl ?_; simp [go_sem, ↓IntWalk.iteOmega, IntWalk.iteOmega, IntWalk.toNatUp]; (repeat (refine And.intro (by omega) ?_)); try (refine ⟨DrawChk_of (by kernel_rfl), ?_⟩)) | (refine itePos (by omega) ?_; try simp [go_sem, ↓IntWalk.iteOmega, IntWalk.iteOmega, IntWalk.toNatUp]) | (refine iteNeg (by omega) ?_; try simp [go_sem, ↓IntWalk.iteOmega, IntWalk.iteOmega, IntWalk.toNatUp]) | (refine ⟨DrawChk_of (by kernel_rfl), ?_⟩))
  refine CallK.fn (cw) [] [] [] (by kernel_rfl) (by simp [go_sem, ↓IntWalk.iteOmega, IntWalk.iteOmega, IntWalk.toNatUp]) (by simp [go_sem, ↓IntWalk.iteOmega, IntWalk.iteOmega, IntWalk.toNatUp]) (by simp [go_sem, ↓IntWalk.iteOmega, IntWalk.iteOmega, IntWalk.toNatUp]) (Or.inl rfl) ?_
  simp [go_sem, ↓IntWalk.iteOmega, IntWalk.iteOmega, IntWalk.toNatUp]
  repeat (refine And.intro (by omega) ?_)
  try (refine ⟨DrawChk_of (by kernel_rfl), ?_⟩)
  repeat (first | (refine nf1_sound rfl ?_; simp [go_sem, ↓IntWalk.iteOmega, IntWalk.iteOmega, IntWalk.toNatUp]; (repeat (refine And.intro (by omega) ?_)); try (refine ⟨DrawChk_of (by kernel_rfl), ?_⟩)) | (refine itePos (by omega) ?_; try simp [go_sem, ↓IntWalk.iteOmega, IntWalk.iteOmega, IntWalk.toNatUp]) | (refine iteNeg (by omega) ?_; try simp [go_sem, ↓IntWalk.iteOmega, IntWalk.iteOmega, IntWalk.toNatUp]) | (refine ⟨DrawChk_of (by kernel_rfl), ?_⟩))
  refine nf1_sound' _ _ _ ?_; simp only [nf1]
  refine CW.loop (ι := Nat) (fun i => ⟨[(5, .pt 505 [] 0), (6, .t (.int n)), (7, .t (.int win)), (8, .pt 508 [] 0), (10, .own 510), (11, .t (.int i))], [(505, srcB W K1), (508, .box 29 (.t (encIn ⟨win, [], []⟩))), (510, blkI ((List.range i).map fun j : Nat => (j : Int)))]⟩) (fun i => i ≤ n) (fun i => n - i) 0 [(505, some 605), (508, some 108), (510, none)] (by omega) ?_ ?_
  · simp [go_sem, ↓IntWalk.iteOmega, IntWalk.iteOmega, IntWalk.toNatUp]
  intro i hi
  by_cases hin : i < n
  · have hrs : (List.range (i + 1)).map (fun j : Nat => encI (j : Int)) = (List.range i).map (fun j : Nat => encI (j : Int)) ++ [encI (i : Int)] := by rw [List.range_succ, List.map_append]; rfl
    repeat (first | (refine nf1_sound rfl ?_; simp [go_sem, ↓IntWalk.iteOmega, IntWalk.iteOmega, IntWalk.toNatUp]; (repeat (refine And.intro (by omega) ?_)); try (refine ⟨DrawChk_of (by kernel_rfl), ?_⟩)) | (refine itePos (by omega) ?_; try simp [go_sem, ↓IntWalk.iteOmega, IntWalk.iteOmega, IntWalk.toNatUp]) | (refine iteNeg (by omega) ?_; try simp [go_sem, ↓IntWalk.iteOmega, IntWalk.iteOmega, IntWalk.toNatUp]) | (refine ⟨DrawChk_of (by kernel_rfl), ?_⟩))
    rw [RoundQ_normal]; refine ⟨i + 1, [(505, some 505), (508, some 508), (510, some 145)], ?_, ?_, ?_⟩
    · omega
    · omega
    simp [go_sem, ↓IntWalk.iteOmega, IntWalk.iteOmega, IntWalk.toNatUp]
  obtain rfl : i = n := by omega
  have hrep : List.replicate i (T.lit (.bool false)) = cam i (fun _ => false) := by unfold cam; rw [List.map_const', List.length_range]
  rw [← mis0]
  repeat (first | (refine nf1_sound rfl ?_; simp [go_sem, ↓IntWalk.iteOmega, IntWalk.iteOmega, IntWalk.toNatUp]; (repeat (refine And.intro (by omega) ?_)); try (refine ⟨DrawChk_of (by kernel_rfl), ?_⟩)) | (refine itePos (by omega) ?_; try simp [go_sem, ↓IntWalk.iteOmega, IntWalk.iteOmega, IntWalk.toNatUp]) | (refine iteNeg (by omega) ?_; try simp [go_sem, ↓IntWalk.iteOmega, IntWalk.iteOmega, IntWalk.toNatUp]) | (refine ⟨DrawChk_of (by kernel_rfl), ?_⟩))
  refine nf1_sound' _ _ _ ?_; simp only [nf1]
  refine CW.loop (ι := Nat × (Nat → Bool) × Nat × In) (fun j => ⟨[(5, .pt 505 [] 0), (6, .t (.int i)), (7, .t (.int win)), (8, .pt 508 [] 0), (10, .own 510), (12, .t (.int j.2.2.1)), (13, .t (.int j.2.2.1)), (14, .own 514)], [(505, srcB W j.1), (508, .box 29 (.t (encIn j.2.2.2))), (510, blkI (mis i j.2.1)), (514, .list 4 1 (cam i j.2.1))]⟩)
    (fun j => SrcOk W j.1 ∧ Lt.Inv j.2.1 j.2.2.1 i win ∧ StL j.2.2.2 j.2.1 j.2.2.1 i win) (fun j => (mis i j.2.1).length) (K1, fun _ => false, 0, ⟨win, [], []⟩) [(505, some 505), (508, some 508), (510, some 510), (514, some 147)] ⟨hsr1, hv0, hs0⟩ ?_ ?_
  · simp [go_sem, ↓IntWalk.iteOmega, IntWalk.iteOmega, IntWalk.toNatUp, hrep]
  rintro ⟨K, c, f, s⟩ ⟨hK, hI, hS⟩
  dsimp only at hK hI hS ⊢
  have hml := mis_len (n := i) (c := c)
  by_cases hm : 0 < (mis i c).length
  · obtain ⟨M, hM⟩ : ∃ M, mis i c = M := ⟨_, rfl⟩
    have hmat := fun k => mis_at (n := i) (c := c) (k := k)
    have hdel := fun k q => mis_del (n := i) (c := c) (k := k) (q := q)
    have hfst := fun q => mis_first (q := q) hI
    rw [hM] at hml hm hmat hdel hfst ⊢
    have hfi := hI.le
    refine nf_sound [15] _ _ _ ?_
    simp (maxSteps := 2000000) [go_sem, ↓IntWalk.iteOmega, IntWalk.iteOmega, IntWalk.toNatUp, go_sem, stops, firstReg]
    refine CW.cut (ι := Nat × Nat) (fun j => ⟨[(5, .pt 505 [] 0), (6, .t (.int i)), (7, .t (.int win)), (8, .pt 508 [] 0), (10, .own 510), (12, .t (.int f)), (13, .t (.int f)), (14, .own 514), (15, .t (.int j.2))], [(505, srcB W j.1), (508, .box 29 (.t (encIn s))), (510, blkI M), (514, .list 4 1 (cam i c))]⟩)
      (fun j => SrcOk W j.1 ∧ j.2 < M.length ∧ (j.2 = 0 ∨ ∃ x, M[j.2]? = some x ∧ x ≤ (f : Int) + win)) ?_ ?_
    · refine nf1_sound' _ _ _ ?_; simp only [nf1]
      refine CW.loop (ι := Nat × Nat) (fun j => ⟨[(5, .pt 505 [] 0), (6, .t (.int i)), (7, .t (.int win)), (8, .pt 508 [] 0), (10, .own 510), (12, .t (.int f)), (13, .t (.int f)), (14, .own 514), (15, .t (.int j.2))], [(505, srcB W j.1), (508, .box 29 (.t (encIn s))), (510, blkI M), (514, .list 4 1 (cam i c))]⟩)
        (fun j => SrcOk W j.1 ∧ j.2 < M.length ∧ (j.2 = 0 ∨ ∃ x, M[j.2]? = some x ∧ x ≤ (f : Int) + win)) (fun j => M.length - j.2) (K, 0) [(505, some 505), (508, some 508), (510, some 510), (514, some 514)] ⟨hK, hm, .inl rfl⟩ ?_ ?_
      · simp [go_sem, ↓IntWalk.iteOmega, IntWalk.iteOmega, IntWalk.toNatUp]
      rintro ⟨K2, k⟩ ⟨hK2, hk, hk0⟩
      dsimp only at hK2 hk hk0 ⊢
      by_cases hk1 : k + 1 < M.length
      · obtain ⟨x, hx⟩ := has_get hk1
        by_cases hxf : x ≤ (f : Int) + win
        · obtain ⟨v2, hv2, cv2⟩ := n_ex hK2 2 (by omega) (by omega)
          have hK3 := hK2.next
          obtain ⟨K3, hK3e⟩ : ∃ K, nextK W K2 = K := ⟨_, rfl⟩
          rw [hK3e] at cv2 hK3
          by_cases hv1 : v2 = 1
          · subst hv1
            repeat (first | (refine nf1_sound rfl ?_; simp [go_sem, ↓IntWalk.iteOmega, IntWalk.iteOmega, IntWalk.toNatUp, hx, hxf]; (repeat (refine And.intro (by omega) ?_)); try (refine ⟨DrawChk_of (by kernel_rfl), ?_⟩)) | (refine itePos (by omega) ?_; try simp [go_sem, ↓IntWalk.iteOmega, IntWalk.iteOmega, IntWalk.toNatUp, hx, hxf]) | (refine iteNeg (by omega) ?_; try simp [go_sem, ↓IntWalk.iteOmega, IntWalk.iteOmega, IntWalk.toNatUp, hx, hxf]) | (refine ⟨DrawChk_of (by kernel_rfl), ?_⟩))
            refine CallK.fn (cv2) [(0, 505)] [] [] (by kernel_rfl) (by simp [go_sem, ↓IntWalk.iteOmega, IntWalk.iteOmega, IntWalk.toNatUp, hx, hxf]) (by simp [go_sem, ↓IntWalk.iteOmega, IntWalk.iteOmega, IntWalk.toNatUp, hx, hxf]) (by simp [go_sem, ↓IntWalk.iteOmega, IntWalk.iteOmega, IntWalk.toNatUp, hx, hxf]) (Or.inl rfl) ?_
            simp [go_sem, ↓IntWalk.iteOmega, IntWalk.iteOmega, IntWalk.toNatUp, hx, hxf]
            repeat (refine And.intro (by omega) ?_)
            try (refine ⟨DrawChk_of (by kernel_rfl), ?_⟩)
            repeat (first | (refine nf1_sound rfl ?_; simp [go_sem, ↓IntWalk.iteOmega, IntWalk.iteOmega, IntWalk.toNatUp]; (repeat (refine And.intro (by omega) ?_)); try (refine ⟨DrawChk_of (by kernel_rfl), ?_⟩)) | (refine itePos (by omega) ?_; try simp [go_sem, ↓IntWalk.iteOmega, IntWalk.iteOmega, IntWalk.toNatUp]) | (refine iteNeg (by omega) ?_; try simp [go_sem, ↓IntWalk.iteOmega, IntWalk.iteOmega, IntWalk.toNatUp]) | (refine ⟨DrawChk_of (by kernel_rfl), ?_⟩))
            rw [RoundQ_normal]; refine ⟨(K3, k + 1), [(505, some 505), (508, some 508), (510, some 510), (514, some 514)], ?_, ?_, ?_⟩
            · exact ⟨hK3, hk1, .inr ⟨x, hx, hxf⟩⟩
            · dsimp only; omega
            simp [go_sem, ↓IntWalk.iteOmega, IntWalk.iteOmega, IntWalk.toNatUp]
          · repeat (first | (refine nf1_sound rfl ?_; simp [go_sem, ↓IntWalk.iteOmega, IntWalk.iteOmega, IntWalk.toNatUp, hx, hxf]; (repeat (refine And.intro (by omega) ?_)); try (refine ⟨DrawChk_of (by kernel_rfl), ?_⟩)) | (refine itePos (by omega) ?_; try simp [go_sem, ↓IntWalk.iteOmega, IntWalk.iteOmega, IntWalk.toNatUp, hx, hxf]) | (refine iteNeg (by omega) ?_; try simp [go_sem, ↓IntWalk.iteOmega, IntWalk.iteOmega, IntWalk.toNatUp, hx, hxf]) | (refine ⟨DrawChk_of (by kernel_rfl), ?_⟩))
            refine CallK.fn (cv2) [(0, 505)] [] [] (by kernel_rfl) (by simp [go_sem, ↓IntWalk.iteOmega, IntWalk.iteOmega, IntWalk.toNatUp, hx, hxf]) (by simp [go_sem, ↓IntWalk.iteOmega, IntWalk.iteOmega, IntWalk.toNatUp, hx, hxf]) (by simp [go_sem, ↓IntWalk.iteOmega, IntWalk.iteOmega, IntWalk.toNatUp, hx, hxf]) (Or.inl rfl) ?_
            simp [go_sem, ↓IntWalk.iteOmega, IntWalk.iteOmega, IntWalk.toNatUp, hx, hxf]
            repeat (refine And.intro (by omega) ?_)
            try (refine ⟨DrawChk_of (by kernel_rfl), ?_⟩)
            repeat (first | (refine nf1_sound rfl ?_; simp [go_sem, ↓IntWalk.iteOmega, IntWalk.iteOmega, IntWalk.toNatUp, hv1]; (repeat (refine And.intro (by omega) ?_)); try (refine ⟨DrawChk_of (by kernel_rfl), ?_⟩)) | (refine itePos (by omega) ?_; try simp [go_sem, ↓IntWalk.iteOmega, IntWalk.iteOmega, IntWalk.toNatUp, hv1]) | (refine iteNeg (by omega) ?_; try simp [go_sem, ↓IntWalk.iteOmega, IntWalk.iteOmega, IntWalk.toNatUp, hv1]) | (refine ⟨DrawChk_of (by kernel_rfl), ?_⟩))
            rw [CutQ_normal]; refine ⟨(K3, k), [(505, some 505), (508, some 508), (510, some 510), (514, some 514)], ?_, ?_⟩
            · exact ⟨hK3, hk, hk0⟩
            simp [go_sem, ↓IntWalk.iteOmega, IntWalk.iteOmega, IntWalk.toNatUp]
        · repeat (first | (refine nf1_sound rfl ?_; simp [go_sem, ↓IntWalk.iteOmega, IntWalk.iteOmega, IntWalk.toNatUp, hx, hxf]; (repeat (refine And.intro (by omega) ?_)); try (refine ⟨DrawChk_of (by kernel_rfl), ?_⟩)) | (refine itePos (by omega) ?_; try simp [go_sem, ↓IntWalk.iteOmega, IntWalk.iteOmega, IntWalk.toNatUp, hx, hxf]) | (refine iteNeg (by omega) ?_; try simp [go_sem, ↓IntWalk.iteOmega, IntWalk.iteOmega, IntWalk.toNatUp, hx, hxf]) | (refine ⟨DrawChk_of (by kernel_rfl), ?_⟩))
          rw [CutQ_normal]; refine ⟨(K2, k), [(505, some 505), (508, some 508), (510, some 510), (514, some 514)], ?_, ?_⟩
          · exact ⟨hK2, hk, hk0⟩
          simp [go_sem, ↓IntWalk.iteOmega, IntWalk.iteOmega, IntWalk.toNatUp]
      · repeat (first | (refine nf1_sound rfl ?_; simp [go_sem, ↓IntWalk.iteOmega, IntWalk.iteOmega, IntWalk.toNatUp, hk1]; (repeat (refine And.intro (by omega) ?_)); try (refine ⟨DrawChk_of (by kernel_rfl), ?_⟩)) | (refine itePos (by omega) ?_; try simp [go_sem, ↓IntWalk.iteOmega, IntWalk.iteOmega, IntWalk.toNatUp, hk1]) | (refine iteNeg (by omega) ?_; try simp [go_sem, ↓IntWalk.iteOmega, IntWalk.iteOmega, IntWalk.toNatUp, hk1]) | (refine ⟨DrawChk_of (by kernel_rfl), ?_⟩))
        rw [CutQ_normal]; refine ⟨(K2, k), [(505, some 505), (508, some 508), (510, some 510), (514, some 514)], ?_, ?_⟩
        · exact ⟨hK2, hk, hk0⟩
        simp [go_sem, ↓IntWalk.iteOmega, IntWalk.iteOmega, IntWalk.toNatUp]
    · rintro ⟨K2, k⟩ ⟨hK2, hk, hk0⟩
      dsimp only at hK2 hk hk0 ⊢
      obtain ⟨q, hq, hqn, hcq⟩ := hmat k hk
      have hqw : q ≤ f + win := by
        rcases hk0 with rfl | ⟨x, hx, hxf⟩
        · have := hfst q hq; omega
        · rw [hq] at hx
          have := Option.some.inj hx
          omega
      have hde := hdel k q hq
      obtain ⟨f', S', O, G, S0, G0, hI', hff, hSG, hj⟩ := step_ex hS hI hcq hqn hqw (by omega)
      obtain ⟨v2, hv2, cv2⟩ := n_ex hK2 2 (by omega) (by omega)
      have hK3 := hK2.next
      obtain ⟨K3, hK3e⟩ : ∃ K, nextK W K2 = K := ⟨_, rfl⟩
      rw [hK3e] at cv2 hK3
      obtain ⟨i0, rfl⟩ : ∃ i0 : Nat, v2 = (i0 : Int) := ⟨v2.toNat, by omega⟩
      have hcs := cam_set (n := i) (c := c) (q := q)
      have hcl := cam_len (n := i) (c := c)
      have hcl2 := cam_len (n := i) (c := upd c q)
      have hcg := fun x (h : x < i) => cam_get (c := upd c q) h
      have hXq := cam_get (c := c) hqn
      rw [hcq] at hXq
      obtain ⟨X, hX⟩ : ∃ X, cam i c = X := ⟨_, rfl⟩
      rw [hX] at hXq
      obtain ⟨X2, hX2⟩ : ∃ X, cam i (upd c q) = X := ⟨_, rfl⟩
      rw [hX, hX2] at hcs
      rw [hX] at hcl ⊢
      rw [hX2] at hcl2 hcg
      have htk : List.take M.length (M.map encI) = M.map encI := List.take_of_length_le (by simp)
      have hde2 : List.take k (M.map encI) ++ List.drop (k + 1) (M.map encI) = (mis i (upd c q)).map encI := by rw [← hde, List.map_append, List.map_take, List.map_drop]
      refine CW.weak (ρ := [(505, some 505), (508, some 508), (514, some 514)]) (σ' := ⟨[(5, .pt 505 [] 0), (6, .t (.int i)), (7, .t (.int win)), (8, .pt 508 [] 0), (10, .t (encIs M)), (12, .t (.int f)), (13, .t (.int f)), (14, .own 514), (15, .t (.int k))], [(505, srcB W K2), (508, .box 29 (.t (encIn s))), (514, .list 4 1 X)]⟩) ?_ ?_
      · simp [go_sem, ↓IntWalk.iteOmega, IntWalk.iteOmega, IntWalk.toNatUp]
      repeat (first | (refine nf1_sound rfl ?_; simp [go_sem, ↓IntWalk.iteOmega, IntWalk.iteOmega, IntWalk.toNatUp, hq, htk, hcs, hcl, hXq]; (repeat (refine And.intro (by omega) ?_)); try (refine ⟨DrawChk_of (by kernel_rfl), ?_⟩)) | (refine itePos (by omega) ?_; try simp [go_sem, ↓IntWalk.iteOmega, IntWalk.iteOmega, IntWalk.toNatUp, hq, htk, hcs, hcl, hXq]) | (refine iteNeg (by omega) ?_; try simp [go_sem, ↓IntWalk.iteOmega, IntWalk.iteOmega, IntWalk.toNatUp, hq, htk, hcs, hcl, hXq]) | (refine ⟨DrawChk_of (by kernel_rfl), ?_⟩))
      refine CallK.fn (cv2) [(0, 505)] [] [] (by kernel_rfl) (by simp [go_sem, ↓IntWalk.iteOmega, IntWalk.iteOmega, IntWalk.toNatUp, hq, hcs]) (by simp [go_sem, ↓IntWalk.iteOmega, IntWalk.iteOmega, IntWalk.toNatUp, hq, hcs]) (by simp [go_sem, ↓IntWalk.iteOmega, IntWalk.iteOmega, IntWalk.toNatUp, hq, hcs]) (Or.inl rfl) ?_
      simp [go_sem, ↓IntWalk.iteOmega, IntWalk.iteOmega, IntWalk.toNatUp, hq, hcs]
      repeat (refine And.intro (by omega) ?_)
      try (refine ⟨DrawChk_of (by kernel_rfl), ?_⟩)
      repeat (first | (refine nf1_sound rfl ?_; simp [go_sem, ↓IntWalk.iteOmega, IntWalk.iteOmega, IntWalk.toNatUp]; (repeat (refine And.intro (by omega) ?_)); try (refine ⟨DrawChk_of (by kernel_rfl), ?_⟩)) | (refine itePos (by omega) ?_; try simp [go_sem, ↓IntWalk.iteOmega, IntWalk.iteOmega, IntWalk.toNatUp]) | (refine iteNeg (by omega) ?_; try simp [go_sem, ↓IntWalk.iteOmega, IntWalk.iteOmega, IntWalk.toNatUp]) | (refine ⟨DrawChk_of (by kernel_rfl), ?_⟩))
      refine nf1_sound' _ _ _ ?_; simp only [nf1]
      refine CW.loop (ι := Nat) (fun d => ⟨[(5, .pt 505 [] 0), (6, .t (.int i)), (7, .t (.int win)), (8, .pt 508 [] 0), (10, .own 510), (12, .t (.int f)), (13, .t (.int (G d))), (14, .own 514), (16, .t (.int q)), (17, .t (.int ((i0 : Int) - d)))], [(505, srcB W K3), (508, .box 29 (.t (encIn (S' d)))), (510, blkI (mis i (upd c q))), (514, .list 4 1 X2)]⟩) (fun d => d ≤ i0 + 1) (fun d => i0 + 1 - d) 0 [(505, some 505), (508, some 508), (510, some 187), (514, some 514)] (by omega) ?_ ?_
      · simp [go_sem, ↓IntWalk.iteOmega, IntWalk.iteOmega, IntWalk.toNatUp, S0, G0, hde2]
      intro d hd
      obtain ⟨hz1, hz2, hz3, hz4, hz5, hz6⟩ := hj d
      by_cases hdi : d < i0 + 1
      · have cac := accept_fn (S' d) (lTg q) hz1 (by simp [lTg]) hz2
        rw [hz3] at cac
        obtain ⟨Y1, hY1⟩ : ∃ Y, S' d = Y := ⟨_, rfl⟩
        obtain ⟨Y2, hY2⟩ : ∃ Y, S' (d + 1) = Y := ⟨_, rfl⟩
        obtain ⟨o, ho⟩ : ∃ o, O d = o := ⟨_, rfl⟩
        obtain ⟨g1, hg1⟩ : ∃ g, G d = g := ⟨_, rfl⟩
        obtain ⟨g2, hg2⟩ : ∃ g, G (d + 1) = g := ⟨_, rfl⟩
        rw [ho, hg1, hg2] at hz5
        rw [ho, hg1] at hz6
        rw [ho] at hz4
        rw [hY1, hY2, ho] at cac
        rw [hY1, hg1]
        clear hz1 hz2 hz3
        have hG9 : g1 ≤ 1000 := by have := hI'.le; have := (hSG d).2; omega
        repeat (first | (refine nf1_sound rfl ?_; simp [go_sem, ↓IntWalk.iteOmega, IntWalk.iteOmega, IntWalk.toNatUp]; (repeat (refine And.intro (by omega) ?_)); try (refine ⟨DrawChk_of (by kernel_rfl), ?_⟩)) | (refine itePos (by omega) ?_; try simp [go_sem, ↓IntWalk.iteOmega, IntWalk.iteOmega, IntWalk.toNatUp]) | (refine iteNeg (by omega) ?_; try simp [go_sem, ↓IntWalk.iteOmega, IntWalk.iteOmega, IntWalk.toNatUp]) | (refine ⟨DrawChk_of (by kernel_rfl), ?_⟩))
        refine CallK.fn (cac) [] [] [] (by kernel_rfl) (by simp [go_sem, ↓IntWalk.iteOmega, IntWalk.iteOmega, IntWalk.toNatUp, lTg]) (by simp [go_sem, ↓IntWalk.iteOmega, IntWalk.iteOmega, IntWalk.toNatUp, lTg]) (by simp [go_sem, ↓IntWalk.iteOmega, IntWalk.iteOmega, IntWalk.toNatUp, lTg]) (Or.inl rfl) ?_
        simp [go_sem, ↓IntWalk.iteOmega, IntWalk.iteOmega, IntWalk.toNatUp, lTg]
        repeat (refine And.intro (by omega) ?_)
        try (refine ⟨DrawChk_of (by kernel_rfl), ?_⟩)
        repeat (first | (refine nf1_sound rfl ?_; simp [go_sem, ↓IntWalk.iteOmega, IntWalk.iteOmega, IntWalk.toNatUp]; (repeat (refine And.intro (by omega) ?_)); try (refine ⟨DrawChk_of (by kernel_rfl), ?_⟩)) | (refine itePos (by omega) ?_; try simp [go_sem, ↓IntWalk.iteOmega, IntWalk.iteOmega, IntWalk.toNatUp]) | (refine iteNeg (by omega) ?_; try simp [go_sem, ↓IntWalk.iteOmega, IntWalk.iteOmega, IntWalk.toNatUp]) | (refine ⟨DrawChk_of (by kernel_rfl), ?_⟩))
        refine nf1_sound' _ _ _ ?_; simp only [nf1]
        refine CW.loop (ι := Nat) (fun j => ⟨[(5, .pt 505 [] 0), (6, .t (.int i)), (7, .t (.int win)), (8, .pt 508 [] 0), (10, .own 510), (12, .t (.int f)), (13, .t (.int ((g1 : Int) + j))), (14, .own 514), (16, .t (.int q)), (17, .t (.int ((i0 : Int) - d))), (108, .t (encTgs o)), (109, .t (.int o.length)), (110, .t (.int j))], [(505, srcB W K3), (508, .box 29 (.t (encIn Y2))), (510, blkI (mis i (upd c q))), (514, .list 4 1 X2)]⟩) (fun j => j ≤ o.length) (fun j => o.length - j) 0 [(505, some 505), (508, some 508), (510, some 510), (514, some 514)] (by omega) ?_ ?_
        · simp [go_sem, ↓IntWalk.iteOmega, IntWalk.iteOmega, IntWalk.toNatUp]
        intro j hj2
        by_cases hjo : j < o.length
        · obtain ⟨t, ht⟩ := has_get hjo
          have hts := hz6 j t ht
          obtain ⟨t1, t2, t3, t4, t5, tv⟩ := t
          dsimp only at hts
          have hts2 : t3 = (g1 : Int) + j := by omega
          subst hts2
          repeat (first | (refine nf1_sound rfl ?_; simp [go_sem, ↓IntWalk.iteOmega, IntWalk.iteOmega, IntWalk.toNatUp, ht]; (repeat (refine And.intro (by omega) ?_)); try (refine ⟨DrawChk_of (by kernel_rfl), ?_⟩)) | (refine itePos (by omega) ?_; try simp [go_sem, ↓IntWalk.iteOmega, IntWalk.iteOmega, IntWalk.toNatUp, ht]) | (refine iteNeg (by omega) ?_; try simp [go_sem, ↓IntWalk.iteOmega, IntWalk.iteOmega, IntWalk.toNatUp, ht]) | (refine ⟨DrawChk_of (by kernel_rfl), ?_⟩))
          rw [RoundQ_normal]; refine ⟨j + 1, [(505, some 505), (508, some 508), (510, some 510), (514, some 514)], ?_, ?_, ?_⟩
          · omega
          · omega
          simp [go_sem, ↓IntWalk.iteOmega, IntWalk.iteOmega, IntWalk.toNatUp]
          omega
        · obtain rfl : j = o.length := by omega
          repeat (first | (refine nf1_sound rfl ?_; simp [go_sem, ↓IntWalk.iteOmega, IntWalk.iteOmega, IntWalk.toNatUp]; (repeat (refine And.intro (by omega) ?_)); try (refine ⟨DrawChk_of (by kernel_rfl), ?_⟩)) | (refine itePos (by omega) ?_; try simp [go_sem, ↓IntWalk.iteOmega, IntWalk.iteOmega, IntWalk.toNatUp]) | (refine iteNeg (by omega) ?_; try simp [go_sem, ↓IntWalk.iteOmega, IntWalk.iteOmega, IntWalk.toNatUp]) | (refine ⟨DrawChk_of (by kernel_rfl), ?_⟩))
          rw [RoundQ_normal]; refine ⟨d + 1, [(505, some 505), (508, some 508), (510, some 510), (514, some 514)], ?_, ?_, ?_⟩
          · omega
          · omega
          simp [go_sem, ↓IntWalk.iteOmega, IntWalk.iteOmega, IntWalk.toNatUp, hY2, hg2]
          omega
      · obtain rfl : d = i0 + 1 := by omega
        obtain ⟨hS1, hG1⟩ := hSG i0
        rw [hG1]
        repeat (first | (refine nf1_sound rfl ?_; simp [go_sem, ↓IntWalk.iteOmega, IntWalk.iteOmega, IntWalk.toNatUp]; (repeat (refine And.intro (by omega) ?_)); try (refine ⟨DrawChk_of (by kernel_rfl), ?_⟩)) | (refine itePos (by omega) ?_; try simp [go_sem, ↓IntWalk.iteOmega, IntWalk.iteOmega, IntWalk.toNatUp]) | (refine iteNeg (by omega) ?_; try simp [go_sem, ↓IntWalk.iteOmega, IntWalk.iteOmega, IntWalk.toNatUp]) | (refine ⟨DrawChk_of (by kernel_rfl), ?_⟩))
        have hml2 : (mis i (upd c q)).length < (mis i c).length := by
          rw [← hde, hM]; simp; omega
        have hle' := hI'.le
        obtain ⟨Y1, hY1⟩ : ∃ Y, S' (i0 + 1) = Y := ⟨_, rfl⟩
        rw [hY1] at hS1 ⊢
        clear hz1 hz2 hz3 hz4 hz5 hz6 hj hSG
        refine nf1_sound' _ _ _ ?_; simp only [nf1]
        refine CW.loop (ι := Nat) (fun x => ⟨[(5, .pt 505 [] 0), (6, .t (.int i)), (7, .t (.int win)), (8, .pt 508 [] 0), (10, .own 510), (12, .t (.int x)), (13, .t (.int f')), (14, .own 514)], [(505, srcB W K3), (508, .box 29 (.t (encIn Y1))), (510, blkI (mis i (upd c q))), (514, .list 4 1 X2)]⟩) (fun x => f ≤ x ∧ x ≤ f') (fun x => f' - x) f [(505, some 505), (508, some 508), (510, some 510), (514, some 514)] ⟨by omega, by omega⟩ ?_ ?_
        · simp [go_sem, ↓IntWalk.iteOmega, IntWalk.iteOmega, IntWalk.toNatUp]
        rintro x ⟨hx1, hx2⟩
        by_cases hxf : x < f'
        · have hxi := hcg x (by omega)
          rw [hI'.lo x hxf] at hxi
          have hxn : x < i := by omega
          repeat (first | (refine nf1_sound rfl ?_; simp [go_sem, ↓IntWalk.iteOmega, IntWalk.iteOmega, IntWalk.toNatUp, hxi, hcl2]; (repeat (refine And.intro (by omega) ?_)); try (refine ⟨DrawChk_of (by kernel_rfl), ?_⟩)) | (refine itePos (by omega) ?_; try simp [go_sem, ↓IntWalk.iteOmega, IntWalk.iteOmega, IntWalk.toNatUp, hxi, hcl2]) | (refine iteNeg (by omega) ?_; try simp [go_sem, ↓IntWalk.iteOmega, IntWalk.iteOmega, IntWalk.toNatUp, hxi, hcl2]) | (refine ⟨DrawChk_of (by kernel_rfl), ?_⟩))
          rw [RoundQ_normal]; refine ⟨x + 1, [(505, some 505), (508, some 508), (510, some 510), (514, some 514)], ?_, ?_, ?_⟩
          · omega
          · omega
          simp [go_sem, ↓IntWalk.iteOmega, IntWalk.iteOmega, IntWalk.toNatUp]
        · obtain rfl : x = f' := by omega
          by_cases hxn : x < i
          · have hxi := hcg x hxn
            rw [hI'.at' hxn] at hxi
            repeat (first | (refine nf1_sound rfl ?_; simp [go_sem, ↓IntWalk.iteOmega, IntWalk.iteOmega, IntWalk.toNatUp, hxi, hcl2]; (repeat (refine And.intro (by omega) ?_)); try (refine ⟨DrawChk_of (by kernel_rfl), ?_⟩)) | (refine itePos (by omega) ?_; try simp [go_sem, ↓IntWalk.iteOmega, IntWalk.iteOmega, IntWalk.toNatUp, hxi, hcl2]) | (refine iteNeg (by omega) ?_; try simp [go_sem, ↓IntWalk.iteOmega, IntWalk.iteOmega, IntWalk.toNatUp, hxi, hcl2]) | (refine ⟨DrawChk_of (by kernel_rfl), ?_⟩))
            rw [RoundQ_normal]; refine ⟨(K3, upd c q, x, Y1), [(505, some 505), (508, some 508), (510, some 510), (514, some 514)], ?_, ?_, ?_⟩
            · exact ⟨hK3, hI', hS1⟩
            · exact hml2
            simp [go_sem, ↓IntWalk.iteOmega, IntWalk.iteOmega, IntWalk.toNatUp, hX2]
          · repeat (first | (refine nf1_sound rfl ?_; simp [go_sem, ↓IntWalk.iteOmega, IntWalk.iteOmega, IntWalk.toNatUp, hxn]; (repeat (refine And.intro (by omega) ?_)); try (refine ⟨DrawChk_of (by kernel_rfl), ?_⟩)) | (refine itePos (by omega) ?_; try simp [go_sem, ↓IntWalk.iteOmega, IntWalk.iteOmega, IntWalk.toNatUp, hxn]) | (refine iteNeg (by omega) ?_; try simp [go_sem, ↓IntWalk.iteOmega, IntWalk.iteOmega, IntWalk.toNatUp, hxn]) | (refine ⟨DrawChk_of (by kernel_rfl), ?_⟩))
            rw [RoundQ_normal]; refine ⟨(K3, upd c q, x, Y1), [(505, some 505), (508, some 508), (510, some 510), (514, some 514)], ?_, ?_, ?_⟩
            · exact ⟨hK3, hI', hS1⟩
            · exact hml2
            simp [go_sem, ↓IntWalk.iteOmega, IntWalk.iteOmega, IntWalk.toNatUp, hX2]
  · have hfi := mis_nil hI (by omega)
    subst hfi
    repeat (first | (refine nf1_sound rfl ?_; simp [go_sem, ↓IntWalk.iteOmega, IntWalk.iteOmega, IntWalk.toNatUp, hm]; (repeat (refine And.intro (by omega) ?_)); try (refine ⟨DrawChk_of (by kernel_rfl), ?_⟩)) | (refine itePos (by omega) ?_; try simp [go_sem, ↓IntWalk.iteOmega, IntWalk.iteOmega, IntWalk.toNatUp, hm]) | (refine iteNeg (by omega) ?_; try simp [go_sem, ↓IntWalk.iteOmega, IntWalk.iteOmega, IntWalk.toNatUp, hm]) | (refine ⟨DrawChk_of (by kernel_rfl), ?_⟩))
    refine CallK.fn (ca) [] [] [] (by kernel_rfl) (by simp [go_sem, ↓IntWalk.iteOmega, IntWalk.iteOmega, IntWalk.toNatUp]) (by simp [go_sem, ↓IntWalk.iteOmega, IntWalk.iteOmega, IntWalk.toNatUp]) (by simp [go_sem, ↓IntWalk.iteOmega, IntWalk.iteOmega, IntWalk.toNatUp]) (Or.inl rfl) ?_
    simp [go_sem, ↓IntWalk.iteOmega, IntWalk.iteOmega, IntWalk.toNatUp]
    repeat (refine And.intro (by omega) ?_)
    try (refine ⟨DrawChk_of (by kernel_rfl), ?_⟩)
    repeat (first | (refine nf1_sound rfl ?_; simp [go_sem, ↓IntWalk.iteOmega, IntWalk.iteOmega, IntWalk.toNatUp]; (repeat (refine And.intro (by omega) ?_)); try (refine ⟨DrawChk_of (by kernel_rfl), ?_⟩)) | (refine itePos (by omega) ?_; try simp [go_sem, ↓IntWalk.iteOmega, IntWalk.iteOmega, IntWalk.toNatUp]) | (refine iteNeg (by omega) ?_; try simp [go_sem, ↓IntWalk.iteOmega, IntWalk.iteOmega, IntWalk.toNatUp]) | (refine ⟨DrawChk_of (by kernel_rfl), ?_⟩))
    first | rw [RetQ_ret] | rw [RetQ_normal]
    refine ⟨[], ?_⟩
    simp [go_sem, ↓IntWalk.iteOmega, IntWalk.iteOmega, IntWalk.toNatUp]
theorem late_all (x0 x1 : T) (h0 : InSh (.sl (.int .i64)) x0) (h1 : InSh (.int .u8) x1) :
    FnOk Try.prog 3 [.t x0, .t x1] [] (.t (.bool true)) [] := by
  obtain ⟨l, rfl, hl, wl⟩ := ints_in h0
  obtain ⟨n, rfl, hw⟩ := insh_int h1
  simp [Lit.wf, IntKind.min, IntKind.max, IntKind.signed, IntKind.bits] at hw
  obtain ⟨m, rfl⟩ : ∃ m : Nat, n = (m : Int) := ⟨n.toNat, by omega⟩
  exact late_fn l m hl wl (by omega)
end Go.Proofs.Ytopmmodcaoaaeaa
