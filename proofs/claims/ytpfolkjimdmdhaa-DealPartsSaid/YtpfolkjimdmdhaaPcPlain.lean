/- Lists of pieces (batch, volume) in plain Lean: volumes, the litres one by one, merging, cutting, validity, pushing. No program in sight. -/
namespace Go.Proofs.Ytpfolkjimdmdhaa.Pc
set_option linter.unusedVariables false
set_option linter.unusedSimpArgs false

def vol : List (Int × Int) → Int
  | [] => 0
  | p :: r => p.2 + vol r
theorem vol_append (a b : List (Int × Int)) : vol (a ++ b) = vol a + vol b := by
  induction a with
  | nil => simp [vol]
  | cons p r ih => simp [vol, ih]; omega
theorem vol_snoc {l : List (Int × Int)} {k : Nat} {p : Int × Int} (h : l[k]? = some p) : vol (l.take (k + 1)) = vol (l.take k) + p.2 := by
  obtain ⟨hk, rfl⟩ := List.getElem?_eq_some_iff.1 h
  rw [List.take_succ_eq_append_getElem hk, vol_append]; simp [vol]

/-- Volumes from 0 to 10^6, in a list of at most 10^5. -/
structure Sane (ps : List (Int × Int)) : Prop where
  len : ps.length ≤ 100000
  each : ∀ p ∈ ps, 0 ≤ p.2 ∧ p.2 ≤ 1000000
theorem vol_bound (ps : List (Int × Int)) (h : ∀ p ∈ ps, 0 ≤ p.2 ∧ p.2 ≤ 1000000) : 0 ≤ vol ps ∧ vol ps ≤ 1000000 * (ps.length : Int) := by
  induction ps with
  | nil => simp [vol]
  | cons p r ih =>
    have h1 := ih fun q hq => h q (List.mem_cons_of_mem _ hq)
    have h2 := h p (List.mem_cons_self)
    simp only [vol, List.length_cons]
    omega
theorem Sane.vol {ps : List (Int × Int)} (h : Sane ps) : 0 ≤ vol ps ∧ vol ps ≤ 100000000000 := by
  have h1 := vol_bound ps h.each
  have h2 := h.len
  omega
theorem Sane.take {ps : List (Int × Int)} (h : Sane ps) (k : Nat) : Sane (ps.take k) :=
  ⟨by rw [List.length_take]; have := h.len; omega, fun p hp => h.each p (List.mem_of_mem_take hp)⟩

/-- The litres one by one. -/
def litres (ps : List (Int × Int)) : List Int := ps.flatMap fun p => List.replicate p.2.toNat p.1
theorem litres_nil : litres [] = [] := rfl
theorem litres_cons (p : Int × Int) (r : List (Int × Int)) : litres (p :: r) = List.replicate p.2.toNat p.1 ++ litres r := rfl
theorem litres_append (a b : List (Int × Int)) : litres (a ++ b) = litres a ++ litres b := by simp [litres]
theorem litres_length (ps : List (Int × Int)) (h : ∀ p ∈ ps, 0 ≤ p.2) : ((litres ps).length : Int) = vol ps := by
  induction ps with
  | nil => rfl
  | cons p r ih =>
    have h1 := ih fun q hq => h q (List.mem_cons_of_mem _ hq)
    have h2 := h p (List.mem_cons_self)
    rw [litres_cons, List.length_append, List.length_replicate, vol]
    omega

/-- Merged: no empty pieces, no neighbours of one batch. -/
def Canon : List (Int × Int) → Prop
  | [] => True
  | p :: r => 0 < p.2 ∧ (∀ q, r.head? = some q → p.1 ≠ q.1) ∧ Canon r
theorem Canon.pos {ps : List (Int × Int)} (h : Canon ps) : ∀ p ∈ ps, 0 < p.2 := by
  induction ps with
  | nil => simp
  | cons p r ih =>
    intro q hq
    rcases List.mem_cons.1 hq with rfl | hq
    · exact h.1
    · exact ih h.2.2 q hq
theorem canon_snoc (a : List (Int × Int)) (p : Int × Int) : Canon (a ++ [p]) ↔ Canon a ∧ 0 < p.2 ∧ ∀ q, a.getLast? = some q → q.1 ≠ p.1 := by
  induction a with
  | nil => simp [Canon]
  | cons x r ih =>
    rw [List.cons_append]
    cases r with
    | nil =>
      simp [Canon]
      intro _
      exact And.comm
    | cons y s =>
      have e : (x :: y :: s).getLast? = (y :: s).getLast? := by simp [List.getLast?_cons_cons]
      rw [e]
      simp only [Canon] at ih ⊢
      rw [show (y :: s ++ [p]).head? = some y by simp]
      constructor
      · rintro ⟨h1, h2, h3⟩
        have := ih.1 h3
        exact ⟨⟨h1, by simpa using h2, this.1⟩, this.2⟩
      · rintro ⟨⟨h1, h2, h3⟩, h4⟩
        exact ⟨h1, by simpa using h2, ih.2 ⟨h3, h4⟩⟩

theorem litres_head {ps : List (Int × Int)} (h : Canon ps) : (litres ps).head? = ps.head?.map Prod.fst := by
  cases ps with
  | nil => rfl
  | cons p r =>
    have := h.1
    obtain ⟨n, hn⟩ : ∃ n, p.2.toNat = n + 1 := ⟨p.2.toNat - 1, by omega⟩
    rw [litres_cons, hn, List.replicate_succ]
    simp

theorem rep_eq {b : Int} {l m : List Int} (hl : ∀ x, l.head? = some x → x ≠ b) (hm : ∀ x, m.head? = some x → x ≠ b) : ∀ {u v : Nat}, List.replicate u b ++ l = List.replicate v b ++ m → u = v ∧ l = m := by
  intro u
  induction u with
  | zero =>
    intro v h
    cases v with
    | zero => simpa using h
    | succ v =>
      rw [List.replicate_succ] at h
      simp at h
      exact absurd rfl (hl b (by rw [h]; rfl))
  | succ u ih =>
    intro v h
    cases v with
    | zero =>
      rw [List.replicate_succ] at h
      simp at h
      exact absurd rfl (hm b (by rw [← h]; rfl))
    | succ v =>
      rw [List.replicate_succ, List.replicate_succ] at h
      simp only [List.cons_append, List.cons.injEq, true_and] at h
      have := ih h
      exact ⟨by omega, this.2⟩

/-- Merged pieces are told by their litres. -/
theorem canon_unique : ∀ {a b : List (Int × Int)}, Canon a → Canon b → litres a = litres b → a = b := by
  intro a
  induction a with
  | nil =>
    intro b _ hb h
    cases b with
    | nil => rfl
    | cons q s =>
      have := litres_head hb
      rw [← h] at this
      simp [litres] at this
  | cons p r ih =>
    intro b ha hb h
    cases b with
    | nil =>
      have := litres_head ha
      rw [h] at this
      simp [litres] at this
    | cons q s =>
      have h1 := litres_head ha
      have h2 := litres_head hb
      rw [h, h2] at h1
      simp at h1
      rw [litres_cons, litres_cons, h1] at h
      have k1 : ∀ x, (litres r).head? = some x → x ≠ p.1 := by
        intro x hx
        rw [litres_head ha.2.2] at hx
        obtain ⟨q', hq', rfl⟩ := Option.map_eq_some_iff.1 hx
        exact fun e => ha.2.1 q' hq' e.symm
      have k2 : ∀ x, (litres s).head? = some x → x ≠ p.1 := by
        intro x hx
        rw [litres_head hb.2.2] at hx
        obtain ⟨q', hq', rfl⟩ := Option.map_eq_some_iff.1 hx
        exact fun e => hb.2.1 q' hq' (by rw [h1]; exact e.symm)
      have := rep_eq k1 k2 h
      have e := ih ha.2.2 hb.2.2 this.2
      have hp := ha.1
      have hq := hb.1
      have : p = q := Prod.ext h1.symm (by omega)
      rw [this, e]

/-- One step of merging. -/
def jstep (out : List (Int × Int)) (p : Int × Int) : List (Int × Int) :=
  if p.2 = 0 then out else
    match out.getLast? with
    | some q => if q.1 = p.1 then out.dropLast ++ [(q.1, q.2 + p.2)] else out ++ [p]
    | none => out ++ [p]
def join (ps : List (Int × Int)) : List (Int × Int) := ps.foldl jstep []
theorem join_snoc {ps : List (Int × Int)} {k : Nat} {p : Int × Int} (h : ps[k]? = some p) : join (ps.take (k + 1)) = jstep (join (ps.take k)) p := by
  obtain ⟨hk, rfl⟩ := List.getElem?_eq_some_iff.1 h
  unfold join
  rw [List.take_succ_eq_append_getElem hk, List.foldl_append]
  rfl
theorem jstep_zero {out : List (Int × Int)} {p : Int × Int} (h : p.2 = 0) : jstep out p = out := by unfold jstep; rw [if_pos h]
theorem jstep_same {out : List (Int × Int)} {p q : Int × Int} (h : p.2 ≠ 0) (hq : out.getLast? = some q) (e : q.1 = p.1) : jstep out p = out.dropLast ++ [(q.1, q.2 + p.2)] := by unfold jstep; rw [if_neg h, hq]; simp [e]
theorem jstep_new {out : List (Int × Int)} {p : Int × Int} (h : p.2 ≠ 0) (hq : ∀ q, out.getLast? = some q → q.1 ≠ p.1) : jstep out p = out ++ [p] := by
  unfold jstep
  rw [if_neg h]
  cases hl : out.getLast? with
  | none => rfl
  | some q => simp [hq q hl]
theorem jstep_length {out : List (Int × Int)} {p : Int × Int} : (jstep out p).length ≤ out.length + 1 := by
  unfold jstep
  split
  · omega
  · cases hl : out.getLast? with
    | none => simp
    | some q =>
      have : out ≠ [] := by intro e; rw [e] at hl; cases hl
      have := List.length_pos_iff.2 this
      dsimp only
      split <;> simp <;> omega
theorem foldl_length (ps : List (Int × Int)) : ∀ out, (ps.foldl jstep out).length ≤ out.length + ps.length := by
  induction ps with
  | nil => simp
  | cons p r ih =>
    intro out
    have := ih (jstep out p)
    have := @jstep_length out p
    simp only [List.foldl_cons, List.length_cons]
    omega
theorem join_length (ps : List (Int × Int)) : (join ps).length ≤ ps.length := by
  have := foldl_length ps []
  simpa [join] using this
theorem last_split {out : List (Int × Int)} {q : Int × Int} (h : out.getLast? = some q) : out = out.dropLast ++ [q] := by
  have hne : out ≠ [] := by intro e; rw [e] at h; cases h
  have h2 := List.dropLast_concat_getLast hne
  rw [List.getLast?_eq_some_getLast hne] at h
  cases h
  exact h2.symm
theorem jstep_canon {out : List (Int × Int)} {p : Int × Int} (h : Canon out) (hp : 0 ≤ p.2) : Canon (jstep out p) ∧ litres (jstep out p) = litres out ++ List.replicate p.2.toNat p.1 ∧ vol (jstep out p) = vol out + p.2 := by
  by_cases h0 : p.2 = 0
  · rw [jstep_zero h0, h0]; simp [h]
  · cases hl : out.getLast? with
    | none =>
      rw [jstep_new h0 (by rw [hl]; intro q hq; cases hq)]
      refine ⟨(canon_snoc _ _).2 ⟨h, by omega, by rw [hl]; intro q hq; cases hq⟩, ?_, ?_⟩
      · rw [litres_append]; simp [litres]
      · rw [vol_append]; simp [vol]
    | some q =>
      by_cases e : q.1 = p.1
      · rw [jstep_same h0 hl e]
        have hs := last_split hl
        have hc : Canon (out.dropLast ++ [q]) := by rw [← hs]; exact h
        have hc2 := (canon_snoc _ _).1 hc
        refine ⟨(canon_snoc _ _).2 ⟨hc2.1, by have := hc2.2.1; simp; omega, hc2.2.2⟩, ?_, ?_⟩
        · conv => rhs; rw [hs]
          rw [litres_append, litres_append, List.append_assoc]
          congr 1
          have := hc2.2.1
          simp only [litres, List.flatMap_cons, List.flatMap_nil, List.append_nil]
          rw [← e, List.replicate_append_replicate]
          congr 1
          omega
        · conv => rhs; rw [hs]
          rw [vol_append, vol_append]
          simp [vol]; omega
      · rw [jstep_new h0 (by rw [hl]; intro q' hq'; cases hq'; exact e)]
        refine ⟨(canon_snoc _ _).2 ⟨h, by omega, by rw [hl]; intro q' hq'; cases hq'; exact e⟩, ?_, ?_⟩
        · rw [litres_append]; simp [litres]
        · rw [vol_append]; simp [vol]
theorem foldl_canon (ps : List (Int × Int)) (hp : ∀ p ∈ ps, 0 ≤ p.2) : ∀ out, Canon out → Canon (ps.foldl jstep out) ∧ litres (ps.foldl jstep out) = litres out ++ litres ps ∧ vol (ps.foldl jstep out) = vol out + vol ps := by
  induction ps with
  | nil => intro out h; simp [litres, vol, h]
  | cons p r ih =>
    intro out h
    have h1 := jstep_canon h (hp p (List.mem_cons_self))
    have h2 := ih (fun q hq => hp q (List.mem_cons_of_mem _ hq)) _ h1.1
    refine ⟨h2.1, ?_, ?_⟩
    · rw [List.foldl_cons, h2.2.1, h1.2.1, litres_cons, List.append_assoc]
    · rw [List.foldl_cons, h2.2.2, h1.2.2, vol]; omega
theorem join_canon {ps : List (Int × Int)} (hp : ∀ p ∈ ps, 0 ≤ p.2) : Canon (join ps) := (foldl_canon ps hp [] trivial).1
theorem join_litres {ps : List (Int × Int)} (hp : ∀ p ∈ ps, 0 ≤ p.2) : litres (join ps) = litres ps := by have := (foldl_canon ps hp [] trivial).2.1; rwa [litres_nil, List.nil_append] at this
theorem join_vol {ps : List (Int × Int)} (hp : ∀ p ∈ ps, 0 ≤ p.2) : vol (join ps) = vol ps := by have := (foldl_canon ps hp [] trivial).2.2; rwa [vol, Int.zero_add] at this
theorem join_self {ps : List (Int × Int)} (h : Canon ps) : join ps = ps := by
  have hp : ∀ p ∈ ps, 0 ≤ p.2 := fun p hp => by have := h.pos p hp; omega
  exact canon_unique (join_canon hp) h (join_litres hp)

/-- The first litres, and the others. -/
def heads : List (Int × Int) → Int → List (Int × Int)
  | [], _ => []
  | p :: r, k => (p.1, min p.2 k) :: heads r (k - min p.2 k)
def tails : List (Int × Int) → Int → List (Int × Int)
  | [], _ => []
  | p :: r, k => (p.1, p.2 - min p.2 k) :: tails r (k - min p.2 k)
/-- How many are left to take. -/
def rest : List (Int × Int) → Int → Int
  | [], k => k
  | p :: r, k => rest r (k - min p.2 k)
theorem heads_length (ps : List (Int × Int)) : ∀ k, (heads ps k).length = ps.length := by
  induction ps with
  | nil => intro k; rfl
  | cons p r ih => intro k; simp [heads, ih]
theorem tails_length (ps : List (Int × Int)) : ∀ k, (tails ps k).length = ps.length := by
  induction ps with
  | nil => intro k; rfl
  | cons p r ih => intro k; simp [tails, ih]
theorem heads_append (a b : List (Int × Int)) : ∀ k, heads (a ++ b) k = heads a k ++ heads b (rest a k) := by
  induction a with
  | nil => intro k; rfl
  | cons p r ih => intro k; simp [heads, rest, ih]
theorem tails_append (a b : List (Int × Int)) : ∀ k, tails (a ++ b) k = tails a k ++ tails b (rest a k) := by
  induction a with
  | nil => intro k; rfl
  | cons p r ih => intro k; simp [tails, rest, ih]
theorem rest_append (a b : List (Int × Int)) : ∀ k, rest (a ++ b) k = rest b (rest a k) := by
  induction a with
  | nil => intro k; rfl
  | cons p r ih => intro k; simp [rest, ih]
theorem heads_snoc {ps : List (Int × Int)} {i : Nat} {p : Int × Int} (k : Int) (h : ps[i]? = some p) : heads (ps.take (i + 1)) k = heads (ps.take i) k ++ [(p.1, min p.2 (rest (ps.take i) k))] := by
  obtain ⟨hk, rfl⟩ := List.getElem?_eq_some_iff.1 h
  rw [List.take_succ_eq_append_getElem hk, heads_append]; rfl
theorem tails_snoc {ps : List (Int × Int)} {i : Nat} {p : Int × Int} (k : Int) (h : ps[i]? = some p) : tails (ps.take (i + 1)) k = tails (ps.take i) k ++ [(p.1, p.2 - min p.2 (rest (ps.take i) k))] := by
  obtain ⟨hk, rfl⟩ := List.getElem?_eq_some_iff.1 h
  rw [List.take_succ_eq_append_getElem hk, tails_append]; rfl
theorem rest_snoc {ps : List (Int × Int)} {i : Nat} {p : Int × Int} (k : Int) (h : ps[i]? = some p) : rest (ps.take (i + 1)) k = rest (ps.take i) k - min p.2 (rest (ps.take i) k) := by
  obtain ⟨hk, rfl⟩ := List.getElem?_eq_some_iff.1 h
  rw [List.take_succ_eq_append_getElem hk, rest_append]; rfl
theorem rest_range (ps : List (Int × Int)) (hp : ∀ p ∈ ps, 0 ≤ p.2) : ∀ k, 0 ≤ k → 0 ≤ rest ps k ∧ rest ps k ≤ k := by
  induction ps with
  | nil => intro k h; exact ⟨h, Int.le_refl _⟩
  | cons p r ih =>
    intro k h
    have h1 := hp p (List.mem_cons_self)
    have := ih (fun q hq => hp q (List.mem_cons_of_mem _ hq)) (k - min p.2 k) (by omega)
    simp only [rest]
    omega
theorem heads_each (ps : List (Int × Int)) (hp : ∀ p ∈ ps, 0 ≤ p.2 ∧ p.2 ≤ 1000000) : ∀ k, 0 ≤ k → ∀ p ∈ heads ps k, 0 ≤ p.2 ∧ p.2 ≤ 1000000 := by
  induction ps with
  | nil => intro k _ p h; cases h
  | cons q r ih =>
    intro k hk p h
    have h1 := hp q (List.mem_cons_self)
    rcases List.mem_cons.1 h with rfl | h
    · simp only; omega
    · exact ih (fun x hx => hp x (List.mem_cons_of_mem _ hx)) _ (by omega) p h
theorem tails_each (ps : List (Int × Int)) (hp : ∀ p ∈ ps, 0 ≤ p.2 ∧ p.2 ≤ 1000000) : ∀ k, 0 ≤ k → ∀ p ∈ tails ps k, 0 ≤ p.2 ∧ p.2 ≤ 1000000 := by
  induction ps with
  | nil => intro k _ p h; cases h
  | cons q r ih =>
    intro k hk p h
    have h1 := hp q (List.mem_cons_self)
    rcases List.mem_cons.1 h with rfl | h
    · simp only; omega
    · exact ih (fun x hx => hp x (List.mem_cons_of_mem _ hx)) _ (by omega) p h
theorem heads_litres (ps : List (Int × Int)) (hp : ∀ p ∈ ps, 0 ≤ p.2) : ∀ k : Nat, litres (heads ps k) = (litres ps).take k := by
  induction ps with
  | nil => intro k; simp [heads, litres]
  | cons p r ih =>
    intro k
    have h1 := hp p (List.mem_cons_self)
    obtain ⟨v, hv⟩ := Int.eq_ofNat_of_zero_le h1
    have e : (k : Int) - min p.2 (k : Int) = ((k - min v k : Nat) : Int) := by omega
    simp only [heads]
    rw [e, litres_cons, litres_cons, ih (fun q hq => hp q (List.mem_cons_of_mem _ hq)), List.take_append, List.take_replicate, List.length_replicate]
    have e1 : (min p.2 (k : Int)).toNat = min k p.2.toNat := by omega
    have e2 : k - min v k = k - p.2.toNat := by omega
    rw [e2, ← e1]
theorem tails_litres (ps : List (Int × Int)) (hp : ∀ p ∈ ps, 0 ≤ p.2) : ∀ k : Nat, litres (tails ps k) = (litres ps).drop k := by
  induction ps with
  | nil => intro k; simp [tails, litres]
  | cons p r ih =>
    intro k
    have h1 := hp p (List.mem_cons_self)
    obtain ⟨v, hv⟩ := Int.eq_ofNat_of_zero_le h1
    have e : (k : Int) - min p.2 (k : Int) = ((k - min v k : Nat) : Int) := by omega
    simp only [tails]
    rw [e, litres_cons, litres_cons, ih (fun q hq => hp q (List.mem_cons_of_mem _ hq)), List.drop_append, List.drop_replicate, List.length_replicate]
    have e1 : (p.2 - min p.2 (k : Int)).toNat = p.2.toNat - k := by omega
    have e2 : k - min v k = k - p.2.toNat := by omega
    rw [e2, ← e1]

/-! ### Validity -/
/-- What Valid asks of the i-th piece. -/
def OkAt (ps : List (Int × Int)) (i : Nat) : Prop :=
  ∀ p, ps[i]? = some p → (0 ≤ p.1 ∧ p.1 < 1000 ∧ 1 ≤ p.2 ∧ p.2 ≤ 1000000) ∧ ∀ q, 0 < i → ps[i - 1]? = some q → q.1 ≠ p.1
structure Vd (ps : List (Int × Int)) : Prop where
  len : ps.length ≤ 200
  ok : ∀ i, i < ps.length → OkAt ps i
  vol : vol ps ≤ 1000000
noncomputable def valid (ps : List (Int × Int)) : Bool := @decide (Vd ps) (Classical.propDecidable _)
theorem valid_iff {ps : List (Int × Int)} : valid ps = true ↔ Vd ps := by unfold valid; simp
theorem valid_t {ps : List (Int × Int)} (h : Vd ps) : valid ps = true := valid_iff.2 h
theorem valid_f {ps : List (Int × Int)} (h : ¬ Vd ps) : valid ps = false := by
  cases hv : valid ps with
  | false => rfl
  | true => exact absurd (valid_iff.1 hv) h
theorem Vd.each {ps : List (Int × Int)} (h : Vd ps) : ∀ p ∈ ps, (0 ≤ p.1 ∧ p.1 < 1000) ∧ 1 ≤ p.2 ∧ p.2 ≤ 1000000 := by
  intro p hp
  obtain ⟨i, hi⟩ := List.getElem?_of_mem hp
  have := (h.ok i (List.getElem?_eq_some_iff.1 hi).1 p hi).1
  exact ⟨⟨this.1, this.2.1⟩, this.2.2⟩
theorem Vd.sane {ps : List (Int × Int)} (h : Vd ps) : Sane ps := ⟨by have := h.len; omega, fun p hp => by have := (h.each p hp).2; omega⟩
theorem Vd.nonneg {ps : List (Int × Int)} (h : Vd ps) : ∀ p ∈ ps, 0 ≤ p.2 := fun p hp => by have := (h.each p hp).2; omega
theorem canon_of_at (ps : List (Int × Int)) (h : ∀ i, i < ps.length → OkAt ps i) : Canon ps := by
  induction ps with
  | nil => trivial
  | cons p r ih =>
    refine ⟨?_, ?_, ih fun i hi => ?_⟩
    · have := (h 0 (by simp) p rfl).1; omega
    · intro q hq
      cases r with
      | nil => cases hq
      | cons y s =>
        simp at hq; subst hq
        exact (h 1 (by simp) y rfl).2 p (by omega) rfl
    · intro q hq
      have h1 := h (i + 1) (by simp; omega) q (by simpa using hq)
      refine ⟨h1.1, fun x hi hx => h1.2 x (by omega) ?_⟩
      rw [Nat.add_sub_cancel]
      obtain ⟨j, rfl⟩ : ∃ j, i = j + 1 := ⟨i - 1, by omega⟩
      simpa using hx
theorem Vd.canon {ps : List (Int × Int)} (h : Vd ps) : Canon ps := canon_of_at ps h.ok
theorem at_of_canon (ps : List (Int × Int)) (hc : Canon ps) (h : ∀ p ∈ ps, (0 ≤ p.1 ∧ p.1 < 1000) ∧ p.2 ≤ 1000000) : ∀ i, i < ps.length → OkAt ps i := by
  induction ps with
  | nil => intro i hi; simp at hi
  | cons p r ih =>
    intro i hi
    cases i with
    | zero =>
      intro q hq
      simp at hq; subst hq
      have := h p (List.mem_cons_self)
      have := hc.1
      exact ⟨by omega, fun _ h0 => by omega⟩
    | succ i =>
      intro q hq
      have hq' : r[i]? = some q := by simpa using hq
      have h1 := ih hc.2.2 (fun x hx => h x (List.mem_cons_of_mem _ hx)) i (by simpa using hi) q hq'
      refine ⟨h1.1, fun x _ hx => ?_⟩
      rw [Nat.add_sub_cancel] at hx
      cases i with
      | zero =>
        simp at hx; subst hx
        refine hc.2.1 q ?_
        rw [List.head?_eq_getElem?]; exact hq'
      | succ j => exact h1.2 x (by omega) (by simpa using hx)
/-- Merged pieces of batches in their range are valid, where they are few and not too much. -/
theorem vd_of_canon {ps : List (Int × Int)} (hc : Canon ps) (hb : ∀ p ∈ ps, 0 ≤ p.1 ∧ p.1 < 1000) (hl : ps.length ≤ 200) (hv : Pc.vol ps ≤ 1000000) : Vd ps := by
  refine ⟨hl, at_of_canon ps hc fun p hp => ⟨hb p hp, ?_⟩, hv⟩
  have hpos : ∀ q ∈ ps, 0 ≤ q.2 := fun q hq => by have := hc.pos q hq; omega
  have : ∀ l : List (Int × Int), (∀ q ∈ l, 0 ≤ q.2) → ∀ q ∈ l, q.2 ≤ Pc.vol l := by
    intro l
    induction l with
    | nil => intro _ q hq; cases hq
    | cons x s ih =>
      intro hl q hq
      have h0 : 0 ≤ Pc.vol s := by
        clear ih hq
        have hs : ∀ q ∈ s, 0 ≤ q.2 := fun q hq => hl q (List.mem_cons_of_mem _ hq)
        clear hl
        induction s with
        | nil => simp [Pc.vol]
        | cons y t ih => have := ih fun q hq => hs q (List.mem_cons_of_mem _ hq); have := hs y (List.mem_cons_self); simp only [Pc.vol]; omega
      have h1 := hl x (List.mem_cons_self)
      simp only [Pc.vol]
      rcases List.mem_cons.1 hq with rfl | hq
      · omega
      · have := ih (fun z hz => hl z (List.mem_cons_of_mem _ hz)) q hq; omega
  have := this ps hpos p hp
  omega

/-! ### The functions -/
noncomputable def volume (ps : List (Int × Int)) : Int := if valid ps = true then vol ps else 0
/-- The batch of a litre in pieces that need not be valid. -/
def atIn : List (Int × Int) → Int → Int
  | [], _ => -1
  | p :: r, k => if k < p.2 then p.1 else atIn r (k - p.2)
noncomputable def at_ (ps : List (Int × Int)) (k : Int) : Int := if valid ps = true ∧ 0 ≤ k then atIn ps k else -1
def of_ : List (Int × Int) → Int → Int
  | [], _ => 0
  | p :: r, b => (if p.1 = b then p.2 else 0) + of_ r b
theorem of_append (a c : List (Int × Int)) (b : Int) : of_ (a ++ c) b = of_ a b + of_ c b := by
  induction a with
  | nil => simp [of_]
  | cons p r ih => simp only [List.cons_append, of_, ih]; omega
theorem of_snoc {l : List (Int × Int)} {k : Nat} {p : Int × Int} (b : Int) (h : l[k]? = some p) : of_ (l.take (k + 1)) b = of_ (l.take k) b + (if p.1 = b then p.2 else 0) := by
  obtain ⟨hk, rfl⟩ := List.getElem?_eq_some_iff.1 h
  rw [List.take_succ_eq_append_getElem hk, of_append]; simp [of_]
theorem of_bound (ps : List (Int × Int)) (b : Int) (h : ∀ p ∈ ps, 0 ≤ p.2 ∧ p.2 ≤ 1000000) : 0 ≤ of_ ps b ∧ of_ ps b ≤ 1000000 * (ps.length : Int) := by
  induction ps with
  | nil => simp [of_]
  | cons p r ih =>
    have h1 := ih fun q hq => h q (List.mem_cons_of_mem _ hq)
    have h2 := h p (List.mem_cons_self)
    simp only [of_, List.length_cons]
    split <;> omega
noncomputable def batch (ps : List (Int × Int)) (b : Int) : Int := if valid ps = true then of_ ps b else 0
/-- What Merge takes. -/
def Proper (ps : List (Int × Int)) : Prop := ps.length ≤ 400 ∧ ∀ p ∈ ps, (0 ≤ p.1 ∧ p.1 < 1000) ∧ 0 ≤ p.2 ∧ p.2 ≤ 1000000
noncomputable def merge (ps : List (Int × Int)) : List (Int × Int) := by
  classical exact if Proper ps then join ps else []
/-- A push without limits: what lies in it then, and what has left. -/
def shift (f g : List (Int × Int)) (back : Bool) : List (Int × Int) × List (Int × Int) :=
  if back then (join (tails (f ++ g) (vol g)), join (heads (f ++ g) (vol g)))
  else (join (heads (g ++ f) (vol f)), join (tails (g ++ f) (vol f)))
noncomputable def push (f g : List (Int × Int)) (back : Bool) : List (Int × Int) × List (Int × Int) × Int := by
  classical
  exact if valid f = true ∧ valid g = true then
    if (shift f g back).1.length ≤ 200 ∧ (shift f g back).2.length ≤ 200 then ((shift f g back).1, (shift f g back).2, 0) else ([], [], 4)
  else ([], [], 9)
end Go.Proofs.Ytpfolkjimdmdhaa.Pc
