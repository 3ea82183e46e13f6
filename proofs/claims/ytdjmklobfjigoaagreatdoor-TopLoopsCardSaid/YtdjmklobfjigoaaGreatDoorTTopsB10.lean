/- Several texts of this proof, one behind the other. No condition. -/
import Derived.Test.YtdjmklobfjigoaaGreatDoorTTopsB9
import Derived.Test.YtdjmklobfjigoaaGreatDoorTTopsB8
import Derived.OrdersIn
import Derived.RangeFuncCalls
set_option maxRecDepth 100000
set_option maxHeartbeats 16000000
set_option linter.unusedVariables false
set_option linter.unusedSimpArgs false
namespace Go.Proofs.YtdjmklobfjigoaaGreatDoor.Pc
def vol : List (Int × Int) → Int
  | [] => 0
  | p :: r => p.2 + vol r
theorem vol_append (a b : List (Int × Int)) : vol (a ++ b) = vol a + vol b := by
  induction a with
  | nil => simp [vol]
  | cons p r ih => simp [vol, ih]; omega
theorem vol_snoc {l : List (Int × Int)} {k : Nat} {p : Int × Int} (h : l[k]? = some p) : vol (l.take (k + 1)) = vol (l.take k) + p.2 := by
  obtain ⟨hk, rfl⟩ := List.getElem?_eq_some_iff.1 h
  rw [List.take_succ_eq_append_getElem hk, vol_append]; simp [vol]
structure Sane (ps : List (Int × Int)) : Prop where
  len : ps.length ≤ 100000
  each : ∀ p ∈ ps, 0 ≤ p.2 ∧ p.2 ≤ 1000000
theorem vol_bound (ps : List (Int × Int)) (h : ∀ p ∈ ps, 0 ≤ p.2 ∧ p.2 ≤ 1000000) : 0 ≤ vol ps ∧ vol ps ≤ 1000000 * (ps.length : Int) := by
  induction ps with
  | nil => simp [vol]
  | cons p r ih =>
    have h1 := ih fun q hq => h q (List.mem_cons_of_mem _ hq)
    have h2 := h p (List.mem_cons_self)
    simp only [vol, List.length_cons]
    omega
theorem Sane.vol {ps : List (Int × Int)} (h : Sane ps) : 0 ≤ vol ps ∧ vol ps ≤ 100000000000 := by
  have h1 := vol_bound ps h.each
  have h2 := h.len
  omega
theorem Sane.take {ps : List (Int × Int)} (h : Sane ps) (k : Nat) : Sane (ps.take k) :=
  ⟨by rw [List.length_take]; have := h.len; omega, fun p hp => h.each p (List.mem_of_mem_take hp)⟩
def litres (ps : List (Int × Int)) : List Int := ps.flatMap fun p => List.replicate p.2.toNat p.1
theorem litres_nil : litres [] = [] := rfl
theorem litres_cons (p : Int × Int) (r : List (Int × Int)) : litres (p :: r) = List.replicate p.2.toNat p.1 ++ litres r := rfl
theorem litres_append (a b : List (Int × Int)) : litres (a ++ b) = litres a ++ litres b := by simp [litres]
theorem litres_length (ps : List (Int × Int)) (h : ∀ p ∈ ps, 0 ≤ p.2) : ((litres ps).length : Int) = vol ps := by
  induction ps with
  | nil => rfl
  | cons p r ih =>
    have h1 := ih fun q hq => h q (List.mem_cons_of_mem _ hq)
    have h2 := h p (List.mem_cons_self)
    rw [litres_cons, List.length_append, List.length_replicate, vol]
    omega
def Canon : List (Int × Int) → Prop
  | [] => True
  | p :: r => 0 < p.2 ∧ (∀ q, r.head? = some q → p.1 ≠ q.1) ∧ Canon r
theorem Canon.pos {ps : List (Int × Int)} (h : Canon ps) : ∀ p ∈ ps, 0 < p.2 := by
  induction ps with
  | nil => simp
  | cons p r ih =>
    intro q hq
    rcases List.mem_cons.1 hq with rfl | hq
    · exact h.1
    · exact ih h.2.2 q hq
theorem canon_snoc (a : List (Int × Int)) (p : Int × Int) : Canon (a ++ [p]) ↔ Canon a ∧ 0 < p.2 ∧ ∀ q, a.getLast? = some q → q.1 ≠ p.1 := by
  induction a with
  | nil => simp [Canon]
  | cons x r ih =>
    rw [List.cons_append]
    cases r with
    | nil =>
      simp [Canon]
      intro _
      exact And.comm
    | cons y s =>
      have e : (x :: y :: s).getLast? = (y :: s).getLast? := by simp [List.getLast?_cons_cons]
      rw [e]
      simp only [Canon] at ih ⊢
      rw [show (y :: s ++ [p]).head? = some y by simp]
      constructor
      · rintro ⟨h1, h2, h3⟩
        have := ih.1 h3
        exact ⟨⟨h1, by simpa using h2, this.1⟩, this.2⟩
      · rintro ⟨⟨h1, h2, h3⟩, h4⟩
        exact ⟨h1, by simpa using h2, ih.2 ⟨h3, h4⟩⟩
theorem litres_head {ps : List (Int × Int)} (h : Canon ps) : (litres ps).head? = ps.head?.map Prod.fst := by
  cases ps with
  | nil => rfl
  | cons p r =>
    have := h.1
    obtain ⟨n, hn⟩ : ∃ n, p.2.toNat = n + 1 := ⟨p.2.toNat - 1, by omega⟩
    rw [litres_cons, hn, List.replicate_succ]
    simp
theorem rep_eq {b : Int} {l m : List Int} (hl : ∀ x, l.head? = some x → x ≠ b) (hm : ∀ x, m.head? = some x → x ≠ b) : ∀ {u v : Nat}, List.replicate u b ++ l = List.replicate v b ++ m → u = v ∧ l = m := by
  intro u
  induction u with
  | zero =>
    intro v h
    cases v with
    | zero => simpa using h
    | succ v =>
      rw [List.replicate_succ] at h
      simp at h
      exact absurd rfl (hl b (by rw [h]; rfl))
  | succ u ih =>
    intro v h
    cases v with
    | zero =>
      rw [List.replicate_succ] at h
      simp at h
      exact absurd rfl (hm b (by rw [← h]; rfl))
    | succ v =>
      rw [List.replicate_succ, List.replicate_succ] at h
      simp only [List.cons_append, List.cons.injEq, true_and] at h
      have := ih h
      exact ⟨by omega, this.2⟩
theorem canon_unique : ∀ {a b : List (Int × Int)}, Canon a → Canon b → litres a = litres b → a = b := by
  intro a
  induction a with
  | nil =>
    intro b _ hb h
    cases b with
    | nil => rfl
    | cons q s =>
      have := litres_head hb
      rw [← h] at this
      simp [litres] at this
  | cons p r ih =>
    intro b ha hb h
    cases b with
    | nil =>
      have := litres_head ha
      rw [h] at this
      simp [litres] at this
    | cons q s =>
      have h1 := litres_head ha
      have h2 := litres_head hb
      rw [h, h2] at h1
      simp at h1
      rw [litres_cons, litres_cons, h1] at h
      have k1 : ∀ x, (litres r).head? = some x → x ≠ p.1 := by
        intro x hx
        rw [litres_head ha.2.2] at hx
        obtain ⟨q', hq', rfl⟩ := Option.map_eq_some_iff.1 hx
        exact fun e => ha.2.1 q' hq' e.symm
      have k2 : ∀ x, (litres s).head? = some x → x ≠ p.1 := by
        intro x hx
        rw [litres_head hb.2.2] at hx
        obtain ⟨q', hq', rfl⟩ := Option.map_eq_some_iff.1 hx
        exact fun e => hb.2.1 q' hq' (by rw [h1]; exact e.symm)
      have := rep_eq k1 k2 h
      have e := ih ha.2.2 hb.2.2 this.2
      have hp := ha.1
      have hq := hb.1
      have : p = q := Prod.ext h1.symm (by omega)
      rw [this, e]
def jstep (out : List (Int × Int)) (p : Int × Int) : List (Int × Int) :=
  if p.2 = 0 then out else
    match out.getLast? with
    | some q => if q.1 = p.1 then out.dropLast ++ [(q.1, q.2 + p.2)] else out ++ [p]
    | none => out ++ [p]
def join (ps : List (Int × Int)) : List (Int × Int) := ps.foldl jstep []
theorem join_snoc {ps : List (Int × Int)} {k : Nat} {p : Int × Int} (h : ps[k]? = some p) : join (ps.take (k + 1)) = jstep (join (ps.take k)) p := by
  obtain ⟨hk, rfl⟩ := List.getElem?_eq_some_iff.1 h
  unfold join
  rw [List.take_succ_eq_append_getElem hk, List.foldl_append]
  rfl
theorem jstep_zero {out : List (Int × Int)} {p : Int × Int} (h : p.2 = 0) : jstep out p = out := by unfold jstep; rw [if_pos h]
theorem jstep_same {out : List (Int × Int)} {p q : Int × Int} (h : p.2 ≠ 0) (hq : out.getLast? = some q) (e : q.1 = p.1) : jstep out p = out.dropLast ++ [(q.1, q.2 + p.2)] := by unfold jstep; rw [if_neg h, hq]; simp [e]
theorem jstep_new {out : List (Int × Int)} {p : Int × Int} (h : p.2 ≠ 0) (hq : ∀ q, out.getLast? = some q → q.1 ≠ p.1) : jstep out p = out ++ [p] := by
  unfold jstep
  rw [if_neg h]
  cases hl : out.getLast? with
  | none => rfl
  | some q => simp [hq q hl]
theorem jstep_length {out : List (Int × Int)} {p : Int × Int} : (jstep out p).length ≤ out.length + 1 := by
  unfold jstep
  split
  · omega
  · cases hl : out.getLast? with
    | none => simp
    | some q =>
      have : out ≠ [] := by intro e; rw [e] at hl; cases hl
      have := List.length_pos_iff.2 this
      dsimp only
      split <;> simp <;> omega
theorem foldl_length (ps : List (Int × Int)) : ∀ out, (ps.foldl jstep out).length ≤ out.length + ps.length := by
  induction ps with
  | nil => simp
  | cons p r ih =>
    intro out
    have := ih (jstep out p)
    have := @jstep_length out p
    simp only [List.foldl_cons, List.length_cons]
    omega
theorem join_length (ps : List (Int × Int)) : (join ps).length ≤ ps.length := by
  have := foldl_length ps []
  simpa [join] using this
theorem last_split {out : List (Int × Int)} {q : Int × Int} (h : out.getLast? = some q) : out = out.dropLast ++ [q] := by
  have hne : out ≠ [] := by intro e; rw [e] at h; cases h
  have h2 := List.dropLast_concat_getLast hne
  rw [List.getLast?_eq_some_getLast hne] at h
  cases h
  exact h2.symm
theorem jstep_canon {out : List (Int × Int)} {p : Int × Int} (h : Canon out) (hp : 0 ≤ p.2) : Canon (jstep out p) ∧ litres (jstep out p) = litres out ++ List.replicate p.2.toNat p.1 ∧ vol (jstep out p) = vol out + p.2 := by
  by_cases h0 : p.2 = 0
  · rw [jstep_zero h0, h0]; simp [h]
  · cases hl : out.getLast? with
    | none =>
      rw [jstep_new h0 (by rw [hl]; intro q hq; cases hq)]
      refine ⟨(canon_snoc _ _).2 ⟨h, by omega, by rw [hl]; intro q hq; cases hq⟩, ?_, ?_⟩
      · rw [litres_append]; simp [litres]
      · rw [vol_append]; simp [vol]
    | some q =>
      by_cases e : q.1 = p.1
      · rw [jstep_same h0 hl e]
        have hs := last_split hl
        have hc : Canon (out.dropLast ++ [q]) := by rw [← hs]; exact h
        have hc2 := (canon_snoc _ _).1 hc
        refine ⟨(canon_snoc _ _).2 ⟨hc2.1, by have := hc2.2.1; simp; omega, hc2.2.2⟩, ?_, ?_⟩
        · conv => rhs; rw [hs]
          rw [litres_append, litres_append, List.append_assoc]
          congr 1
          have := hc2.2.1
          simp only [litres, List.flatMap_cons, List.flatMap_nil, List.append_nil]
          rw [← e, List.replicate_append_replicate]
          congr 1
          omega
        · conv => rhs; rw [hs]
          rw [vol_append, vol_append]
          simp [vol]; omega
      · rw [jstep_new h0 (by rw [hl]; intro q' hq'; cases hq'; exact e)]
        refine ⟨(canon_snoc _ _).2 ⟨h, by omega, by rw [hl]; intro q' hq'; cases hq'; exact e⟩, ?_, ?_⟩
        · rw [litres_append]; simp [litres]
        · rw [vol_append]; simp [vol]
theorem foldl_canon (ps : List (Int × Int)) (hp : ∀ p ∈ ps, 0 ≤ p.2) : ∀ out, Canon out → Canon (ps.foldl jstep out) ∧ litres (ps.foldl jstep out) = litres out ++ litres ps ∧ vol (ps.foldl jstep out) = vol out + vol ps := by
  induction ps with
  | nil => intro out h; simp [litres, vol, h]
  | cons p r ih =>
    intro out h
    have h1 := jstep_canon h (hp p (List.mem_cons_self))
    have h2 := ih (fun q hq => hp q (List.mem_cons_of_mem _ hq)) _ h1.1
    refine ⟨h2.1, ?_, ?_⟩
    · rw [List.foldl_cons, h2.2.1, h1.2.1, litres_cons, List.append_assoc]
    · rw [List.foldl_cons, h2.2.2, h1.2.2, vol]; omega
theorem join_canon {ps : List (Int × Int)} (hp : ∀ p ∈ ps, 0 ≤ p.2) : Canon (join ps) := (foldl_canon ps hp [] trivial).1
theorem join_litres {ps : List (Int × Int)} (hp : ∀ p ∈ ps, 0 ≤ p.2) : litres (join ps) = litres ps := by have := (foldl_canon ps hp [] trivial).2.1; rwa [litres_nil, List.nil_append] at this
theorem join_vol {ps : List (Int × Int)} (hp : ∀ p ∈ ps, 0 ≤ p.2) : vol (join ps) = vol ps := by have := (foldl_canon ps hp [] trivial).2.2; rwa [vol, Int.zero_add] at this
theorem join_self {ps : List (Int × Int)} (h : Canon ps) : join ps = ps := by
  have hp : ∀ p ∈ ps, 0 ≤ p.2 := fun p hp => by have := h.pos p hp; omega
  exact canon_unique (join_canon hp) h (join_litres hp)
def heads : List (Int × Int) → Int → List (Int × Int)
  | [], _ => []
  | p :: r, k => (p.1, min p.2 k) :: heads r (k - min p.2 k)
def tails : List (Int × Int) → Int → List (Int × Int)
  | [], _ => []
  | p :: r, k => (p.1, p.2 - min p.2 k) :: tails r (k - min p.2 k)
def rest : List (Int × Int) → Int → Int
  | [], k => k
  | p :: r, k => rest r (k - min p.2 k)
theorem heads_length (ps : List (Int × Int)) : ∀ k, (heads ps k).length = ps.length := by
  induction ps with
  | nil => intro k; rfl
  | cons p r ih => intro k; simp [heads, ih]
theorem tails_length (ps : List (Int × Int)) : ∀ k, (tails ps k).length = ps.length := by
  induction ps with
  | nil => intro k; rfl
  | cons p r ih => intro k; simp [tails, ih]
theorem heads_append (a b : List (Int × Int)) : ∀ k, heads (a ++ b) k = heads a k ++ heads b (rest a k) := by
  induction a with
  | nil => intro k; rfl
  | cons p r ih => intro k; simp [heads, rest, ih]
theorem tails_append (a b : List (Int × Int)) : ∀ k, tails (a ++ b) k = tails a k ++ tails b (rest a k) := by
  induction a with
  | nil => intro k; rfl
  | cons p r ih => intro k; simp [tails, rest, ih]
theorem rest_append (a b : List (Int × Int)) : ∀ k, rest (a ++ b) k = rest b (rest a k) := by
  induction a with
  | nil => intro k; rfl
  | cons p r ih => intro k; simp [rest, ih]
theorem heads_snoc {ps : List (Int × Int)} {i : Nat} {p : Int × Int} (k : Int) (h : ps[i]? = some p) : heads (ps.take (i + 1)) k = heads (ps.take i) k ++ [(p.1, min p.2 (rest (ps.take i) k))] := by
  obtain ⟨hk, rfl⟩ := List.getElem?_eq_some_iff.1 h
  rw [List.take_succ_eq_append_getElem hk, heads_append]; rfl
theorem tails_snoc {ps : List (Int × Int)} {i : Nat} {p : Int × Int} (k : Int) (h : ps[i]? = some p) : tails (ps.take (i + 1)) k = tails (ps.take i) k ++ [(p.1, p.2 - min p.2 (rest (ps.take i) k))] := by
  obtain ⟨hk, rfl⟩ := List.getElem?_eq_some_iff.1 h
  rw [List.take_succ_eq_append_getElem hk, tails_append]; rfl
theorem rest_snoc {ps : List (Int × Int)} {i : Nat} {p : Int × Int} (k : Int) (h : ps[i]? = some p) : rest (ps.take (i + 1)) k = rest (ps.take i) k - min p.2 (rest (ps.take i) k) := by
  obtain ⟨hk, rfl⟩ := List.getElem?_eq_some_iff.1 h
  rw [List.take_succ_eq_append_getElem hk, rest_append]; rfl
theorem rest_range (ps : List (Int × Int)) (hp : ∀ p ∈ ps, 0 ≤ p.2) : ∀ k, 0 ≤ k → 0 ≤ rest ps k ∧ rest ps k ≤ k := by
  induction ps with
  | nil => intro k h; exact ⟨h, Int.le_refl _⟩
  | cons p r ih =>
    intro k h
    have h1 := hp p (List.mem_cons_self)
    have := ih (fun q hq => hp q (List.mem_cons_of_mem _ hq)) (k - min p.2 k) (by omega)
    simp only [rest]
    omega
theorem heads_each (ps : List (Int × Int)) (hp : ∀ p ∈ ps, 0 ≤ p.2 ∧ p.2 ≤ 1000000) : ∀ k, 0 ≤ k → ∀ p ∈ heads ps k, 0 ≤ p.2 ∧ p.2 ≤ 1000000 := by
  induction ps with
  | nil => intro k _ p h; cases h
  | cons q r ih =>
    intro k hk p h
    have h1 := hp q (List.mem_cons_self)
    rcases List.mem_cons.1 h with rfl | h
    · simp only; omega
    · exact ih (fun x hx => hp x (List.mem_cons_of_mem _ hx)) _ (by omega) p h
theorem tails_each (ps : List (Int × Int)) (hp : ∀ p ∈ ps, 0 ≤ p.2 ∧ p.2 ≤ 1000000) : ∀ k, 0 ≤ k → ∀ p ∈ tails ps k, 0 ≤ p.2 ∧ p.2 ≤ 1000000 := by
  induction ps with
  | nil => intro k _ p h; cases h
  | cons q r ih =>
    intro k hk p h
    have h1 := hp q (List.mem_cons_self)
    rcases List.mem_cons.1 h with rfl | h
    · simp only; omega
    · exact ih (fun x hx => hp x (List.mem_cons_of_mem _ hx)) _ (by omega) p h
theorem heads_litres (ps : List (Int × Int)) (hp : ∀ p ∈ ps, 0 ≤ p.2) : ∀ k : Nat, litres (heads ps k) = (litres ps).take k := by
  induction ps with
  | nil => intro k; simp [heads, litres]
  | cons p r ih =>
    intro k
    have h1 := hp p (List.mem_cons_self)
    obtain ⟨v, hv⟩ := Int.eq_ofNat_of_zero_le h1
    have e : (k : Int) - min p.2 (k : Int) = ((k - min v k : Nat) : Int) := by omega
    simp only [heads]
    rw [e, litres_cons, litres_cons, ih (fun q hq => hp q (List.mem_cons_of_mem _ hq)), List.take_append, List.take_replicate, List.length_replicate]
    have e1 : (min p.2 (k : Int)).toNat = min k p.2.toNat := by omega
    have e2 : k - min v k = k - p.2.toNat := by omega
    rw [e2, ← e1]
theorem tails_litres (ps : List (Int × Int)) (hp : ∀ p ∈ ps, 0 ≤ p.2) : ∀ k : Nat, litres (tails ps k) = (litres ps).drop k := by
  induction ps with
  | nil => intro k; simp [tails, litres]
  | cons p r ih =>
    intro k
    have h1 := hp p (List.mem_cons_self)
    obtain ⟨v, hv⟩ := Int.eq_ofNat_of_zero_le h1
    have e : (k : Int) - min p.2 (k : Int) = ((k - min v k : Nat) : Int) := by omega
    simp only [tails]
    rw [e, litres_cons, litres_cons, ih (fun q hq => hp q (List.mem_cons_of_mem _ hq)), List.drop_append, List.drop_replicate, List.length_replicate]
    have e1 : (p.2 - min p.2 (k : Int)).toNat = p.2.toNat - k := by omega
    have e2 : k - min v k = k - p.2.toNat := by omega
    rw [e2, ← e1]
/-! ### Validity -/
def OkAt (ps : List (Int × Int)) (i : Nat) : Prop :=
  ∀ p, ps[i]? = some p → (0 ≤ p.1 ∧ p.1 < 1000 ∧ 1 ≤ p.2 ∧ p.2 ≤ 1000000) ∧ ∀ q, 0 < i → ps[i - 1]? = some q → q.1 ≠ p.1
structure Vd (ps : List (Int × Int)) : Prop where
  len : ps.length ≤ 200
  ok : ∀ i, i < ps.length → OkAt ps i
  vol : vol ps ≤ 1000000
noncomputable def valid (ps : List (Int × Int)) : Bool := @decide (Vd ps) (Classical.propDecidable _)
theorem valid_iff {ps : List (Int × Int)} : valid ps = true ↔ Vd ps := by unfold valid; simp
theorem valid_t {ps : List (Int × Int)} (h : Vd ps) : valid ps = true := valid_iff.2 h
theorem valid_f {ps : List (Int × Int)} (h : ¬ Vd ps) : valid ps = false := by
  cases hv : valid ps with
  | false => rfl
  | true => exact absurd (valid_iff.1 hv) h
theorem Vd.each {ps : List (Int × Int)} (h : Vd ps) : ∀ p ∈ ps, (0 ≤ p.1 ∧ p.1 < 1000) ∧ 1 ≤ p.2 ∧ p.2 ≤ 1000000 := by
  intro p hp
  obtain ⟨i, hi⟩ := List.getElem?_of_mem hp
  have := (h.ok i (List.getElem?_eq_some_iff.1 hi).1 p hi).1
  exact ⟨⟨this.1, this.2.1⟩, this.2.2⟩
theorem Vd.sane {ps : List (Int × Int)} (h : Vd ps) : Sane ps := ⟨by have := h.len; omega, fun p hp => by have := (h.each p hp).2; omega⟩
theorem Vd.nonneg {ps : List (Int × Int)} (h : Vd ps) : ∀ p ∈ ps, 0 ≤ p.2 := fun p hp => by have := (h.each p hp).2; omega
theorem canon_of_at (ps : List (Int × Int)) (h : ∀ i, i < ps.length → OkAt ps i) : Canon ps := by
  induction ps with
  | nil => trivial
  | cons p r ih =>
    refine ⟨?_, ?_, ih fun i hi => ?_⟩
    · have := (h 0 (by simp) p rfl).1; omega
    · intro q hq
      cases r with
      | nil => cases hq
      | cons y s =>
        simp at hq; subst hq
        exact (h 1 (by simp) y rfl).2 p (by omega) rfl
    · intro q hq
      have h1 := h (i + 1) (by simp; omega) q (by simpa using hq)
      refine ⟨h1.1, fun x hi hx => h1.2 x (by omega) ?_⟩
      rw [Nat.add_sub_cancel]
      obtain ⟨j, rfl⟩ : ∃ j, i = j + 1 := ⟨i - 1, by omega⟩
      simpa using hx
theorem Vd.canon {ps : List (Int × Int)} (h : Vd ps) : Canon ps := canon_of_at ps h.ok
theorem at_of_canon (ps : List (Int × Int)) (hc : Canon ps) (h : ∀ p ∈ ps, (0 ≤ p.1 ∧ p.1 < 1000) ∧ p.2 ≤ 1000000) : ∀ i, i < ps.length → OkAt ps i := by
  induction ps with
  | nil => intro i hi; simp at hi
  | cons p r ih =>
    intro i hi
    cases i with
    | zero =>
      intro q hq
      simp at hq; subst hq
      have := h p (List.mem_cons_self)
      have := hc.1
      exact ⟨by omega, fun _ h0 => by omega⟩
    | succ i =>
      intro q hq
      have hq' : r[i]? = some q := by simpa using hq
      have h1 := ih hc.2.2 (fun x hx => h x (List.mem_cons_of_mem _ hx)) i (by simpa using hi) q hq'
      refine ⟨h1.1, fun x _ hx => ?_⟩
      rw [Nat.add_sub_cancel] at hx
      cases i with
      | zero =>
        simp at hx; subst hx
        refine hc.2.1 q ?_
        rw [List.head?_eq_getElem?]; exact hq'
      | succ j => exact h1.2 x (by omega) (by simpa using hx)
theorem vd_of_canon {ps : List (Int × Int)} (hc : Canon ps) (hb : ∀ p ∈ ps, 0 ≤ p.1 ∧ p.1 < 1000) (hl : ps.length ≤ 200) (hv : Pc.vol ps ≤ 1000000) : Vd ps := by
  refine ⟨hl, at_of_canon ps hc fun p hp => ⟨hb p hp, ?_⟩, hv⟩
  have hpos : ∀ q ∈ ps, 0 ≤ q.2 := fun q hq => by have := hc.pos q hq; omega
  have : ∀ l : List (Int × Int), (∀ q ∈ l, 0 ≤ q.2) → ∀ q ∈ l, q.2 ≤ Pc.vol l := by
    intro l
    induction l with
    | nil => intro _ q hq; cases hq
    | cons x s ih =>
      intro hl q hq
      have h0 : 0 ≤ Pc.vol s := by
        clear ih hq
        have hs : ∀ q ∈ s, 0 ≤ q.2 := fun q hq => hl q (List.mem_cons_of_mem _ hq)
        clear hl
        induction s with
        | nil => simp [Pc.vol]
        | cons y t ih => have := ih fun q hq => hs q (List.mem_cons_of_mem _ hq); have := hs y (List.mem_cons_self); simp only [Pc.vol]; omega
      have h1 := hl x (List.mem_cons_self)
      simp only [Pc.vol]
      rcases List.mem_cons.1 hq with rfl | hq
      · omega
      · have := ih (fun z hz => hl z (List.mem_cons_of_mem _ hz)) q hq; omega
  have := this ps hpos p hp
  omega
/-! ### The functions -/
def of_ : List (Int × Int) → Int → Int
  | [], _ => 0
  | p :: r, b => (if p.1 = b then p.2 else 0) + of_ r b
theorem of_append (a c : List (Int × Int)) (b : Int) : of_ (a ++ c) b = of_ a b + of_ c b := by
  induction a with
  | nil => simp [of_]
  | cons p r ih => simp only [List.cons_append, of_, ih]; omega
theorem of_snoc {l : List (Int × Int)} {k : Nat} {p : Int × Int} (b : Int) (h : l[k]? = some p) : of_ (l.take (k + 1)) b = of_ (l.take k) b + (if p.1 = b then p.2 else 0) := by
  obtain ⟨hk, rfl⟩ := List.getElem?_eq_some_iff.1 h
  rw [List.take_succ_eq_append_getElem hk, of_append]; simp [of_]
theorem of_bound (ps : List (Int × Int)) (b : Int) (h : ∀ p ∈ ps, 0 ≤ p.2 ∧ p.2 ≤ 1000000) : 0 ≤ of_ ps b ∧ of_ ps b ≤ 1000000 * (ps.length : Int) := by
  induction ps with
  | nil => simp [of_]
  | cons p r ih =>
    have h1 := ih fun q hq => h q (List.mem_cons_of_mem _ hq)
    have h2 := h p (List.mem_cons_self)
    simp only [of_, List.length_cons]
    split <;> omega
noncomputable def batch (ps : List (Int × Int)) (b : Int) : Int := if valid ps = true then of_ ps b else 0
def Proper (ps : List (Int × Int)) : Prop := ps.length ≤ 400 ∧ ∀ p ∈ ps, (0 ≤ p.1 ∧ p.1 < 1000) ∧ 0 ≤ p.2 ∧ p.2 ≤ 1000000
noncomputable def merge (ps : List (Int × Int)) : List (Int × Int) := by
  classical exact if Proper ps then join ps else []
def shift (f g : List (Int × Int)) (back : Bool) : List (Int × Int) × List (Int × Int) :=
  if back then (join (tails (f ++ g) (vol g)), join (heads (f ++ g) (vol g)))
  else (join (heads (g ++ f) (vol f)), join (tails (g ++ f) (vol f)))
noncomputable def push (f g : List (Int × Int)) (back : Bool) : List (Int × Int) × List (Int × Int) × Int := by
  classical
  exact if valid f = true ∧ valid g = true then
    if (shift f g back).1.length ≤ 200 ∧ (shift f g back).2.length ≤ 200 then ((shift f g back).1, (shift f g back).2, 0) else ([], [], 4)
  else ([], [], 9)
end Go.Proofs.YtdjmklobfjigoaaGreatDoor.Pc
namespace Go.Proofs.YtdjmklobfjigoaaGreatDoor
open Go.RowKit Sy
@[go_sem] def encP (p : Int × Int) : T := .agg [.int p.1, .int p.2]
@[go_sem] def encPs (l : List (Int × Int)) : T := .sl 2 (l.map encP)
@[go_sem] def blkP (l : List (Int × Int)) : Blk := .list 40 2 (l.map encP)
abbrev Lit (p : Int × Int) : Prop := (0 ≤ p.1 ∧ p.1 < 1000) ∧ 0 ≤ p.2 ∧ p.2 ≤ 1000000
@[go_sem] theorem flat_encP : ∀ l : List (Int × Int), flatTs (l.map encP)
  | [] => by simp [flatTs]
  | p :: r => by simp [flatTs, flatT, encP, flat_encP r]
end Go.Proofs.YtdjmklobfjigoaaGreatDoor
namespace Go.Proofs.YtdjmklobfjigoaaGreatDoor
open Go.RowKit Sy
open Go.IntWalk renaming iteOmega → iO, toNatUp → tN
theorem litre_fn (p : Int × Int) : FnOk Tryz.prog 31 [.t (encP p)] [] (.t (.bool (decide (Lit p)))) [] := by
  refine FnOk.intro fact_mixed Tryz.func31 rfl Tryz.ntmps31 (by rfl) (by simp) ?_
  by_cases h1 : 0 ≤ p.1
  · by_cases h2 : p.1 < 1000
    · by_cases h3 : 0 ≤ p.2
      · by_cases h4 : p.2 ≤ 1000000
        · repeat (first | (refine nf1_sound rfl ?_; simp [go_sem, ↓iO, iO, tN]) | refine anI ?_ | refine ⟨dcK, ?_⟩ | ((first | refine iP ?_ | refine iN ?_); try simp [go_sem, ↓iO, iO, tN]))
          first | rw [RetQ_ret] | rw [RetQ_normal]
          refine ⟨[], ?_⟩
          simp [go_sem, ↓iO, iO, tN, h1, h2, h3, h4]
        · repeat (first | (refine nf1_sound rfl ?_; simp [go_sem, ↓iO, iO, tN]) | refine anI ?_ | refine ⟨dcK, ?_⟩ | ((first | refine iP ?_ | refine iN ?_); try simp [go_sem, ↓iO, iO, tN]))
          first | rw [RetQ_ret] | rw [RetQ_normal]
          refine ⟨[], ?_⟩
          simp [go_sem, ↓iO, iO, tN, h1, h2, h3, h4]
      · repeat (first | (refine nf1_sound rfl ?_; simp [go_sem, ↓iO, iO, tN]) | refine anI ?_ | refine ⟨dcK, ?_⟩ | ((first | refine iP ?_ | refine iN ?_); try simp [go_sem, ↓iO, iO, tN]))
        first | rw [RetQ_ret] | rw [RetQ_normal]
        refine ⟨[], ?_⟩
        simp [go_sem, ↓iO, iO, tN, h1, h2, h3]
    · repeat (first | (refine nf1_sound rfl ?_; simp [go_sem, ↓iO, iO, tN]) | refine anI ?_ | refine ⟨dcK, ?_⟩ | ((first | refine iP ?_ | refine iN ?_); try simp [go_sem, ↓iO, iO, tN]))
      first | rw [RetQ_ret] | rw [RetQ_normal]
      refine ⟨[], ?_⟩
      simp [go_sem, ↓iO, iO, tN, h1, h2]
  · repeat (first | (refine nf1_sound rfl ?_; simp [go_sem, ↓iO, iO, tN]) | refine anI ?_ | refine ⟨dcK, ?_⟩ | ((first | refine iP ?_ | refine iN ?_); try simp [go_sem, ↓iO, iO, tN]))
    first | rw [RetQ_ret] | rw [RetQ_normal]
    refine ⟨[], ?_⟩
    simp [go_sem, ↓iO, iO, tN, h1]
theorem total_fn (l : List (Int × Int)) (h : Pc.Sane l) : FnOk Tryz.prog 28 [.t (encPs l)] [] (.t (.int (Pc.vol l))) [] := by
  have hlen := h.len
  refine FnOk.intro fact_mixed Tryz.func28 rfl Tryz.ntmps28 (by rfl) (by simp) ?_
  repeat (first | (refine nf1_sound rfl ?_; simp [go_sem, ↓iO, iO, tN]) | refine anI ?_ | refine ⟨dcK, ?_⟩ | ((first | refine iP ?_ | refine iN ?_); try simp [go_sem, ↓iO, iO, tN]))
  refine nf1_sound' _ _ _ ?_; simp only [nf1]
  refine CW.loop (ι := Nat) (fun k => ⟨[(3, .t (.int (Pc.vol (l.take k)))), (6, .t (encPs l)), (7, .t (.int l.length)), (8, .t (.int k))], []⟩) (fun k => k ≤ l.length) (fun k => l.length - k) 0 [] (by omega) ?_ ?_
  · simp [go_sem, ↓iO, iO, tN, Pc.vol]
  intro k hk
  by_cases hb : k < l.length
  · obtain ⟨p, hp⟩ := has_get hb
    have hs := Pc.vol_snoc hp
    have hv := (h.take k).vol
    have hpv := h.each p (mem_get hp)
    repeat (first | (refine nf1_sound rfl ?_; simp [go_sem, ↓iO, iO, tN, hp]) | refine anI ?_ | refine ⟨dcK, ?_⟩ | ((first | refine iP ?_ | refine iN ?_); try simp [go_sem, ↓iO, iO, tN, hp]))
    rw [RoundQ_normal]; refine ⟨k + 1, [], ?_, ?_, ?_⟩
    · omega
    · omega
    simp [go_sem, ↓iO, iO, tN, hs]
  · obtain rfl : k = l.length := by omega
    repeat (first | (refine nf1_sound rfl ?_; simp [go_sem, ↓iO, iO, tN]) | refine anI ?_ | refine ⟨dcK, ?_⟩ | ((first | refine iP ?_ | refine iN ?_); try simp [go_sem, ↓iO, iO, tN]))
    first | rw [RetQ_ret] | rw [RetQ_normal]
    refine ⟨[], ?_⟩
    simp [go_sem, ↓iO, iO, tN, List.take_length]
theorem litre_fn' (p : Int × Int) (b : Bool) (h : decide (Lit p) = b) : FnOk Tryz.prog 31 [.t (encP p)] [] (.t (.bool b)) [] := h ▸ litre_fn p
theorem sane_of_ok {l : List (Int × Int)} (h : l.length ≤ 200) (ho : ∀ i, i < l.length → Pc.OkAt l i) : Pc.Sane l := by
  refine ⟨by omega, fun p hp => ?_⟩
  obtain ⟨i, hi⟩ := List.getElem?_of_mem hp
  have := (ho i (List.getElem?_eq_some_iff.1 hi).1 p hi).1
  omega
theorem ok_snoc {l : List (Int × Int)} {k : Nat} (h : ∀ i, i < k → Pc.OkAt l i) (hk : Pc.OkAt l k) : ∀ i, i < k + 1 → Pc.OkAt l i := fun i hi => by
  rcases Nat.lt_or_ge i k with h1 | h1
  · exact h i h1
  · obtain rfl : i = k := by omega
    exact hk
theorem valid_fn (l : List (Int × Int)) (hl : l.length ≤ 1000000) : FnOk Tryz.prog 27 [.t (encPs l)] [] (.t (.bool (Pc.valid l))) [] := by
  refine FnOk.intro fact_mixed Tryz.func27 rfl Tryz.ntmps27 (by rfl) (by simp) ?_
  by_cases h2 : l.length ≤ 200
  · repeat (first | (refine nf1_sound rfl ?_; simp [go_sem, ↓iO, iO, tN]) | refine anI ?_ | refine ⟨dcK, ?_⟩ | ((first | refine iP ?_ | refine iN ?_); try simp [go_sem, ↓iO, iO, tN]))
    refine nf1_sound' _ _ _ ?_; simp only [nf1]
    refine CW.loop (ι := Nat) (fun k => ⟨[(0, .t (encPs l)), (8, .t (encPs l)), (9, .t (.int l.length)), (10, .t (.int k))], []⟩) (fun k => k ≤ l.length ∧ ∀ i, i < k → Pc.OkAt l i) (fun k => l.length - k) 0 [] ⟨by omega, fun i hi => absurd hi (by omega)⟩ ?_ ?_
    · simp [go_sem, ↓iO, iO, tN]
    rintro k ⟨hk, ho⟩
    by_cases hb : k < l.length
    · obtain ⟨p, hp⟩ := has_get hb
      by_cases hL : Lit p
      · by_cases hz : p.2 = 0
        · have hn : Pc.valid l = false := Pc.valid_f fun h => by have := (h.ok k hb p hp).1; omega
          repeat (first | (refine nf1_sound rfl ?_; simp [go_sem, ↓iO, iO, tN, hp]) | refine anI ?_ | refine ⟨dcK, ?_⟩ | ((first | refine iP ?_ | refine iN ?_); try simp [go_sem, ↓iO, iO, tN, hp]))
          refine CallK.fn (litre_fn' p true (decide_eq_true hL)) [] [] [] (by kernel_rfl) ?_ ?_ ?_ (Or.inl rfl) ?_ <;> simp [go_sem, ↓iO, iO, tN, hp]
          repeat (refine anI ?_)
          try (refine ⟨dcK, ?_⟩)
          repeat (first | (refine nf1_sound rfl ?_; simp [go_sem, ↓iO, iO, tN, hp, hz]) | refine anI ?_ | refine ⟨dcK, ?_⟩ | ((first | refine iP ?_ | refine iN ?_); try simp [go_sem, ↓iO, iO, tN, hp, hz]))
          first | rw [RetQ_ret] | rw [RetQ_normal]
          refine ⟨[], ?_⟩
          simp [go_sem, ↓iO, iO, tN, hn]
        · rcases k with _ | j
          · have hok : Pc.OkAt l 0 := fun x hx => by
              rw [hp] at hx; obtain rfl := Option.some.inj hx
              exact ⟨by omega, fun _ h0 => by omega⟩
            repeat (first | (refine nf1_sound rfl ?_; simp [go_sem, ↓iO, iO, tN, hp]) | refine anI ?_ | refine ⟨dcK, ?_⟩ | ((first | refine iP ?_ | refine iN ?_); try simp [go_sem, ↓iO, iO, tN, hp]))
            refine CallK.fn (litre_fn' p true (decide_eq_true hL)) [] [] [] (by kernel_rfl) ?_ ?_ ?_ (Or.inl rfl) ?_ <;> simp [go_sem, ↓iO, iO, tN, hp]
            repeat (refine anI ?_)
            try (refine ⟨dcK, ?_⟩)
            repeat (first | (refine nf1_sound rfl ?_; simp [go_sem, ↓iO, iO, tN, hp, hz]) | refine anI ?_ | refine ⟨dcK, ?_⟩ | ((first | refine iP ?_ | refine iN ?_); try simp [go_sem, ↓iO, iO, tN, hp, hz]))
            rw [RoundQ_normal]; refine ⟨1, [], ?_, ?_, ?_⟩
            · exact ⟨by omega, ok_snoc ho hok⟩
            · omega
            simp [go_sem, ↓iO, iO, tN]
          · obtain ⟨q, hq⟩ := has_get (show j < l.length by omega)
            by_cases he : q.1 = p.1
            · have hn : Pc.valid l = false := Pc.valid_f fun h => (h.ok (j + 1) hb p hp).2 q (by omega) hq he
              repeat (first | (refine nf1_sound rfl ?_; simp [go_sem, ↓iO, iO, tN, hp, hq]) | refine anI ?_ | refine ⟨dcK, ?_⟩ | ((first | refine iP ?_ | refine iN ?_); try simp [go_sem, ↓iO, iO, tN, hp, hq]))
              refine CallK.fn (litre_fn' p true (decide_eq_true hL)) [] [] [] (by kernel_rfl) ?_ ?_ ?_ (Or.inl rfl) ?_ <;> simp [go_sem, ↓iO, iO, tN, hp, hq]
              repeat (refine anI ?_)
              try (refine ⟨dcK, ?_⟩)
              repeat (first | (refine nf1_sound rfl ?_; simp [go_sem, ↓iO, iO, tN, hp, hz, hq, he]) | refine anI ?_ | refine ⟨dcK, ?_⟩ | ((first | refine iP ?_ | refine iN ?_); try simp [go_sem, ↓iO, iO, tN, hp, hz, hq, he]))
              first | rw [RetQ_ret] | rw [RetQ_normal]
              refine ⟨[], ?_⟩
              simp [go_sem, ↓iO, iO, tN, hn]
            · have hok : Pc.OkAt l (j + 1) := fun x hx => by
                rw [hp] at hx; obtain rfl := Option.some.inj hx
                refine ⟨by omega, fun y _ hy => ?_⟩
                rw [Nat.add_sub_cancel, hq] at hy; obtain rfl := Option.some.inj hy
                exact he
              repeat (first | (refine nf1_sound rfl ?_; simp [go_sem, ↓iO, iO, tN, hp, hq]) | refine anI ?_ | refine ⟨dcK, ?_⟩ | ((first | refine iP ?_ | refine iN ?_); try simp [go_sem, ↓iO, iO, tN, hp, hq]))
              refine CallK.fn (litre_fn' p true (decide_eq_true hL)) [] [] [] (by kernel_rfl) ?_ ?_ ?_ (Or.inl rfl) ?_ <;> simp [go_sem, ↓iO, iO, tN, hp, hq]
              repeat (refine anI ?_)
              try (refine ⟨dcK, ?_⟩)
              repeat (first | (refine nf1_sound rfl ?_; simp [go_sem, ↓iO, iO, tN, hp, hz, hq, he]) | refine anI ?_ | refine ⟨dcK, ?_⟩ | ((first | refine iP ?_ | refine iN ?_); try simp [go_sem, ↓iO, iO, tN, hp, hz, hq, he]))
              rw [RoundQ_normal]; refine ⟨j + 1 + 1, [], ?_, ?_, ?_⟩
              · exact ⟨by omega, ok_snoc ho hok⟩
              · omega
              simp [go_sem, ↓iO, iO, tN]
      · have hn : Pc.valid l = false := Pc.valid_f fun h => hL (by have := (h.ok k hb p hp).1; omega)
        repeat (first | (refine nf1_sound rfl ?_; simp [go_sem, ↓iO, iO, tN, hp]) | refine anI ?_ | refine ⟨dcK, ?_⟩ | ((first | refine iP ?_ | refine iN ?_); try simp [go_sem, ↓iO, iO, tN, hp]))
        refine CallK.fn (litre_fn' p false (decide_eq_false hL)) [] [] [] (by kernel_rfl) ?_ ?_ ?_ (Or.inl rfl) ?_ <;> simp [go_sem, ↓iO, iO, tN, hp]
        repeat (refine anI ?_)
        try (refine ⟨dcK, ?_⟩)
        repeat (first | (refine nf1_sound rfl ?_; simp [go_sem, ↓iO, iO, tN, hp]) | refine anI ?_ | refine ⟨dcK, ?_⟩ | ((first | refine iP ?_ | refine iN ?_); try simp [go_sem, ↓iO, iO, tN, hp]))
        first | rw [RetQ_ret] | rw [RetQ_normal]
        refine ⟨[], ?_⟩
        simp [go_sem, ↓iO, iO, tN, hn]
    · obtain rfl : k = l.length := by omega
      have hs := sane_of_ok h2 ho
      have hv : Pc.valid l = decide (Pc.vol l ≤ 1000000) := by
        by_cases h : Pc.vol l ≤ 1000000
        · rw [Pc.valid_t ⟨h2, ho, h⟩, decide_eq_true h]
        · rw [Pc.valid_f fun hh => h hh.vol, decide_eq_false h]
      repeat (first | (refine nf1_sound rfl ?_; simp [go_sem, ↓iO, iO, tN]) | refine anI ?_ | refine ⟨dcK, ?_⟩ | ((first | refine iP ?_ | refine iN ?_); try simp [go_sem, ↓iO, iO, tN]))
      refine CallK.fn (total_fn l hs) [] [] [] (by kernel_rfl) ?_ ?_ ?_ (Or.inl rfl) ?_ <;> simp [go_sem, ↓iO, iO, tN]
      repeat (refine anI ?_)
      try (refine ⟨dcK, ?_⟩)
      repeat (first | (refine nf1_sound rfl ?_; simp [go_sem, ↓iO, iO, tN]) | refine anI ?_ | refine ⟨dcK, ?_⟩ | ((first | refine iP ?_ | refine iN ?_); try simp [go_sem, ↓iO, iO, tN]))
      first | rw [RetQ_ret] | rw [RetQ_normal]
      refine ⟨[], ?_⟩
      simp [go_sem, ↓iO, iO, tN, hv]
  · have hn : Pc.valid l = false := Pc.valid_f fun h => h2 h.len
    repeat (first | (refine nf1_sound rfl ?_; simp [go_sem, ↓iO, iO, tN]) | refine anI ?_ | refine ⟨dcK, ?_⟩ | ((first | refine iP ?_ | refine iN ?_); try simp [go_sem, ↓iO, iO, tN]))
    first | rw [RetQ_ret] | rw [RetQ_normal]
    refine ⟨[], ?_⟩
    simp [go_sem, ↓iO, iO, tN, hn]
end Go.Proofs.YtdjmklobfjigoaaGreatDoor
namespace Go.Proofs.YtdjmklobfjigoaaGreatDoor
open Go.RowKit Sy
theorem valid_fn' (l : List (Int × Int)) (hl : l.length ≤ 1000000) (b : Bool) (h : Pc.valid l = b) : FnOk Tryz.prog 27 [.t (encPs l)] [] (.t (.bool b)) [] := h ▸ valid_fn l hl
theorem push_bad {f g : List (Int × Int)} {back : Bool} (h : ¬ (Pc.valid f = true ∧ Pc.valid g = true)) : Pc.push f g back = ([], [], 9) := by
  unfold Pc.push; rw [if_neg h]
theorem push_long {f g : List (Int × Int)} {back : Bool} (h1 : Pc.valid f = true) (h2 : Pc.valid g = true) (h : ¬ ((Pc.shift f g back).1.length ≤ 200 ∧ (Pc.shift f g back).2.length ≤ 200)) : Pc.push f g back = ([], [], 4) := by
  unfold Pc.push; rw [if_pos ⟨h1, h2⟩, if_neg h]
theorem push_ok {f g : List (Int × Int)} {back : Bool} (h1 : Pc.valid f = true) (h2 : Pc.valid g = true) (h : (Pc.shift f g back).1.length ≤ 200 ∧ (Pc.shift f g back).2.length ≤ 200) : Pc.push f g back = ((Pc.shift f g back).1, (Pc.shift f g back).2, 0) := by
  unfold Pc.push; rw [if_pos ⟨h1, h2⟩, if_pos h]
theorem sane_app {f g : List (Int × Int)} (h1 : Pc.Vd f) (h2 : Pc.Vd g) : Pc.Sane (f ++ g) := by
  refine ⟨by rw [List.length_append]; have := h1.len; have := h2.len; omega, fun p hp => ?_⟩
  rcases List.mem_append.1 hp with hp | hp
  · exact h1.sane.each p hp
  · exact h2.sane.each p hp
theorem vol_ge : ∀ {l : List (Int × Int)}, (∀ q ∈ l, 0 ≤ q.2) → ∀ q ∈ l, q.2 ≤ Pc.vol l
  | [], _, q, hq => by cases hq
  | x :: s, hl, q, hq => by
    have h0 : ∀ (m : List (Int × Int)), (∀ q ∈ m, 0 ≤ q.2) → 0 ≤ Pc.vol m := by
      intro m
      induction m with
      | nil => intro _; simp [Pc.vol]
      | cons y t ih => intro hs; have := ih fun q hq => hs q (List.mem_cons_of_mem _ hq); have := hs y (List.mem_cons_self); simp only [Pc.vol]; omega
    have h1 := hl x (List.mem_cons_self)
    have h2 := h0 s fun q hq => hl q (List.mem_cons_of_mem _ hq)
    simp only [Pc.vol]
    rcases List.mem_cons.1 hq with rfl | hq
    · omega
    · have := vol_ge (fun z hz => hl z (List.mem_cons_of_mem _ hz)) q hq; omega
theorem join_each {l : List (Int × Int)} (h : Pc.Sane l) : ∀ q ∈ Pc.join l, 0 ≤ q.2 ∧ q.2 ≤ 100000000000 := by
  intro q hq
  have h1 := Pc.join_canon fun p hp => (h.each p hp).1
  have h2 := fun q hq => Int.le_of_lt (h1.pos q hq)
  have h3 := vol_ge h2 q hq
  rw [Pc.join_vol fun p hp => (h.each p hp).1] at h3
  have := h.vol
  exact ⟨h2 q hq, by omega⟩
theorem heads_sane {l : List (Int × Int)} (h : Pc.Sane l) {k : Int} (hk : 0 ≤ k) : Pc.Sane (Pc.heads l k) := ⟨by rw [Pc.heads_length]; exact h.len, Pc.heads_each l h.each k hk⟩
theorem tails_sane {l : List (Int × Int)} (h : Pc.Sane l) {k : Int} (hk : 0 ≤ k) : Pc.Sane (Pc.tails l k) := ⟨by rw [Pc.tails_length]; exact h.len, Pc.tails_each l h.each k hk⟩
end Go.Proofs.YtdjmklobfjigoaaGreatDoor
namespace Go.Proofs.YtdjmklobfjigoaaGreatDoor
theorem mem_litres {l : List (Int × Int)} {p : Int × Int} (h : p ∈ l) (hp : 0 < p.2) : p.1 ∈ Pc.litres l := by
  unfold Pc.litres
  refine List.mem_flatMap.2 ⟨p, h, List.mem_replicate.2 ⟨by omega, rfl⟩⟩
theorem litres_mem {l : List (Int × Int)} {x : Int} (h : x ∈ Pc.litres l) : ∃ q ∈ l, q.1 = x := by
  unfold Pc.litres at h
  obtain ⟨q, hq, hx⟩ := List.mem_flatMap.1 h
  exact ⟨q, hq, (List.mem_replicate.1 hx).2.symm⟩
structure CutOk (ps : List (Int × Int)) (k : Nat) (a b : List (Int × Int)) : Prop where
  ca : Pc.Canon a
  cb : Pc.Canon b
  la : Pc.litres a = (Pc.litres ps).take k
  lb : Pc.litres b = (Pc.litres ps).drop k
  na : a.length ≤ ps.length
  nb : b.length ≤ ps.length
theorem cut_ok {ps : List (Int × Int)} (h : Pc.Sane ps) (k : Nat) : CutOk ps k (Pc.join (Pc.heads ps k)) (Pc.join (Pc.tails ps k)) := by
  have h1 := (heads_sane h (Int.natCast_nonneg k)).each
  have h2 := (tails_sane h (Int.natCast_nonneg k)).each
  have h3 := fun p hp => (h.each p hp).1
  refine ⟨Pc.join_canon fun p hp => (h1 p hp).1, Pc.join_canon fun p hp => (h2 p hp).1, ?_, ?_, ?_, ?_⟩
  · rw [Pc.join_litres fun p hp => (h1 p hp).1, Pc.heads_litres ps h3]
  · rw [Pc.join_litres fun p hp => (h2 p hp).1, Pc.tails_litres ps h3]
  · have := Pc.join_length (Pc.heads ps k); rw [Pc.heads_length] at this; exact this
  · have := Pc.join_length (Pc.tails ps k); rw [Pc.tails_length] at this; exact this
theorem vol_litres {a : List (Int × Int)} (h : Pc.Canon a) : Pc.vol a = ((Pc.litres a).length : Int) := (Pc.litres_length a fun p hp => Int.le_of_lt (h.pos p hp)).symm
theorem vd_part {a f g : List (Int × Int)} (hf : Pc.Vd f) (hg : Pc.Vd g) (hc : Pc.Canon a) (hl : ∀ x ∈ Pc.litres a, x ∈ Pc.litres f ∨ x ∈ Pc.litres g) (hn : a.length ≤ 200) (hv : (Pc.litres a).length ≤ 1000000) : Pc.Vd a := by
  refine Pc.vd_of_canon hc (fun p hp => ?_) hn (by rw [vol_litres hc]; omega)
  rcases hl p.1 (mem_litres hp (hc.pos p hp)) with h | h
  · obtain ⟨q, hq, he⟩ := litres_mem h; rw [← he]; exact (hf.each q hq).1
  · obtain ⟨q, hq, he⟩ := litres_mem h; rw [← he]; exact (hg.each q hq).1
structure PushOk (f g : List (Int × Int)) (back : Bool) (n o : List (Int × Int)) : Prop where
  eq : Pc.push f g back = (n, o, 0)
  vn : Pc.Vd n
  vo : Pc.Vd o
  ln : Pc.litres n = if back then (Pc.litres f ++ Pc.litres g).drop (Pc.litres g).length else (Pc.litres g ++ Pc.litres f).take (Pc.litres f).length
  lo : Pc.litres o = if back then (Pc.litres f ++ Pc.litres g).take (Pc.litres g).length else (Pc.litres g ++ Pc.litres f).drop (Pc.litres f).length
  nn : n.length ≤ f.length + g.length
  no : o.length ≤ f.length + g.length
theorem push_small {f g : List (Int × Int)} (hf : Pc.Vd f) (hg : Pc.Vd g) (hs : f.length + g.length ≤ 200) (back : Bool) : ∃ n o, PushOk f g back n o := by
  have vf := vol_litres hf.canon
  have vg := vol_litres hg.canon
  have bf := hf.vol
  have bg := hg.vol
  cases back with
  | true =>
    have hc := cut_ok (sane_app hf hg) (Pc.litres g).length
    rw [← vg] at hc
    have la := hc.la
    have lb := hc.lb
    rw [Pc.litres_append] at la lb
    have na := hc.na
    have nb := hc.nb
    rw [List.length_append] at na nb
    have hsh : Pc.shift f g true = (Pc.join (Pc.tails (f ++ g) (Pc.vol g)), Pc.join (Pc.heads (f ++ g) (Pc.vol g))) := rfl
    refine ⟨_, _, ?_, ?_, ?_, lb, la, nb, na⟩
    · rw [push_ok (Pc.valid_t hf) (Pc.valid_t hg) (by rw [hsh]; dsimp only; exact ⟨by omega, by omega⟩), hsh]
    · refine vd_part hf hg hc.cb (fun x hx => ?_) (by omega) (by rw [lb, List.length_drop, List.length_append]; omega)
      rw [lb] at hx; exact List.mem_append.1 (List.mem_of_mem_drop hx)
    · refine vd_part hf hg hc.ca (fun x hx => ?_) (by omega) (by rw [la, List.length_take, List.length_append]; omega)
      rw [la] at hx; exact List.mem_append.1 (List.mem_of_mem_take hx)
  | false =>
    have hc := cut_ok (sane_app hg hf) (Pc.litres f).length
    rw [← vf] at hc
    have la := hc.la
    have lb := hc.lb
    rw [Pc.litres_append] at la lb
    have na := hc.na
    have nb := hc.nb
    rw [List.length_append] at na nb
    have hsh : Pc.shift f g false = (Pc.join (Pc.heads (g ++ f) (Pc.vol f)), Pc.join (Pc.tails (g ++ f) (Pc.vol f))) := rfl
    refine ⟨_, _, ?_, ?_, ?_, la, lb, by omega, by omega⟩
    · rw [push_ok (Pc.valid_t hf) (Pc.valid_t hg) (by rw [hsh]; dsimp only; exact ⟨by omega, by omega⟩), hsh]
    · refine vd_part hg hf hc.ca (fun x hx => ?_) (by omega) (by rw [la, List.length_take, List.length_append]; omega)
      rw [la] at hx; exact List.mem_append.1 (List.mem_of_mem_take hx)
    · refine vd_part hg hf hc.cb (fun x hx => ?_) (by omega) (by rw [lb, List.length_drop, List.length_append]; omega)
      rw [lb] at hx; exact List.mem_append.1 (List.mem_of_mem_drop hx)
theorem of_count (b : Int) : ∀ {l : List (Int × Int)}, (∀ p ∈ l, 0 ≤ p.2) → Pc.of_ l b = ((Pc.litres l).count b : Int)
  | [], _ => by simp [Pc.of_, Pc.litres]
  | p :: r, h => by
    have ih := of_count b (l := r) fun q hq => h q (List.mem_cons_of_mem _ hq)
    have hp := h p (List.mem_cons_self)
    rw [Pc.litres_cons, List.count_append, Pc.of_, ih]
    by_cases he : p.1 = b
    · rw [if_pos he, he, List.count_replicate_self]; omega
    · have h0 : (List.replicate p.2.toNat p.1).count b = 0 := List.count_eq_zero.2 (by intro hm; exact he (List.mem_replicate.1 hm).2.symm)
      rw [if_neg he, h0]; omega
end Go.Proofs.YtdjmklobfjigoaaGreatDoor
namespace Go.Proofs.YtdjmklobfjigoaaGreatDoor.Sy
open Go.RowKit
theorem r_rows {P : Program} {row : String} {args : Array Value} {w : World} {R : Value → World → Prop} {n l : Nat} (h : Rows P row args w R) : RowsIn (Fence.wide.inRound l) n P row args w R :=
  fun c cs _ => let ⟨v, w', r, s⟩ := h c cs; ⟨v, w', r, stepsIn_wide.2 s⟩
def onlyN (Q : Exit → Act → World → Prop) : Exit → Act → World → Prop
  | .normal, a, w => Q .normal a w
  | .panic c, a, w => Q (.panic c) a w
  | _, _, _ => False
theorem onlyN_out (Q : Exit → Act → World → Prop) : ¬ LetsOut (onlyN Q) := fun h => by
  obtain ⟨a, w, h⟩ := h; exact h
theorem r_op {P : Program} {o : Oper} {a : Act} {w : World} {K K' : Act → World → Prop} {Q : Exit → Act → World → Prop} {l n : Nat} (hd : ∀ c, o.op ≠ .defer c) (hK : ∀ a w, K a w → K' a w) (h : o.wp P a w K (onlyN Q)) : o.wpIn (Fence.wide.inRound l) n P a w K' Q := by
  refine ⟨fun _ _ => trivial, ?_⟩
  rw [Oper.semAt_eq _ _ _ hd]
  unfold Oper.wp at h
  generalize (execOp a.eval o).run P w = r at *
  cases r with
  | ok x w' =>
    cases x <;> simp only [Oper.upon, Oper.uponIn] at h ⊢
    case value => exact hK _ _ h
    case skip => exact hK _ _ h
    case defer => exact hK _ _ h
    case enter f args =>
      refine ⟨fun h => by simp [Fence.wide] at h, CallsIn.inRound l (callsIn_wide.2 (Calls.mono h fun e w'' he => ?_))⟩
      cases e with
      | returned v => exact hK _ _ he
      | panicked c => exact he
      | outgrown => exact (onlyN_out Q he).elim
    case row row args => exact ⟨fun h => by simp [Fence.wide] at h, r_rows (Rows.mono h fun v w'' he => hK _ _ he)⟩
  | halt x w' => cases x <;> simp only [Oper.upon, Oper.uponIn] at h ⊢ <;> first | exact h | cases h
theorem r_any {P : Program} {ops : Array Oper} {Q : Exit → Act → World → Prop} {l n : Nat} (hd : ∀ o ∈ ops.toList, ∀ c, o.op ≠ .defer c) : ∀ (fuel : Nat) (listed : Array Bool) (a : Act) (w : World), wpAny P .any ops (onlyN Q) fuel listed a w → wpAnyIn (Fence.wide.inRound l) n P .any ops Q fuel listed a w
  | 0, _, _, _, h => h
  | fuel + 1, listed, a, w, h => by
    refine ⟨h.1, fun i hi => ?_⟩
    have h2 := h.2 i hi
    unfold wpOp at h2
    unfold wpOpIn
    split
    · rename_i ho
      rw [ho] at h2
      exact r_any hd fuel _ _ _ h2
    · rename_i o ho
      rw [ho] at h2
      simp only at h2
      split
      · rename_i hw
        rw [if_pos hw] at h2
        rcases h2 with h2 | ⟨_, h2⟩
        · exact r_op (hd o (by obtain ⟨h, e⟩ := Array.getElem?_eq_some_iff.1 ho; rw [← e]; simp)) (fun a w => r_any hd fuel _ _ _) h2
        · exact (onlyN_out Q h2).elim
      · rename_i hw
        rw [if_neg hw] at h2
        exact ⟨fun _ _ => trivial, r_any hd fuel _ _ _ h2⟩
theorem r_ops {P : Program} {ops : Array Oper} {Q : Exit → Act → World → Prop} {r n : Nat} (hd : ∀ o ∈ ops.toList, ∀ c, o.op ≠ .defer c) : ∀ (l : List Nat) (a : Act) (w : World), wpOps P ops (onlyN Q) l a w → wpOpsIn (Fence.wide.inRound r) n P ops Q l a w
  | [], a, w, h => h
  | i :: l, a, w, h => by
    unfold wpOps at h
    unfold wpOpsIn
    split
    · rename_i ho
      rw [ho] at h
      exact r_ops hd l a w h
    · rename_i o ho
      rw [ho] at h
      simp only at h
      split
      · rename_i hw
        rw [if_pos hw] at h
        rcases h with h | ⟨_, h⟩
        · exact r_op (hd o (by obtain ⟨h, e⟩ := Array.getElem?_eq_some_iff.1 ho; rw [← e]; simp)) (fun a w => r_ops hd l a w) h
        · exact (onlyN_out Q h).elim
      · rename_i hw
        rw [if_neg hw] at h
        exact ⟨fun _ _ => trivial, r_ops hd l _ w h⟩
def flatO (ops : Array Oper) : Bool := ops.toList.all fun o => match o.op with
  | .defer _ => false
  | _ => true
theorem flatO_spec {ops : Array Oper} (h : flatO ops = true) : ∀ o ∈ ops.toList, ∀ c, o.op ≠ .defer c := fun o ho c e => by
  have := List.all_eq_true.1 h o ho
  rw [e] at this
  cases this
def flatC : Code → Bool
  | .skip => true
  | .region _ ops _ => flatO ops
  | .seq a b => flatC a && flatC b
  | .cond _ a b => flatC a && flatC b
  | .block _ c => flatC c
  | .exit _ => true
  | .ret => true
  | _ => false
def CR (N : Nat) (P : Program) (r n : Nat) (c : Code) (Q : Exit → St → Prop) (σ : St) : Prop :=
  ∀ (W : World) (G0 : Gh) (A : Nat → Prop) (a : Act) (w : World), Sat N W G0 A σ a w → c.wpIn (Fence.wide.inRound r) n P (fun e a' w' => ∃ σ', Q e σ' ∧ Sat N W G0 A σ' a' w') a w
theorem nf_round {N : Nat} {P : Program} (hm : P.follows .mixedOrders = true) (r n : Nat) : ∀ (c : Code) (Q : Exit → St → Prop) (σ : St), okCode N c = true → flatC c = true → nf N P [] c Q σ → CR N P r n c Q σ
  | .skip, Q, σ, _, _, h => fun W G0 A a w hs => wpIn_skip ⟨σ, h, hs⟩
  | .region id ops false, Q, σ, hc, hf, h => by
    intro W G0 A a w hs
    obtain ⟨G, hs⟩ := hs
    simp only [okCode] at hc
    simp only [flatC] at hf
    simp only [nf] at h
    obtain ⟨es, σ', h1, h2⟩ := opsK_spec (okOps_spec hc) h
    refine wpIn_region (r_ops (flatO_spec hf) _ _ _ ?_)
    have := chain_plain (N := N) (W := W) (G0 := G0) (A := A) (Q := onlyN fun e a' w' => ∃ σ', Q e σ' ∧ Sat N W G0 A σ' a' w') (k := 0) (fun j oj t hj ht => okOps_get hc (by simpa using hj) ht) h1 (fun j => by simp) (fun G a w hs' => ⟨σ', h2, G, hs'⟩) G a w hs
    rw [Array.length_toList] at this
    rw [List.range_eq_range']
    exact this
  | .region id ops true, Q, σ, hc, hf, h => by
    intro W G0 A a w hs
    obtain ⟨G, hs⟩ := hs
    simp only [okCode] at hc
    simp only [flatC] at hf
    simp only [nf] at h
    obtain ⟨es, σ', h1, h2, h3⟩ := opsK_spec (okOps_spec hc) h
    simp only [DrawChk, List.append_nil, List.reverse_reverse, Bool.and_eq_true] at h2
    refine wpIn_region_any hm (r_any (flatO_spec hf) _ _ _ _ ?_)
    have := any_draws (N := N) (W := W) (G0 := G0) (A := A) (Q := onlyN fun e a' w' => ∃ σ', Q e σ' ∧ Sat N W G0 A σ' a' w') (fun j oj t hj ht => okOps_get hc hj ht) h1 h2.1
      (fun e he l hl => ⟨chain_nw h1 e he l hl, nwsOk_spec h2.2 e (by simpa using he) l hl⟩) (fun G a w hs' => ⟨σ', h3, G, hs'⟩) hs
    exact this
  | .seq x y, Q, σ, hc, hf, h => by
    intro W G0 A a w hs
    simp only [okCode, Bool.and_eq_true] at hc
    simp only [flatC, Bool.and_eq_true] at hf
    have hst : stops [] x = false := by unfold stops; split <;> simp
    simp only [nf, hst] at h
    refine wpIn_seq (wpIn_mono (nf_round hm r n x _ σ hc.1 hf.1 h W G0 A a w hs) ?_)
    rintro e a w ⟨σ', h1, h2⟩
    cases e <;> first | exact nf_round hm r n y Q σ' hc.2 hf.2 h1 W G0 A a w h2 | exact ⟨σ', h1, h2⟩
  | .cond c x y, Q, σ, hc, hf, h => by
    intro W G0 A a w hs
    simp only [okCode, Bool.and_eq_true] at hc
    simp only [flatC, Bool.and_eq_true] at hf
    simp only [nf] at h
    split at h
    · rename_i v hv
      obtain ⟨G, hs'⟩ := hs
      have h1 := hs'.eval c
      rw [hv] at h1
      unfold RepS at h1; unfold Rep at h1
      refine wpIn_cond h1.1 ?_
      cases v
      · exact nf_round hm r n y Q σ hc.2 hf.2 h W G0 A a w ⟨G, hs'⟩
      · exact nf_round hm r n x Q σ hc.1 hf.1 h W G0 A a w ⟨G, hs'⟩
    · exact h.elim
  | .block id c, Q, σ, hc, hf, h => by
    intro W G0 A a w hs
    simp only [okCode] at hc
    simp only [flatC] at hf
    simp only [nf] at h
    refine wpIn_block (wpIn_mono (nf_round hm r n c _ σ hc hf h W G0 A a w hs) ?_)
    rintro e a w ⟨σ', h1, h2⟩
    cases e with
    | exit i =>
      simp only [BlockQ] at h1
      simp only [Exit.inBlock]
      split
      · rename_i e; rw [if_pos e] at h1; exact ⟨σ', h1, h2⟩
      · rename_i e; rw [if_neg e] at h1; exact ⟨σ', h1, h2⟩
    | _ => exact ⟨σ', h1, h2⟩
  | .exit id, Q, σ, _, _, h => fun W G0 A a w hs => wpIn_exit ⟨σ, h, hs⟩
  | .ret, Q, σ, _, _, h => fun W G0 A a w hs => wpIn_ret ⟨σ, h, hs⟩
  | .loop _, Q, σ, _, hf, _ => by simp only [flatC] at hf; cases hf
  | .scope _, Q, σ, _, hf, _ => by simp only [flatC] at hf; cases hf
  | .rangeFunc _ _ _ _, Q, σ, _, hf, _ => by simp only [flatC] at hf; cases hf
  | .label _, Q, σ, _, hf, _ => by simp only [flatC] at hf; cases hf
  | .goto _, Q, σ, _, hf, _ => by simp only [flatC] at hf; cases hf
  | .refuse _, Q, σ, _, hf, _ => by simp only [flatC] at hf; cases hf
def IterOk (P : Program) (gf : FuncId) (lb : Array Value) (ys : List (List Value)) (F0 : Nat → Prop) (Rd0 Rd : World → Prop) : Prop :=
  ∀ (l : Nat) (J : Nat → World → Prop) (Jx : World → Prop) (W : World), Rd0 W →
    (∀ k A B, J k A → Below A.heap.size A B → J k B) → (∀ A B, Jx A → Below A.heap.size A B → Jx B) → (∀ k A, J k A → Rd A) →
    (∀ k y A, ys[k]? = some y → J k A → YieldAt Fence.wide 7 P l y.toArray A fun e B => (∀ b o, F0 b → B.cell? ⟨b, o, none⟩ = A.cell? ⟨b, o, none⟩) ∧ ((e = .returned (.bool true) ∧ J (k + 1) B) ∨ (e = .returned (.bool false) ∧ Jx B))) →
    J 0 W → CallsIn Fence.wide 8 P gf (#[.func (.yield l) #[] #[]] ++ lb) W fun e B => (∃ v, e = .returned v) ∧ (J ys.length B ∨ Jx B)
def KA (l : Nat) (A W' : World) : Prop := ∀ (k : Nat) (o : Obj), k ≠ l → A.heap[k]? = some o → o.isCells = false → W'.heap[k]? = some o
def roundEnd (l : Nat) (o' : Obj) (F0 : Nat → Prop) (A : World) (I : World → Prop) (Ix : Code → World → Prop) (e : Exit) (w' : World) : Prop :=
  KA l A w' ∧ w'.heap[l]? = some o' ∧ (∀ b o, F0 b → w'.cell? ⟨b, o, none⟩ = A.cell? ⟨b, o, none⟩) ∧ match e with
    | .normal => I w'
    | .ret => Ix .ret w'
    | .exit id => Ix (.exit id) w'
    | _ => False
theorem wpIn_range {P : Program} {g : Operand} {ps : Array Tmp} {assign body : Code} {Q : Exit → Act → World → Prop} {a : Act} {w : World} {gf : FuncId} {lb : Array Value} {ys : List (List Value)} {F0 : Nat → Prop} {Rd0 Rd : World → Prop}
    (hg : a.eval g = .func (.func gf) #[] lb) (eg : ∀ args w, (callFunc gf args).run P w = .ok (.enter gf args) w) (hit : IterOk P gf lb ys F0 Rd0 Rd) (hps : ∀ y ∈ ys, y.length = ps.size)
    (I : Nat → World → Prop) (Ix : Code → World → Prop)
    (hIb : ∀ k A B, I k A → Below A.heap.size A B → I k B) (hIp : ∀ k A D o o', I k A → A.heap[D]? = some o → o.isCells = false → o'.isCells = false → w.heap.size ≤ D → I k (A.putObj D o'))
    (hXb : ∀ c A B, Ix c A → Below A.heap.size A B → Ix c B) (hXp : ∀ c A D o o', Ix c A → A.heap[D]? = some o → o.isCells = false → o'.isCells = false → w.heap.size ≤ D → Ix c (A.putObj D o'))
    (hRd : ∀ k A, I k A → Rd A) (hRd0 : ∀ B, Below w.heap.size w B → Rd0 B) (h0 : I 0 w)
    (hround : ∀ (l k : Nat) (y : List Value) (A : World), ys[k]? = some y → I k A → w.heap.size ≤ l → (∃ r, A.heap[l]? = some (.loop r)) →
      assign.wpIn (Fence.wide.inRound l) 7 P (Exit.then (fun a1 w1 => KA l A w1 ∧ w1.heap[l]? = A.heap[l]? ∧ ∀ o' : Obj, o'.isCells = false → body.wpIn (Fence.wide.inRound l) 7 P (fun e _ w' => roundEnd l o' F0 A (I (k + 1)) Ix e w') a1 (w1.putObj l o')) (fun _ _ _ => False))
        { tmps := (ps.zip y.toArray).foldl (fun t (p, v) => t.setIfInBounds p v) a.tmps, defers := [] } A)
    (hdone : ∀ (D : Nat) (W : World), w.heap.size ≤ D → I ys.length W → W.heap[D]? = some (Obj.deferred (some [])) → Q .normal { a with defers := { target := .collected D, args := #[] } :: a.defers } W)
    (hstop : ∀ (D : Nat) (c : Code) (W : World), w.heap.size ≤ D → Ix c W → W.heap[D]? = some (Obj.deferred (some [])) → c.wpIn Fence.wide 9 P Q { a with defers := { target := .collected D, args := #[] } :: a.defers } W) :
    (Code.rangeFunc g ps assign body).wpIn Fence.wide 9 P Q a w := by
  refine wpIn_rangeFunc ?_
  intro fn hfn
  obtain ⟨rec, hrec⟩ : ∃ rec : LoopState → Option Code → Loop, rec = fun st pe => { state := st, pending := pe, fn, tmps := a.tmps, params := ps, assign, body, defers := w.heap.size } := ⟨_, rfl⟩
  obtain ⟨W1, hW1⟩ : ∃ W1, (w.alloc (.deferred (some []))).alloc (.loop (rec .ready none)) = W1 := ⟨_, rfl⟩
  have hL1 : W1.heap[w.heap.size + 1]? = some (Obj.loop (rec .ready none)) := by
    rw [← hW1]; have := World.alloc_heap_new (w.alloc (.deferred (some []))) (.loop (rec .ready none)); rwa [World.size_alloc] at this
  have hK1 : W1.heap[w.heap.size]? = some (Obj.deferred (some [])) := by
    rw [← hW1]; exact (Below.heap_alloc _ _ _ (by simp)).trans (World.alloc_heap_new w _)
  have hb1 : Below w.heap.size w W1 := by
    rw [← hW1]; exact ((Below.refl _ w).alloc (Nat.le_refl _) _).alloc (by simp) _
  have hI1 : I 0 W1 := hIb _ _ _ h0 hb1
  refine ⟨w.heap.size + 1, [{ target := .collected w.heap.size, args := #[] }], W1, { target := .fn (.func gf) lb, args := #[.func (.yield (w.heap.size + 1)) #[] #[]] }, W1, gf,
    #[.func (.yield (w.heap.size + 1)) #[] #[]] ++ lb, W1, ?_, ?_, ?_, ?_, fun _ => by omega, ?_⟩
  · rw [← hW1, hrec]; exact run_enterLoop_outer _ _ _ _ _
  · simp only [resolve, hg]
    simp [go_sem]
  · intro f' hf'; trivial
  · simp [invoke, go_sem, eg]
  · refine (hit (w.heap.size + 1)
      (fun k W => I k W ∧ W.heap[w.heap.size + 1]? = some (Obj.loop (rec .ready none)) ∧ W.heap[w.heap.size]? = some (Obj.deferred (some [])))
      (fun W => ∃ c, Ix c W ∧ W.heap[w.heap.size + 1]? = some (Obj.loop (rec .done (some c))) ∧ W.heap[w.heap.size]? = some (Obj.deferred (some [])))
      W1 (hRd0 _ hb1)
      (fun k A B hs hb => ⟨hIb _ _ _ hs.1 hb, (hb.block _ (Array.getElem?_eq_some_iff.1 hs.2.1).1).trans hs.2.1, (hb.block _ (Array.getElem?_eq_some_iff.1 hs.2.2).1).trans hs.2.2⟩)
      (fun A B hs hb => by
        obtain ⟨c, hc, hl, hk⟩ := hs
        exact ⟨c, hXb c _ _ hc hb, (hb.block _ (Array.getElem?_eq_some_iff.1 hl).1).trans hl, (hb.block _ (Array.getElem?_eq_some_iff.1 hk).1).trans hk⟩)
      (fun k A hs => hRd k A hs.1) ?_ ⟨hI1, hL1, hK1⟩).mono ?_
    · rintro k y W hy ⟨hi, hl, hk⟩
      have hlt : w.heap.size + 1 < W.heap.size := (Array.getElem?_eq_some_iff.1 hl).1
      have hys := run_yield (P := P) (args := y.toArray) hl (by rw [hrec]; simpa using hps y (List.mem_of_getElem? hy))
      rw [hrec] at hys
      refine ⟨fn, _, assign, body, hys, roundIn_of_wpIn hfn (wpIn_mono (hround (w.heap.size + 1) k y W hy hi (by omega) ⟨_, hl⟩) ?_)⟩
      rintro e a1 Wa hp
      cases e with
      | normal =>
        obtain ⟨hkfa, hla, hbody⟩ := hp
        have hl1 := hla.trans hl
        have hk1 := hkfa _ _ (by omega) hk rfl
        have hlt1 : w.heap.size + 1 < Wa.heap.size := (Array.getElem?_eq_some_iff.1 hl1).1
        refine ⟨_, run_beginRound hl1 (by rw [hrec]), ?_⟩
        have hl2 : (Wa.putObj (w.heap.size + 1) (.loop { rec .ready none with state := .busy })).heap[w.heap.size + 1]? = some (Obj.loop { rec .ready none with state := .busy }) := World.putObj_heap_same hlt1
        have hk2 : (Wa.putObj (w.heap.size + 1) (.loop { rec .ready none with state := .busy })).heap[w.heap.size]? = some (Obj.deferred (some [])) := (World.putObj_heap_other (by omega)).trans hk1
        refine wpIn_mono (hbody (.loop { rec .ready none with state := .busy }) rfl) ?_
        have fin : ∀ (jump : Option Code) (W3 : World), W3.heap[w.heap.size + 1]? = some (Obj.loop { rec .ready none with state := .busy }) → KA (w.heap.size + 1) W W3 →
            (Instr.endRound (w.heap.size + 1) jump).run P W3 = .ok (.bool jump.isNone) (W3.putObj (w.heap.size + 1) (.loop (rec (if jump.isNone then .ready else .done) jump))) ∧
            (W3.putObj (w.heap.size + 1) (.loop (rec (if jump.isNone then .ready else .done) jump))).heap[w.heap.size + 1]? = some (Obj.loop (rec (if jump.isNone then .ready else .done) jump)) ∧
            (W3.putObj (w.heap.size + 1) (.loop (rec (if jump.isNone then .ready else .done) jump))).heap[w.heap.size]? = some (Obj.deferred (some [])) := fun jump W3 hl3 hk3 => by
          have := run_endRound (P := P) jump hl3
          rw [hrec] at this ⊢
          exact ⟨this, World.putObj_heap_same (Array.getElem?_eq_some_iff.1 hl3).1, (World.putObj_heap_other (by omega)).trans (hk3 _ _ (by omega) hk rfl)⟩
        have cellS : ∀ (W3 : World) (o' : Obj), W3.heap[w.heap.size + 1]? = some (Obj.loop { rec .ready none with state := .busy }) → o'.isCells = false → ∀ b o, (W3.putObj (w.heap.size + 1) o').cell? ⟨b, o, none⟩ = W3.cell? ⟨b, o, none⟩ := fun W3 o' h1 h2 b o => cell_putObj h1 rfl h2 b o
        rintro e a3 W3 ⟨hk3, hl3, hF3, hp⟩
        cases e with
        | normal =>
          obtain ⟨hr, hl4, hk4⟩ := fin none W3 hl3 hk3
          exact ⟨_, _, hr, fun b o hb => (cellS W3 _ hl3 rfl b o).trans (hF3 b o hb), .inl ⟨rfl, hIp _ _ _ _ _ hp hl3 rfl rfl (by omega), hl4, hk4⟩⟩
        | ret =>
          obtain ⟨hr, hl4, hk4⟩ := fin (some .ret) W3 hl3 hk3
          exact ⟨_, _, hr, fun b o hb => (cellS W3 _ hl3 rfl b o).trans (hF3 b o hb), .inr ⟨rfl, .ret, hXp _ _ _ _ _ hp hl3 rfl rfl (by omega), hl4, hk4⟩⟩
        | exit id =>
          obtain ⟨hr, hl4, hk4⟩ := fin (some (.exit id)) W3 hl3 hk3
          exact ⟨_, _, hr, fun b o hb => (cellS W3 _ hl3 rfl b o).trans (hF3 b o hb), .inr ⟨rfl, .exit id, hXp _ _ _ _ _ hp hl3 rfl rfl (by omega), hl4, hk4⟩⟩
        | goto t => exact hp.elim
        | panic ch => exact hp.elim
        | outgrown => exact hp.elim
      | _ => exact hp.elim
    · rintro e W2 ⟨⟨v, rfl⟩, (⟨hi, hl, hk⟩ | ⟨c, hi, hl, hk⟩)⟩
      · exact ⟨none, _, by have := run_endLoop (P := P) hl (by rw [hrec]; simp); rw [hrec] at this; exact this, hdone _ _ (Nat.le_refl _) (hIp _ _ _ _ _ hi hl rfl rfl (by omega)) ((World.putObj_heap_other (by omega)).trans hk)⟩
      · exact ⟨some c, _, by have := run_endLoop (P := P) hl (by rw [hrec]; simp); rw [hrec] at this; exact this, hstop _ c _ (Nat.le_refl _) (hXp _ _ _ _ _ hi hl rfl rfl (by omega)) ((World.putObj_heap_other (by omega)).trans hk)⟩
theorem putObj_get {w : World} {D : Nat} {o : Obj} {k : Nat} (hD : D < w.heap.size) : (w.putObj D o).heap[k]? = if k = D then some o else w.heap[k]? := by
  by_cases e : k = D
  · subst e; rw [if_pos rfl]; exact World.putObj_heap_same hD
  · rw [if_neg e]; exact World.putObj_heap_other e
theorem putObj_size (w : World) (D : Nat) (o : Obj) : (w.putObj D o).heap.size = w.heap.size := by simp [World.putObj]
theorem putObj_self {w : World} {D : Nat} {o o' : Obj} (h : w.heap[D]? = some o) : (w.putObj D o').putObj D o = w := by
  have hD := (Array.getElem?_eq_some_iff.1 h).1
  have : (w.putObj D o').putObj D o = { w with heap := ((w.putObj D o').putObj D o).heap } := rfl
  rw [this]
  have : ((w.putObj D o').putObj D o).heap = w.heap := by
    apply Array.ext_getElem?
    intro k
    rw [putObj_get (by rw [putObj_size]; exact hD), putObj_get hD]
    split
    · rename_i e; subst e; exact h.symm
    · rfl
  rw [this]
theorem SatG.both {N : Nat} {W : World} {G0 : Gh} {A : Nat → Prop} {G : Gh} {g : Nat → S} {h : Nat → Option Blk} {a : Act} {w : World} (s : SatG N W G0 A G g h a w) {l : Nat} {r : Loop} {o' : Obj} (hl : w.heap[l]? = some (Obj.loop r)) (ho : o'.isCells = false) (hW : l < W.heap.size) :
    SatG N (W.putObj l o') G0 A G g h a (w.putObj l o') := by
  have sm : Same w (w.putObj l o') := Same.putObj hl rfl ho
  have hlw := (Array.getElem?_eq_some_iff.1 hl).1
  refine ⟨s.size, ?_, fun t => RepS.keep (sm.keep s.heap.fb) _ _ (by simp) (s.slots t), s.heap.same sm, ⟨s.frm.os, s.frm.tape, s.frm.output, by rw [putObj_size, putObj_size]; exact s.frm.size, ?_, ?_, s.frm.fin, ?_, s.frm.same⟩⟩
  · obtain ⟨Ds, h1, h2, h3⟩ := s.defers
    refine ⟨Ds, h1, h2, fun D hD => ?_⟩
    obtain ⟨h4, h5⟩ := h3 D hD
    rw [putObj_size, putObj_get hlw, if_neg (by rintro rfl; rw [hl] at h4; cases h4)]
    exact ⟨h4, h5⟩
  · intro b hb hA
    rw [putObj_size] at hb
    rw [putObj_get hlw, putObj_get hW, s.frm.block b hb hA]
  · intro l' b k h1 h2; rw [putObj_size]; exact s.frm.own l' b k h1 h2
  · intro b hb; rw [putObj_size]; exact s.frm.fout b hb
theorem SatG.world {N : Nat} {W : World} {G0 : Gh} {A : Nat → Prop} {G : Gh} {g : Nat → S} {h : Nat → Option Blk} {a : Act} {w w' : World} (s : SatG N W G0 A G g h a w) (sm : SameW W w w') (hd : DefOk W a.defers w') : SatG N W G0 A G g h a w' :=
  ⟨s.size, hd, fun t => RepS.keep (sm.toSame.keep s.heap.fb) _ _ (by simp) (s.slots t), s.heap.same sm.toSame, s.frm.same' sm⟩
/-! ### One round, as a contract -/
def RoundC (P : Program) (l : Nat) (assign body : Code) (us : List Value) (w : World) (R : Ending → World → Prop) : Prop :=
  ∀ r, w.heap[l]? = some (Obj.loop r) → assign.wpIn (Fence.wide.inRound l) 7 P (Exit.then (fun a1 w1 => KA l w w1 ∧ w1.heap[l]? = w.heap[l]? ∧ ∀ o' : Obj, o'.isCells = false → body.wpIn (Fence.wide.inRound l) 7 P (fun e _ w' => KA l w w' ∧ w'.heap[l]? = some o' ∧ match e with
      | .normal => R (.returned (.bool true)) (w'.putObj l (.loop r))
      | _ => False) a1 (w1.putObj l o')) (fun _ _ _ => False)) { tmps := us.toArray, defers := [] } w
theorem RoundC.mono {P : Program} {l : Nat} {assign body : Code} (us : List Value) (w : World) (R R' : Ending → World → Prop) (h : RoundC P l assign body us w R) (hR : ∀ e w', R e w' → R' e w') : RoundC P l assign body us w R' := by
  intro r hr
  refine wpIn_mono (h r hr) ?_
  rintro e a1 w1 hp
  cases e with
  | normal =>
    refine ⟨hp.1, hp.2.1, fun o' ho => wpIn_mono (hp.2.2 o' ho) ?_⟩
    rintro e a2 w2 ⟨h1, h3, h2⟩
    refine ⟨h1, h3, ?_⟩
    cases e with
    | normal => exact hR _ _ h2
    | _ => exact h2
  | _ => exact hp
def EndQ (post : List (Nat × Blk)) (e : Exit) (τ : St) : Prop := match e with
  | .normal => ∃ ρ, rhoOk ρ = true ∧ wkH ρ (lkB τ.h) post
  | _ => False
def ThenB (N : Nat) (P : Program) (body : Code) (post : List (Nat × Blk)) (e : Exit) (τ : St) : Prop := match e with
  | .normal => nf N P [] body (EndQ post) τ
  | _ => False
theorem EndQ_normal (post : List (Nat × Blk)) (τ : St) : EndQ post .normal τ = ∃ ρ, rhoOk ρ = true ∧ wkH ρ (lkB τ.h) post := rfl
theorem ThenB_normal (N : Nat) (P : Program) (body : Code) (post : List (Nat × Blk)) (τ : St) : ThenB N P body post .normal τ = nf N P [] body (EndQ post) τ := rfl
theorem ka_of {W w : World} {G0 : Gh} {A : Nat → Prop} {G : Gh} {h : Nat → Option Blk} (l : Nat) (f : From W G0 A G w h) (hA : ∀ b, A b → ∃ cs e m, W.heap[b]? = some (Obj.cells cs e m)) : KA l W w := by
  intro k o _ ho hc
  rw [f.block k (Array.getElem?_eq_some_iff.1 ho).1, ho]
  intro hA'
  obtain ⟨cs, e, m, h2⟩ := hA k hA'
  rw [ho] at h2; cases h2; cases hc
theorem round_fn {N : Nat} {P : Program} {l : Nat} {assign body : Code} {gg : List (Nat × S)} {pre post : List (Nat × Blk)} (hm : P.follows .mixedOrders = true) (hok1 : okCode N assign = true) (hok2 : okCode N body = true) (hf1 : flatC assign = true) (hf2 : flatC body = true)
    (hkeys : gg.all (fun q => Nat.blt q.1 N) = true) (h : nf N P [] assign (ThenB N P body post) ⟨gg, pre⟩) : FnOkG (RoundC P l assign body) ((List.range N).map (lkS gg)) pre (.t (.lit (.bool true))) post := by
  intro G w us hh hr r hl
  have hlw := (Array.getElem?_eq_some_iff.1 hl).1
  have hlen := hr.length
  have hA : ∀ b, ownA G pre b → ∃ cs e m, w.heap[b]? = some (Obj.cells cs e m) := fun b ⟨l', x, h1, h2⟩ => hh.obj h1 h2
  have hs0 : SatG N w G (ownA G pre) G (lkS gg) (lkB pre) { tmps := us.toArray, defers := [] } w := by
    refine ⟨by simpa using hlen, DefOk.nil _ _, fun t => ?_, hh, ⟨rfl, rfl, rfl, Nat.le_refl _, fun _ _ _ => rfl, fun l b k h1 h2 => .inl ⟨l, b, h1, h2⟩, fun _ h => h, fun _ h => .inl h, fun _ _ => rfl⟩⟩
    by_cases ht : t < N
    · obtain ⟨u, h1, h2⟩ := RepPs.get (i := t) (s := lkS gg t) hr (by simp [ht])
      have : us.toArray.getD t undef = u := by
        rw [Array.getD_eq_getD_getElem?]; simp [h1]
      rw [this]; exact h2
    · have : lkS gg t = .dead := by
        have key : ∀ g : List (Nat × S), g.all (fun q => Nat.blt q.1 N) = true → lkS g t = .dead := by
          intro g
          induction g with
          | nil => intro _; rfl
          | cons q r ih =>
            intro hq
            simp only [List.all_cons, Bool.and_eq_true] at hq
            obtain ⟨k, s⟩ := q
            simp only [lkS]
            have hk : k < N := by have := hq.1; simp [Nat.blt] at this; omega
            rw [if_neg (by omega)]
            exact ih hq.2
        exact key gg hkeys
      rw [this]; unfold RepS; trivial
  refine wpIn_mono (nf_round hm l 7 assign _ _ hok1 hf1 h w G (ownA G pre) _ w ⟨G, hs0⟩) ?_
  rintro e a1 w1 ⟨τ, hq, G1, hs1⟩
  cases e with
  | normal =>
    have hl1 : w1.heap[l]? = some (Obj.loop r) := by
      rw [hs1.frm.block l hlw, hl]
      intro hA'
      obtain ⟨cs, e, m, h2⟩ := hA l hA'
      rw [hl] at h2; cases h2
    refine ⟨ka_of l hs1.frm hA, by rw [hl1, hl], fun o' ho => ?_⟩
    have hl1w := (Array.getElem?_eq_some_iff.1 hl1).1
    have hs2 := hs1.both hl1 ho hlw
    refine wpIn_mono (nf_round hm l 7 body _ _ hok2 hf2 hq (w.putObj l o') G (ownA G pre) a1 (w1.putObj l o') ⟨G1, hs2⟩) ?_
    rintro e a2 w2 ⟨τ2, hq2, G2, hs3⟩
    have hA2 : ∀ b, ownA G pre b → ∃ cs e m, (w.putObj l o').heap[b]? = some (Obj.cells cs e m) := by
      intro b hb
      obtain ⟨cs, e, m, h2⟩ := hA b hb
      refine ⟨cs, e, m, ?_⟩
      rw [putObj_get hlw, if_neg (by rintro rfl; rw [hl] at h2; cases h2)]
      exact h2
    have hblk : ∀ k, k < w.heap.size → ¬ ownA G pre k → w2.heap[k]? = (w.putObj l o').heap[k]? := fun k hk hk2 => hs3.frm.block k (by rw [putObj_size]; exact hk) hk2
    have hno : ∀ k, k < w.heap.size → ∀ o, (w.putObj l o').heap[k]? = some o → o.isCells = false → ¬ ownA G pre k := by
      intro k hk o h1 h2 h3
      obtain ⟨cs, e, m, h4⟩ := hA2 k h3
      rw [h1] at h4; cases h4; cases h2
    have hl2 : w2.heap[l]? = some o' := by
      have e1 : (w.putObj l o').heap[l]? = some o' := World.putObj_heap_same hlw
      rw [hblk l hlw (hno l hlw o' e1 ho)]; exact e1
    refine ⟨?_, hl2, ?_⟩
    · intro k o hkl h1 h2
      have hk := (Array.getElem?_eq_some_iff.1 h1).1
      have e1 : (w.putObj l o').heap[k]? = some o := by rw [putObj_get hlw, if_neg hkl]; exact h1
      rw [hblk k hk (hno k hk o e1 h2)]
      exact e1
    · cases e with
      | normal =>
        obtain ⟨ρ, h1, h2⟩ := hq2
        have hs4 := hs3.frm
        have sm : Same w2 (w2.putObj l (.loop r)) := Same.putObj hl2 ho rfl
        have hf : From w G (ownA G pre) G2 (w2.putObj l (.loop r)) (lkB τ2.h) := by
          refine ⟨hs4.os, hs4.tape, hs4.output, by rw [putObj_size]; have := hs4.size; rw [putObj_size] at this; exact this, ?_, ?_, hs4.fin, ?_, hs4.same⟩
          · intro b hb hAb
            rw [putObj_get (Array.getElem?_eq_some_iff.1 hl2).1]
            split
            · rename_i e; subst e; exact hl.symm
            · rename_i hne
              rw [hblk b hb hAb, putObj_get hlw, if_neg hne]
          · intro l' b k h3 h4; have := hs4.own l' b k h3 h4; rw [putObj_size] at this; exact this
          · intro b hb; have := hs4.fout b hb; rw [putObj_size] at this; exact this
        exact ⟨.bool true, wkGh ρ (lkB τ2.h) G2, rfl, wk_from h1 h2 hf, wk_heap h1 (hs3.heap.same sm) h2, by unfold RepS Rep; exact ⟨rfl, rfl⟩⟩
      | _ => exact hq2.elim
  | _ => exact hq.elim
/-! ### The rule -/
def RdI (preI : List (Nat × Blk)) (caps : List S) (lb : List Value) (F0 : Nat → Prop) (W : World) : Prop := ∃ G : Gh, G.F = F0 ∧ HeapOk G W (lkB preI) ∧ RepPs G W caps lb
def IterSy (P : Program) (gf : FuncId) (caps : List S) (preI : List (Nat × Blk)) (ys : List (List Value)) : Prop :=
  ∀ (lb : List Value) (F0 : Nat → Prop), IterOk P gf lb.toArray ys F0 (RdI preI caps lb F0) (fun W => ∃ F, RdI preI caps lb F W)
def psS (ps : List Tmp) (y : List Value) : List (Nat × S) := (ps.zip y).map fun q => (q.1, .t (.lit q.2))
def slotsR (gs : List (Nat × S)) (ρ : List (Nat × Nat)) (ps : List Tmp) : List (Nat × S) → Prop
  | [] => True
  | (t, s) :: r => ps.contains t = false ∧ lkS gs t = s.ren ρ ∧ slotsR gs ρ ps r
def allIn (ρ : List (Nat × Option Nat)) (h : List (Nat × Blk)) : Bool := h.all fun q => !offR q.1 ρ
theorem allIn_spec {ρ : List (Nat × Option Nat)} {h : List (Nat × Blk)} (hA : allIn ρ h = true) {l : Nat} {b : Blk} (hl : lkB h l = some b) : offR l ρ = false := by
  have := List.all_eq_true.1 hA (l, b) (lkB_mem hl)
  simpa using this
theorem slotsR_get {gs : List (Nat × S)} {ρ : List (Nat × Nat)} {ps : List Tmp} {t : Nat} : ∀ {g1 : List (Nat × S)}, slotsR gs ρ ps g1 → lkS g1 t = .dead ∨ lkS gs t = (lkS g1 t).ren ρ
  | [], _ => .inl rfl
  | (k, s) :: r, h => by
    simp only [lkS]
    split
    · rename_i e; subst e; exact .inr h.2.1
    · exact slotsR_get h.2.2
theorem zip_get {ps : List Tmp} : ∀ {zs : List (Tmp × Value)} {arr : Array Value} {g1 : List (Nat × S)} {t : Nat}, (zs.map (·.1)).Nodup → (∀ q ∈ zs, q.1 < arr.size) →
    (t ∉ zs.map (·.1) → lkS (zs.map (fun q => (q.1, S.t (.lit q.2))) ++ g1) t = lkS g1 t ∧ (zs.foldl (fun t (p, v) => t.setIfInBounds p v) arr).getD t undef = arr.getD t undef) ∧
    (∀ v, (t, v) ∈ zs → lkS (zs.map (fun q => (q.1, S.t (.lit q.2))) ++ g1) t = .t (.lit v) ∧ (zs.foldl (fun t (p, v) => t.setIfInBounds p v) arr).getD t undef = v) ∧
    (zs.foldl (fun t (p, v) => t.setIfInBounds p v) arr).size = arr.size
  | [], arr, g1, t, _, _ => ⟨fun _ => ⟨rfl, rfl⟩, fun v h => (by cases h), rfl⟩
  | (k, u) :: zs, arr, g1, t, hn, hs => by
    simp only [List.map_cons, List.nodup_cons] at hn
    have hk : k < arr.size := hs (k, u) (by simp)
    obtain ⟨h1, h2, h3⟩ := zip_get (ps := ps) (zs := zs) (arr := arr.setIfInBounds k u) (g1 := g1) (t := t) hn.2 (fun q hq => by simpa using hs q (by simp [hq]))
    simp only [List.map_cons, List.cons_append, List.foldl_cons, lkS]
    refine ⟨fun ht => ?_, fun v hv => ?_, by rw [h3]; simp⟩
    · simp only [List.mem_cons, not_or] at ht
      rw [if_neg ht.1]
      obtain ⟨h4, h5⟩ := h1 ht.2
      refine ⟨h4, ?_⟩
      rw [h5, Array.getD_eq_getD_getElem?, Array.getD_eq_getD_getElem?, Array.getElem?_setIfInBounds_ne (fun e => ht.1 e.symm)]
    · rcases List.mem_cons.1 hv with hv | hv
      · cases hv
        rw [if_pos rfl]
        refine ⟨rfl, ?_⟩
        rw [(h1 hn.1).2, Array.getD_eq_getD_getElem?]
        simp [hk]
      · have hne : t ≠ k := fun e => hn.1 (by rw [← e]; exact List.mem_map.2 ⟨(t, v), hv, rfl⟩)
        rw [if_neg hne]
        exact h2 v hv
theorem RepPs.ofFn {G : Gh} {w : World} {f : Nat → S} : ∀ {n k : Nat} {us : List Value}, us.length = n → (∀ i, i < n → RepS G w (f (k + i)) (us.getD i undef)) → RepPs G w ((List.range' k n).map f) us
  | 0, k, us, hl, _ => by
    have := List.length_eq_zero_iff.1 hl
    subst this
    simp only [List.range'_zero, List.map_nil]; unfold RepPs; rfl
  | n + 1, k, us, hl, h => by
    cases us with
    | nil => simp at hl
    | cons u us =>
      simp only [List.range'_succ, List.map_cons]
      unfold RepPs
      refine ⟨u, us, rfl, by simpa using h 0 (by omega), RepPs.ofFn (by simpa using hl) fun i hi => ?_⟩
      have := h (i + 1) (by omega)
      rw [show k + 1 + i = k + (i + 1) by omega]
      simpa using this
theorem argR_ren (ρ : List (Nat × Nat)) (h : Nat → Option Blk) (bor : List Nat) (s : S) : argR ρ h bor (s.ren ρ) s := by
  cases s with
  | t x => unfold S.ren argR; exact wkT_refl x
  | _ => unfold S.ren argR; simp [S.ren]
theorem argPs_ren (ρ : List (Nat × Nat)) (h : Nat → Option Blk) (bor : List Nat) (f : Nat → S) : ∀ l : List Nat, argPs ρ h bor (l.map fun t => (f t).ren ρ) (l.map f)
  | [] => by simp only [List.map_nil]; unfold argPs; trivial
  | t :: r => by
    simp only [List.map_cons]
    unfold argPs
    exact ⟨argR_ren ρ h bor (f t), argPs_ren ρ h bor f r⟩
theorem marks_inj : ∀ {a b : List Nat}, a.map (fun D => ({ target := .collected D, args := #[] } : Deferred)) = b.map (fun D => { target := .collected D, args := #[] }) → a = b
  | [], [], _ => rfl
  | [], _ :: _, h => by simp at h
  | _ :: _, [], h => by simp at h
  | x :: a, y :: b, h => by
    simp only [List.map_cons, List.cons.injEq, Deferred.mk.injEq, Target.collected.injEq] at h
    rw [h.1.1, marks_inj h.2]
structure Round (N : Nat) (P : Program) (assign body : Code) (ps : List Tmp) (gs : List (Nat × S)) (h h' : List (Nat × Blk)) (y : List Value) (ρ : List (Nat × Nat)) (g1 : List (Nat × S)) (pre post : List (Nat × Blk)) (ρ2 : List (Nat × Option Nat)) : Prop where
  chk : callChk ρ [] pre post (.t (.lit (.bool true))) = true
  hpre : preR ρ (lkB h) pre
  slots : slotsR gs ρ ps g1
  keys : g1.all (fun q => Nat.blt q.1 N) = true
  fresh : nwOk ⟨gs, h⟩ (callE ρ [] [] pre post (.t (.lit (.bool true)))).nw = true
  run : nf N P [] assign (ThenB N P body post) ⟨psS ps y ++ g1, pre⟩
  wk : Wk ρ2 ⟨gs, updB (callE ρ [] [] pre post (.t (.lit (.bool true)))).u h⟩ ⟨gs, h'⟩
theorem nodupB_list : ∀ {l : List Tmp}, nodupB l = true → l.Nodup
  | [], _ => List.nodup_nil
  | t :: r, h => by
    simp only [nodupB, Bool.and_eq_true, Bool.not_eq_true', List.contains_eq_mem, decide_eq_false_iff_not] at h
    exact List.nodup_cons.2 ⟨h.1, nodupB_list h.2⟩
theorem CW.rangeF {N : Nat} {P : Program} {Q : Exit → St → Prop} {g : Operand} {ps : Array Tmp} {assign body : Code} {σ : St} (gs : List (Nat × S)) (hs : Nat → List (Nat × Blk)) (ρ0 : List (Nat × Option Nat)) {gf : FuncId} {caps : List S} (preI : List (Nat × Blk)) (ys : List (List Value)) (ρI : List (Nat × Option Nat))
    (hstart : Wk ρ0 σ ⟨gs, hs 0⟩) (hg : rdS (lkS gs) g = .fn gf caps) (he : entB P gf = true) (hok1 : okCode N assign = true) (hok2 : okCode N body = true) (hf1 : flatC assign = true) (hf2 : flatC body = true)
    (hpsN : nodupB ps.toList = true) (hpsl : ps.toList.all (fun t => Nat.blt t N) = true) (hps : ∀ y ∈ ys, y.length = ps.size) (hone : ∀ y ∈ ys, ∀ v ∈ y, v.oneCell' = true)
    (hit : IterSy P gf caps preI ys) (hrI : rhoOk ρI = true) (hI : ∀ k, k ≤ ys.length → wkH ρI (lkB (hs k)) preI ∧ wkPs ρI (lkB (hs k)) caps caps ∧ allIn ρI (hs k) = true)
    (round : ∀ k y, ys[k]? = some y → ∃ ρ g1 pre post ρ2, Round N P assign body ps.toList gs (hs k) (hs (k + 1)) y ρ g1 pre post ρ2)
    (done : Q .normal ⟨gs, hs ys.length⟩) : CW N P (.rangeFunc g ps assign body) Q σ := by
  intro hm _ W0 G0 A a w hsat
  obtain ⟨G, hsat⟩ := hsat.weak hstart
  have hgv := hsat.eval g
  rw [hg] at hgv
  unfold RepS at hgv
  obtain ⟨us, hgv, hcaps⟩ := hgv
  obtain ⟨Ds, hD1, hD2, hD3⟩ := hsat.defers
  have hDlt : ∀ D ∈ Ds, D < w.heap.size := fun D hD => (Array.getElem?_eq_some_iff.1 (hD3 D hD).1).1
  have defs : ∀ {W : World} (hW : DefOk W0 a.defers W), ∀ D ∈ Ds, W.heap[D]? = some (Obj.deferred (some [])) := by
    intro W hW D hD
    obtain ⟨Ds', h1, _, h3⟩ := hW
    rw [hD1] at h1
    have := marks_inj h1
    subst this
    exact (h3 D hD).1
  have mk : ∀ {W : World}, (∀ D ∈ Ds, W.heap[D]? = some (Obj.deferred (some []))) → DefOk W0 a.defers W := fun h => ⟨Ds, hD1, hD2, fun D hD => ⟨h D hD, (hD3 D hD).2⟩⟩
  have hW0 : W0.heap.size ≤ w.heap.size := hsat.frm.size
  let I : Nat → World → Prop := fun k W => k ≤ ys.length ∧ ∃ G', SatG N W0 G0 A G' (lkS gs) (lkB (hs k)) a W ∧ ∀ b, G.F b → G'.F b
  have hput : ∀ k W D o o', I k W → W.heap[D]? = some o → o.isCells = false → o'.isCells = false → w.heap.size ≤ D → I k (W.putObj D o') := by
    rintro k W D o o' ⟨hk, G', h1, h2⟩ hD ho ho' hDw
    refine ⟨hk, G', h1.world (SameW.putObj hD ho ho' (by omega)) (mk fun D' hD' => ?_), h2⟩
    have := hDlt D' hD'
    rw [World.putObj_heap_other (by omega)]
    exact defs h1.defers D' hD'
  have rd : ∀ k W G', k ≤ ys.length → SatG N W0 G0 A G' (lkS gs) (lkB (hs k)) a W → RdI preI caps us G'.F W := by
    intro k W G' hk h1
    obtain ⟨i1, i2, i3⟩ := hI k hk
    have h3 := h1.eval g
    rw [hg] at h3
    unfold RepS at h3
    obtain ⟨us', h4, h5⟩ := h3
    rw [hgv] at h4
    have e : us' = us := by simpa using h4.symm
    subst e
    refine ⟨wkGh ρI (lkB (hs k)) G', ?_, wk_heap hrI h1.heap i1, wkPs_spec h1.heap _ _ _ i2 h5⟩
    funext b
    refine propext ⟨fun h => ?_, fun h => .inl h⟩
    rcases h with h | ⟨l, x, h6, h7, _⟩
    · exact h
    · rw [allIn_spec i3 h6] at h7; cases h7
  refine wpIn_wide.1 (wpIn_range hgv (fun args w => run_callFunc he args w) (hit us G.F) hps I (fun _ _ => False) ?_ hput (fun _ _ _ h _ => h) (fun _ _ _ _ _ h _ _ _ _ => h) ?_ ?_ ⟨Nat.zero_le _, G, hsat, fun _ h => h⟩ ?_ ?_ (fun _ _ _ _ h _ => h.elim))
  · rintro k A' B ⟨hk, G', h1, h2⟩ hb
    refine ⟨hk, G', h1.world (SameW.below hb h1.frm.size) (mk fun D hD => ?_), h2⟩
    have h3 := defs h1.defers D hD
    rw [hb.block D (Array.getElem?_eq_some_iff.1 h3).1]; exact h3
  · rintro k A' ⟨hk, G', h1, h2⟩
    exact ⟨_, rd k A' G' hk h1⟩
  · intro B hb
    refine rd 0 B G (Nat.zero_le _) (hsat.world (SameW.below hb hW0) (mk fun D hD => ?_))
    rw [hb.block D (hDlt D hD)]; exact (hD3 D hD).1
  · rintro l k y A' hy ⟨hk, G', h1, h2⟩ hwl ⟨r, hr⟩
    have hkl : k < ys.length := (List.getElem?_eq_some_iff.1 hy).1
    have hym := List.mem_of_getElem? hy
    obtain ⟨ρ, g1, pre, post, ρ2, R⟩ := round k y hy
    have hlen := hps y hym
    have hzn : ((ps.toList.zip y).map (·.1)).Nodup := by
      have e : (ps.toList.zip y).map (·.1) = ps.toList := by
        rw [List.map_fst_zip]; simp [hlen]
      rw [e]; exact nodupB_list hpsN
    have hzs : ∀ q ∈ ps.toList.zip y, q.1 < a.tmps.size := by
      intro q hq
      have h3 := List.all_eq_true.1 hpsl q.1 (List.of_mem_zip hq).1
      rw [h1.size]
      exact (by simpa [Nat.blt] using h3 : q.1 + 1 ≤ N)
    have hfold : (ps.zip y.toArray).foldl (fun t (p, v) => t.setIfInBounds p v) a.tmps = (ps.toList.zip y).foldl (fun t (p, v) => t.setIfInBounds p v) a.tmps := by
      rw [← Array.foldl_toList]; simp
    have hkeys : (psS ps.toList y ++ g1).all (fun q => Nat.blt q.1 N) = true := by
      rw [List.all_append, Bool.and_eq_true]
      refine ⟨?_, R.keys⟩
      unfold psS
      rw [List.all_eq_true]
      intro q hq
      obtain ⟨z, hz, rfl⟩ := List.mem_map.1 hq
      exact List.all_eq_true.1 hpsl z.1 (List.of_mem_zip hz).1
    obtain ⟨hcall, hnw⟩ := CallOkG.fn (C := RoundC P l assign body) RoundC.mono (round_fn (l := l) hm hok1 hok2 hf1 hf2 hkeys R.run) ρ [] [] (h := lkB (hs k)) R.chk (argPs_ren ρ (lkB (hs k)) _ (lkS (psS ps.toList y ++ g1)) (List.range N)) R.hpre trivial (.inl rfl)
    have hz := fun t => zip_get (ps := ps.toList) (zs := ps.toList.zip y) (arr := a.tmps) (g1 := g1) (t := t) hzn hzs
    have hrep : RepPs G' A' ((List.range N).map fun t => (lkS (psS ps.toList y ++ g1) t).ren ρ) ((ps.toList.zip y).foldl (fun t (p, v) => t.setIfInBounds p v) a.tmps).toList := by
      rw [List.range_eq_range']
      refine RepPs.ofFn (by rw [Array.length_toList, (hz 0).2.2, h1.size]) fun t ht => ?_
      rw [Nat.zero_add]
      have e : ((ps.toList.zip y).foldl (fun t (p, v) => t.setIfInBounds p v) a.tmps).toList.getD t undef = ((ps.toList.zip y).foldl (fun t (p, v) => t.setIfInBounds p v) a.tmps).getD t undef := by
        rw [Array.getD_eq_getD_getElem?, List.getD_eq_getElem?_getD, Array.getElem?_toList]
      rw [e]
      by_cases htm : t ∈ (ps.toList.zip y).map (·.1)
      · obtain ⟨⟨t', v⟩, hv, rfl⟩ := List.mem_map.1 htm
        obtain ⟨h4, h5⟩ := (hz t').2.1 v hv
        show RepS G' A' ((lkS (psS ps.toList y ++ g1) t').ren ρ) _
        rw [show lkS (psS ps.toList y ++ g1) t' = .t (.lit v) from h4]
        rw [h5]
        unfold S.ren RepS Rep
        exact ⟨rfl, hone y hym v (List.of_mem_zip hv).2⟩
      · obtain ⟨h4, h5⟩ := (hz t).1 htm
        show RepS G' A' ((lkS (psS ps.toList y ++ g1) t).ren ρ) _
        rw [show lkS (psS ps.toList y ++ g1) t = lkS g1 t from h4, h5]
        rcases slotsR_get (t := t) R.slots with h6 | h6
        · rw [h6]; unfold S.ren RepS; trivial
        · rw [← h6]; exact h1.slots t
    have hfr := nwOk_spec R.fresh
    have hC := hcall G' (lkB (hs k)) A' _ h1.heap hrep (fun _ _ => rfl) (fun l hl => ⟨(hfr l hl).1, (hfr l hl).2.2⟩) r hr
    rw [hfold]
    rw [Array.toArray_toList] at hC
    refine wpIn_mono hC ?_
    rintro e a1 w1 hp
    cases e with
    | normal =>
      refine ⟨hp.1, hp.2.1, fun o' ho => wpIn_mono (hp.2.2 o' ho) ?_⟩
      rintro e a2 w2 ⟨k1, k2, hp2⟩
      cases e with
      | normal =>
        obtain ⟨v, G1, _, hx, _⟩ := hp2
        have s1 : SatG N W0 G0 A G1 (lkS gs) (hupd (callE ρ [] [] pre post (.t (.lit (.bool true)))).u (lkB (hs k))) a (w2.putObj l (.loop r)) :=
          ⟨h1.size, hx.defs h1.heap h1.defers, fun t => RepS.keep hx.keep _ _ (fun l hl => (hfr l hl).2.1 t) (h1.slots t), hx.heap, h1.frm.ext hx hnw⟩
        have s2 : Sat N W0 G0 A ⟨gs, updB (callE ρ [] [] pre post (.t (.lit (.bool true)))).u (hs k)⟩ a (w2.putObj l (.loop r)) := by
          refine ⟨G1, ?_⟩
          have e : lkB (updB (callE ρ [] [] pre post (.t (.lit (.bool true)))).u (hs k)) = hupd (callE ρ [] [] pre post (.t (.lit (.bool true)))).u (lkB (hs k)) := by funext j; rw [lkB_updB]
          show SatG N W0 G0 A G1 (lkS gs) (lkB (updB _ (hs k))) a _
          rw [e]; exact s1
        have hw := R.wk
        obtain ⟨q1, q2, q3⟩ := hw
        have s3 : SatG N W0 G0 A (wkGh ρ2 (lkB (updB (callE ρ [] [] pre post (.t (.lit (.bool true)))).u (hs k))) G1) (lkS gs) (lkB (hs (k + 1))) a (w2.putObj l (.loop r)) := by
          have e : lkB (updB (callE ρ [] [] pre post (.t (.lit (.bool true)))).u (hs k)) = hupd (callE ρ [] [] pre post (.t (.lit (.bool true)))).u (lkB (hs k)) := by funext j; rw [lkB_updB]
          have s1' := s1
          rw [← e] at s1'
          exact ⟨s1.size, s1.defers, fun t => wkS_spec s1'.heap _ _ _ (wkG_get t q2) (s1.slots t), wk_heap q1 s1'.heap q3, wk_from q1 q3 s1'.frm⟩
        have hl2 : w2.heap[l]? = some o' := k2
        have hl2w := (Array.getElem?_eq_some_iff.1 hl2).1
        have i1 : I (k + 1) (w2.putObj l (.loop r)) := ⟨hkl, _, s3, fun b hb => .inl (hx.keep.fsub b (h2 b hb))⟩
        have i2 := hput (k + 1) _ l (.loop r) o' i1 (World.putObj_heap_same hl2w) rfl ho hwl
        rw [putObj_self hl2] at i2
        refine ⟨k1, k2, fun b o hb => ?_, i2⟩
        rw [← hx.keep.fcell b o (h2 b hb)]
        exact (cell_putObj hl2 ho rfl b o).symm
      | _ => exact hp2.elim
    | _ => exact hp.elim
  · rintro D W hD ⟨hk, G', h1, h2⟩ hWD
    refine ⟨_, done, G', ⟨h1.size, ?_, h1.slots, h1.heap, h1.frm⟩⟩
    refine ⟨D :: Ds, by simp [hD1], List.nodup_cons.2 ⟨fun hm => ?_, hD2⟩, fun D' hD' => ?_⟩
    · have := hDlt D hm; omega
    · rcases List.mem_cons.1 hD' with rfl | hD'
      · exact ⟨hWD, by omega⟩
      · exact ⟨defs h1.defers D' hD', (hD3 D' hD').2⟩
end Go.Proofs.YtdjmklobfjigoaaGreatDoor.Sy
