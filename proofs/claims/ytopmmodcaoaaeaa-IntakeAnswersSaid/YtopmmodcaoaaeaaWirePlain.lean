/- Frames of bytes as plain lists: what Stuff writes and what Unstuff reads. No condition. -/
namespace Go.Proofs.Ytopmmodcaoaaeaa.Wire
set_option linter.unusedVariables false
set_option linter.unusedSimpArgs false
def spec (c : Nat) : Bool := c == 126 || c == 124 || c == 125
/-- One byte in a frame. -/
def esc (c : Nat) : List Nat := if spec c then [125, c ^^^ 32] else [c]
def body (bs : List Nat) : List Nat := bs.flatMap esc
def stuff (bs : List Nat) : List Nat := 126 :: body bs ++ [124]
theorem esc_length (c : Nat) : 1 ≤ (esc c).length ∧ (esc c).length ≤ 2 := by unfold esc; split <;> simp
theorem body_length : ∀ bs : List Nat, bs.length ≤ (body bs).length ∧ (body bs).length ≤ 2 * bs.length
  | [] => by simp [body]
  | c :: bs => by
    have h := body_length bs
    have h2 := esc_length c
    simp only [body, List.flatMap_cons, List.length_append, List.length_cons] at *
    omega
theorem body_snoc (bs : List Nat) (c : Nat) : body (bs ++ [c]) = body bs ++ esc c := by simp [body]
theorem body_take {bs : List Nat} {k c : Nat} (h : bs[k]? = some c) : body (bs.take (k + 1)) = body (bs.take k) ++ esc c := by
  obtain ⟨hk, rfl⟩ := List.getElem?_eq_some_iff.1 h
  rw [List.take_succ_eq_append_getElem hk, body_snoc]
theorem esc_yes {c : Nat} (h : spec c = true) : esc c = [125, c ^^^ 32] := by simp [esc, h]
theorem esc_no {c : Nat} (h : spec c = false) : esc c = [c] := by simp [esc, h]

/-- One byte of a frame's inside: what has been read so far, and whether an escape stands open. -/
def ustep (s : List Nat × Bool) (c : Nat) : Option (List Nat × Bool) :=
  if s.2 = true then (if spec (c ^^^ 32) = true then some (s.1 ++ [c ^^^ 32], false) else none)
  else if c = 126 ∨ c = 124 then none
  else if c = 125 then some (s.1, true)
  else some (s.1 ++ [c], false)
def usteps : List Nat → List Nat × Bool → Option (List Nat × Bool)
  | [], s => some s
  | c :: r, s => match ustep s c with
    | some s' => usteps r s'
    | none => none
def inside (bs : List Nat) : List Nat := (bs.drop 1).take (bs.length - 2)
def ures : Option (List Nat × Bool) → List Nat × Int
  | some (out, false) => (out, 0)
  | _ => ([], 3)
/-- The bytes whose frame these are, and the error. -/
def unstuff (bs : List Nat) : List Nat × Int :=
  if bs.length < 2 then ([], 2)
  else if bs[0]? = some 126 ∧ bs[bs.length - 1]? = some 124 then
    ures (usteps (inside bs) ([], false))
  else ([], 3)

theorem spec_iff {c : Nat} : spec c = true ↔ c = 126 ∨ c = 124 ∨ c = 125 := by simp [spec, or_assoc]
theorem xor32 (c : Nat) : c ^^^ 32 ^^^ 32 = c := by rw [Nat.xor_assoc, Nat.xor_self, Nat.xor_zero]
theorem esc_inner {c x : Nat} (h : x ∈ esc c) : x ≠ 126 ∧ x ≠ 124 := by
  by_cases hs : spec c = true
  · rw [esc_yes hs] at h
    rcases spec_iff.1 hs with rfl | rfl | rfl <;> (simp at h; omega)
  · have hs' : spec c = false := by simpa using hs
    rw [esc_no hs'] at h
    simp at h
    subst h
    exact ⟨fun e => hs (spec_iff.2 (.inl e)), fun e => hs (spec_iff.2 (.inr (.inl e)))⟩
theorem body_inner {bs : List Nat} {x : Nat} (h : x ∈ body bs) : x ≠ 126 ∧ x ≠ 124 := by
  unfold body at h
  obtain ⟨c, _, hc⟩ := List.mem_flatMap.1 h
  exact esc_inner hc
theorem stuff_length (bs : List Nat) : (stuff bs).length = (body bs).length + 2 := by simp [stuff]
/-- A frame's first byte, its last one, and those between them. -/
theorem stuff_first (bs : List Nat) : (stuff bs)[0]? = some 126 := by simp [stuff]
theorem stuff_last (bs : List Nat) : (stuff bs)[(body bs).length + 1]? = some 124 := by
  unfold stuff
  rw [List.getElem?_append_right (by simp)]
  simp
theorem stuff_mid {bs : List Nat} {k c : Nat} (h0 : 0 < k) (h1 : k < (body bs).length + 1) (h : (stuff bs)[k]? = some c) : c ≠ 126 ∧ c ≠ 124 := by
  unfold stuff at h
  rw [List.getElem?_append_left (by simp; omega), List.getElem?_cons] at h
  rw [if_neg (by omega)] at h
  exact body_inner (List.mem_of_getElem? h)
theorem esc_lt {c : Nat} (h : c < 256) : ∀ x ∈ esc c, x < 256 := by
  intro x hx
  unfold esc at hx
  split at hx
  · simp at hx
    rcases hx with rfl | rfl
    · omega
    · exact Nat.xor_lt_two_pow (n := 8) (by omega) (by omega)
  · simp at hx; omega
theorem body_lt {bs : List Nat} (h : ∀ c ∈ bs, c < 256) : ∀ x ∈ body bs, x < 256 := by
  intro x hx
  obtain ⟨c, hc, hx⟩ := List.mem_flatMap.1 hx
  exact esc_lt (h c hc) x hx
theorem stuff_lt {bs : List Nat} (h : ∀ c ∈ bs, c < 256) : ∀ x ∈ stuff bs, x < 256 := by
  intro x hx
  simp only [stuff, List.cons_append, List.mem_cons, List.mem_append, List.not_mem_nil, or_false] at hx
  rcases hx with rfl | hx | rfl
  · omega
  · exact body_lt h x hx
  · omega
theorem inside_stuff (bs : List Nat) : inside (stuff bs) = body bs := by
  unfold inside
  rw [stuff_length]
  simp [stuff]
theorem usteps_esc (c : Nat) (r acc : List Nat) : usteps (esc c ++ r) (acc, false) = usteps r (acc ++ [c], false) := by
  by_cases hs : spec c = true
  · rw [esc_yes hs]
    simp only [List.cons_append, List.nil_append, usteps, ustep, xor32, hs]
    simp
  · have hs' : spec c = false := by simpa using hs
    rw [esc_no hs']
    have h1 := mt spec_iff.2 hs
    simp only [List.cons_append, List.nil_append, usteps, ustep]
    rw [if_neg (by simp), if_neg (by omega), if_neg (by omega)]
theorem usteps_body : ∀ (bs acc : List Nat), usteps (body bs) (acc, false) = some (acc ++ bs, false)
  | [], acc => by simp [body, usteps]
  | c :: bs, acc => by
    have : body (c :: bs) = esc c ++ body bs := rfl
    rw [this, usteps_esc, usteps_body bs]
    simp
/-- Bytes come out of a frame as they went in. -/
theorem unstuff_stuff (bs : List Nat) : unstuff (stuff bs) = (bs, 0) := by
  unfold unstuff
  rw [if_neg (by rw [stuff_length]; omega), if_pos ⟨stuff_first bs, by rw [stuff_length]; exact stuff_last bs⟩, inside_stuff, usteps_body]
  rfl
theorem usteps_inv : ∀ (l : List Nat) (s : List Nat × Bool) (out : List Nat), usteps l s = some (out, false) →
    ∃ d, out = s.1 ++ d ∧ body d = (if s.2 = true then 125 :: l else l)
  | [], s, out, h => by
    simp only [usteps, Option.some.injEq] at h
    subst h
    exact ⟨[], by simp, by simp [body]⟩
  | c :: r, (acc, true), out, h => by
    simp only [usteps, ustep, if_true] at h
    by_cases hs : spec (c ^^^ 32) = true
    · rw [if_pos hs] at h
      obtain ⟨d, h1, h2⟩ := usteps_inv r _ out h
      refine ⟨(c ^^^ 32) :: d, by simp [h1], ?_⟩
      have : body ((c ^^^ 32) :: d) = esc (c ^^^ 32) ++ body d := rfl
      rw [this, esc_yes hs, h2, xor32]
      simp
    · rw [if_neg hs] at h; cases h
  | c :: r, (acc, false), out, h => by
    simp only [usteps, ustep] at h
    rw [if_neg (by simp)] at h
    by_cases h1 : c = 126 ∨ c = 124
    · rw [if_pos h1] at h; cases h
    · rw [if_neg h1] at h
      by_cases h2 : c = 125
      · rw [if_pos h2] at h
        obtain ⟨d, h3, h4⟩ := usteps_inv r _ out h
        exact ⟨d, h3, by simpa [h2] using h4⟩
      · rw [if_neg h2] at h
        obtain ⟨d, h3, h4⟩ := usteps_inv r _ out h
        have hs : spec c = false := by
          rw [Bool.eq_false_iff]; intro hs; have := spec_iff.1 hs; omega
        refine ⟨c :: d, by simp [h3], ?_⟩
        have : body (c :: d) = esc c ++ body d := rfl
        rw [this, esc_no hs, h4]
        simp
/-- Whatever is read is the frame of what was read. -/
theorem stuff_unstuff {bs : List Nat} (h : (unstuff bs).2 = 0) : stuff (unstuff bs).1 = bs := by
  unfold unstuff at *
  split at h
  · cases h
  · rename_i h2
    rw [if_neg h2]
    split at h
    · rename_i h01
      rw [if_pos h01]
      cases hu : usteps (inside bs) ([], false) with
      | none => rw [hu] at h; cases h
      | some p =>
        obtain ⟨out, b⟩ := p
        cases b with
        | true => rw [hu] at h; cases h
        | false =>
          obtain ⟨d, h3, h4⟩ := usteps_inv _ _ _ hu
          simp only [List.nil_append] at h3
          subst h3
          show stuff out = bs
          unfold stuff
          rw [h4]
          simp only [Bool.false_eq_true, if_false]
          apply List.ext_getElem?
          intro k
          have hil : (inside bs).length = bs.length - 2 := by unfold inside; rw [List.length_take, List.length_drop]; omega
          by_cases hk0 : k = 0
          · subst hk0; rw [h01.1]; rfl
          · by_cases hk1 : k < bs.length - 1
            · rw [List.getElem?_append_left (by simp [hil]; omega), List.getElem?_cons, if_neg hk0]
              unfold inside
              rw [List.getElem?_take, if_pos (by omega), List.getElem?_drop]
              congr 1; omega
            · by_cases hk2 : k = bs.length - 1
              · rw [List.getElem?_append_right (by simp [hil]; omega)]
                subst hk2
                rw [h01.2]
                simp [hil, show bs.length - 1 - (bs.length - 2 + 1) = 0 by omega]
              · rw [List.getElem?_eq_none (by simp [hil]; omega), List.getElem?_eq_none (by omega)]
    · cases h

theorem ustep_ok {s s' : List Nat × Bool} {c : Nat} (hc : c < 256) (hs : ∀ x ∈ s.1, x < 256) (h : ustep s c = some s') : (∀ x ∈ s'.1, x < 256) ∧ s'.1.length ≤ s.1.length + 1 := by
  have hx : c ^^^ 32 < 256 := Nat.xor_lt_two_pow (n := 8) (by omega) (by omega)
  have app : ∀ d, d < 256 → (∀ x ∈ s.1 ++ [d], x < 256) ∧ (s.1 ++ [d]).length ≤ s.1.length + 1 := by
    intro d hd
    refine ⟨fun x hx => ?_, by simp⟩
    rcases List.mem_append.1 hx with hx | hx
    · exact hs x hx
    · simp at hx; omega
  unfold ustep at h
  split at h
  · split at h
    · simp only [Option.some.injEq] at h; subst h; exact app _ hx
    · cases h
  · split at h
    · cases h
    · split at h
      · simp only [Option.some.injEq] at h; subst h; exact ⟨hs, Nat.le_succ _⟩
      · simp only [Option.some.injEq] at h; subst h; exact app _ hc
theorem usteps_ok : ∀ (l : List Nat) (s s' : List Nat × Bool), (∀ x ∈ l, x < 256) → (∀ x ∈ s.1, x < 256) → usteps l s = some s' → (∀ x ∈ s'.1, x < 256) ∧ s'.1.length ≤ s.1.length + l.length
  | [], s, s', _, hs, h => by simp only [usteps, Option.some.injEq] at h; subst h; exact ⟨hs, by simp⟩
  | c :: r, s, s', hl, hs, h => by
    simp only [usteps] at h
    cases hu : ustep s c with
    | none => rw [hu] at h; cases h
    | some s1 =>
      rw [hu] at h
      have h1 := ustep_ok (hl c (by simp)) hs hu
      have h2 := usteps_ok r s1 s' (fun x hx => hl x (by simp [hx])) h1.1 h
      exact ⟨h2.1, by simp only [List.length_cons]; omega⟩
theorem unstuff_ok {bs : List Nat} (hb : ∀ x ∈ bs, x < 256) : (∀ x ∈ (unstuff bs).1, x < 256) ∧ (unstuff bs).1.length ≤ bs.length := by
  unfold unstuff
  split
  · simp
  · split
    · have hi : ∀ x ∈ inside bs, x < 256 := fun x hx => hb x (List.mem_of_mem_drop (List.mem_of_mem_take hx))
      have hil : (inside bs).length ≤ bs.length := by unfold inside; rw [List.length_take, List.length_drop]; omega
      cases hu : usteps (inside bs) ([], false) with
      | none => simp [ures]
      | some p =>
        obtain ⟨out, b⟩ := p
        have h := usteps_ok _ _ _ hi (by simp) hu
        cases b with
        | true => simp [ures]
        | false =>
          refine ⟨h.1, ?_⟩
          have h2 : out.length ≤ ([] : List Nat).length + (inside bs).length := h.2
          rw [List.length_nil, Nat.zero_add] at h2
          exact Nat.le_trans h2 hil
    · simp
end Go.Proofs.Ytopmmodcaoaaeaa.Wire
