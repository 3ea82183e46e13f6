/- Frames of bytes as plain lists: what Stuff writes and what Unstuff reads. No condition. -/
namespace Go.Proofs.Ytnekjbmhmpfkgaa.Wire
set_option linter.unusedVariables false
set_option linter.unusedSimpArgs false
def spec (c : Nat) : Bool := c == 126 || c == 124 || c == 125
/-- One byte in a frame. -/
def esc (c : Nat) : List Nat := if spec c then [125, c ^^^ 32] else [c]
def body (bs : List Nat) : List Nat := bs.flatMap esc
def stuff (bs : List Nat) : List Nat := 126 :: body bs ++ [124]
theorem esc_length (c : Nat) : 1 ≤ (esc c).length ∧ (esc c).length ≤ 2 := by unfold esc; split <;> simp
theorem body_length : ∀ bs : List Nat, bs.length ≤ (body bs).length ∧ (body bs).length ≤ 2 * bs.length
  | [] => by simp [body]
  | c :: bs => by
    have h := body_length bs
    have h2 := esc_length c
    simp only [body, List.flatMap_cons, List.length_append, List.length_cons] at *
    omega
theorem body_snoc (bs : List Nat) (c : Nat) : body (bs ++ [c]) = body bs ++ esc c := by simp [body]
theorem body_take {bs : List Nat} {k c : Nat} (h : bs[k]? = some c) : body (bs.take (k + 1)) = body (bs.take k) ++ esc c := by
  obtain ⟨hk, rfl⟩ := List.getElem?_eq_some_iff.1 h
  rw [List.take_succ_eq_append_getElem hk, body_snoc]
theorem esc_yes {c : Nat} (h : spec c = true) : esc c = [125, c ^^^ 32] := by simp [esc, h]
theorem esc_no {c : Nat} (h : spec c = false) : esc c = [c] := by simp [esc, h]

/-- One byte of a frame's inside: what has been read so far, and whether an escape stands open. -/
def ustep (s : List Nat × Bool) (c : Nat) : Option (List Nat × Bool) :=
  if s.2 = true then (if spec (c ^^^ 32) = true then some (s.1 ++ [c ^^^ 32], false) else none)
  else if c = 126 ∨ c = 124 then none
  else if c = 125 then some (s.1, true)
  else some (s.1 ++ [c], false)
def usteps : List Nat → List Nat × Bool → Option (List Nat × Bool)
  | [], s => some s
  | c :: r, s => match ustep s c with
    | some s' => usteps r s'
    | none => none
def inside (bs : List Nat) : List Nat := (bs.drop 1).take (bs.length - 2)
def ures : Option (List Nat × Bool) → List Nat × Int
  | some (out, false) => (out, 0)
  | _ => ([], 3)
/-- The bytes whose frame these are, and the error. -/
def unstuff (bs : List Nat) : List Nat × Int :=
  if bs.length < 2 then ([], 2)
  else if bs[0]? = some 126 ∧ bs[bs.length - 1]? = some 124 then
    ures (usteps (inside bs) ([], false))
  else ([], 3)
end Go.Proofs.Ytnekjbmhmpfkgaa.Wire
