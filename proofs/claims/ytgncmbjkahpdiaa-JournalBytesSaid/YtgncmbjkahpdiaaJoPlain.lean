/- Frames one behind the other: how they are read. No condition. -/
import Derived.Test.YtgncmbjkahpdiaaJoRef
namespace Go.Proofs.Ytgncmbjkahpdiaa
open Go.RowKit Sy
set_option linter.unusedVariables false
set_option linter.unusedSimpArgs false
def fr (b : List Nat) : List Nat := putZ b.length ++ b
def frs (l : List (List Nat)) : List Nat := (l.map fr).flatten
theorem frs_cons (b : List Nat) (l : List (List Nat)) : frs (b :: l) = fr b ++ frs l := by simp [frs]
theorem frs_app (a b : List (List Nat)) : frs (a ++ b) = frs a ++ frs b := by simp [frs]
theorem frs_snoc (a : List (List Nat)) (b : List Nat) : frs (a ++ [b]) = frs a ++ fr b := by simp [frs]
theorem fr_pos (b : List Nat) : 1 ≤ (fr b).length := by
  have := Wire.put_pos (Wire.fold (b.length : Int))
  unfold fr putZ
  rw [List.length_append]
  omega
theorem frs_count (l : List (List Nat)) : l.length ≤ (frs l).length := by
  induction l with
  | nil => simp [frs]
  | cons b r ih =>
    have := fr_pos b
    rw [frs_cons, List.length_append, List.length_cons]
    omega
theorem rd_fuel {bs : List Nat} : ∀ {f g a : Nat}, bs.length < a + f → bs.length < a + g → rd bs f a = rd bs g a
  | 0, g, a, hf, hg => by
    rw [rd_no (by omega), rd_no (by omega)]
  | f + 1, 0, a, hf, hg => by
    rw [rd_no (by omega), rd_no (by omega)]
  | f + 1, g + 1, a, hf, hg => by
    by_cases h : a < bs.length
    · obtain ⟨x, y, e, hgi⟩ : ∃ x y e, Wire.getI bs a = (x, y, e) := ⟨_, _, _, rfl⟩
      by_cases hc : e = 0 ∧ 0 ≤ x ∧ x ≤ 4000 ∧ x ≤ bs.length - y
      · obtain ⟨rfl, h1, h2, h3⟩ := hc
        have hr := getI_range (by omega) hgi
        obtain ⟨n, rfl⟩ : ∃ n : Nat, x = (n : Int) := ⟨x.toNat, by omega⟩
        obtain ⟨m, rfl⟩ : ∃ n : Nat, y = (n : Int) := ⟨y.toNat, by omega⟩
        rw [rd_go h hgi rfl (by omega) (by omega), rd_go h hgi rfl (by omega) (by omega), rd_fuel (f := f) (g := g) (a := m + n) (by omega) (by omega)]
      · rw [rd_stop h hgi hc, rd_stop h hgi hc]
    · rw [rd_no h, rd_no h]
/-- A frame is read. -/
theorem rd_frame {pre more b : List Nat} {f : Nat} (hb : b.length ≤ 4000) :
    rd (pre ++ (fr b ++ more)) (f + 1) pre.length = (b :: (rd (pre ++ (fr b ++ more)) f (pre ++ fr b).length).1, (rd (pre ++ (fr b ++ more)) f (pre ++ fr b).length).2) := by
  have hg := Wire.getI_put pre (b ++ more) (b.length : Int) (by omega) (by omega)
  have e : pre ++ Wire.put (Wire.fold b.length) ++ (b ++ more) = pre ++ (fr b ++ more) := by unfold fr putZ; simp
  rw [e] at hg
  have hl : (fr b).length = (Wire.put (Wire.fold b.length)).length + b.length := by unfold fr putZ; rw [List.length_append]
  have hp := fr_pos b
  obtain ⟨m, hm⟩ : ∃ m, pre.length + (Wire.put (Wire.fold b.length)).length = m := ⟨_, rfl⟩
  have hg2 : Wire.getI (pre ++ (fr b ++ more)) pre.length = ((b.length : Int), (m : Int), 0) := by rw [hg, ← hm]; simp
  rw [rd_go (by simp only [List.length_append]; omega) hg2 rfl hb (by simp only [List.length_append]; omega)]
  have e2 : (pre ++ fr b).length = m + b.length := by rw [List.length_append]; omega
  have e3 : ((pre ++ (fr b ++ more)).take (m + b.length)).drop m = b := by
    rw [← e2, ← List.append_assoc, List.take_left]
    have e4 : pre ++ fr b = (pre ++ Wire.put (Wire.fold b.length)) ++ b := by unfold fr putZ; simp
    rw [e4, ← hm, ← List.length_append, List.drop_left]
  rw [e3, e2]
theorem rd_frames {more : List Nat} : ∀ {l : List (List Nat)} {pre : List Nat} {f : Nat}, (∀ b ∈ l, b.length ≤ 4000) →
    rd (pre ++ (frs l ++ more)) (l.length + f) pre.length = (l ++ (rd (pre ++ (frs l ++ more)) f (pre ++ frs l).length).1, (rd (pre ++ (frs l ++ more)) f (pre ++ frs l).length).2)
  | [], pre, f, h => by simp [frs]
  | b :: r, pre, f, h => by
    have e0 : pre ++ (frs (b :: r) ++ more) = pre ++ (fr b ++ (frs r ++ more)) := by rw [frs_cons]; simp
    rw [e0, List.length_cons, show r.length + 1 + f = r.length + f + 1 by omega, rd_frame (h b (List.mem_cons_self))]
    have ih := rd_frames (more := more) (l := r) (pre := pre ++ fr b) (f := f) (fun c hc => h c (List.mem_cons_of_mem _ hc))
    have e1 : pre ++ fr b ++ (frs r ++ more) = pre ++ (fr b ++ (frs r ++ more)) := by simp
    have e2 : pre ++ fr b ++ frs r = pre ++ frs (b :: r) := by rw [frs_cons]; simp
    rw [e1, e2] at ih
    rw [ih]
    simp
/-- Frames, and what follows. -/
theorem read_frames {l : List (List Nat)} (more : List Nat) (h : ∀ b ∈ l, b.length ≤ 4000) :
    readV (frs l ++ more) = (l ++ (rd (frs l ++ more) (more.length + 1) (frs l).length).1, (rd (frs l ++ more) (more.length + 1) (frs l).length).2) := by
  have hc := frs_count l
  unfold readV
  rw [rd_fuel (f := (frs l ++ more).length + 1) (g := l.length + ((frs l ++ more).length + 1)) (a := 0) (by omega) (by omega)]
  have := rd_frames (more := more) (l := l) (pre := []) (f := (frs l ++ more).length + 1) h
  simp only [List.nil_append, List.length_nil] at this
  rw [this, rd_fuel (f := (frs l ++ more).length + 1) (g := more.length + 1) (a := (frs l).length) (by rw [List.length_append]; omega) (by rw [List.length_append]; omega)]
theorem read_whole {l : List (List Nat)} (h : ∀ b ∈ l, b.length ≤ 4000) : readV (frs l) = (l, (frs l).length) := by
  have := read_frames [] h
  rw [List.append_nil] at this
  rw [this, rd_no (by omega)]
  simp
/-- A part of a frame is not read. -/
theorem read_part {l : List (List Nat)} {b : List Nat} {m : Nat} (h : ∀ c ∈ l, c.length ≤ 4000) (hb : b.length ≤ 4000) (hm : m < (fr b).length) : readV (frs l ++ (fr b).take m) = (l, (frs l).length) := by
  rw [read_frames _ h]
  suffices hs : rd (frs l ++ (fr b).take m) (((fr b).take m).length + 1) (frs l).length = ([], (frs l).length) by rw [hs]; simp
  by_cases h0 : m = 0
  · subst h0
    rw [rd_no (by simp)]
  · have hml : ((fr b).take m).length = m := by rw [List.length_take]; omega
    obtain ⟨x, y, e, hg⟩ : ∃ x y e, Wire.getI (frs l ++ (fr b).take m) (frs l).length = (x, y, e) := ⟨_, _, _, rfl⟩
    refine rd_stop (by rw [List.length_append, hml]; omega) hg ?_
    intro ⟨he, _, _, hx⟩
    obtain ⟨p, hp⟩ : ∃ p, Wire.put (Wire.fold b.length) = p := ⟨_, rfl⟩
    have hfb : fr b = p ++ b := by unfold fr putZ; rw [hp]
    by_cases hmp : m < p.length
    · have hsh := Wire.getI_short (frs l) (b.length : Int) m (by omega) (by omega) (by rw [hp]; exact hmp)
      have e1 : (fr b).take m = p.take m := by rw [hfb, List.take_append_of_le_length (by omega)]
      rw [hp] at hsh
      rw [e1, hsh] at hg
      obtain ⟨_, _, rfl⟩ : 0 = x ∧ 0 = y ∧ 2 = e := by simpa using hg
      exact absurd he (by decide)
    · have e1 : (fr b).take m = p ++ b.take (m - p.length) := by rw [hfb, List.take_append]; rw [List.take_of_length_le (by omega)]
      have hpu := Wire.getI_put (frs l) (b.take (m - p.length)) (b.length : Int) (by omega) (by omega)
      rw [hp, List.append_assoc, ← e1, hg] at hpu
      simp only [Prod.mk.injEq] at hpu
      obtain ⟨rfl, rfl, _⟩ := hpu
      rw [List.length_append, hml] at hx
      rw [hfb, List.length_append] at hm
      omega
/-- The first bytes of frames: as many frames as are whole. -/
theorem frs_take : ∀ (l : List (List Nat)) (m : Nat), m ≤ (frs l).length → ∃ j rest, j ≤ l.length ∧ (frs l).take m = frs (l.take j) ++ rest ∧ (rest = [] ∨ ∃ b k, l[j]? = some b ∧ rest = (fr b).take k ∧ k < (fr b).length)
  | [], m, h => ⟨0, [], by simp, by simp [frs], .inl rfl⟩
  | b :: r, m, h => by
    rw [frs_cons, List.length_append] at h
    by_cases hm : m < (fr b).length
    · exact ⟨0, (fr b).take m, by simp, by rw [frs_cons, List.take_append_of_le_length (by omega)]; simp [frs], .inr ⟨b, m, rfl, rfl, hm⟩⟩
    · obtain ⟨j, rest, h1, h2, h3⟩ := frs_take r (m - (fr b).length) (by omega)
      refine ⟨j + 1, rest, by simp; omega, ?_, ?_⟩
      · rw [frs_cons, List.take_append, List.take_of_length_le (by omega), h2, List.take_succ_cons, frs_cons, List.append_assoc]
      · rcases h3 with h3 | ⟨c, k, h4, h5, h6⟩
        · exact .inl h3
        · exact .inr ⟨c, k, by simpa using h4, h5, h6⟩
/-- What is read of the first bytes of frames. -/
theorem read_take {l : List (List Nat)} {m : Nat} (h : ∀ b ∈ l, b.length ≤ 4000) (hm : m ≤ (frs l).length) : ∃ j, j ≤ l.length ∧ readV ((frs l).take m) = (l.take j, (frs (l.take j)).length) ∧ ((frs l).take m).take (frs (l.take j)).length = frs (l.take j) ∧
    (∀ d, d ≤ l.length → (frs (l.take d)).length ≤ m → d ≤ j) := by
  obtain ⟨j, rest, h1, h2, h3⟩ := frs_take l m hm
  have ht : ∀ b ∈ l.take j, b.length ≤ 4000 := fun b hb => h b (List.mem_of_mem_take hb)
  have hd : ∀ d, d ≤ l.length → (frs (l.take d)).length ≤ m → d ≤ j := by
    intro d hd hdm
    have hml : ((frs l).take m).length = m := by rw [List.length_take]; omega
    rw [h2, List.length_append] at hml
    by_cases hjd : d ≤ j
    · exact hjd
    · exfalso
      have e : l.take d = l.take j ++ (l.drop j).take (d - j) := by
        conv => lhs; rw [show d = j + (d - j) by omega]
        rw [List.take_add]
      rw [e, frs_app, List.length_append] at hdm
      rcases h3 with rfl | ⟨b, k, h4, h5, h6⟩
      · have : 1 ≤ (frs ((l.drop j).take (d - j))).length := by
          have := frs_count ((l.drop j).take (d - j))
          rw [List.length_take, List.length_drop] at this
          omega
        simp at hml
        omega
      · have e2 : (l.drop j).take (d - j) = b :: (l.drop (j + 1)).take (d - j - 1) := by
          rw [drop_get h4, show d - j = (d - j - 1) + 1 by omega, List.take_succ_cons]
          simp
        rw [e2, frs_cons, List.length_append] at hdm
        have : rest.length = k := by rw [h5, List.length_take]; omega
        omega
  refine ⟨j, h1, ?_, ?_, hd⟩
  · rw [h2]
    rcases h3 with rfl | ⟨b, k, h4, rfl, h6⟩
    · rw [List.append_nil, read_whole ht]
    · exact read_part ht (h b (List.mem_of_getElem? h4)) h6
  · rw [h2, List.take_left]
end Go.Proofs.Ytgncmbjkahpdiaa
