/- What slices.Insert leaves: general lemmas on rows of wide elements. No condition. slices.Insert of telegrams. No condition. slices.Insert of telegrams, in between, where there is room. No condition. slices.Insert of telegrams, in between, where there is no room. No condition. slices.Insert of stations (printed by wip/gen_ins.py). No condition. slices.Insert as contracts: of a list, of a list whose elements own slices. No condition. -/
import Derived.Test.YtopmmodcaoaaeaaInA
import Derived.Lib.Overlaps
import Derived.Lib.AppendZerosOnto
import Derived.Laws.CopyRow
import Derived.Laws.NewBlocks
import Derived.Shelf.Spec.SlicesInsert
namespace Go.Proofs.Ytopmmodcaoaaeaa
open Go.RowKit Sy
set_option linter.unusedVariables false
set_option linter.unusedSimpArgs false
/-- copy, of elements of k cells. -/
theorem run_copy_wide {P : Program} (w : World) (dT sT ty elem : TypeId) (k m g o dLen dCap : Nat) (a : Addr) (sLen sCap : Nat) (cur : Array Value) (t : TypeId) (cs : List Value)
    (hu : P.underlying dT = some (.slice elem)) (hs : (P.info? elem).map (·.size) = some k) (hg : w.heap[g]? = some (.cells cur t (0, 0))) (hm : Nat.min sLen dLen = m) (hn : cs.length = m * k)
    (hsrc : ∀ j v, cs[j]? = some v → w.cell? (a.add j) = some v) (hfit : o + cs.length ≤ cur.size) (h1 : ∀ v ∈ cs, v.oneCell' = true) :
    (Builtin.copy_ #[dT, sT] ty #[.slice (some ⟨g, o, none⟩) dLen dCap, .slice (some a) sLen sCap]).run P w =
      .ok (goInt m) (w.setRow g (cur.toList.take o ++ cs ++ cur.toList.drop (o + cs.length)).toArray) := by
  have hst := run_storeCells_at P g o t cs 0 cur w hg (by simpa using hfit) h1
  have hf := run_firstCells_some (P := P) w k m a sLen sCap cs hn hsrc
  cases hq : P.info? elem with
  | none => simp [hq] at hs
  | some i =>
    have hi : i.size = k := by simpa [hq] using hs
    simp [Builtin.copy_, run_underlying hu, Builtin.lenOf, sizeOf, typeInfo, hq, hi, hm, hf, hst]
/-- What slices.Insert leaves: the elements lie in the block that they lay in, or in a new one. -/
def InsQ (e : TypeId) (k : Nat) (u : Value) (n : Nat) (cs : List Value) (w : World) (x : Ending) (w' : World) : Prop :=
  ∃ u' row, x = .returned u' ∧ w.grownBy w' row ∧ (∀ b, row = some b → hblk u = some b) ∧ w'.ownsRow 0 e k u' n cs ∧ (∀ b, hblk u' = some b → hblk u = some b ∨ w.heap.size ≤ b) ∧ ∃ y cap, u' = .slice y n cap
theorem splice2 {α : Type} {cs rest vs : List α} {k i n : Nat} (hi : i < n) (hc : cs.length = n * k) (hv : vs.length = k) (hr : k ≤ rest.length) :
    ∀ A : List α, A = (cs ++ rest).take (i * k + k) ++ cs.drop (i * k) ++ (cs ++ rest).drop (i * k + k + (cs.drop (i * k)).length) →
      (A.take (i * k) ++ vs ++ A.drop (i * k + vs.length)).take ((n + 1) * k) = cs.take (i * k) ++ (vs ++ cs.drop (i * k)) ∧ (A.take (i * k) ++ vs ++ A.drop (i * k + vs.length)).length = (cs ++ rest).length ∧ A.length = (cs ++ rest).length := by
  intro A hA
  have hik : i * k + k ≤ n * k := by rw [← Nat.succ_mul]; exact Nat.mul_le_mul_right _ hi
  have hnk : (n + 1) * k = n * k + k := Nat.succ_mul _ _
  have hl : A.length = (cs ++ rest).length := by
    rw [hA]
    simp only [List.length_append, List.length_take, List.length_drop]
    omega
  have h1 : A.take (i * k) = cs.take (i * k) := by
    rw [hA, List.append_assoc, List.take_append_of_le_length (by simp; omega), List.take_take, Nat.min_eq_left (by omega), List.take_append_of_le_length (by omega)]
  have h2 : A.drop (i * k + vs.length) = cs.drop (i * k) ++ (cs ++ rest).drop (i * k + k + (cs.drop (i * k)).length) := by
    rw [hA, List.append_assoc, hv, List.drop_append_of_le_length (by simp; omega)]
    rw [List.drop_of_length_le (by simp; omega)]
    rfl
  refine ⟨?_, ?_, hl⟩
  · rw [h1, h2, hnk]
    have hz : (cs.take (i * k)).length + (vs ++ cs.drop (i * k)).length = n * k + k := by simp; omega
    rw [show cs.take (i * k) ++ vs ++ (cs.drop (i * k) ++ (cs ++ rest).drop (i * k + k + (cs.drop (i * k)).length)) = (cs.take (i * k) ++ (vs ++ cs.drop (i * k))) ++ (cs ++ rest).drop (i * k + k + (cs.drop (i * k)).length) by simp]
    rw [List.take_left']
    rw [List.length_append]; exact hz
  · rw [h2, h1]
    simp only [List.length_append, List.length_take, List.length_drop]
    omega
theorem InsQ.app {w : World} {e : TypeId} {k n cap : Nat} {x : Option Addr} {cs : List Value} {x' : Option Addr} {cap' : Nat} {w' : World} (h : Own w' 0 e k x' (n + 1) cap' cs) (hg : w.grownBy w' (Value.slice x n cap).ownBlock) (hat : (Value.slice x' (n + 1) cap').ownBlock = (Value.slice x n cap).ownBlock ∨ (Value.slice x' (n + 1) cap').ownBlock = some w.heap.size) :
    InsQ e k (.slice x n cap) (n + 1) cs w (.returned (.slice x' (n + 1) cap')) w' := by
  have e1 : ∀ y m c, (Value.slice y m c).ownBlock = hblk (.slice y m c) := by
    intro y m c
    cases y <;> rfl
  refine ⟨_, _, rfl, hg, fun b hb => by rw [e1] at hb; exact hb, h, fun b hb => ?_, _, _, rfl⟩
  rw [e1, e1, hb] at hat
  rcases hat with hat | hat
  · exact .inl hat.symm
  · exact .inr (by have := Option.some.inj hat; omega)
/-- The two copies of the road with room. -/
theorem shift_run {P : Program} {T e : TypeId} {k bytes : Nat} {z : Value} (E : Elem P T e k bytes z) (g n c i vb vc : Nat) (cur : Array Value) (cs vs : List Value) (w : World) (hi : i < n) (hroom : n + 1 ≤ c) (hc63 : c ≤ maxLen) (hvb : vb ≠ g)
    (hg : w.heap[g]? = some (.cells cur e (0, 0))) (hcl : cs.length = n * k) (hcr : cur.toList.take (n * k) = cs) (hrl : cur.size = c * k) (hvs : ∀ j v, vs[j]? = some v → w.cell? ⟨vb, j, none⟩ = some v) (hvl : vs.length = k) (h1c : ∀ v ∈ cs, v.oneCell' = true) (h1v : ∀ v ∈ vs, v.oneCell' = true) :
    ∃ W1 W2, (∀ ty dc sc, (Builtin.copy_ #[T, T] ty #[.slice (some ⟨g, (i + 1) * k, none⟩) (n - i) dc, .slice (some ⟨g, i * k, none⟩) (n + 1 - i) sc]).run P w.drew = .ok (goInt ((n - i : Nat) : Int)) W1) ∧
      (∀ ty dc, (Builtin.copy_ #[T, T] ty #[.slice (some ⟨g, i * k, none⟩) (n + 1 - i) dc, .slice (some ⟨vb, 0, none⟩) 1 vc]).run P W1 = .ok (goInt 1) W2) ∧
      InsQ e k (.slice (some ⟨g, 0, none⟩) n c) (n + 1) (cs.take (i * k) ++ (vs ++ cs.drop (i * k))) w (.returned (.slice (some ⟨g, 0, none⟩) (n + 1) c)) W2 := by
  obtain ⟨rest, hrest⟩ : ∃ rest, rest = cur.toList.drop (n * k) := ⟨_, rfl⟩
  have hcr2 : cur.toList = cs ++ rest := by rw [← hcr, hrest, List.take_append_drop]
  have hik : i * k + k ≤ n * k := by rw [← Nat.succ_mul]; exact Nat.mul_le_mul_right _ hi
  have hnc : n * k + k ≤ c * k := by rw [← Nat.succ_mul]; exact Nat.mul_le_mul_right _ hroom
  have hi1 : (i + 1) * k = i * k + k := Nat.succ_mul _ _
  have hn1 : (n + 1) * k = n * k + k := Nat.succ_mul _ _
  have hni : (n - i) * k = n * k - i * k := Nat.sub_mul _ _ _
  have hrl' : rest.length + n * k = c * k := by
    have := congrArg List.length hcr2
    rw [List.length_append, hcl, Array.length_toList, hrl] at this
    omega
  obtain ⟨A, hA⟩ : ∃ A, A = (cs ++ rest).take (i * k + k) ++ cs.drop (i * k) ++ (cs ++ rest).drop (i * k + k + (cs.drop (i * k)).length) := ⟨_, rfl⟩
  obtain ⟨hB1, hB2, hA2⟩ := splice2 (vs := vs) hi hcl hvl (by omega) A hA
  obtain ⟨B, hB⟩ : ∃ B, B = A.take (i * k) ++ vs ++ A.drop (i * k + vs.length) := ⟨_, rfl⟩
  rw [← hB] at hB1 hB2
  have hg1 : (w.drew.setRow g A.toArray).heap[g]? = some (.cells A.toArray e (0, 0)) := setRow_heap w.drew g cur _ _ _ hg
  have hinfo : (P.info? e).map (·.size) = some k := by
    obtain ⟨j, hj, _, hj2, _⟩ := info_parts E.info
    rw [hj]; simp [hj2]
  have hlen : cur.size = (cs ++ rest).length := by rw [← hcr2]; simp
  refine ⟨w.drew.setRow g A.toArray, (w.drew.setRow g A.toArray).setRow g B.toArray, fun ty dc sc => ?_, fun ty dc => ?_, ?_⟩
  · have := run_copy_wide (P := P) w.drew T T ty e k (n - i) g ((i + 1) * k) (n - i) dc ⟨g, i * k, none⟩ (n + 1 - i) sc cur e (cs.drop (i * k)) E.und hinfo hg
      (by show Nat.min _ _ = _; simp only [Nat.min_def]; split <;> omega) (by rw [List.length_drop, hcl]; omega) (fun j v hj => by
        rw [Addr.add_lit]
        show w.cell? _ = _
        rw [cell_of_row w g _ cur _ (0, 0) hg, ← Array.getElem?_toList, hcr2]
        rw [List.getElem?_drop] at hj
        rw [List.getElem?_append_left (List.getElem?_eq_some_iff.1 hj).1]
        exact hj) (by rw [List.length_drop, hcl, hrl]; omega) (fun v hv => h1c v (List.mem_of_mem_drop hv))
    rw [this, hA, hcr2, hi1]
  · have := run_copy_wide (P := P) (w.drew.setRow g A.toArray) T T ty e k 1 g (i * k) (n + 1 - i) dc ⟨vb, 0, none⟩ 1 vc A.toArray e vs E.und hinfo hg1
      (by show Nat.min _ _ = _; simp only [Nat.min_def]; split <;> omega) (by rw [hvl]; omega) (fun j v hj => by
        rw [Addr.add_lit, Nat.zero_add, ← hvs j v hj]
        exact cell_block (setRow_other w.drew g vb _ hvb)) (by rw [hvl]; simp only [List.size_toArray]; rw [hA2]; simp; omega) h1v
    rw [this, hB]
    rfl
  · refine ⟨_, some g, rfl, ⟨rfl, rfl, rfl, by simp [World.setRow], ?_⟩, fun b hb => by cases hb; rfl, ?_, fun b hb => .inl hb, _, _, rfl⟩
    · intro j hj hne
      have hkg : j ≠ g := fun e => hne (by rw [e])
      rw [setRow_other _ g j _ hkg]
      exact setRow_other w.drew g j _ hkg
    · refine ⟨?_, .inr ⟨g, c, B.toArray, rfl, Nat.zero_le _, setRow_heap _ g _ _ _ _ hg1, hroom, hc63, ?_, ?_⟩⟩
      · simp only [List.length_append, List.length_take, List.length_drop, hvl, hcl]; omega
      · simp only [List.size_toArray]; rw [hB2, ← hlen, hrl]
      · exact hB1
/-- The append and the two copies of the road without room. -/
theorem grow_run {P : Program} {T e tn : TypeId} {k bytes : Nat} {z : Value} (E : Elem P T e k bytes z) (htn : P.underlying tn = some (.int .i64)) (g n c i vb vc : Nat) (cur : Array Value) (cs vs : List Value) (w : World) (hi : i < n) (hnc : n ≤ c) (hroom : c < n + 1) (hn : n + 1 ≤ 1000000) (hby : bytes ≤ 1000) (hvb : vb < w.heap.size)
    (hg : w.heap[g]? = some (.cells cur e (0, 0))) (hcl : cs.length = n * k) (hcr : cur.toList.take (n * k) = cs) (hrl : cur.size = c * k) (hvs : ∀ j v, vs[j]? = some v → w.cell? ⟨vb, j, none⟩ = some v) (hvl : vs.length = k) (h1c : ∀ v ∈ cs, v.oneCell' = true) (h1v : ∀ v ∈ vs, v.oneCell' = true) :
    ∃ W1 W2 W3 C, n + 1 ≤ C ∧ C ≤ 9223372036854775807 ∧ (∀ ty, (Builtin.append_ #[T, tn] ty #[.slice (some ⟨g, 0, none⟩) i c, .int .i64 ((n : Int) + 1 - (i : Int))]).run P w = .ok (.slice (some ⟨w.heap.size, 0, none⟩) (n + 1) C) W1) ∧
      (∀ ty dc, (Builtin.copy_ #[T, T] ty #[.slice (some ⟨w.heap.size, i * k, none⟩) (n + 1 - i) dc, .slice (some ⟨vb, 0, none⟩) 1 vc]).run P W1 = .ok (goInt 1) W2) ∧
      (∀ ty dc sc, (Builtin.copy_ #[T, T] ty #[.slice (some ⟨w.heap.size, (i + 1) * k, none⟩) (n - i) dc, .slice (some ⟨g, i * k, none⟩) (n - i) sc]).run P W2.drew = .ok (goInt ((n - i : Nat) : Int)) W3) ∧
      InsQ e k (.slice (some ⟨g, 0, none⟩) n c) (n + 1) (cs.take (i * k) ++ (vs ++ cs.drop (i * k))) w (.returned (.slice (some ⟨w.heap.size, 0, none⟩) (n + 1) C)) W3 := by
  obtain ⟨j0, hj0, hz0, hzs, hzb⟩ := info_parts E.info
  have hinfo : (P.info? e).map (·.size) = some k := by rw [hj0]; simp [hzs]
  have hi1 : (i + 1) * k = i * k + k := Nat.succ_mul _ _
  have hn1 : (n + 1) * k = n * k + k := Nat.succ_mul _ _
  have hni : (n - i) * k = n * k - i * k := Nat.sub_mul _ _ _
  have hik : i * k + k ≤ n * k := by rw [← Nat.succ_mul]; exact Nat.mul_le_mul_right _ hi
  have hgl : g < w.heap.size := lt_of_block hg
  have hget : ∀ (W : World), W.heap[g]? = w.heap[g]? → ∀ j v, cs[j]? = some v → W.cell? ⟨g, j, none⟩ = some v := fun W hW j v hj => by
    rw [cell_of_row W g _ cur _ (0, 0) (by rw [hW]; exact hg), ← Array.getElem?_toList]
    rw [← hcr, List.getElem?_take] at hj
    split at hj
    · exact hj
    · cases hj
  obtain ⟨C, hC⟩ : ∃ C, C = grownCap w (n + 1) c e := ⟨_, rfl⟩
  have hCn : n + 1 ≤ C := by rw [hC]; exact grownCap_ge w _ _ _
  have hCm : C ≤ maxLen := by rw [hC]; exact grownCap_le_maxLen w (n + 1) c e (by unfold maxLen; omega)
  obtain ⟨R, hR⟩ : ∃ R : Array Value, R = (cs.take (i * k)).toArray ++ Builtin.zeroCells z.cells (n + 1 - i) ++ Builtin.zeroCells z.cells (C - (n + 1)) := ⟨_, rfl⟩
  have hRs : R.size = C * k := by
    rw [hR]
    simp only [Array.size_append, List.size_toArray, size_zeroCells, E.zsize, List.length_take, hcl]
    rw [Nat.min_eq_left (by omega), ← Nat.add_mul, ← Nat.add_mul]
    congr 1
    omega
  have hRt : R.toList.take (i * k) = cs.take (i * k) := by
    rw [hR]
    simp only [Array.toList_append, List.append_assoc]
    rw [List.take_append_of_le_length (by simp; omega), List.take_of_length_le (by simp; omega)]
  have hold : (Builtin.firstCells j0.size i (.slice (some ⟨g, 0, none⟩) i c)).run P w.drew = .ok (cs.take (i * k)).toArray w.drew := by
    rw [hzs]
    exact run_firstCells_some w.drew k i ⟨g, 0, none⟩ i c (cs.take (i * k)) (by rw [List.length_take, hcl]; omega) (fun j v hj => by
      rw [Addr.add_lit, Nat.zero_add]
      rw [List.getElem?_take] at hj
      split at hj
      · exact hget w.drew rfl j v hj
      · cases hj)
  obtain ⟨W1, hW1⟩ : ∃ W1, W1 = w.drew.alloc (.cells R e) := ⟨_, rfl⟩
  have hgW1 : W1.heap[w.heap.size]? = some (.cells R e (0, 0)) := by rw [hW1]; exact heap_alloc_new w.drew _
  have holdW1 : ∀ j, j < w.heap.size → W1.heap[j]? = w.heap[j]? := fun j hj => by rw [hW1]; exact Below.heap_alloc w.drew _ j hj
  obtain ⟨A, hA⟩ : ∃ A, A = R.toList.take (i * k) ++ vs ++ R.toList.drop (i * k + vs.length) := ⟨_, rfl⟩
  have hCk : (n + 1) * k ≤ C * k := Nat.mul_le_mul_right _ hCn
  have hAl : A.length = C * k := by
    rw [hA]
    simp only [List.length_append, List.length_take, List.length_drop, Array.length_toList, hRs, hvl]
    omega
  obtain ⟨B, hB⟩ : ∃ B, B = A.take ((i + 1) * k) ++ cs.drop (i * k) ++ A.drop ((i + 1) * k + (cs.drop (i * k)).length) := ⟨_, rfl⟩
  have hBl : B.length = C * k := by
    rw [hB]
    simp only [List.length_append, List.length_take, List.length_drop, hAl, hcl]
    omega
  have hA1 : A.take ((i + 1) * k) = cs.take (i * k) ++ vs := by
    rw [hA, hRt, List.take_append_of_le_length (by simp; omega), List.take_of_length_le (by simp; omega)]
  have hB1 : B.take ((n + 1) * k) = cs.take (i * k) ++ (vs ++ cs.drop (i * k)) := by
    rw [hB, hA1, List.take_append_of_le_length (by simp; omega), List.take_of_length_le (by simp; omega), List.append_assoc]
  have hgW2 : (W1.setRow w.heap.size A.toArray).heap[w.heap.size]? = some (.cells A.toArray e (0, 0)) := setRow_heap W1 _ _ _ _ _ hgW1
  have holdW2 : ∀ j, j < w.heap.size → (W1.setRow w.heap.size A.toArray).heap[j]? = w.heap[j]? := fun j hj => by rw [setRow_other W1 _ j _ (by omega)]; exact holdW1 j hj
  refine ⟨W1, W1.setRow w.heap.size A.toArray, (W1.setRow w.heap.size A.toArray).drew.setRow w.heap.size B.toArray, C, hCn, by unfold maxLen at hCm; omega, fun ty => ?_, fun ty dc => ?_, fun ty dc sc => ?_, ?_⟩
  · have hkk : (n : Int) + 1 - (i : Int) = ((n + 1 - i : Nat) : Int) := by omega
    have hik2 : i + (n + 1 - i) = n + 1 := by omega
    have hb1 : (n + 1) * bytes ≤ 1000000 * 1000 := Nat.mul_le_mul hn hby
    have hb2 : (n + 1 - i) * bytes ≤ 1000000 * 1000 := Nat.mul_le_mul (by omega) hby
    have h := Lib.run_append_grow_zeros w T tn ty e j0 _ .i64 .i64 E.und htn hj0 hz0 (some ⟨g, 0, none⟩) i c (cs.take (i * k)) hold (n + 1 - i) (by omega) (by rw [hzs]; exact E.pos) (by omega) (by omega) (by rw [hzb]; omega) (by rw [hzb, hik2]; exact growslice_fits hroom (by omega))
    rw [hik2, ← hC, ← hR, ← hW1] at h
    rw [hkk]
    exact h
  · have := run_copy_wide (P := P) W1 T T ty e k 1 w.heap.size (i * k) (n + 1 - i) dc ⟨vb, 0, none⟩ 1 vc R e vs E.und hinfo hgW1
      (by show Nat.min _ _ = _; simp only [Nat.min_def]; split <;> omega) (by rw [hvl]; omega) (fun j v hj => by
        rw [Addr.add_lit, Nat.zero_add, ← hvs j v hj]
        exact cell_block (holdW1 vb hvb)) (by rw [hvl, hRs]; omega) h1v
    rw [this, hA]
    rfl
  · have := run_copy_wide (P := P) (W1.setRow w.heap.size A.toArray).drew T T ty e k (n - i) w.heap.size ((i + 1) * k) (n - i) dc ⟨g, i * k, none⟩ (n - i) sc A.toArray e (cs.drop (i * k)) E.und hinfo hgW2
      (by show Nat.min _ _ = _; simp only [Nat.min_def]; split <;> omega) (by rw [List.length_drop, hcl]; omega) (fun j v hj => by
        rw [Addr.add_lit]
        rw [List.getElem?_drop] at hj
        exact hget _ (holdW2 g hgl) _ v hj) (by rw [List.length_drop, hcl]; simp only [List.size_toArray]; rw [hAl]; omega) (fun v hv => h1c v (List.mem_of_mem_drop hv))
    rw [this, hB]
  · refine ⟨_, none, rfl, ⟨?_, ?_, ?_, ?_, ?_⟩, (fun b hb => by cases hb), ?_, (fun b hb => .inr (by cases hb; exact Nat.le_refl _)), _, _, rfl⟩
    · rw [hW1]; rfl
    · rw [hW1]; rfl
    · rw [hW1]; rfl
    · rw [hW1]; simp [World.setRow]
    · intro j hj _
      rw [setRow_other _ _ j _ (by omega)]
      exact holdW2 j hj
    · refine ⟨?_, .inr ⟨w.heap.size, C, B.toArray, rfl, Nat.zero_le _, setRow_heap _ _ _ _ _ _ hgW2, hCn, hCm, ?_, ?_⟩⟩
      · simp only [List.length_append, List.length_take, List.length_drop, hvl, hcl]; omega
      · simp only [List.size_toArray]; exact hBl
      · exact hB1
end Go.Proofs.Ytopmmodcaoaaeaa
namespace Go.Proofs.Ytopmmodcaoaaeaa
open Go.RowKit Sy
set_option linter.unusedVariables false
set_option linter.unusedSimpArgs false
theorem elemTg : Elem Try.prog 34 38 6 64 (.agg #[.int .i64 0, .int .i64 0, .int .i64 0, .int .i64 0, .int .i64 0, .slice none 0 0]) := ⟨Try.underlying34, by kernel_rfl, rfl, by decide⟩
set_option maxHeartbeats 4000000 in
set_option maxRecDepth 100000 in
/-- At the end. -/
theorem insTg_end (x : Option Addr) (n c vb vc : Nat) (cs vs : List Value) (w : World) (hc63 : n + 1 ≤ 1000000)
    (ho : Own w 0 38 6 x n c cs) (hv : Own w 0 38 6 (some ⟨vb, 0, none⟩) 1 vc vs) (h1v : ∀ v ∈ vs, v.oneCell' = true) :
    Calls Try.prog 85 #[.slice x n c, .int .i64 n, .slice (some ⟨vb, 0, none⟩) 1 vc] w (InsQ 38 6 (.slice x n c) (n + 1) (cs ++ vs) w) := by
  have hr : ∀ w, Row w (some ⟨vb, 0, none⟩) 1 vc 6 vs → True := fun _ _ => trivial
  have hrow := hv.row
  have hrun : ∀ ty, ∃ x' cap' w', (Builtin.append_ #[34, 34] ty #[.slice x n c, .slice (some ⟨vb, 0, none⟩) 1 vc]).run Try.prog w = .ok (.slice x' (n + 1) cap') w' ∧ InsQ 38 6 (.slice x n c) (n + 1) (cs ++ vs) w (.returned (.slice x' (n + 1) cap')) w' := by
    intro ty
    obtain ⟨b, off, hb, hlt, hcl⟩ := hrow.pos (by omega)
    obtain ⟨i, hi, hz0, hz1, hz2⟩ := info_parts elemTg.info
    obtain ⟨v', w', g1, g2, g3, g4, g5⟩ := run_append_own_at (P := Try.prog) w 0 34 ty 38 i _ 6 64 elemTg.und hi hz0 hz1 hz2 elemTg.zsize elemTg.pos (.slice x n c) n cs ho ⟨b, off, none⟩ 1 vc vs hrow.len (fun j u hu => by rw [Addr.add_lit]; exact hcl j u hu) h1v (by unfold maxLen; omega) (by omega) (Nat.zero_le _)
    have hsh : ∃ x' cap', v' = .slice x' (n + 1) cap' := by
      rcases g2.2 with ⟨e1, e2⟩ | ⟨g, cap', cur, e1, _⟩
      · omega
      · exact ⟨_, _, e1⟩
    obtain ⟨x', cap', rfl⟩ := hsh
    rw [hb]
    exact ⟨x', cap', w', g1, InsQ.app g2 g3 g5⟩
  obtain ⟨x', cap', w', hrun, hq⟩ : ∃ x' cap' w', (∀ ty, (Builtin.append_ #[34, 34] ty #[.slice x n c, .slice (some ⟨vb, 0, none⟩) 1 vc]).run Try.prog w = .ok (.slice x' (n + 1) cap') w') ∧ InsQ 38 6 (.slice x n c) (n + 1) (cs ++ vs) w (.returned (.slice x' (n + 1) cap')) w' := by
    obtain ⟨x', cap', w', h1, h2⟩ := hrun 0
    exact ⟨x', cap', w', fun ty => h1, h2⟩
  have hnc : n ≤ c := ho.row.le
  have hc2 : c ≤ maxLen := ho.row.capLe
  unfold maxLen at hc2
  cases x with
  | none =>
    have h0 := ho.row.nil rfl
    subst h0
    obtain rfl : n = 0 := by omega
    go_enter Try.func85, Try.ntmps85
    go_wp2_with (at_builtin; refine Lib.wpList_append_run _ rfl _ _ _ _ rfl _ _ rfl rfl _ _ (hrun _) ?_)
    go_ret
    exact hq
  | some ad =>
    obtain ⟨ab, ao, asp⟩ := ad
    go_enter Try.func85, Try.ntmps85
    go_wp2_with (at_builtin; refine Lib.wpList_append_run _ rfl _ _ _ _ rfl _ _ rfl rfl _ _ (hrun _) ?_)
    all_goals (go_ret; exact hq)
end Go.Proofs.Ytopmmodcaoaaeaa
namespace Go.Proofs.Ytopmmodcaoaaeaa
open Go.RowKit Sy
set_option linter.unusedVariables false
set_option linter.unusedSimpArgs false
set_option maxHeartbeats 4000000 in
set_option maxRecDepth 100000 in
theorem insTg_shift (g n c i vb vc : Nat) (cur cv : Array Value) (cs vs : List Value) (w : World) (hi : i < n) (hroom : n + 1 ≤ c) (hc63 : c ≤ 9223372036854775807) (hvb : vb ≠ g)
    (hg : w.heap[g]? = some (.cells cur 38 (0, 0))) (hv : w.heap[vb]? = some (.cells cv 38 (0, 0))) (hcr : cur.toList.take (n * 6) = cs) (hcl : cs.length = n * 6) (hrl : cur.size = c * 6) (hvs : ∀ j v, vs[j]? = some v → w.cell? ⟨vb, j, none⟩ = some v) (hvl : vs.length = 6) (h1c : ∀ v ∈ cs, v.oneCell' = true) (h1v : ∀ v ∈ vs, v.oneCell' = true) :
    Calls Try.prog 85 #[.slice (some ⟨g, 0, none⟩) n c, .int .i64 i, .slice (some ⟨vb, 0, none⟩) 1 vc] w (InsQ 38 6 (.slice (some ⟨g, 0, none⟩) n c) (n + 1) (cs.take (i * 6) ++ (vs ++ cs.drop (i * 6))) w) := by
  have mixed : Try.prog.follows .mixedOrders = true := fact_mixed
  have hz1 : ¬ ((i : Int) = (n : Int)) := by omega
  have hz2 : ¬ (c < n + 1) := by omega
  have hin : i ≤ n := by omega
  have hw1 : IntKind.i64.wrap ((i : Int) + 1) = (i : Int) + 1 := by rw [IntKind.wrap_i64]; omega
  have hw2 : IntKind.i64.wrap ((n : Int) + 1) = (n : Int) + 1 := by rw [IntKind.wrap_i64]; omega
  have hb1 : (0 : Int) ≤ (i : Int) + 1 := by omega
  have htn : ((i : Int) + 1).toNat = i + 1 := by omega
  have htn2 : ((n : Int) + 1).toNat = n + 1 := by omega
  have hb3 : (i : Int) ≤ (n : Int) + 1 := by omega
  have hb2 : ¬ (c = i + 1) := by omega
  have hb4 : ¬ (c = i) := by omega
  have hov : ∀ lb cb, (callFunc 93 #[.slice (some ⟨vb, 0, none⟩) 1 vc, .slice (some ⟨g, (i + 1) * 6, none⟩) lb cb]).run Try.prog w = .ok (.value (.bool false)) w := fun lb cb => by
    rw [run_callFunc_extern Try.func93 (by kernel_rfl) (by kernel_rfl) (by kernel_rfl) (e := Extern.SlicesOverlaps.overlaps #[34, 34] #[4]) (by kernel_rfl),
      Lib.run_overlaps_apart w 34 4 38 Try.underlying34 6 (fun w => by obtain ⟨j, hj, _, hj2, _⟩ := info_parts elemTg.info; simp [sizeOf, typeInfo, hj, hj2]) ⟨vb, 0, none⟩ ⟨g, (i + 1) * 6, none⟩ 1 vc lb cb hvb 38 38 cv.size cur.size (by unfold World.shape?; rw [hv]) (by unfold World.shape?; rw [hg]) (by omega) (frozen_of_row w vb 0 cv _ hv) (frozen_of_row w vb _ cv _ hv)]
    rfl
  obtain ⟨W1, W2, hcp1, hcp2, hq⟩ := shift_run elemTg g n c i vb vc cur cs vs w hi hroom (by unfold maxLen; omega) hvb hg hcl hcr hrl hvs hvl h1c h1v
  go_enter Try.func85, Try.ntmps85
  go_wp2_with (simp only [hov])
  go_region_law_o (refine step_copy_runI rfl _ _ 34 34 rfl _ _ (by simp [Act.eval, Act.put]) (by simp [Act.eval, Act.put]) (hcp1 _ _ _) ?_)
  go_wp2_with (at_builtin; refine wpList_copy_runI _ rfl _ _ 34 34 rfl _ _ rfl rfl (hcp2 _ _) ?_)
  go_ret
  exact hq
end Go.Proofs.Ytopmmodcaoaaeaa
namespace Go.Proofs.Ytopmmodcaoaaeaa
open Go.RowKit Sy
set_option linter.unusedVariables false
set_option linter.unusedSimpArgs false
set_option maxHeartbeats 4000000 in
set_option maxRecDepth 100000 in
theorem insTg_grow (g n c i vb vc : Nat) (cur : Array Value) (cs vs : List Value) (w : World) (hi : i < n) (hnc : n ≤ c) (hroom : c < n + 1) (hn : n + 1 ≤ 1000000) (hvb : vb < w.heap.size)
    (hg : w.heap[g]? = some (.cells cur 38 (0, 0))) (hcr : cur.toList.take (n * 6) = cs) (hcl : cs.length = n * 6) (hrl : cur.size = c * 6) (hvs : ∀ j v, vs[j]? = some v → w.cell? ⟨vb, j, none⟩ = some v) (hvl : vs.length = 6) (h1c : ∀ v ∈ cs, v.oneCell' = true) (h1v : ∀ v ∈ vs, v.oneCell' = true) :
    Calls Try.prog 85 #[.slice (some ⟨g, 0, none⟩) n c, .int .i64 i, .slice (some ⟨vb, 0, none⟩) 1 vc] w (InsQ 38 6 (.slice (some ⟨g, 0, none⟩) n c) (n + 1) (cs.take (i * 6) ++ (vs ++ cs.drop (i * 6))) w) := by
  have mixed : Try.prog.follows .mixedOrders = true := fact_mixed
  have hz1 : ¬ ((i : Int) = (n : Int)) := by omega
  have hz2 : (c : Int) < (n : Int) + 1 := by omega
  have hin : i ≤ n := by omega
  have hic : i ≤ c := by omega
  have hw1 : IntKind.i64.wrap ((i : Int) + 1) = (i : Int) + 1 := by rw [IntKind.wrap_i64]; omega
  have hw2 : IntKind.i64.wrap ((n : Int) + 1) = (n : Int) + 1 := by rw [IntKind.wrap_i64]; omega
  have hw3 : IntKind.i64.wrap ((n : Int) + 1 - (i : Int)) = (n : Int) + 1 - (i : Int) := by rw [IntKind.wrap_i64]; omega
  have hb1 : (0 : Int) ≤ (i : Int) + 1 := by omega
  have htn : ((i : Int) + 1).toNat = i + 1 := by omega
  have hb3 : (i : Int) ≤ (n : Int) + 1 := by omega
  obtain ⟨W1, W2, W3, C, hC1, hC2, hrz, hcp1, hcp2, hq⟩ := grow_run elemTg Try.underlying3 g n c i vb vc cur cs vs w hi hnc hroom hn (by omega) hvb hg hcl hcr hrl hvs hvl h1c h1v
  have hGi : ¬ (C = i) := by omega
  have hGim : ¬ (C = i + 1) := by omega
  have hci : ¬ (c = i) := by omega
  go_enter Try.func85, Try.ntmps85
  go_wp2_with (first
    | (at_builtin; refine Lib.wpList_append_run _ rfl _ _ _ _ rfl _ _ rfl rfl _ _ (hrz _) ?_)
    | (at_builtin; refine wpList_copy_runI _ rfl _ _ 34 34 rfl _ _ rfl rfl (hcp1 _ _) ?_))
  go_region_law_o (refine step_copy_runI rfl _ _ 34 34 rfl (.slice (some ⟨w.heap.size, (i + 1) * 6, none⟩) (n - i) (C - (i + 1))) (.slice (some ⟨g, i * 6, none⟩) (n - i) (c - i)) (by simp [Act.eval, Act.put]) (by simp [Act.eval, Act.put]) (hcp2 _ _ _) ?_)
  go_wp2
  go_ret
  exact hq
end Go.Proofs.Ytopmmodcaoaaeaa
namespace Go.Proofs.Ytopmmodcaoaaeaa
open Go.RowKit Sy
set_option linter.unusedVariables false
set_option linter.unusedSimpArgs false
theorem elemWt : Elem Try.prog 27 47 4 48 (.agg #[.int .i64 0, .int .i64 0, .int .i64 0, .slice none 0 0]) := ⟨Try.underlying27, by kernel_rfl, rfl, by decide⟩
set_option maxHeartbeats 4000000 in
set_option maxRecDepth 100000 in
/-- At the end. -/
theorem insWt_end (x : Option Addr) (n c vb vc : Nat) (cs vs : List Value) (w : World) (hc63 : n + 1 ≤ 1000000)
    (ho : Own w 0 47 4 x n c cs) (hv : Own w 0 47 4 (some ⟨vb, 0, none⟩) 1 vc vs) (h1v : ∀ v ∈ vs, v.oneCell' = true) :
    Calls Try.prog 59 #[.slice x n c, .int .i64 n, .slice (some ⟨vb, 0, none⟩) 1 vc] w (InsQ 47 4 (.slice x n c) (n + 1) (cs ++ vs) w) := by
  have hr : ∀ w, Row w (some ⟨vb, 0, none⟩) 1 vc 4 vs → True := fun _ _ => trivial
  have hrow := hv.row
  have hrun : ∀ ty, ∃ x' cap' w', (Builtin.append_ #[27, 27] ty #[.slice x n c, .slice (some ⟨vb, 0, none⟩) 1 vc]).run Try.prog w = .ok (.slice x' (n + 1) cap') w' ∧ InsQ 47 4 (.slice x n c) (n + 1) (cs ++ vs) w (.returned (.slice x' (n + 1) cap')) w' := by
    intro ty
    obtain ⟨b, off, hb, hlt, hcl⟩ := hrow.pos (by omega)
    obtain ⟨i, hi, hz0, hz1, hz2⟩ := info_parts elemWt.info
    obtain ⟨v', w', g1, g2, g3, g4, g5⟩ := run_append_own_at (P := Try.prog) w 0 27 ty 47 i _ 4 48 elemWt.und hi hz0 hz1 hz2 elemWt.zsize elemWt.pos (.slice x n c) n cs ho ⟨b, off, none⟩ 1 vc vs hrow.len (fun j u hu => by rw [Addr.add_lit]; exact hcl j u hu) h1v (by unfold maxLen; omega) (by omega) (Nat.zero_le _)
    have hsh : ∃ x' cap', v' = .slice x' (n + 1) cap' := by
      rcases g2.2 with ⟨e1, e2⟩ | ⟨g, cap', cur, e1, _⟩
      · omega
      · exact ⟨_, _, e1⟩
    obtain ⟨x', cap', rfl⟩ := hsh
    rw [hb]
    exact ⟨x', cap', w', g1, InsQ.app g2 g3 g5⟩
  obtain ⟨x', cap', w', hrun, hq⟩ : ∃ x' cap' w', (∀ ty, (Builtin.append_ #[27, 27] ty #[.slice x n c, .slice (some ⟨vb, 0, none⟩) 1 vc]).run Try.prog w = .ok (.slice x' (n + 1) cap') w') ∧ InsQ 47 4 (.slice x n c) (n + 1) (cs ++ vs) w (.returned (.slice x' (n + 1) cap')) w' := by
    obtain ⟨x', cap', w', h1, h2⟩ := hrun 0
    exact ⟨x', cap', w', fun ty => h1, h2⟩
  have hnc : n ≤ c := ho.row.le
  have hc2 : c ≤ maxLen := ho.row.capLe
  unfold maxLen at hc2
  cases x with
  | none =>
    have h0 := ho.row.nil rfl
    subst h0
    obtain rfl : n = 0 := by omega
    go_enter Try.func59, Try.ntmps59
    go_wp2_with (at_builtin; refine Lib.wpList_append_run _ rfl _ _ _ _ rfl _ _ rfl rfl _ _ (hrun _) ?_)
    go_ret
    exact hq
  | some ad =>
    obtain ⟨ab, ao, asp⟩ := ad
    go_enter Try.func59, Try.ntmps59
    go_wp2_with (at_builtin; refine Lib.wpList_append_run _ rfl _ _ _ _ rfl _ _ rfl rfl _ _ (hrun _) ?_)
    all_goals (go_ret; exact hq)
set_option maxHeartbeats 4000000 in
set_option maxRecDepth 100000 in
theorem insWt_shift (g n c i vb vc : Nat) (cur cv : Array Value) (cs vs : List Value) (w : World) (hi : i < n) (hroom : n + 1 ≤ c) (hc63 : c ≤ 9223372036854775807) (hvb : vb ≠ g)
    (hg : w.heap[g]? = some (.cells cur 47 (0, 0))) (hv : w.heap[vb]? = some (.cells cv 47 (0, 0))) (hcr : cur.toList.take (n * 4) = cs) (hcl : cs.length = n * 4) (hrl : cur.size = c * 4) (hvs : ∀ j v, vs[j]? = some v → w.cell? ⟨vb, j, none⟩ = some v) (hvl : vs.length = 4) (h1c : ∀ v ∈ cs, v.oneCell' = true) (h1v : ∀ v ∈ vs, v.oneCell' = true) :
    Calls Try.prog 59 #[.slice (some ⟨g, 0, none⟩) n c, .int .i64 i, .slice (some ⟨vb, 0, none⟩) 1 vc] w (InsQ 47 4 (.slice (some ⟨g, 0, none⟩) n c) (n + 1) (cs.take (i * 4) ++ (vs ++ cs.drop (i * 4))) w) := by
  have mixed : Try.prog.follows .mixedOrders = true := fact_mixed
  have hz1 : ¬ ((i : Int) = (n : Int)) := by omega
  have hz2 : ¬ (c < n + 1) := by omega
  have hin : i ≤ n := by omega
  have hw1 : IntKind.i64.wrap ((i : Int) + 1) = (i : Int) + 1 := by rw [IntKind.wrap_i64]; omega
  have hw2 : IntKind.i64.wrap ((n : Int) + 1) = (n : Int) + 1 := by rw [IntKind.wrap_i64]; omega
  have hb1 : (0 : Int) ≤ (i : Int) + 1 := by omega
  have htn : ((i : Int) + 1).toNat = i + 1 := by omega
  have htn2 : ((n : Int) + 1).toNat = n + 1 := by omega
  have hb3 : (i : Int) ≤ (n : Int) + 1 := by omega
  have hb2 : ¬ (c = i + 1) := by omega
  have hb4 : ¬ (c = i) := by omega
  have hov : ∀ lb cb, (callFunc 81 #[.slice (some ⟨vb, 0, none⟩) 1 vc, .slice (some ⟨g, (i + 1) * 4, none⟩) lb cb]).run Try.prog w = .ok (.value (.bool false)) w := fun lb cb => by
    rw [run_callFunc_extern Try.func81 (by kernel_rfl) (by kernel_rfl) (by kernel_rfl) (e := Extern.SlicesOverlaps.overlaps #[27, 27] #[4]) (by kernel_rfl),
      Lib.run_overlaps_apart w 27 4 47 Try.underlying27 4 (fun w => by obtain ⟨j, hj, _, hj2, _⟩ := info_parts elemWt.info; simp [sizeOf, typeInfo, hj, hj2]) ⟨vb, 0, none⟩ ⟨g, (i + 1) * 4, none⟩ 1 vc lb cb hvb 47 47 cv.size cur.size (by unfold World.shape?; rw [hv]) (by unfold World.shape?; rw [hg]) (by omega) (frozen_of_row w vb 0 cv _ hv) (frozen_of_row w vb _ cv _ hv)]
    rfl
  obtain ⟨W1, W2, hcp1, hcp2, hq⟩ := shift_run elemWt g n c i vb vc cur cs vs w hi hroom (by unfold maxLen; omega) hvb hg hcl hcr hrl hvs hvl h1c h1v
  go_enter Try.func59, Try.ntmps59
  go_wp2_with (simp only [hov])
  go_region_law_o (refine step_copy_runI rfl _ _ 27 27 rfl _ _ (by simp [Act.eval, Act.put]) (by simp [Act.eval, Act.put]) (hcp1 _ _ _) ?_)
  go_wp2_with (at_builtin; refine wpList_copy_runI _ rfl _ _ 27 27 rfl _ _ rfl rfl (hcp2 _ _) ?_)
  go_ret
  exact hq
set_option maxHeartbeats 4000000 in
set_option maxRecDepth 100000 in
theorem insWt_grow (g n c i vb vc : Nat) (cur : Array Value) (cs vs : List Value) (w : World) (hi : i < n) (hnc : n ≤ c) (hroom : c < n + 1) (hn : n + 1 ≤ 1000000) (hvb : vb < w.heap.size)
    (hg : w.heap[g]? = some (.cells cur 47 (0, 0))) (hcr : cur.toList.take (n * 4) = cs) (hcl : cs.length = n * 4) (hrl : cur.size = c * 4) (hvs : ∀ j v, vs[j]? = some v → w.cell? ⟨vb, j, none⟩ = some v) (hvl : vs.length = 4) (h1c : ∀ v ∈ cs, v.oneCell' = true) (h1v : ∀ v ∈ vs, v.oneCell' = true) :
    Calls Try.prog 59 #[.slice (some ⟨g, 0, none⟩) n c, .int .i64 i, .slice (some ⟨vb, 0, none⟩) 1 vc] w (InsQ 47 4 (.slice (some ⟨g, 0, none⟩) n c) (n + 1) (cs.take (i * 4) ++ (vs ++ cs.drop (i * 4))) w) := by
  have mixed : Try.prog.follows .mixedOrders = true := fact_mixed
  have hz1 : ¬ ((i : Int) = (n : Int)) := by omega
  have hz2 : (c : Int) < (n : Int) + 1 := by omega
  have hin : i ≤ n := by omega
  have hic : i ≤ c := by omega
  have hw1 : IntKind.i64.wrap ((i : Int) + 1) = (i : Int) + 1 := by rw [IntKind.wrap_i64]; omega
  have hw2 : IntKind.i64.wrap ((n : Int) + 1) = (n : Int) + 1 := by rw [IntKind.wrap_i64]; omega
  have hw3 : IntKind.i64.wrap ((n : Int) + 1 - (i : Int)) = (n : Int) + 1 - (i : Int) := by rw [IntKind.wrap_i64]; omega
  have hb1 : (0 : Int) ≤ (i : Int) + 1 := by omega
  have htn : ((i : Int) + 1).toNat = i + 1 := by omega
  have hb3 : (i : Int) ≤ (n : Int) + 1 := by omega
  obtain ⟨W1, W2, W3, C, hC1, hC2, hrz, hcp1, hcp2, hq⟩ := grow_run elemWt Try.underlying3 g n c i vb vc cur cs vs w hi hnc hroom hn (by omega) hvb hg hcl hcr hrl hvs hvl h1c h1v
  have hGi : ¬ (C = i) := by omega
  have hGim : ¬ (C = i + 1) := by omega
  have hci : ¬ (c = i) := by omega
  go_enter Try.func59, Try.ntmps59
  go_wp2_with (first
    | (at_builtin; refine Lib.wpList_append_run _ rfl _ _ _ _ rfl _ _ rfl rfl _ _ (hrz _) ?_)
    | (at_builtin; refine wpList_copy_runI _ rfl _ _ 27 27 rfl _ _ rfl rfl (hcp1 _ _) ?_))
  go_region_law_o (refine step_copy_runI rfl _ _ 27 27 rfl (.slice (some ⟨w.heap.size, (i + 1) * 4, none⟩) (n - i) (C - (i + 1))) (.slice (some ⟨g, i * 4, none⟩) (n - i) (c - i)) (by simp [Act.eval, Act.put]) (by simp [Act.eval, Act.put]) (hcp2 _ _ _) ?_)
  go_wp2
  go_ret
  exact hq
end Go.Proofs.Ytopmmodcaoaaeaa
namespace Go.Proofs.Ytopmmodcaoaaeaa
open Go.RowKit Sy
set_option linter.unusedVariables false
set_option linter.unusedSimpArgs false
/-- What slices.Insert does, for all rows. -/
def InsAll (P : Program) (f : FuncId) (e : TypeId) (s : Nat) : Prop :=
  ∀ (x : Option Addr) (n c i vb vc : Nat) (cs vs : List Value) (w : World), i ≤ n → n + 1 ≤ 1000000 → Own w 0 e s x n c cs → Own w 0 e s (some ⟨vb, 0, none⟩) 1 vc vs → (∀ a, x = some a → vb ≠ a.block) → (∀ v ∈ cs, v.oneCell' = true) → (∀ v ∈ vs, v.oneCell' = true) →
    Calls P f #[.slice x n c, .int .i64 i, .slice (some ⟨vb, 0, none⟩) 1 vc] w (InsQ e s (.slice x n c) (n + 1) (cs.take (i * s) ++ (vs ++ cs.drop (i * s))) w)
theorem own_take {w : World} {e s vb vc : Nat} {vs : List Value} (h : Own w 0 e s (some ⟨vb, 0, none⟩) 1 vc vs) : ∃ cur, w.heap[vb]? = some (.cells cur e (0, 0)) := by
  rcases h.2 with ⟨hv, _⟩ | ⟨g, cap', cur, hv, _, hh, _⟩
  · cases hv
  · cases hv; exact ⟨cur, hh⟩
theorem insTg_all : InsAll Try.prog 85 38 6 := by
  intro x n c i vb vc cs vs w hi hn ho hv hne h1c h1v
  have hcl : cs.length = n * 6 := ho.length
  by_cases hin : i = n
  · subst hin
    rw [← hcl, List.take_length, List.drop_length, List.append_nil]
    exact insTg_end x i c vb vc cs vs w hn ho hv h1v
  rcases ho.2 with ⟨h1, h2⟩ | ⟨g, cap, cur, h1, _, hg, hnc, hcm, hsz, htk⟩
  · cases h1; omega
  · cases h1
    obtain ⟨cv, hcv⟩ := own_take hv
    obtain ⟨b, off, hb, hlt, hcell⟩ := hv.row.pos (by omega)
    cases hb
    have hvl : vs.length = 6 := by have := hv.length; omega
    have hvs : ∀ j v, vs[j]? = some v → w.cell? ⟨vb, j, none⟩ = some v := fun j v hj => by have := hcell j v hj; rwa [Nat.zero_add] at this
    have hc2 := hcm
    unfold maxLen at hc2
    by_cases hroom : n + 1 ≤ c
    · exact insTg_shift g n c i vb vc cur cv cs vs w (by omega) hroom (by omega) (hne _ rfl) hg hcv htk hcl hsz hvs hvl h1c h1v
    · exact insTg_grow g n c i vb vc cur cs vs w (by omega) hnc (by omega) hn hlt hg htk hcl hsz hvs hvl h1c h1v
theorem insWt_all : InsAll Try.prog 59 47 4 := by
  intro x n c i vb vc cs vs w hi hn ho hv hne h1c h1v
  have hcl : cs.length = n * 4 := ho.length
  by_cases hin : i = n
  · subst hin
    rw [← hcl, List.take_length, List.drop_length, List.append_nil]
    exact insWt_end x i c vb vc cs vs w hn ho hv h1v
  rcases ho.2 with ⟨h1, h2⟩ | ⟨g, cap, cur, h1, _, hg, hnc, hcm, hsz, htk⟩
  · cases h1; omega
  · cases h1
    obtain ⟨cv, hcv⟩ := own_take hv
    obtain ⟨b, off, hb, hlt, hcell⟩ := hv.row.pos (by omega)
    cases hb
    have hvl : vs.length = 4 := by have := hv.length; omega
    have hvs : ∀ j v, vs[j]? = some v → w.cell? ⟨vb, j, none⟩ = some v := fun j v hj => by have := hcell j v hj; rwa [Nat.zero_add] at this
    have hc2 := hcm
    unfold maxLen at hc2
    by_cases hroom : n + 1 ≤ c
    · exact insWt_shift g n c i vb vc cur cv cs vs w (by omega) hroom (by omega) (hne _ rfl) hg hcv htk hcl hsz hvs hvl h1c h1v
    · exact insWt_grow g n c i vb vc cur cs vs w (by omega) hnc (by omega) hn hlt hg htk hcl hsz hvs hvl h1c h1v
theorem heapOk_sub {G : Gh} {w : World} {h h' : Nat → Option Blk} (hs : ∀ l b, h' l = some b → h l = some b) (hh : HeapOk G w h) : HeapOk G w h' :=
  ⟨fun l b hl => hh.rep l b (hs l b hl), fun l b hl => hh.inn l b (hs l b hl), fun l b k hl => hh.sep l b k (hs l b hl), fun l l' b b' k hl hl' => hh.inj l l' b b' k (hs l b hl) (hs l' b' hl'), hh.fb⟩
theorem from_ext {G G' : Gh} {w w' : World} {pre : List (Nat × Blk)} {h' : Nat → Option Blk} {nw : List Nat} (x : Ext G w (lkB pre) G' w' h' nw) (hn : ∀ l ∈ nw, 100 ≤ l) : From w G (ownA G pre) G' w' h' := by
  have f0 : From w G (ownA G pre) G w (lkB pre) := ⟨rfl, rfl, rfl, Nat.le_refl _, fun _ _ _ => rfl, fun l b k h1 h2 => .inl ⟨l, b, h1, h2⟩, fun _ h => h, fun _ h => .inl h, fun _ _ => rfl⟩
  exact f0.ext x hn
theorem from_sub {G G' : Gh} {w w' : World} {A : Nat → Prop} {h h' : Nat → Option Blk} (hs : ∀ l b, h' l = some b → h l = some b) (f : From w G A G' w' h) : From w G A G' w' h' :=
  ⟨f.os, f.tape, f.output, f.size, f.block, fun l b k hl => f.own l b k (hs l b hl), f.fin, f.fout, f.same⟩
/-- slices.Insert onto a list of the call's own. -/
theorem ins_list {P : Program} {f : FuncId} {e : TypeId} {s : Nat} (H : InsAll P f e s) (xs : List T) (x : T) (i : Nat) (hi : i ≤ xs.length) (hn : xs.length + 1 ≤ 1000000) :
    FnOk P f [.own 1, .t (.int i), .own 2] [(1, .list e s xs), (2, .list e s [x])] (.own 1000) [(1000, .list e s (xs.take i ++ x :: xs.drop i))] := by
  intro G w us hh hr
  unfold RepPs at hr
  obtain ⟨u1, r1, rfl, h1, hr⟩ := hr
  unfold RepPs at hr
  obtain ⟨u2, r2, rfl, h2, hr⟩ := hr
  unfold RepPs at hr
  obtain ⟨u3, r3, rfl, h3, hr⟩ := hr
  unfold RepPs at hr
  subst hr
  unfold RepS at h1 h3
  unfold RepS Rep at h2
  obtain ⟨rfl, _⟩ := h2
  have l1 : lkB [(1, Blk.list e s xs), (2, .list e s [x])] 1 = some (.list e s xs) := rfl
  have l2 : lkB [(1, Blk.list e s xs), (2, .list e s [x])] 2 = some (.list e s [x]) := rfl
  obtain ⟨y1, c1, cs, e1, hR1, hw1, ho1⟩ := hh.rep 1 _ l1
  obtain ⟨y2, c2, vs, e2, hR2, hw2, ho2⟩ := hh.rep 2 _ l2
  have g1 : u1 = .slice y1 xs.length c1 := h1.1.trans e1
  have g3 : u3 = .slice y2 1 c2 := h3.1.trans e2
  rw [e1] at ho1
  rw [e2] at ho2
  have hv2 : ∃ vb, y2 = some ⟨vb, 0, none⟩ := by
    rcases ho2.2 with ⟨h, h'⟩ | ⟨g, cap', cur, h, _⟩
    · cases h'
    · cases h; exact ⟨g, rfl⟩
  obtain ⟨vb, rfl⟩ := hv2
  rw [g1, g3]
  refine (H y1 xs.length c1 i vb c2 cs vs w hi hn ho1 ho2 (fun a ha hb => ?_) (fun v hv => Reps.one xs cs hR1 v hv) (fun v hv => Reps.one [x] vs hR2 v hv)).mono ?_
  · subst ha
    have := hh.inj 1 2 _ _ a.block l1 l2 (.inl (by rw [e1]; rfl)) (.inl (by rw [e2, ← hb]; rfl))
    omega
  rintro ex w' ⟨u', row, rfl, hgr, hrow, hown, hblk', y', c', rfl⟩
  have hF : ∀ b o, G.F b → w'.cell? ⟨b, o, none⟩ = w.cell? ⟨b, o, none⟩ := by
    intro b o hb
    refine cell_block (hgr.block b (hh.fb b hb) fun e0 => ?_)
    exact hh.sep 1 _ b l1 (.inl (by rw [e1]; exact hrow b e0.symm)) hb
  have hsw := Reps.split i hR1
  rw [widths_take_const hw1 hi] at hsw
  have ext := Ext.mk' (G := G) (w' := w') hh row hgr (some 1) (fun l hl => by cases hl; exact ⟨_, l1⟩) (fun k hk => ⟨1, rfl, by rw [e1]; exact hrow k hk⟩) 1000 (.slice y' (xs.length + 1) c') (.list e s (xs.take i ++ x :: xs.drop i)) (.inr rfl) [1000] (.inl rfl)
    (fun k hk l b hl => by
      simp only [lkB] at hl
      split at hl
      · cases hl; rfl
      · split at hl
        · cases hl; rfl
        · cases hl)
    (fun k hk => by
      rcases hblk' k hk with h | h
      · exact .inl ⟨1, rfl, by rw [e1]; exact h⟩
      · exact .inr h)
    ⟨y', c', cs.take (i * s) ++ (vs ++ cs.drop (i * s)), by rw [show (xs.take i ++ x :: xs.drop i).length = xs.length + 1 by simp; omega], Reps.append (Reps.mono (fun _ h => h) hF _ _ hsw.1) (by
      unfold Reps at hR2 ⊢
      obtain ⟨v, r, h4, h5, h6⟩ := hR2
      unfold Reps at h6
      subst h6
      rw [List.append_nil] at h4
      exact ⟨v, cs.drop (i * s), by rw [h4], Rep.mono (fun _ h => h) hF _ _ h5, Reps.mono (fun _ h => h) hF _ _ hsw.2⟩), (fun y hy => by
      rcases List.mem_append.1 hy with hy | hy
      · exact hw1 y (List.mem_of_mem_take hy)
      · rcases List.mem_cons.1 hy with hy | hy
        · exact hw2 y (by simp [hy])
        · exact hw1 y (List.mem_of_mem_drop hy)), by
      rw [show (xs.take i ++ x :: xs.drop i).length = xs.length + 1 by simp; omega]
      exact hown⟩
    (fun _ h => h)
  have hs : ∀ l b, lkB [(1000, Blk.list e s (xs.take i ++ x :: xs.drop i))] l = some b → (if l = 1000 then some (Blk.list e s (xs.take i ++ x :: xs.drop i)) else if some 1 = some l then none else lkB [(1, Blk.list e s xs), (2, .list e s [x])] l) = some b := by
    intro l b hl
    simp only [lkB] at hl
    split at hl
    · rename_i h
      rw [if_pos h]; exact hl
    · cases hl
  refine ⟨_, _, rfl, from_sub hs (from_ext ext (fun l hl => by simp at hl; omega)), heapOk_sub hs ext.heap, ?_⟩
  unfold RepS
  exact ⟨(bput_same G.β 1000 _).symm, _, _, _, rfl⟩
/-- slices.Insert onto a list of the call's own whose elements own slices. -/
theorem ins_rows {P : Program} {f : FuncId} {e : TypeId} {s : Nat} (H : InsAll P f e s) (us : List U) (x : T) (u0 : U) (i : Nat) (hi : i ≤ us.length) (hn : us.length + 1 ≤ 1000000) (hu0 : relTU x u0) :
    FnOk P f [.own 1, .t (.int i), .own 2] [(1, .rows e s us []), (2, .list e s [x])] (.own 1000) [(1000, .rows e s (us.take i ++ u0 :: us.drop i) [])] := by
  intro G w vals hh hr
  unfold RepPs at hr
  obtain ⟨u1, r1, rfl, h1, hr⟩ := hr
  unfold RepPs at hr
  obtain ⟨u2, r2, rfl, h2, hr⟩ := hr
  unfold RepPs at hr
  obtain ⟨u3, r3, rfl, h3, hr⟩ := hr
  unfold RepPs at hr
  subst hr
  unfold RepS at h1 h3
  unfold RepS Rep at h2
  obtain ⟨rfl, _⟩ := h2
  have l1 : lkB [(1, Blk.rows e s us []), (2, .list e s [x])] 1 = some (.rows e s us []) := rfl
  have l2 : lkB [(1, Blk.rows e s us []), (2, .list e s [x])] 2 = some (.list e s [x]) := rfl
  obtain ⟨y1, c1, cs0, e1, ho1'⟩ := hh.rep 1 _ l1
  obtain ⟨cs, κ, ho1, hR1, hk1, hk2, hk3, hk4⟩ := hh.inn 1 _ l1
  obtain ⟨y2, c2, vs, e2, hR2, hw2, ho2⟩ := hh.rep 2 _ l2
  have g1 : u1 = .slice y1 us.length c1 := h1.1.trans e1
  have g3 : u3 = .slice y2 1 c2 := h3.1.trans e2
  rw [e1] at ho1
  rw [e2] at ho2
  have hv2 : ∃ vb, y2 = some ⟨vb, 0, none⟩ := by
    rcases ho2.2 with ⟨h, h'⟩ | ⟨g, cap', cur, h, _⟩
    · cases h'
    · cases h; exact ⟨g, rfl⟩
  obtain ⟨vb, rfl⟩ := hv2
  have hxw : x.width = s := hw2 x (by simp)
  have hcl : cs.length = us.length * s := ho1.1
  have hone : ∀ v ∈ cs, v.oneCell' = true := by
    intro v hv
    obtain ⟨j, hj, rfl⟩ := List.getElem_of_mem hv
    have hs0 : 0 < s := by
      rcases Nat.eq_zero_or_pos s with h | h
      · subst h; omega
      · exact h
    have hq : j / s < us.length := by rw [Nat.div_lt_iff_lt_mul hs0]; omega
    obtain ⟨v1, k1, k2, k3, _⟩ := hR1 (j / s) _ (List.getElem?_eq_getElem hq)
    have hm := Nat.mod_lt j hs0
    have hc := k1 (j % s) _ (List.getElem?_eq_getElem (by simpa [k2] using hm))
    rw [Nat.div_add_mod' j s, List.getElem?_eq_getElem hj] at hc
    rw [Option.some.inj hc]
    exact k3 _ (List.getElem_mem _)
  rw [g1, g3]
  refine (H y1 us.length c1 i vb c2 cs vs w hi hn ho1 ho2 (fun a ha hb => ?_) hone (fun v hv => Reps.one [x] vs hR2 v hv)).mono ?_
  · subst ha
    have := hh.inj 1 2 _ _ a.block l1 l2 (.inl (by rw [e1]; rfl)) (.inl (by rw [e2, ← hb]; rfl))
    omega
  rintro ex w' ⟨u', row, rfl, hgr, hrow, hown, hblk', y', c', rfl⟩
  have hlen : (us.take i ++ u0 :: us.drop i).length = us.length + 1 := by simp; omega
  have hF : ∀ b o, G.F b → w'.cell? ⟨b, o, none⟩ = w.cell? ⟨b, o, none⟩ := by
    intro b o hb
    refine cell_block (hgr.block b (hh.fb b hb) fun e0 => ?_)
    exact hh.sep 1 _ b l1 (.inl (by rw [e1]; exact hrow b e0.symm)) hb
  obtain ⟨f, hf⟩ : ∃ f, f = G.φ 1 := ⟨_, rfl⟩
  have K : Keep G w (newGh G 1000 (.slice y' (us.length + 1) c') f) w' [1000] := ⟨fun _ h => h, hF, fun l hl => bput_other _ (by simpa using hl)⟩
  have hKb : ∀ j k, κ j = some k → w'.heap[k]? = w.heap[k]? := by
    intro j k hjk
    have hft : G.ft 1 k := .inr ((hk1 k).2 ⟨j, hjk⟩)
    refine hgr.block k (hh.lt l1 hft) fun e0 => ?_
    have := hk3 j k hjk
    rw [e1] at this
    exact this (hrow k e0.symm)
  have hvx : ∃ v, vs = v.cells.toList ∧ Rep G.F w x v := by
    unfold Reps at hR2
    obtain ⟨v, r, h4, h5, h6⟩ := hR2
    unfold Reps at h6
    subst h6
    rw [List.append_nil] at h4
    exact ⟨v, h4, h5⟩
  obtain ⟨vx, hvx, hRx⟩ := hvx
  have hvl : vs.length = s := by rw [hvx]; simpa using (Rep.width x vx hRx).trans hxw
  have his : i * s ≤ us.length * s := Nat.mul_le_mul_right _ hi
  have htl : (cs.take (i * s)).length = i * s := by rw [List.length_take]; omega
  have hrows : RowsOk (newGh G 1000 (.slice y' (us.length + 1) c') f) w' s (us.take i ++ u0 :: us.drop i) [] (cs.take (i * s) ++ (vs ++ cs.drop (i * s))) (fun j => if j < i then κ j else if j = i then none else κ (j - 1)) := by
    intro j u hu
    by_cases hj : j < i
    · rw [List.getElem?_append_left (by rw [List.length_take]; omega), List.getElem?_take, if_pos hj] at hu
      obtain ⟨v, k1, k2, k3, k4⟩ := hR1 j u hu
      refine ⟨v, fun t c ht => ?_, k2, k3, ?_⟩
      · have htl2 : t < s := by have := (List.getElem?_eq_some_iff.1 ht).1; simpa [k2] using this
        have hjs : j * s + s ≤ i * s := by rw [← Nat.succ_mul]; exact Nat.mul_le_mul_right _ hj
        rw [List.getElem?_append_left (by omega), List.getElem?_take, if_pos (by omega)]
        exact k1 t c ht
      · show RowOk _ w' none u s v (if j < i then κ j else _)
        rw [if_pos hj]
        exact k4.keep2 K (hKb j)
    · by_cases hji : j = i
      · subst hji
        rw [List.getElem?_append_right (by rw [List.length_take]; omega), List.length_take, Nat.min_eq_left hi, Nat.sub_self] at hu
        obtain rfl : u0 = u := by simpa using hu
        refine ⟨vx, fun t c ht => ?_, by rw [Rep.width x vx hRx, hxw], Rep.one x vx hRx, ?_⟩
        · rw [List.getElem?_append_right (by omega), htl, Nat.add_sub_cancel_left, List.getElem?_append_left (by rw [hvx]; exact (List.getElem?_eq_some_iff.1 ht).1), hvx]
          exact ht
        · show RowOk _ w' none u0 s vx (if j < j then κ j else if j = j then none else _)
          rw [if_neg (by omega), if_pos rfl]
          exact repU_of x u0 vx hu0 (Rep.mono K.fsub K.fcell x vx hRx)
      · obtain ⟨m, rfl⟩ : ∃ m, j = m + 1 := ⟨j - 1, by omega⟩
        rw [List.getElem?_append_right (by rw [List.length_take]; omega), List.length_take, Nat.min_eq_left hi, show m + 1 - i = (m - i) + 1 by omega, List.getElem?_cons_succ, List.getElem?_drop, show i + (m - i) = m by omega] at hu
        obtain ⟨v, k1, k2, k3, k4⟩ := hR1 m u hu
        refine ⟨v, fun t c ht => ?_, k2, k3, ?_⟩
        · have him : i * s ≤ m * s := Nat.mul_le_mul_right _ (by omega)
          have hm1 : (m + 1) * s = m * s + s := Nat.succ_mul _ _
          rw [List.getElem?_append_right (by omega), htl, List.getElem?_append_right (by omega), hvl, List.getElem?_drop, show i * s + ((m + 1) * s + t - i * s - s) = m * s + t by omega]
          exact k1 t c ht
        · show RowOk _ w' none u s v (if m + 1 < i then κ (m + 1) else if m + 1 = i then none else κ (m + 1 - 1))
          rw [if_neg hj, if_neg hji, Nat.add_sub_cancel]
          exact k4.keep2 K (hKb m)
  have ext := Ext.mkG (G := G) (w' := w') hh row hgr (some 1) (fun l hl => by cases hl; exact ⟨_, l1⟩) (fun k hk => ⟨1, rfl, .inl (by rw [e1]; exact hrow k hk)⟩) 1000 (.slice y' (us.length + 1) c') (.rows e s (us.take i ++ u0 :: us.drop i) []) f (.inr rfl) [1000] (.inl rfl)
    (fun k hk l b hl => by
      simp only [lkB] at hl
      split at hl
      · cases hl; rfl
      · split at hl
        · cases hl; rfl
        · cases hl)
    (fun k hk => by
      rcases hk with hk | hk
      · rcases hblk' k hk with h | h
        · exact .inl ⟨1, rfl, .inl (by rw [e1]; exact h)⟩
        · exact .inr h
      · exact .inl ⟨1, rfl, .inr (by rw [← hf]; exact hk)⟩)
    ⟨y', c', cs.take (i * s) ++ (vs ++ cs.drop (i * s)), by rw [hlen], by rw [hlen]; exact hown⟩
    ⟨cs.take (i * s) ++ (vs ++ cs.drop (i * s)), _, by rw [hlen]; exact hown, hrows, fun k => by
      rw [hf, hk1 k]
      constructor
      · rintro ⟨j, hj⟩
        by_cases hji : j < i
        · exact ⟨j, by rw [if_pos hji]; exact hj⟩
        · exact ⟨j + 1, by rw [if_neg (by omega), if_neg (by omega), Nat.add_sub_cancel]; exact hj⟩
      · rintro ⟨j, hj⟩
        split at hj
        · exact ⟨j, hj⟩
        · split at hj
          · cases hj
          · exact ⟨j - 1, hj⟩, fun j1 j2 k q1 q2 => by
      split at q1 <;> split at q2
      · exact hk2 j1 j2 k q1 q2
      · split at q2
        · cases q2
        · have := hk2 j1 (j2 - 1) k q1 q2; omega
      · split at q1
        · cases q1
        · have := hk2 (j1 - 1) j2 k q1 q2; omega
      · split at q1
        · cases q1
        · split at q2
          · cases q2
          · have := hk2 (j1 - 1) (j2 - 1) k q1 q2; omega, fun j k q hq => by
      have old : ∀ m, κ m = some k → False := by
        intro m hm
        rcases hblk' k hq with h | h
        · have := hk3 m k hm
          rw [e1] at this
          exact this h
        · have := hh.lt l1 (.inr ((hk1 k).2 ⟨m, hm⟩))
          omega
      split at q
      · exact old _ q
      · split at q
        · cases q
        · exact old _ q, fun j hj => by
      rw [hlen] at hj
      rw [if_neg (by omega), if_neg (by omega)]
      exact hk4 _ (by omega)⟩
  have hs : ∀ l b, lkB [(1000, Blk.rows e s (us.take i ++ u0 :: us.drop i) [])] l = some b → (if l = 1000 then some (Blk.rows e s (us.take i ++ u0 :: us.drop i) []) else if some 1 = some l then none else lkB [(1, Blk.rows e s us []), (2, .list e s [x])] l) = some b := by
    intro l b hl
    simp only [lkB] at hl
    split at hl
    · rename_i h
      rw [if_pos h]; exact hl
    · cases hl
  refine ⟨_, _, rfl, from_sub hs (from_ext ext (fun l hl => by simp at hl; omega)), heapOk_sub hs ext.heap, ?_⟩
  unfold RepS
  exact ⟨(bput_same G.β 1000 _).symm, _, _, _, rfl⟩
theorem insertT_fn (xs : List Tg) (x : Tg) (i : Nat) (hi : i ≤ xs.length) (hn : xs.length + 1 ≤ 1000000) :
    FnOk Try.prog 85 [.own 1, .t (.int i), .own 2] [(1, blkTgs xs), (2, blkTgs [x])] (.own 1000) [(1000, blkTgs (xs.take i ++ x :: xs.drop i))] := by
  have := ins_list insTg_all (xs.map encTg) (encTg x) i (by simpa using hi) (by simpa using hn)
  rw [← List.map_take, ← List.map_drop, ← List.map_cons, ← List.map_append] at this
  exact this
/-- A station and what is held of it. -/
def uWt (w : Wt) : U := .fw [.int w.st, .int w.ep, .int w.nx] 38 6 (w.held.map encTg)
abbrev rowWts (l : List Wt) : Blk := .rows 47 4 (l.map uWt) []
theorem insertW_fn (l : List Wt) (st ep : Int) (i : Nat) (hi : i ≤ l.length) (hn : l.length + 1 ≤ 1000000) :
    FnOk Try.prog 59 [.own 1, .t (.int i), .own 2] [(1, rowWts l), (2, .list 47 4 [.agg [.int st, .int ep, .int 0, .nil]])] (.own 1000) [(1000, rowWts (l.take i ++ ⟨st, ep, 0, []⟩ :: l.drop i))] := by
  have := ins_rows insWt_all (l.map uWt) (.agg [.int st, .int ep, .int 0, .nil]) (uWt ⟨st, ep, 0, []⟩) i (by simpa using hi) (by simpa using hn) rfl
  rw [← List.map_take, ← List.map_drop, ← List.map_cons, ← List.map_append] at this
  exact this
end Go.Proofs.Ytopmmodcaoaaeaa
