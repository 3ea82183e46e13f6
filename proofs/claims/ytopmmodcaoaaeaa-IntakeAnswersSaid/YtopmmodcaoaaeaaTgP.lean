/- What was written is read. Plain Lean. -/
import Derived.Test.YtopmmodcaoaaeaaTgD
namespace Go.Proofs.Ytopmmodcaoaaeaa
open Go.RowKit Sy
set_option linter.unusedVariables false
set_option linter.unusedSimpArgs false
theorem putL_app (a b : List Int) : putL (a ++ b) = putL a ++ putL b := by unfold putL; rw [List.flatMap_append]
theorem read_put {ns : List Int} (hi : ∀ n ∈ ns, i64 n) : ∀ (k : Nat), k ≤ ns.length → aG (putL ns) k = ((putL (ns.take k)).length : Int) ∧ ∀ (n : Int), ns[k]? = some n → Wire.getI (putL ns) (aG (putL ns) k) = (n, ((putL (ns.take (k + 1))).length : Int), 0) := by
  have key : ∀ (k : Nat) (n : Int), ns[k]? = some n → Wire.getI (putL ns) ((putL (ns.take k)).length : Int) = (n, ((putL (ns.take (k + 1))).length : Int), 0) := by
    intro k n hn
    have h := hi n (mem_get hn)
    have e : putL ns = putL (ns.take k) ++ (putZ n ++ putL (ns.drop (k + 1))) := by
      conv => lhs; rw [← List.take_append_drop k ns, drop_get hn]
      rw [putL_app]
      congr 1
    have g := Wire.getI_put (putL (ns.take k)) (putL (ns.drop (k + 1))) n h.1 h.2
    rw [putL_snoc hn, List.length_append, e]
    unfold putZ at *
    simpa using g
  intro k
  induction k with
  | zero =>
    intro _
    exact ⟨rfl, fun n hn => key 0 n hn⟩
  | succ k ih =>
    intro hk
    obtain ⟨n, hn⟩ := has_get (show k < ns.length by omega)
    have h1 := (ih (by omega)).2 n hn
    have h2 : aG (putL ns) (k + 1) = ((putL (ns.take (k + 1))).length : Int) := by
      show (Wire.getI (putL ns) (aG (putL ns) k)).2.1 = _
      rw [h1]
    exact ⟨h2, fun m hm => by rw [h2]; exact key (k + 1) m hm⟩
theorem fields_put {t : Tg} (h : TgOk t) : fieldsV (putL (numsL t)) = (t, true) := by
  obtain ⟨hn, hi⟩ := nums_ok h
  have hr := read_put hi
  have hlen : (numsL t).length = 6 + t.vs.length := by unfold numsL; simp; omega
  have hget : ∀ (i : Nat) (m : Int), (numsL t)[i]? = some m → vG (putL (numsL t)) i = m ∧ eG (putL (numsL t)) i = 0 := by
    intro i m hm
    have hl := (List.getElem?_eq_some_iff.1 hm).1
    have := (hr i (by omega)).2 m hm
    unfold vG eG
    rw [this]
    exact ⟨rfl, rfl⟩
  have hend : aG (putL (numsL t)) (numsL t).length = ((putL (numsL t)).length : Int) := by
    have := (hr (numsL t).length (Nat.le_refl _)).1
    rw [List.take_length] at this
    exact this
  have hv : ∀ (i : Nat) (v : Int), t.vs[i]? = some v → (numsL t)[6 + i]? = some v := by
    intro i v hv
    unfold numsL
    rw [List.getElem?_append_right (by simp), show 6 + i - [t.st, t.ep, t.sq, t.tm, t.kd, (t.vs.length : Int)].length = i by simp]
    exact hv
  have g0 := hget 0 t.st rfl
  have g1 := hget 1 t.ep rfl
  have g2 := hget 2 t.sq rfl
  have g3 := hget 3 t.tm rfl
  have g4 := hget 4 t.kd rfl
  have g5 := hget 5 t.vs.length rfl
  have h16 := h.ln
  have htg : tgOf (putL (numsL t)) = t := by
    unfold tgOf
    rw [g0.1, g1.1, g2.1, g3.1, g4.1, g5.1, Int.toNat_natCast]
    obtain ⟨t1, t2, t3, t4, t5, vs⟩ := t
    dsimp only at *
    congr 1
    apply List.ext_getElem?
    intro i
    by_cases hi2 : i < vs.length
    · obtain ⟨v, hx⟩ := has_get hi2
      rw [List.getElem?_map, List.getElem?_range hi2, hx]
      exact congrArg some (hget (6 + i) v (hv i v hx)).1
    · rw [List.getElem?_eq_none (by simp; omega), List.getElem?_eq_none (by omega)]
  unfold fieldsV
  rw [htg, g5.1, Int.toNat_natCast, ← hlen, hend, if_pos ?_]
  · rw [decide_eq_true ⟨rfl, h⟩]
  · refine ⟨?_, by omega, ?_⟩
    · intro i hi6
      have hi6 := List.mem_range.1 hi6
      obtain ⟨m, hm⟩ := has_get (show i < (numsL t).length by omega)
      exact (hget i m hm).2
    · intro i hi2
      have hi2 := List.mem_range.1 hi2
      obtain ⟨v, hx⟩ := has_get hi2
      exact (hget (6 + i) v (hv i v hx)).2
end Go.Proofs.Ytopmmodcaoaaeaa
