/- Batches counted litre by litre; a litre's batch. Plain Lean. -/
import Derived.Test.YtchjindkjbpbnaaPiUndo
namespace Go.Proofs.Ytchjindkjbpbnaa
set_option linter.unusedVariables false
set_option linter.unusedSimpArgs false
theorem of_count (b : Int) : ∀ {l : List (Int × Int)}, (∀ p ∈ l, 0 ≤ p.2) → Pc.of_ l b = ((Pc.litres l).count b : Int)
  | [], _ => by simp [Pc.of_, Pc.litres]
  | p :: r, h => by
    have ih := of_count b (l := r) fun q hq => h q (List.mem_cons_of_mem _ hq)
    have hp := h p (List.mem_cons_self)
    rw [Pc.litres_cons, List.count_append, Pc.of_, ih]
    by_cases he : p.1 = b
    · rw [if_pos he, he, List.count_replicate_self]; omega
    · have h0 : (List.replicate p.2.toNat p.1).count b = 0 := List.count_eq_zero.2 (by intro hm; exact he (List.mem_replicate.1 hm).2.symm)
      rw [if_neg he, h0]; omega
theorem at_litres : ∀ {l : List (Int × Int)}, (∀ p ∈ l, 0 ≤ p.2) → ∀ k : Nat, Pc.atIn l k = (Pc.litres l).getD k (-1)
  | [], _, k => by simp [Pc.atIn, Pc.litres]
  | p :: r, h, k => by
    have hp := h p (List.mem_cons_self)
    rw [Pc.litres_cons, Pc.atIn]
    by_cases hk : (k : Int) < p.2
    · rw [if_pos hk, List.getD_eq_getElem?_getD, List.getElem?_append_left (by rw [List.length_replicate]; omega), List.getElem?_replicate, if_pos (by omega)]; rfl
    · rw [if_neg hk]
      have e : (k : Int) - p.2 = ((k - p.2.toNat : Nat) : Int) := by omega
      rw [e, at_litres (fun q hq => h q (List.mem_cons_of_mem _ hq)), List.getD_eq_getElem?_getD, List.getD_eq_getElem?_getD, List.getElem?_append_right (by rw [List.length_replicate]; omega), List.length_replicate]
theorem push_of {f g n o : List (Int × Int)} {back : Bool} (hf : Pc.Vd f) (hg : Pc.Vd g) (h : PushOk f g back n o) (b : Int) : Pc.of_ f b + Pc.of_ g b = Pc.of_ n b + Pc.of_ o b := by
  rw [of_count b hf.nonneg, of_count b hg.nonneg, of_count b h.vn.nonneg, of_count b h.vo.nonneg, h.ln, h.lo]
  have key : ∀ (L : List Int) (k : Nat), ((L.take k).count b : Int) + ((L.drop k).count b : Int) = (L.count b : Int) := fun L k => by
    have := List.count_append (a := b) (l₁ := L.take k) (l₂ := L.drop k)
    rw [List.take_append_drop] at this
    omega
  cases back with
  | true =>
    simp only [if_true]
    have := key (Pc.litres f ++ Pc.litres g) (Pc.litres g).length
    rw [List.count_append] at this; omega
  | false =>
    simp only [Bool.false_eq_true, if_false]
    have := key (Pc.litres g ++ Pc.litres f) (Pc.litres f).length
    rw [List.count_append] at this; omega
theorem push_vol {f g n o : List (Int × Int)} {back : Bool} (hf : Pc.Vd f) (hg : Pc.Vd g) (h : PushOk f g back n o) : Pc.vol n = Pc.vol f ∧ Pc.vol o = Pc.vol g := by
  rw [vol_litres h.vn.canon, vol_litres h.vo.canon, vol_litres hf.canon, vol_litres hg.canon, h.ln, h.lo]
  cases back <;> simp <;> omega
end Go.Proofs.Ytchjindkjbpbnaa
