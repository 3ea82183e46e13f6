/- What is dealt: plain. No condition. -/
import Derived.Test.YtpfolkjimdmdhaaDlC
import Derived.Test.YtpfolkjimdmdhaaPiB
namespace Go.Proofs.Ytpfolkjimdmdhaa
open Go.RowKit Sy
set_option linter.unusedVariables false
set_option linter.unusedSimpArgs false
namespace Dl
theorem bump_ge {C : List Int} {j i : Nat} : rt C i ≤ rt (bump C (j : Int)) i ∧ rt (bump C (j : Int)) i ≤ rt C i + 1 := by
  unfold bump
  rw [Int.toNat_natCast]
  unfold rt
  simp only [List.getD_eq_getElem?_getD, List.getElem?_set]
  by_cases e : j = i
  · subst e
    rw [if_pos rfl]
    split
    · simp; omega
    · rename_i h
      rw [List.getElem?_eq_none (by omega)]; simp
  · rw [if_neg e]; omega
theorem cs_mono1 (r : List Int) (k i : Nat) : rt (cs r k) i ≤ rt (cs r (k + 1)) i ∧ rt (cs r (k + 1)) i ≤ rt (cs r k) i + 1 := by
  by_cases h : nx r (cs r k) r.length < 0
  · have : (nx r (cs r k) r.length).toNat = 0 := by omega
    have h2 := bump_ge (C := cs r k) (j := 0) (i := i)
    simp only [cs, bump, this]
    simpa [bump] using h2
  · obtain ⟨j, hj⟩ : ∃ j : Nat, nx r (cs r k) r.length = (j : Int) := ⟨(nx r (cs r k) r.length).toNat, by omega⟩
    simp only [cs, hj]
    exact bump_ge
theorem cs_mono (r : List Int) (k i : Nat) : ∀ d, rt (cs r k) i ≤ rt (cs r (k + d)) i ∧ rt (cs r (k + d)) i ≤ rt (cs r k) i + d
  | 0 => by simp
  | d + 1 => by
    have h1 := cs_mono r k i d
    have h2 := cs_mono1 r (k + d) i
    rw [show k + (d + 1) = k + d + 1 by omega]
    omega
theorem rt_bd (r : List Int) (k i : Nat) : 0 ≤ rt (cs r k) i ∧ rt (cs r k) i ≤ k := by
  unfold rt
  rw [List.getD_eq_getElem?_getD]
  cases hz : (cs r k)[i]? with
  | none => simp
  | some z => have := cs_bd r k z (List.mem_of_getElem? hz); simp; omega
/-- What one stream gets of the pieces, ahead of joining. -/
def strm (r : List Int) (i : Nat) : List (Int × Int) → Nat → List (Int × Int)
  | [], _ => []
  | p :: t, a => (p.1, rt (cs r (a + p.2.toNat)) i - rt (cs r a) i) :: strm r i t (a + p.2.toNat)
def volN (l : List (Int × Int)) : Nat := (Pc.vol l).toNat
theorem volN_cons {p : Int × Int} {t : List (Int × Int)} (hp : 0 ≤ p.2) (ht : ∀ q ∈ t, 0 ≤ q.2) : volN (p :: t) = p.2.toNat + volN t := by
  have h1 := Pc.litres_length t ht
  unfold volN
  simp only [Pc.vol]
  omega
theorem strm_app (r : List Int) (i : Nat) : ∀ (a b : List (Int × Int)) (n : Nat), (∀ p ∈ a, 0 ≤ p.2) → strm r i (a ++ b) n = strm r i a n ++ strm r i b (n + volN a)
  | [], b, n, _ => by simp [strm, volN, Pc.vol]
  | p :: t, b, n, h => by
    have h1 := h p (by simp)
    have h2 : ∀ q ∈ t, 0 ≤ q.2 := fun q hq => h q (by simp [hq])
    simp only [List.cons_append, strm]
    rw [strm_app r i t b _ h2, volN_cons h1 h2, Nat.add_assoc]
theorem strm_len (r : List Int) (i : Nat) : ∀ (l : List (Int × Int)) (n : Nat), (strm r i l n).length = l.length
  | [], _ => rfl
  | p :: t, n => by simp [strm, strm_len r i t]
theorem strm_each (r : List Int) (i : Nat) : ∀ (l : List (Int × Int)) (n : Nat), (∀ p ∈ l, (0 ≤ p.1 ∧ p.1 < 1000) ∧ 0 ≤ p.2 ∧ p.2 ≤ 1000000) → ∀ q ∈ strm r i l n, (0 ≤ q.1 ∧ q.1 < 1000) ∧ 0 ≤ q.2 ∧ q.2 ≤ 1000000
  | [], _, _, q, hq => by simp [strm] at hq
  | p :: t, n, h, q, hq => by
    simp only [strm, List.mem_cons] at hq
    have hp := h p (by simp)
    rcases hq with rfl | hq
    · have := cs_mono r n i p.2.toNat
      exact ⟨hp.1, by simp only; omega, by simp only; omega⟩
    · exact strm_each r i t _ (fun x hx => h x (by simp [hx])) q hq
/-- What is dealt. -/
def dealt (r : List Int) (l : List (Int × Int)) : List (List (Int × Int)) := (List.range r.length).map fun i => Pc.join (strm r i l 0)
noncomputable def dealV (l : List (Int × Int)) (r : List Int) : List (List (Int × Int)) × Int :=
  let m := Pc.merge l
  if (m = [] ∧ l ≠ []) ∨ 200 < m.length then ([], 9) else if chk r (Pc.vol m) ≠ 0 then ([], chk r (Pc.vol m)) else (dealt r m, 0)
/-- Rows that are rewritten one behind the other. -/
theorem rows_ex (e : TypeId) (n : Nat) (Z : Nat → Nat → List (Int × Int)) : ∃ W : Nat → Nat → List U, (∀ k i, (W k i).length = n) ∧ (∀ k i, i < n → (W k i)[i]? = some (.ow e 2 ((Z k i).map encP))) ∧
    (∀ k i, i < n → (W k i).set i (.ow e 2 ((Z (k + 1) i).map encP)) = W k (i + 1)) ∧ (∀ k, W k n = W (k + 1) 0) ∧ ((∀ q, Z 0 q = []) → W 0 0 = List.replicate n (.ow e 2 [])) ∧ (∀ k, (W k 0).map U.toT = (List.range n).map fun q => encPs (Z k q)) ∧ ∀ k, W k 0 = (List.range n).map fun q => .ow e 2 ((Z k q).map encP) := by
  refine ⟨fun k i => (List.range n).map fun q => .ow e 2 ((if q < i then Z (k + 1) q else Z k q).map encP), ?_, ?_, ?_, ?_, ?_, ?_, fun k => by simp⟩
  · intro k i; simp
  · intro k i hi
    rw [List.getElem?_map, List.getElem?_range hi]
    simp
  · intro k i hi
    apply List.ext_getElem?
    intro q
    rw [List.getElem?_set, List.getElem?_map, List.getElem?_map]
    by_cases hq : q < n
    · rw [List.getElem?_range hq]
      by_cases e1 : i = q
      · subst e1
        rw [if_pos rfl, if_pos (by simpa using hq)]
        simp
      · rw [if_neg e1]
        simp only [Option.map_some]
        by_cases h1 : q < i
        · rw [if_pos h1, if_pos (by omega)]
        · rw [if_neg h1, if_neg (by omega)]
    · rw [List.getElem?_eq_none (l := List.range n) (by simpa using Nat.le_of_not_lt hq)]
      split
      · rename_i e1; subst e1; omega
      · rfl
  · intro k
    apply List.map_congr_left
    intro q hq
    rw [List.mem_range] at hq
    rw [if_pos hq, if_neg (by omega)]
  · intro hz
    apply List.ext_getElem?
    intro q
    rw [List.getElem?_map, List.getElem?_replicate]
    by_cases hq : q < n
    · rw [List.getElem?_range hq, if_pos hq]
      simp [hz]
    · rw [List.getElem?_eq_none (l := List.range n) (by simpa using Nat.le_of_not_lt hq), if_neg hq]
      rfl
  · intro k
    rw [List.map_map]
    apply List.map_congr_left
    intro q _
    simp [U.toT, encPs]
/-- All that is needed of the streams. -/
theorem strm_ex (r : List Int) (m : List (Int × Int)) (hm : ∀ p ∈ m, (0 ≤ p.1 ∧ p.1 < 1000) ∧ 0 ≤ p.2 ∧ p.2 ≤ 1000000) (h64 : Pc.vol m ≤ 64000) : ∃ (A : Nat → Nat) (Z : Nat → Nat → List (Int × Int)), A 0 = 0 ∧ (∀ k, k ≤ m.length → A k ≤ 64000) ∧ (∀ i, Z 0 i = []) ∧ (∀ k i, Z k i = strm r i (m.take k) 0) ∧
    ∀ k p, m[k]? = some p → A (k + 1) = A k + p.2.toNat ∧ ∀ i, Z (k + 1) i = Z k i ++ [(p.1, rt (cs r (A (k + 1))) i - rt (cs r (A k)) i)] := by
  have hn : ∀ k, ∀ p ∈ m.take k, 0 ≤ p.2 := fun k p hp => (hm p (List.mem_of_mem_take hp)).2.1
  have hstep : ∀ k p, m[k]? = some p → volN (m.take (k + 1)) = volN (m.take k) + p.2.toNat := by
    intro k p hp
    have h1 := Pc.vol_snoc hp
    have h2 := Pc.litres_length (m.take k) (hn k)
    have h3 := (hm p (mem_get hp)).2.1
    unfold volN
    omega
  refine ⟨fun k => volN (m.take k), fun k i => strm r i (m.take k) 0, by simp [volN, Pc.vol], ?_, by simp [strm], fun _ _ => rfl, ?_⟩
  · intro k hk
    have h1 : Pc.vol (m.take k) + Pc.vol (m.drop k) = Pc.vol m := by rw [← Pc.vol_append, List.take_append_drop]
    have h2 := Pc.litres_length (m.drop k) (fun p hp => (hm p (List.mem_of_mem_drop hp)).2.1)
    have h3 := Pc.litres_length (m.take k) (hn k)
    show volN _ ≤ _
    unfold volN
    omega
  · intro k p hp
    refine ⟨hstep k p hp, fun i => ?_⟩
    show strm r i (m.take (k + 1)) 0 = strm r i (m.take k) 0 ++ _
    rw [take_snoc hp, strm_app r i _ _ _ (hn k), Nat.zero_add]
    simp only [strm]
    rw [hstep k p hp]
end Dl
end Go.Proofs.Ytpfolkjimdmdhaa
