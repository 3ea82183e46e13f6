/- The boundaries of the first litres of a fill behind a new batch; what is ahead of a batch. Plain Lean. -/
import Derived.Test.YtchjindkjbpbnaaTurns
import Derived.Test.YtchjindkjbpbnaaPiCount
namespace Go.Proofs.Ytchjindkjbpbnaa
set_option linter.unusedVariables false
set_option linter.unusedSimpArgs false
/-- The first m litres of a fill. -/
def hd : List (Int × Int) → Int → List (Int × Int)
  | [], _ => []
  | p :: r, m => if m ≤ 0 then [] else (p.1, min p.2 m) :: hd r (m - p.2)
theorem hd_neg (f : List (Int × Int)) {m : Int} (h : m ≤ 0) : hd f m = [] := by cases f <;> simp [hd, h]
theorem hd_litres : ∀ (f : List (Int × Int)), (∀ p ∈ f, 0 ≤ p.2) → ∀ m : Nat, Pc.litres (hd f m) = (Pc.litres f).take m
  | [], _, m => by simp [hd, Pc.litres]
  | p :: r, h, m => by
    have hp := h p List.mem_cons_self
    by_cases hm : m = 0
    · subst hm; rw [hd_neg _ (by simp)]; simp [Pc.litres]
    · have ih := hd_litres r (fun q hq => h q (List.mem_cons_of_mem _ hq))
      rw [hd, if_neg (by omega), Pc.litres_cons, Pc.litres_cons, List.take_append, List.take_replicate, List.length_replicate]
      dsimp only
      have e1 : (min p.2 (m : Int)).toNat = min m p.2.toNat := by omega
      by_cases hx : p.2 ≤ m
      · have e2 : (m : Int) - p.2 = ((m - p.2.toNat : Nat) : Int) := by omega
        rw [e1, e2, ih]
      · rw [e1, hd_neg _ (by omega), show m - p.2.toNat = 0 by omega]
        simp [Pc.litres]
theorem hd_head (f : List (Int × Int)) (m : Int) : ∀ q, (hd f m).head? = some q → ∃ p, f.head? = some p ∧ p.1 = q.1 := by
  intro q hq
  cases f with
  | nil => simp [hd] at hq
  | cons p r =>
    by_cases hm : m ≤ 0
    · rw [hd_neg _ hm] at hq; simp at hq
    · rw [hd, if_neg hm] at hq
      simp only [List.head?_cons, Option.some.injEq] at hq
      exact ⟨p, rfl, by rw [← hq]⟩
theorem hd_canon : ∀ (f : List (Int × Int)), Pc.Canon f → ∀ m : Int, Pc.Canon (hd f m)
  | [], _, m => by simp [hd, Pc.Canon]
  | p :: r, h, m => by
    by_cases hm : m ≤ 0
    · rw [hd_neg _ hm]; trivial
    · rw [hd, if_neg hm]
      obtain ⟨h1, h2, h3⟩ := h
      refine ⟨by dsimp only; omega, fun q hq => ?_, hd_canon r h3 _⟩
      obtain ⟨z, hz, he⟩ := hd_head _ _ q hq
      rw [← he]
      exact h2 z hz
/-- What a push of one piece of a new batch leaves. -/
theorem moves_next {f n o : List (Int × Int)} {k : Int} (hf : Pc.Vd f) (h9 : ∀ p ∈ f, p.1 ≠ 9) (hk : 1 ≤ k) (h : PushOk f [(9, k)] false n o) : n = if k < Pc.vol f then (9, k) :: hd f (Pc.vol f - k) else hd [(9, k)] (Pc.vol f) := by
  have hln := h.ln
  simp only [Bool.false_eq_true, if_false] at hln
  have hv := vol_litres hf.canon
  have e9 : Pc.litres [(9, k)] = List.replicate k.toNat 9 := by simp [Pc.litres]
  rw [e9] at hln
  by_cases hlt : k < Pc.vol f
  · rw [if_pos hlt]
    refine Pc.canon_unique h.vn.canon ⟨by dsimp only; omega, fun q hq => ?_, hd_canon f hf.canon _⟩ ?_
    · obtain ⟨z, hz, he⟩ := hd_head _ _ q hq
      rw [← he]
      exact (h9 z (List.mem_of_mem_head? hz)).symm
    · have e1 : Pc.vol f - k = (((Pc.litres f).length - k.toNat : Nat) : Int) := by omega
      rw [hln, Pc.litres_cons, e1, hd_litres f hf.nonneg, List.take_append, List.take_of_length_le (by rw [List.length_replicate]; omega), List.length_replicate]
  · rw [if_neg hlt]
    refine Pc.canon_unique h.vn.canon (hd_canon [(9, k)] (show Pc.Canon [(9, k)] from ⟨by dsimp only; omega, by simp, trivial⟩) _) ?_
    rw [hln, hv, hd_litres _ (by intro p hp; obtain rfl := List.mem_singleton.1 hp; dsimp only; omega), e9, List.take_append_of_le_length (by rw [List.length_replicate]; omega)]
/-- The boundaries behind litre at, ahead of which is batch b. -/
def bl : Int → Int → List (Int × Int) → List (Int × Int × Int)
  | _, _, [] => []
  | a, b, q :: r => (a, b, q.1) :: bl (a + q.2) q.1 r
theorem bl_len : ∀ (r : List (Int × Int)) (a b : Int), (bl a b r).length = r.length
  | [], _, _ => rfl
  | q :: r, a, b => by simp [bl, bl_len r]
theorem bl_get : ∀ (r : List (Int × Int)) (p : Int × Int) (c : Int) (k : Nat), k < r.length → (bl (c + p.2) p.1 r)[k]? = some (c + (bdAt (p :: r) k).1, (bdAt (p :: r) k).2)
  | [], _, _, k, h => by simp at h
  | q :: r, p, c, 0, h => by simp [bl, bdAt, Pc.vol]
  | q :: r, p, c, k + 1, h => by
    simp only [bl, List.getElem?_cons_succ]
    rw [bl_get r q (c + p.2) k (by simpa using h)]
    simp only [bdAt, List.take_succ_cons, Pc.vol, List.getElem?_cons_succ]
    congr 2
    omega
theorem listV_bl (p : Int × Int) (r : List (Int × Int)) : listV (p :: r) = bl p.2 p.1 r := by
  apply List.ext_getElem?
  intro i
  by_cases hi : i < r.length
  · have := bl_get r p 0 i hi
    rw [Int.zero_add] at this
    rw [listV_get (by simpa using hi), this]
    simp
  · rw [List.getElem?_eq_none (by rw [listV_len]; simp; omega), List.getElem?_eq_none (by rw [bl_len]; omega)]
theorem bl_ge : ∀ (r : List (Int × Int)) (a b : Int), (∀ q ∈ r, 0 ≤ q.2) → ∀ x ∈ bl a b r, a ≤ x.1
  | [], _, _, _, x, hx => by simp [bl] at hx
  | q :: r, a, b, h, x, hx => by
    have hq := h q List.mem_cons_self
    rw [bl] at hx
    rcases List.mem_cons.1 hx with rfl | hx
    · simp
    · have := bl_ge r _ _ (fun z hz => h z (List.mem_cons_of_mem _ hz)) x hx
      omega
def movF (k n : Int) (x : Int × Int × Int) : Option (Int × Int × Int) := if x.1 + k < n then some (x.1 + k, x.2) else none
theorem bl_hd (k n : Int) : ∀ (r : List (Int × Int)) (a b : Int), (∀ q ∈ r, 0 ≤ q.2) → bl (a + k) b (hd r (n - k - a)) = (bl a b r).filterMap (movF k n)
  | [], a, b, _ => by simp [hd, bl]
  | q :: r, a, b, h => by
    have hq := h q List.mem_cons_self
    have h2 := fun z hz => h z (List.mem_cons_of_mem _ hz)
    by_cases hm : n - k - a ≤ 0
    · rw [hd_neg _ hm]
      symm
      simp only [bl, List.filterMap_eq_nil_iff]
      intro x hx
      have hx2 := bl_ge (q :: r) a b h x (by simpa [bl] using hx)
      unfold movF
      rw [if_neg (by omega)]
    · rw [hd, if_neg hm]
      have ih := bl_hd k n r (a + q.2) q.1 h2
      simp only [bl, List.filterMap_cons]
      have e0 : movF k n (a, b, q.1) = some (a + k, b, q.1) := by unfold movF; rw [if_pos (by dsimp only; omega)]
      rw [e0]
      dsimp only
      rw [← ih, show n - k - a - q.2 = n - k - (a + q.2) by omega]
      by_cases hx : q.2 ≤ n - k - a
      · rw [show a + k + min q.2 (n - k - a) = a + q.2 + k by omega]
      · rw [hd_neg _ (by omega)]
        simp [bl]
/-- The boundaries behind the push, as the law gathers them. -/
theorem moves_list {f n o : List (Int × Int)} {k : Int} {p : Int × Int} {r : List (Int × Int)} (hf : Pc.Vd f) (hp : f = p :: r) (h9 : ∀ p ∈ f, p.1 ≠ 9) (hk : 1 ≤ k) (h : PushOk f [(9, k)] false n o) : listV n = (if k < Pc.vol f then [(k, 9, p.1)] else []) ++ (listV f).filterMap (movF k (Pc.vol f)) := by
  have hn := moves_next hf h9 hk h
  have hv := hf.vol
  by_cases hlt : k < Pc.vol f
  · rw [if_pos hlt] at hn ⊢
    have e0 := bl_hd k (Pc.vol f) f 0 9 hf.nonneg
    rw [hn, listV_bl]
    dsimp only
    rw [Int.zero_add, Int.sub_zero] at e0
    rw [e0]
    have e1 : movF k (Pc.vol f) (0, 9, p.1) = some (k, 9, p.1) := by unfold movF; rw [if_pos (by dsimp only; omega)]; simp
    rw [hp]
    rw [listV_bl]
    rw [hp] at e1
    simp only [bl, List.filterMap_cons, e1, Int.zero_add]
    rfl
  · rw [if_neg hlt] at hn ⊢
    have e1 : (listV f).filterMap (movF k (Pc.vol f)) = [] := by
      rw [List.filterMap_eq_nil_iff]
      intro x hx
      rw [hp, listV_bl] at hx
      have hp2 := hf.nonneg p (by rw [hp]; simp)
      have := bl_ge r p.2 p.1 (fun q hq => hf.nonneg q (by rw [hp]; exact List.mem_cons_of_mem _ hq)) x hx
      unfold movF
      rw [if_neg (by omega)]
    rw [e1, hn]
    by_cases hz : Pc.vol f ≤ 0
    · rw [hd_neg _ hz]; rfl
    · rw [hd, if_neg hz]; rfl
theorem moves_ex (k n : Int) (w : List (Int × Int × Int)) (L : List (Int × Int × Int)) : ∃ Y : Nat → List (Int × Int × Int), Y 0 = w ∧ (∀ j x y z, L[j]? = some (x, y, z) → x + k < n → Y (j + 1) = Y j ++ [(x + k, y, z)]) ∧ (∀ j x y z, L[j]? = some (x, y, z) → ¬ x + k < n → Y (j + 1) = Y j) ∧ Y L.length = w ++ L.filterMap (movF k n) ∧ ∀ j, (Y j).length ≤ w.length + j := by
  refine ⟨fun j => w ++ (L.take j).filterMap (movF k n), by simp, ?_, ?_, by simp, ?_⟩
  · intro j x y z hg h
    dsimp only
    rw [take_snoc hg, List.filterMap_append]
    have : movF k n (x, y, z) = some (x + k, y, z) := by unfold movF; rw [if_pos h]
    simp [this]
  · intro j x y z hg h
    dsimp only
    rw [take_snoc hg, List.filterMap_append]
    have : movF k n (x, y, z) = none := by unfold movF; rw [if_neg h]
    simp [this]
  · intro j
    dsimp only
    rw [List.length_append]
    have := List.length_filterMap_le (movF k n) (L.take j)
    rw [List.length_take] at this
    omega
theorem at_push {f g n o : List (Int × Int)} {back : Bool} (h : PushOk f g back n o) {k : Nat} (hk : k < (Pc.litres n).length) : atV n k = (Pc.litres n).getD k (-1) := by
  unfold atV
  rw [if_pos ⟨Pc.valid_t h.vn, by omega⟩]
  exact at_litres h.vn.nonneg k
theorem ahead_go (b : Int) : ∀ (f : List (Int × Int)) (s : Int), (∀ p ∈ f, 1 ≤ p.2) → (aheadGo b f s = (0, 8) ∧ Pc.of_ f b = 0) ∨ ∃ pre v post, f = pre ++ (b, v) :: post ∧ (∀ p ∈ pre, p.1 ≠ b) ∧ aheadGo b f s = (s + Pc.vol pre, 0) ∧ Pc.of_ f b ≠ 0
  | [], s, _ => .inl (by simp [aheadGo, Pc.of_])
  | p :: r, s, h => by
    have hp := h p List.mem_cons_self
    have h2 := fun z hz => h z (List.mem_cons_of_mem _ hz)
    by_cases e : p.1 = b
    · refine .inr ⟨[], p.2, r, by rw [← e]; rfl, by simp, by simp [aheadGo, e, Pc.vol], ?_⟩
      have hb := of_count b (l := r) fun q hq => by have := h2 q hq; omega
      rw [Pc.of_, if_pos e, hb]
      omega
    · rcases ahead_go b r (s + p.2) h2 with ⟨h3, h4⟩ | ⟨pre, v, post, h3, h4, h5, h6⟩
      · exact .inl ⟨by rw [aheadGo, if_neg e, h3], by rw [Pc.of_, if_neg e, h4]; rfl⟩
      · refine .inr ⟨p :: pre, v, post, by rw [h3]; rfl, ?_, ?_, by rw [Pc.of_, if_neg e]; omega⟩
        · intro q hq
          rcases List.mem_cons.1 hq with rfl | hq
          · exact e
          · exact h4 q hq
        · rw [aheadGo, if_neg e, h5]
          simp only [Pc.vol]
          congr 1
          omega
end Go.Proofs.Ytchjindkjbpbnaa
