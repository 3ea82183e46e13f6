/- The slops of what is received; nothing lost without slop. Plain Lean. What the portions add up to, and their order. Plain Lean. -/
import Derived.Test.YtgjfkklemelejaaCuRecv
import Derived.Test.YtgjfkklemelejaaCuAwake
namespace Go.Proofs.Ytgjfkklemelejaa
open Go.RowKit Sy
set_option linter.unusedVariables false
set_option linter.unusedSimpArgs false
theorem sq_le {x y : Int} (h0 : 0 ≤ x) (h : x ≤ y) : x * x ≤ y * y := Int.mul_le_mul h h h0 (by omega)
theorem rootGo_ok {n : Int} (hn : n ≤ 4611686018427387904) : ∀ {k : Nat} {r : Int}, 0 ≤ r → r ≤ 2147483648 → r * r ≤ n → (n < (r + (2 ^ k : Nat)) * (r + (2 ^ k : Nat)) ∨ 2147483648 < r + (2 ^ k : Nat)) →
    (rootGo n k r) * (rootGo n k r) ≤ n ∧ n < (rootGo n k r + 1) * (rootGo n k r + 1)
  | 0, r, h0, hr, h1, h2 => by
    refine ⟨h1, ?_⟩
    show n < (r + 1) * (r + 1)
    rcases h2 with h2 | h2
    · simpa using h2
    · have e : r = 2147483648 := by simp at h2; omega
      subst e
      omega
  | k + 1, r, h0, hr, h1, h2 => by
    have e : (2 : Nat) ^ (k + 1) = 2 * 2 ^ k := by rw [Nat.pow_succ]; omega
    rw [e] at h2
    simp only [rootGo]
    obtain ⟨b, hb⟩ : ∃ b : Nat, 2 ^ k = b := ⟨_, rfl⟩
    rw [hb] at h2 ⊢
    have e2 : r + ((2 * b : Nat) : Int) = r + b + b := by omega
    rw [e2] at h2
    split
    · rename_i h
      exact rootGo_ok hn (k := k) (r := r + b) (by omega) h.1 h.2 (by rw [hb]; exact h2)
    · rename_i h
      refine rootGo_ok hn (k := k) (r := r) h0 hr h1 ?_
      rw [hb]
      by_cases h3 : r + (b : Int) ≤ 2147483648
      · left
        by_cases h4 : (r + (b : Int)) * (r + b) ≤ n
        · exact absurd ⟨h3, h4⟩ h
        · omega
      · right; omega
theorem rootUp_ok {n : Int} (h0 : 0 ≤ n) (hn : n ≤ 4611686018427387904) : (0 ≤ rootUpV n ∧ rootUpV n ≤ 2147483649) ∧ n ≤ rootUpV n * rootUpV n ∧ (rootUpV n = 0 ∨ (rootUpV n - 1) * (rootUpV n - 1) < n) := by
  have hr := rootV_range n
  have h := rootGo_ok hn (k := 32) (r := 0) (by omega) (by omega) (by omega) (.inr (by decide))
  have e : rootV n = rootGo n 32 0 := by unfold rootV; rw [if_pos ⟨h0, hn⟩]
  rw [← e] at h
  unfold rootUpV
  obtain ⟨s, hs⟩ : ∃ s, rootV n = s := ⟨_, rfl⟩
  rw [hs] at h hr ⊢
  by_cases h1 : s * s < n
  · rw [if_pos ⟨⟨h0, hn⟩, h1⟩]
    have e2 : s + 1 - 1 = s := by omega
    rw [e2]
    exact ⟨by omega, by omega, .inr h1⟩
  · rw [if_neg (fun hh => h1 hh.2)]
    refine ⟨by omega, by omega, ?_⟩
    by_cases h2 : s = 0
    · exact .inl h2
    · right
      have h3 : (s - 1) * (s - 1) = s * s - 2 * s + 1 := by rw [Int.sub_mul, Int.mul_sub]; omega
      omega
theorem rootUp_mono {n m : Int} (h0 : 0 ≤ n) (h : n ≤ m) (hm : m ≤ 4611686018427387904) : rootUpV n ≤ rootUpV m := by
  have a := rootUp_ok h0 (by omega)
  have b := rootUp_ok (show 0 ≤ m by omega) hm
  obtain ⟨u, hu⟩ : ∃ u, rootUpV n = u := ⟨_, rfl⟩
  obtain ⟨v, hv⟩ : ∃ u, rootUpV m = u := ⟨_, rfl⟩
  rw [hu] at a ⊢
  rw [hv] at b ⊢
  by_cases hc : u ≤ v
  · exact hc
  · exfalso
    have h1 := sq_le (x := v) (y := u - 1) b.1.1 (by omega)
    rcases a.2.2 with h2 | h2 <;> omega
theorem root_max {n : Int} (h0 : 0 ≤ n) (h : n ≤ 90000) : 0 ≤ rootUpV n ∧ rootUpV n ≤ 300 := by
  have h1 := rootUp_mono h0 h (by omega)
  have h2 : rootUpV 90000 = 300 := by rfl
  have h3 := (rootUp_ok h0 (by omega)).1.1
  omega
theorem ways_max {y : Int} (h : y ∈ waysL) : 0 ≤ y ∧ y ≤ 10000 := by
  simp only [waysL, List.mem_cons, List.not_mem_nil, or_false] at h
  omega
theorem slop_ok {f r y : Int} (hf : 0 ≤ f ∧ f ≤ 9) (hr : 1 ≤ r ∧ r ≤ 5) (hy : y ∈ waysL) : ∃ m c, mixV f y = (m, 0) ∧ 0 ≤ m ∧ m ≤ 300 ∧ 0 ≤ c ∧ c ≤ m ∧ slopAt f r y = (c, 0) ∧ (f = 0 → m = 0) ∧ (r = 1 → c = 0) := by
  have h1 := ways_max hy
  have h2 : 0 ≤ f * y := Int.mul_nonneg hf.1 h1.1
  have h3 : f * y ≤ 9 * 10000 := Int.mul_le_mul hf.2 h1.2 h1.1 (by omega)
  have h4 := root_max h2 (by omega)
  have hm := mix_ok hf.1 (by omega) h1.1 (by omega)
  obtain ⟨a, b, c, hc, hs, ha0, hb0, hc0, _, _, hcm⟩ := cut_sum (m := rootUpV (f * y)) (r := r) (by omega) hr
  refine ⟨rootUpV (f * y), c, hm, h4.1, h4.2, hc0, hcm, slopAt_yes hm hc, ?_, ?_⟩
  · rintro rfl
    rw [Int.zero_mul]
    rfl
  · rintro rfl
    unfold cutV at hc
    rw [if_pos (by omega), if_pos rfl] at hc
    simp only [Prod.mk.injEq] at hc
    omega
theorem err_none {g : Int → Int × Int} {l : List Int} (h : ∀ t ∈ l, (g t).2 = 0) : errGo g l = 0 := by
  rcases err_cases g l with ⟨h1, _⟩ | ⟨j, t, h1, _, h3, _⟩
  · exact h1
  · exact absurd (h t (mem_get h1)) h3
theorem merge_self {x : List (Int × Int)} (h : Pc.Vd x) : Pc.merge x = x := by
  rw [merge_good ⟨by have := h.len; omega, fun p hp => by have := h.each p hp; omega⟩, Pc.join_self h.canon]
theorem port_ok {x : List (Int × Int)} {t : List Int} {f r : Int} (hx : Pc.Vd x) (ht : t.length = x.length - 1) (hs : ∀ y ∈ t, (slopAt f r y).2 = 0) : portR x t f r = (poL x (t.map fun y => (slopAt f r y).1) x.length, 0) := by
  have hl := hx.len
  unfold portR
  rw [merge_self hx, if_neg (by rintro (h | h); exact h (Pc.valid_t hx); omega), if_neg (by omega), if_neg (by simp [err_none hs])]
theorem pos_zero (b : Int) (s : Bool) : pos b 0 s = [] := by unfold pos; rw [if_neg (by omega)]
theorem po_none {x : List (Int × Int)} {ss : List Int} (hx : Pc.Vd x) (hs : ∀ s ∈ ss, s = 0) : ∀ n, n ≤ x.length → poL x ss n = (x.take n).map fun p => (p.1, p.2, false)
  | 0, _ => by simp [poL_zero]
  | n + 1, hn => by
    obtain ⟨⟨b, v⟩, hp⟩ := has_get (show n < x.length by omega)
    have hv := hx.each _ (mem_get hp)
    dsimp only at hv
    have hsa : ∀ j, sAt ss j = 0 := by
      intro j
      unfold sAt
      rw [List.getD_eq_getElem?_getD]
      cases h : ss[j]? with
      | none => rfl
      | some s => exact hs s (mem_get h)
    have hva : vAt x n = v := by unfold vAt; rw [hp]; rfl
    have hb : bg x ss n = 0 := by unfold bg; rw [hsa, hva]; split <;> omega
    have he : en x ss n = 0 := by unfold en; rw [hsa, hva, hb]; split <;> omega
    rw [poL_succ, po_none hx hs n (by omega), take_snoc hp]
    unfold poAt
    rw [hb, he, hva, hp]
    simp only [Option.getD_some, pos_zero, Int.sub_zero, List.nil_append, List.append_nil, List.map_append, List.map_cons, List.map_nil]
    unfold pos
    rw [if_pos (by omega)]
theorem sum_none (x : List (Int × Int)) : sumP isS (x.map fun p => (p.1, p.2, false)) = 0 := by
  induction x with
  | nil => rfl
  | cons p r ih => simp only [List.map_cons, sumP, ih, isS]; simp
end Go.Proofs.Ytgjfkklemelejaa
namespace Go.Proofs.Ytgjfkklemelejaa
open Go.RowKit Sy
set_option linter.unusedVariables false
set_option linter.unusedSimpArgs false
def isB (b : Int) (x : Po) : Bool := x.2.2 && decide (x.1 = b)
def isL (k : Int) (x : Po) : Bool := x.2.2 && decide (x.1 < k)
theorem sumP_pos {c : Po → Bool} {b v : Int} {s : Bool} (h : 0 ≤ v) : sumP c (pos b v s) = if c (b, v, s) then v else 0 := by
  unfold pos
  by_cases hv : 0 < v
  · rw [if_pos hv]; simp [sumP]
  · rw [if_neg hv]
    have : v = 0 := by omega
    subst this
    simp [sumP]
structure PieceOk (f : List (Int × Int)) (ss : List Int) (i : Nat) (b v : Int) : Prop where
  get : f[i]? = some (b, v)
  vat : vAt f i = v
  b0 : 0 ≤ bg f ss i
  e0 : 0 ≤ en f ss i
  m0 : 0 ≤ v - bg f ss i - en f ss i
  v1 : 1 ≤ v ∧ v ≤ 1000000
theorem piece_ok {f : List (Int × Int)} {ss : List Int} (hf : Pc.Vd f) (hs : ∀ s ∈ ss, 0 ≤ s ∧ s ≤ 1000000) {i : Nat} (hi : i < f.length) : ∃ b v, PieceOk f ss i b v := by
  obtain ⟨⟨b, v⟩, hg⟩ := has_get hi
  have hv := hf.each _ (mem_get hg)
  dsimp only at hv
  have e : vAt f i = v := by unfold vAt; rw [hg]; rfl
  have := bg_en_range (f := f) (ss := ss) (i := i) hs (by omega)
  exact ⟨b, v, hg, e, this.1, this.2.2.1, by omega, by omega⟩
theorem sumP_at {f : List (Int × Int)} {ss : List Int} {i : Nat} {b v : Int} (h : PieceOk f ss i b v) (c : Po → Bool) (hc : ∀ b v w s, c (b, v, s) = c (b, w, s)) : sumP c (poAt f ss i) = (if c (b, 0, true) then bg f ss i + en f ss i else 0) + if c (b, 0, false) then v - bg f ss i - en f ss i else 0 := by
  unfold poAt
  rw [h.get, h.vat]
  simp only [Option.getD_some]
  rw [sumP_app, sumP_app, sumP_pos h.b0, sumP_pos h.m0, sumP_pos h.e0, hc b (bg f ss i) 0 true, hc b (en f ss i) 0 true, hc b (v - bg f ss i - en f ss i) 0 false]
  cases c (b, 0, true) <;> cases c (b, 0, false) <;> simp <;> omega
theorem of_snoc2 : ∀ (a : List (Int × Int)) (p : Int × Int) (b : Int), Pc.of_ (a ++ [p]) b = Pc.of_ a b + if p.1 = b then p.2 else 0
  | [], p, b => by simp only [List.nil_append, Pc.of_]; split <;> omega
  | q :: r, p, b => by simp only [List.cons_append, Pc.of_, of_snoc2 r p b]; split <;> omega
/-- The portions of a batch add up to what was received of it. -/
theorem sums_batch {f : List (Int × Int)} {ss : List Int} (hf : Pc.Vd f) (hs : ∀ s ∈ ss, 0 ≤ s ∧ s ≤ 1000000) (b : Int) : ∀ n, n ≤ f.length → sumP (isG b) (poL f ss n) + sumP (isB b) (poL f ss n) = Pc.of_ (f.take n) b
  | 0, _ => by simp [poL_zero, sumP, Pc.of_]
  | n + 1, hn => by
    obtain ⟨c, v, h⟩ := piece_ok (ss := ss) hf hs (show n < f.length by omega)
    have ih := sums_batch hf hs b n (by omega)
    rw [poL_succ, sumP_app, sumP_app, take_snoc h.get, of_snoc2, sumP_at h (isG b) (by intros; rfl), sumP_at h (isB b) (by intros; rfl)]
    simp only [isG, isB, Bool.not_true, Bool.false_and, Bool.not_false, Bool.true_and, decide_eq_true_eq]
    by_cases e : c = b
    · simp [e]; omega
    · simp [e]; omega
/-- Each portion has a volume and a batch of a piece. -/
theorem po_mem {f : List (Int × Int)} {ss : List Int} {n : Nat} (hf : Pc.Vd f) (hs : ∀ s ∈ ss, 0 ≤ s ∧ s ≤ 1000000) (hn : n ≤ f.length) : ∀ x ∈ poL f ss n, 1 ≤ x.2.1 ∧ x.2.1 ≤ 1000000 ∧ ∃ p ∈ f, p.1 = x.1 := by
  intro x hx
  unfold poL at hx
  obtain ⟨i, hi, hx⟩ := List.mem_flatMap.1 hx
  have hi := List.mem_range.1 hi
  obtain ⟨c, v, h⟩ := piece_ok (ss := ss) hf hs (show i < f.length by omega)
  have key : ∀ w s, 0 ≤ w → w ≤ v → x ∈ pos c w s → 1 ≤ x.2.1 ∧ x.2.1 ≤ 1000000 ∧ ∃ p ∈ f, p.1 = x.1 := by
    intro w s h0 h1 hm
    unfold pos at hm
    split at hm
    · obtain rfl := List.mem_singleton.1 hm
      have := h.v1
      exact ⟨by dsimp only; omega, by dsimp only; omega, (c, v), mem_get h.get, rfl⟩
    · cases hm
  unfold poAt at hx
  rw [h.get, h.vat] at hx
  simp only [Option.getD_some, List.mem_append] at hx
  have a := h.b0
  have b := h.e0
  have d := h.m0
  rcases hx with hx | hx | hx
  · exact key _ _ (by omega) (by omega) hx
  · exact key _ _ (by omega) (by omega) hx
  · exact key _ _ (by omega) (by omega) hx
theorem po_small {f : List (Int × Int)} {ss : List Int} (hf : Pc.Vd f) (hs : ∀ s ∈ ss, 0 ≤ s ∧ s ≤ 1000000) : SmallP (poL f ss f.length) := by
  have h1 := poL_len f ss f.length
  have h2 := hf.len
  refine ⟨by omega, fun x hx => ?_⟩
  have := po_mem hf hs (Nat.le_refl _) x hx
  omega
theorem sumP_congr {c d : Po → Bool} : ∀ {l : List Po}, (∀ x ∈ l, c x = d x) → sumP c l = sumP d l
  | [], _ => rfl
  | x :: r, h => by
    simp only [sumP]
    rw [h x List.mem_cons_self, sumP_congr fun y hy => h y (List.mem_cons_of_mem _ hy)]
theorem sumP_step (k : Int) : ∀ l : List Po, sumP (isL (k + 1)) l = sumP (isL k) l + sumP (isB k) l
  | [] => rfl
  | (b, v, s) :: r => by
    simp only [sumP, sumP_step k r, isL, isB]
    cases s
    · simp
    · by_cases h1 : b = k
      · simp [h1]; omega
      · by_cases h2 : b < k
        · simp [h1, h2, show b < k + 1 by omega]; omega
        · simp [h1, h2, show ¬ b < k + 1 by omega]
/-- The slops added. -/
def ssum : List Int → Int
  | [] => 0
  | s :: r => s + ssum r
theorem ssum_app : ∀ a b : List Int, ssum (a ++ b) = ssum a + ssum b
  | [], b => by simp [ssum]
  | s :: r, b => by simp only [List.cons_append, ssum, ssum_app r b]; omega
theorem slop_part {f : List (Int × Int)} {ss : List Int} (hf : Pc.Vd f) (hs : ∀ s ∈ ss, 0 ≤ s ∧ s ≤ 1000000) : ∀ n, n < f.length → sumP isS (poL f ss (n + 1)) ≤ ssum (ss.take n) + sAt ss n / 2
  | 0, hn => by
    obtain ⟨c, v, h⟩ := piece_ok (ss := ss) hf hs hn
    rw [poL_succ, sumP_app, sumP_at h isS (by intros; rfl), poL_zero]
    have hb : bg f ss 0 = 0 := rfl
    have he : en f ss 0 ≤ sAt ss 0 / 2 := by
      have hsa : 0 ≤ sAt ss 0 := by
        unfold sAt
        rw [List.getD_eq_getElem?_getD]
        cases h : ss[0]? with
        | none => simp
        | some s => exact (hs s (mem_get h)).1
      unfold en; split <;> omega
    simp only [isS, sumP, List.take_zero, ssum]
    simp
    omega
  | n + 1, hn => by
    obtain ⟨c, v, h⟩ := piece_ok (ss := ss) hf hs hn
    have ih := slop_part hf hs n (by omega)
    rw [poL_succ, sumP_app, sumP_at h isS (by intros; rfl)]
    have hsa : ∀ j, 0 ≤ sAt ss j := by
      intro j
      unfold sAt
      rw [List.getD_eq_getElem?_getD]
      cases h : ss[j]? with
      | none => simp
      | some s => exact (hs s (mem_get h)).1
    have hb : bg f ss (n + 1) ≤ sAt ss n - sAt ss n / 2 := by unfold bg; rw [if_neg (by omega)]; simp only [Nat.add_sub_cancel]; omega
    have he : en f ss (n + 1) ≤ sAt ss (n + 1) / 2 := by have := hsa (n + 1); unfold en; split <;> omega
    have ht : ssum (ss.take (n + 1)) = ssum (ss.take n) + sAt ss n := by
      cases hg : ss[n]? with
      | none =>
        have hl := List.getElem?_eq_none_iff.1 hg
        rw [List.take_of_length_le (by omega), List.take_of_length_le hl]
        unfold sAt
        rw [List.getD_eq_getElem?_getD, hg]
        simp
      | some s =>
        rw [take_snoc hg, ssum_app]
        unfold sAt
        rw [List.getD_eq_getElem?_getD, hg]
        simp [ssum]
    simp only [isS]
    simp
    omega
theorem slop_max {f : List (Int × Int)} {ss : List Int} (hf : Pc.Vd f) (hs : ∀ s ∈ ss, 0 ≤ s ∧ s ≤ 1000000) (hl : ss.length = f.length - 1) : sumP isS (poL f ss f.length) ≤ ssum ss := by
  by_cases h0 : f.length = 0
  · rw [h0, poL_zero]
    have : ss = [] := List.eq_nil_of_length_eq_zero (by omega)
    rw [this]; simp [sumP, ssum]
  · have h := slop_part hf hs (f.length - 1) (by omega)
    rw [show f.length - 1 + 1 = f.length by omega, ← hl, List.take_length] at h
    have e : sAt ss ss.length = 0 := by unfold sAt; rw [List.getD_eq_getElem?_getD, List.getElem?_eq_none (by omega)]; rfl
    rw [e] at h
    omega
/-- Which piece each portion is of. -/
def jL (f : List (Int × Int)) (ss : List Int) (n : Nat) : List Nat := (List.range n).flatMap fun i => (poAt f ss i).map fun _ => i
theorem jL_succ (f : List (Int × Int)) (ss : List Int) (n : Nat) : jL f ss (n + 1) = jL f ss n ++ (poAt f ss n).map fun _ => n := by
  unfold jL; rw [List.range_succ, List.flatMap_append]; simp
theorem jL_len (f : List (Int × Int)) (ss : List Int) : ∀ n, (jL f ss n).length = (poL f ss n).length
  | 0 => rfl
  | n + 1 => by rw [jL_succ, poL_succ, List.length_append, List.length_append, jL_len f ss n, List.length_map]
theorem jL_lt (f : List (Int × Int)) (ss : List Int) : ∀ n, ∀ j ∈ jL f ss n, j < n := by
  intro n j hj
  unfold jL at hj
  obtain ⟨i, hi, hj⟩ := List.mem_flatMap.1 hj
  obtain ⟨_, _, rfl⟩ := List.mem_map.1 hj
  exact List.mem_range.1 hi
theorem jL_sorted (f : List (Int × Int)) (ss : List Int) : ∀ n, (jL f ss n).Pairwise (· ≤ ·)
  | 0 => List.Pairwise.nil
  | n + 1 => by
    rw [jL_succ, List.pairwise_append]
    refine ⟨jL_sorted f ss n, ?_, ?_⟩
    · rw [List.pairwise_map]
      exact List.Pairwise.imp (fun _ => Nat.le_refl _) (List.pairwise_of_forall (R := fun _ _ => True) (fun _ _ => trivial))
    · intro a ha b hb
      obtain ⟨_, _, rfl⟩ := List.mem_map.1 hb
      have := jL_lt f ss n a ha
      omega
theorem jL_get {f : List (Int × Int)} {ss : List Int} (hf : Pc.Vd f) (hs : ∀ s ∈ ss, 0 ≤ s ∧ s ≤ 1000000) : ∀ n, n ≤ f.length → ∀ (i : Nat) (b v : Int) (s : Bool), (poL f ss n)[i]? = some (b, v, s) → ∃ j w, (jL f ss n)[i]? = some j ∧ f[j]? = some (b, w)
  | 0, _, i, b, v, s, h => by simp [poL_zero] at h
  | n + 1, hn, i, b, v, s, h => by
    rw [poL_succ] at h
    rw [jL_succ]
    by_cases hi : i < (poL f ss n).length
    · rw [List.getElem?_append_left hi] at h
      obtain ⟨j, w, h1, h2⟩ := jL_get hf hs n (by omega) i b v s h
      refine ⟨j, w, ?_, h2⟩
      rw [List.getElem?_append_left (by rw [jL_len]; exact hi), h1]
    · rw [List.getElem?_append_right (by omega)] at h
      obtain ⟨c, w, hp⟩ := piece_ok (ss := ss) hf hs (show n < f.length by omega)
      have hlt := (List.getElem?_eq_some_iff.1 h).1
      refine ⟨n, w, ?_, ?_⟩
      · rw [List.getElem?_append_right (by rw [jL_len]; omega), jL_len, List.getElem?_map, h]
        rfl
      · have hm := mem_get h
        unfold poAt at hm
        rw [hp.get] at hm
        simp only [Option.getD_some, List.mem_append] at hm
        have key : ∀ w s', (b, v, s) ∈ pos c w s' → b = c := by
          intro w s' hm
          unfold pos at hm
          split at hm
          · have := List.mem_singleton.1 hm
            simp only [Prod.mk.injEq] at this
            exact this.1
          · cases hm
        have hb : b = c := by
          rcases hm with hm | hm | hm
          · exact key _ _ hm
          · exact key _ _ hm
          · exact key _ _ hm
        rw [hb]; exact hp.get
theorem jL_mono {f : List (Int × Int)} {ss : List Int} {n i : Nat} {j k : Nat} (h1 : (jL f ss n)[i]? = some j) (h2 : (jL f ss n)[i + 1]? = some k) : j ≤ k := by
  obtain ⟨l1, e1⟩ := List.getElem?_eq_some_iff.1 h1
  obtain ⟨l2, e2⟩ := List.getElem?_eq_some_iff.1 h2
  have := List.pairwise_iff_getElem.1 (jL_sorted f ss n) i (i + 1) l1 l2 (by omega)
  rw [e1, e2] at this
  exact this
/-- The mixtures added. -/
theorem mix_ex {f r : Int} (hf : 0 ≤ f ∧ f ≤ 9) (hr : 1 ≤ r ∧ r ≤ 5) {t : List Int} (ht : ∀ y ∈ t, y ∈ waysL) (hl : t.length ≤ 1000) : ∃ Z : Nat → Int, Z 0 = 0 ∧ (∀ k y, t[k]? = some y → ∃ m, mixV f y = (m, 0) ∧ 0 ≤ m ∧ m ≤ 300 ∧ Z (k + 1) = Z k + m) ∧ (∀ k, 0 ≤ Z k ∧ Z k ≤ 300000) ∧ ssum (t.map fun y => (slopAt f r y).1) ≤ Z t.length := by
  have key : ∀ l : List Int, (∀ y ∈ l, y ∈ waysL) → 0 ≤ ssum (l.map fun y => (mixV f y).1) ∧ ssum (l.map fun y => (mixV f y).1) ≤ 300 * (l.length : Int) ∧ ssum (l.map fun y => (slopAt f r y).1) ≤ ssum (l.map fun y => (mixV f y).1) := by
    intro l
    induction l with
    | nil => intro _; simp [ssum]
    | cons y s ih =>
      intro h
      obtain ⟨a1, a2, a3⟩ := ih fun z hz => h z (List.mem_cons_of_mem _ hz)
      obtain ⟨m, c, b1, b2, b3, b4, b5, b6, _⟩ := slop_ok hf hr (h y List.mem_cons_self)
      simp only [List.map_cons, ssum, b1, b6, List.length_cons]
      omega
  refine ⟨fun k => ssum ((t.take k).map fun y => (mixV f y).1), by simp [ssum], ?_, ?_, ?_⟩
  · intro k y hy
    obtain ⟨m, c, b1, b2, b3, _⟩ := slop_ok hf hr (ht y (mem_get hy))
    refine ⟨m, b1, b2, b3, ?_⟩
    simp only
    rw [take_snoc hy, List.map_append, ssum_app]
    simp [ssum, b1]
  · intro k
    have := key (t.take k) fun y hy => ht y (List.mem_of_mem_take hy)
    rw [List.length_take] at this
    dsimp only
    omega
  · have := key t ht
    simp only [List.take_length]
    exact this.2.2
end Go.Proofs.Ytgjfkklemelejaa
