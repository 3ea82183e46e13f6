/- Comparing, searching in sorted lists. No condition. Searching in sorted lists. No condition. Copying. No condition. intake.waiting. No condition. -/
import Derived.Test.YtopmmodcaoaaeaaTgB
import Derived.Test.YtopmmodcaoaaeaaSyW
import Derived.Test.YtopmmodcaoaaeaaWBits
import Derived.Test.YtopmmodcaoaaeaaTgE
namespace Go.Proofs.Ytopmmodcaoaaeaa
open Go.RowKit Sy
open Go.IntWalk renaming iteOmega → iO, toNatUp → tN
set_option linter.unusedVariables false
set_option linter.unusedSimpArgs false
structure Wt where
  st : Int
  ep : Int
  nx : Int
  held : List Tg
@[go_sem] def encTgs (l : List Tg) : T := .sl 6 (l.map encTg)
@[go_sem] def encWt (w : Wt) : T := .agg [.int w.st, .int w.ep, .int w.nx, encTgs w.held]
@[go_sem] def encWts (l : List Wt) : T := .sl 4 (l.map encWt)
def cmpV (a b : Int) : Int := if a < b then -1 else if b < a then 1 else 0
set_option maxRecDepth 100000 in
theorem isNaN_fn (a : Int) : FnOk Try.prog 80 [.t (.int a)] [] (.t (.bool false)) [] := by
  refine FnOk.intro fact_mixed Try.func80 rfl Try.ntmps80 (by rfl) (by simp) ?_
  repeat (first | (refine nf1_sound rfl ?_; simp [go_sem, ↓iO, iO, tN]; (repeat (refine anI ?_)); try (refine ⟨dcK, ?_⟩)) | ((first | refine itePos (by omega) ?_ | refine iteNeg (by omega) ?_); try simp [go_sem, ↓iO, iO, tN]) | (refine ⟨dcK, ?_⟩))
  first | rw [RetQ_ret] | rw [RetQ_normal]
  refine ⟨[], ?_⟩
  simp [go_sem, ↓iO, iO, tN]
set_option maxRecDepth 100000 in
set_option maxHeartbeats 4000000 in
theorem compare_fn (a b c : Int) (hc : cmpV a b = c) : FnOk Try.prog 58 [.t (.int a), .t (.int b)] [] (.t (.int c)) [] := by
  subst hc
  unfold cmpV
  by_cases h1 : a < b
  · rw [if_pos h1]
    refine FnOk.intro fact_mixed Try.func58 rfl Try.ntmps58 (by rfl) (by simp) ?_
    repeat (first | (refine nf1_sound rfl ?_; simp [go_sem, ↓iO, iO, tN]; (repeat (refine anI ?_)); try (refine ⟨dcK, ?_⟩)) | ((first | refine itePos (by omega) ?_ | refine iteNeg (by omega) ?_); try simp [go_sem, ↓iO, iO, tN]) | (refine ⟨dcK, ?_⟩))
    refine CallK.fn (isNaN_fn a) [] [] [] (by kernel_rfl) ?_ ?_ ?_ (Or.inl rfl) ?_ <;> simp [go_sem, ↓iO, iO, tN]
    repeat (refine anI ?_)
    try (refine ⟨dcK, ?_⟩)
    repeat (first | (refine nf1_sound rfl ?_; simp [go_sem, ↓iO, iO, tN]; (repeat (refine anI ?_)); try (refine ⟨dcK, ?_⟩)) | ((first | refine itePos (by omega) ?_ | refine iteNeg (by omega) ?_); try simp [go_sem, ↓iO, iO, tN]) | (refine ⟨dcK, ?_⟩))
    refine CallK.fn (isNaN_fn b) [] [] [] (by kernel_rfl) ?_ ?_ ?_ (Or.inl rfl) ?_ <;> simp [go_sem, ↓iO, iO, tN]
    repeat (refine anI ?_)
    try (refine ⟨dcK, ?_⟩)
    repeat (first | (refine nf1_sound rfl ?_; simp [go_sem, ↓iO, iO, tN]; (repeat (refine anI ?_)); try (refine ⟨dcK, ?_⟩)) | ((first | refine itePos (by omega) ?_ | refine iteNeg (by omega) ?_); try simp [go_sem, ↓iO, iO, tN]) | (refine ⟨dcK, ?_⟩))
    first | rw [RetQ_ret] | rw [RetQ_normal]
    refine ⟨[], ?_⟩
    simp [go_sem, ↓iO, iO, tN]
  · rw [if_neg h1]
    by_cases h2 : b < a
    · rw [if_pos h2]
      refine FnOk.intro fact_mixed Try.func58 rfl Try.ntmps58 (by rfl) (by simp) ?_
      repeat (first | (refine nf1_sound rfl ?_; simp [go_sem, ↓iO, iO, tN]; (repeat (refine anI ?_)); try (refine ⟨dcK, ?_⟩)) | ((first | refine itePos (by omega) ?_ | refine iteNeg (by omega) ?_); try simp [go_sem, ↓iO, iO, tN]) | (refine ⟨dcK, ?_⟩))
      refine CallK.fn (isNaN_fn a) [] [] [] (by kernel_rfl) ?_ ?_ ?_ (Or.inl rfl) ?_ <;> simp [go_sem, ↓iO, iO, tN]
      repeat (refine anI ?_)
      try (refine ⟨dcK, ?_⟩)
      repeat (first | (refine nf1_sound rfl ?_; simp [go_sem, ↓iO, iO, tN]; (repeat (refine anI ?_)); try (refine ⟨dcK, ?_⟩)) | ((first | refine itePos (by omega) ?_ | refine iteNeg (by omega) ?_); try simp [go_sem, ↓iO, iO, tN]) | (refine ⟨dcK, ?_⟩))
      refine CallK.fn (isNaN_fn b) [] [] [] (by kernel_rfl) ?_ ?_ ?_ (Or.inl rfl) ?_ <;> simp [go_sem, ↓iO, iO, tN]
      repeat (refine anI ?_)
      try (refine ⟨dcK, ?_⟩)
      repeat (first | (refine nf1_sound rfl ?_; simp [go_sem, ↓iO, iO, tN]; (repeat (refine anI ?_)); try (refine ⟨dcK, ?_⟩)) | ((first | refine itePos (by omega) ?_ | refine iteNeg (by omega) ?_); try simp [go_sem, ↓iO, iO, tN]) | (refine ⟨dcK, ?_⟩))
      first | rw [RetQ_ret] | rw [RetQ_normal]
      refine ⟨[], ?_⟩
      simp [go_sem, ↓iO, iO, tN]
    · rw [if_neg h2]
      refine FnOk.intro fact_mixed Try.func58 rfl Try.ntmps58 (by rfl) (by simp) ?_
      repeat (first | (refine nf1_sound rfl ?_; simp [go_sem, ↓iO, iO, tN]; (repeat (refine anI ?_)); try (refine ⟨dcK, ?_⟩)) | ((first | refine itePos (by omega) ?_ | refine iteNeg (by omega) ?_); try simp [go_sem, ↓iO, iO, tN]) | (refine ⟨dcK, ?_⟩))
      refine CallK.fn (isNaN_fn a) [] [] [] (by kernel_rfl) ?_ ?_ ?_ (Or.inl rfl) ?_ <;> simp [go_sem, ↓iO, iO, tN]
      repeat (refine anI ?_)
      try (refine ⟨dcK, ?_⟩)
      repeat (first | (refine nf1_sound rfl ?_; simp [go_sem, ↓iO, iO, tN]; (repeat (refine anI ?_)); try (refine ⟨dcK, ?_⟩)) | ((first | refine itePos (by omega) ?_ | refine iteNeg (by omega) ?_); try simp [go_sem, ↓iO, iO, tN]) | (refine ⟨dcK, ?_⟩))
      refine CallK.fn (isNaN_fn b) [] [] [] (by kernel_rfl) ?_ ?_ ?_ (Or.inl rfl) ?_ <;> simp [go_sem, ↓iO, iO, tN]
      repeat (refine anI ?_)
      try (refine ⟨dcK, ?_⟩)
      repeat (first | (refine nf1_sound rfl ?_; simp [go_sem, ↓iO, iO, tN]; (repeat (refine anI ?_)); try (refine ⟨dcK, ?_⟩)) | ((first | refine itePos (by omega) ?_ | refine iteNeg (by omega) ?_); try simp [go_sem, ↓iO, iO, tN]) | (refine ⟨dcK, ?_⟩))
      first | rw [RetQ_ret] | rw [RetQ_normal]
      refine ⟨[], ?_⟩
      simp [go_sem, ↓iO, iO, tN]
set_option maxRecDepth 100000 in
theorem cmpSt_fn (w : Wt) (b c : Int) (hc : cmpV w.st b = c) : FnOk Try.prog 57 [.t (encWt w), .t (.int b)] [] (.t (.int c)) [] := by
  refine FnOk.intro fact_mixed Try.func57 rfl Try.ntmps57 (by rfl) (by simp) ?_
  repeat (first | (refine nf1_sound rfl ?_; simp [go_sem, ↓iO, iO, tN]; (repeat (refine anI ?_)); try (refine ⟨dcK, ?_⟩)) | ((first | refine itePos (by omega) ?_ | refine iteNeg (by omega) ?_); try simp [go_sem, ↓iO, iO, tN]) | (refine ⟨dcK, ?_⟩))
  refine CallK.fn (compare_fn w.st b c hc) [] [] [] (by kernel_rfl) ?_ ?_ ?_ (Or.inl rfl) ?_ <;> simp [go_sem, ↓iO, iO, tN]
  repeat (refine anI ?_)
  try (refine ⟨dcK, ?_⟩)
  repeat (first | (refine nf1_sound rfl ?_; simp [go_sem, ↓iO, iO, tN]; (repeat (refine anI ?_)); try (refine ⟨dcK, ?_⟩)) | ((first | refine itePos (by omega) ?_ | refine iteNeg (by omega) ?_); try simp [go_sem, ↓iO, iO, tN]) | (refine ⟨dcK, ?_⟩))
  first | rw [RetQ_ret] | rw [RetQ_normal]
  refine ⟨[], ?_⟩
  simp [go_sem, ↓iO, iO, tN]
set_option maxRecDepth 100000 in
theorem cmpSq_fn (t : Tg) (b c : Int) (hc : cmpV t.sq b = c) : FnOk Try.prog 84 [.t (encTg t), .t (.int b)] [] (.t (.int c)) [] := by
  refine FnOk.intro fact_mixed Try.func84 rfl Try.ntmps84 (by rfl) (by simp) ?_
  repeat (first | (refine nf1_sound rfl ?_; simp [go_sem, ↓iO, iO, tN]; (repeat (refine anI ?_)); try (refine ⟨dcK, ?_⟩)) | ((first | refine itePos (by omega) ?_ | refine iteNeg (by omega) ?_); try simp [go_sem, ↓iO, iO, tN]) | (refine ⟨dcK, ?_⟩))
  refine CallK.fn (compare_fn t.sq b c hc) [] [] [] (by kernel_rfl) ?_ ?_ ?_ (Or.inl rfl) ?_ <;> simp [go_sem, ↓iO, iO, tN]
  repeat (refine anI ?_)
  try (refine ⟨dcK, ?_⟩)
  repeat (first | (refine nf1_sound rfl ?_; simp [go_sem, ↓iO, iO, tN]; (repeat (refine anI ?_)); try (refine ⟨dcK, ?_⟩)) | ((first | refine itePos (by omega) ?_ | refine iteNeg (by omega) ?_); try simp [go_sem, ↓iO, iO, tN]) | (refine ⟨dcK, ?_⟩))
  first | rw [RetQ_ret] | rw [RetQ_normal]
  refine ⟨[], ?_⟩
  simp [go_sem, ↓iO, iO, tN]
/-- The first place at which the key is not less. -/
def lb (t : Int) : List Int → Nat
  | [] => 0
  | k :: r => if k < t then lb t r + 1 else 0
theorem lb_le (t : Int) : ∀ l : List Int, lb t l ≤ l.length
  | [] => Nat.le_refl _
  | k :: r => by
    have := lb_le t r
    unfold lb; split <;> simp <;> omega
/-- Strictly ascending. -/
def Asc : List Int → Prop
  | [] => True
  | [_] => True
  | a :: b :: r => a < b ∧ Asc (b :: r)
theorem asc_lt : ∀ {l : List Int} {a : Int}, Asc (a :: l) → ∀ x ∈ l, a < x
  | [], _, _, x, hx => by cases hx
  | b :: r, a, h, x, hx => by
    rcases List.mem_cons.1 hx with rfl | hx
    · exact h.1
    · have := asc_lt h.2 x hx; have := h.1; omega
theorem asc_tail {a : Int} {l : List Int} (h : Asc (a :: l)) : Asc l := by
  cases l with
  | nil => trivial
  | cons b r => exact h.2
theorem lb_iff {t : Int} : ∀ {l : List Int}, Asc l → ∀ {i : Nat} {x : Int}, l[i]? = some x → (x < t ↔ i < lb t l)
  | [], _, i, x, h => by simp at h
  | k :: r, hs, i, x, h => by
    unfold lb
    cases i with
    | zero =>
      simp at h; subst h
      split <;> omega
    | succ i =>
      simp at h
      have ih := lb_iff (t := t) (asc_tail hs) h
      have hk := asc_lt hs x (List.mem_of_getElem? h)
      split <;> omega
end Go.Proofs.Ytopmmodcaoaaeaa
namespace Go.Proofs.Ytopmmodcaoaaeaa
open Go.RowKit Sy
open Go.IntWalk renaming iteOmega → iO, toNatUp → tN
set_option linter.unusedVariables false
set_option linter.unusedSimpArgs false
theorem half_sum {i j h : Nat} (he : (i + j) / 2 = h) : ((i : Int) + (j : Int)) / 2 = (h : Int) := by omega
set_option maxRecDepth 100000 in
set_option maxHeartbeats 8000000 in
theorem bsW_fn (ws : List Wt) (t : Int) (hl : ws.length ≤ 1000000) (ha : Asc (ws.map (·.st))) (n : Nat) (hn : lb t (ws.map (·.st)) = n) (g : Bool) (hg : g = decide ((ws.map (·.st))[n]? = some t)) : FnOk Try.prog 56 [.t (encWts ws), .t (.int t), .fn 57 []] [] (.tup [.t (.int n), .t (.bool g)]) [] := by
  refine FnOk.intro fact_mixed Try.func56 rfl Try.ntmps56 (by rfl) (by simp) ?_
  repeat (first | (refine nf1_sound rfl ?_; simp [go_sem, ↓iO, iO, tN]; (repeat (refine anI ?_)); try (refine ⟨dcK, ?_⟩)) | ((first | refine itePos (by omega) ?_ | refine iteNeg (by omega) ?_); try simp [go_sem, ↓iO, iO, tN]) | (refine ⟨dcK, ?_⟩))
  refine nf1_sound' _ _ _ ?_; simp only [nf1]
  refine CW.loop (ι := Nat × Nat) (fun p => ⟨[(0, .t (encWts ws)), (1, .t (.int t)), (2, .fn 57 []), (8, .t (.int ws.length)), (9, .t (.int p.1)), (10, .t (.int p.2))], []⟩) (fun p => p.1 ≤ n ∧ n ≤ p.2 ∧ p.2 ≤ ws.length) (fun p => p.2 - p.1) (0, ws.length) [] ?_ ?_ ?_
  · have := lb_le t (ws.map (·.st))
    simp at this
    dsimp only
    omega
  · simp [go_sem, ↓iO, iO, tN]
  rintro ⟨i, j⟩ ⟨h1, h2, h3⟩
  dsimp only at h1 h2 h3
  by_cases hij : i < j
  · obtain ⟨h, he⟩ : ∃ h, (i + j) / 2 = h := ⟨_, rfl⟩
    have hh := half_sum he
    obtain ⟨w, hw⟩ := has_get (show h < ws.length by omega)
    have hk := lb_iff (t := t) ha (i := h) (x := w.st) (by simp [hw])
    rw [hn] at hk
    by_cases hs : w.st < t
    · have c := cmpSt_fn w t (-1) (by unfold cmpV; simp [hs])
      repeat (first | (refine nf1_sound rfl ?_; simp [go_sem, ↓iO, iO, tN, hh, he, hw]; (repeat (refine anI ?_)); try (refine ⟨dcK, ?_⟩)) | ((first | refine itePos (by omega) ?_ | refine iteNeg (by omega) ?_); try simp [go_sem, ↓iO, iO, tN, hh, he, hw]) | (refine ⟨dcK, ?_⟩))
      refine CallK.fn (c) [] [] [] (by kernel_rfl) ?_ ?_ ?_ (Or.inl rfl) ?_ <;> simp [go_sem, ↓iO, iO, tN]
      repeat (refine anI ?_)
      try (refine ⟨dcK, ?_⟩)
      repeat (first | (refine nf1_sound rfl ?_; simp [go_sem, ↓iO, iO, tN]; (repeat (refine anI ?_)); try (refine ⟨dcK, ?_⟩)) | ((first | refine itePos (by omega) ?_ | refine iteNeg (by omega) ?_); try simp [go_sem, ↓iO, iO, tN]) | (refine ⟨dcK, ?_⟩))
      rw [RoundQ_normal]; refine ⟨(h + 1, j), [], ?_, ?_, ?_⟩
      · dsimp only; omega
      · dsimp only; omega
      simp [go_sem, ↓iO, iO, tN]
    · obtain ⟨v, hv, hv0⟩ : ∃ v, cmpV w.st t = v ∧ ¬ v < 0 := ⟨_, rfl, by unfold cmpV; split <;> (try split) <;> omega⟩
      have c := cmpSt_fn w t v hv
      repeat (first | (refine nf1_sound rfl ?_; simp [go_sem, ↓iO, iO, tN, hh, he, hw]; (repeat (refine anI ?_)); try (refine ⟨dcK, ?_⟩)) | ((first | refine itePos (by omega) ?_ | refine iteNeg (by omega) ?_); try simp [go_sem, ↓iO, iO, tN, hh, he, hw]) | (refine ⟨dcK, ?_⟩))
      refine CallK.fn (c) [] [] [] (by kernel_rfl) ?_ ?_ ?_ (Or.inl rfl) ?_ <;> simp [go_sem, ↓iO, iO, tN]
      repeat (refine anI ?_)
      try (refine ⟨dcK, ?_⟩)
      repeat (first | (refine nf1_sound rfl ?_; simp [go_sem, ↓iO, iO, tN, hv0]; (repeat (refine anI ?_)); try (refine ⟨dcK, ?_⟩)) | ((first | refine itePos (by omega) ?_ | refine iteNeg (by omega) ?_); try simp [go_sem, ↓iO, iO, tN, hv0]) | (refine ⟨dcK, ?_⟩))
      rw [RoundQ_normal]; refine ⟨(i, h), [], ?_, ?_, ?_⟩
      · dsimp only; omega
      · dsimp only; omega
      simp [go_sem, ↓iO, iO, tN]
  · obtain rfl : i = j := by omega
    obtain rfl : n = i := by omega
    clear hn
    by_cases hin : n < ws.length
    · obtain ⟨w, hw⟩ := has_get hin
      have c := cmpSt_fn w t (cmpV w.st t) rfl
      repeat (first | (refine nf1_sound rfl ?_; simp [go_sem, ↓iO, iO, tN, hw]; (repeat (refine anI ?_)); try (refine ⟨dcK, ?_⟩)) | ((first | refine itePos (by omega) ?_ | refine iteNeg (by omega) ?_); try simp [go_sem, ↓iO, iO, tN, hw]) | (refine ⟨dcK, ?_⟩))
      refine CallK.fn (c) [] [] [] (by kernel_rfl) ?_ ?_ ?_ (Or.inl rfl) ?_ <;> simp [go_sem, ↓iO, iO, tN]
      repeat (refine anI ?_)
      try (refine ⟨dcK, ?_⟩)
      repeat (first | (refine nf1_sound rfl ?_; simp [go_sem, ↓iO, iO, tN]; (repeat (refine anI ?_)); try (refine ⟨dcK, ?_⟩)) | ((first | refine itePos (by omega) ?_ | refine iteNeg (by omega) ?_); try simp [go_sem, ↓iO, iO, tN]) | (refine ⟨dcK, ?_⟩))
      first | rw [RetQ_ret] | rw [RetQ_normal]
      refine ⟨[], ?_⟩
      simp [go_sem, ↓iO, iO, tN]
      subst hg
      simp [hw]
      unfold cmpV
      grind
    · repeat (first | (refine nf1_sound rfl ?_; simp [go_sem, ↓iO, iO, tN, hin]; (repeat (refine anI ?_)); try (refine ⟨dcK, ?_⟩)) | ((first | refine itePos (by omega) ?_ | refine iteNeg (by omega) ?_); try simp [go_sem, ↓iO, iO, tN, hin]) | (refine ⟨dcK, ?_⟩))
      first | rw [RetQ_ret] | rw [RetQ_normal]
      refine ⟨[], ?_⟩
      simp [go_sem, ↓iO, iO, tN]
      subst hg
      have hz : ws[n]? = none := List.getElem?_eq_none (by omega)
      simp [hz]
set_option maxRecDepth 100000 in
set_option maxHeartbeats 8000000 in
theorem bsT_fn (ws : List Tg) (t : Int) (hl : ws.length ≤ 1000000) (ha : Asc (ws.map (·.sq))) (n : Nat) (hn : lb t (ws.map (·.sq)) = n) (g : Bool) (hg : g = decide ((ws.map (·.sq))[n]? = some t)) : FnOk Try.prog 83 [.t (encTgs ws), .t (.int t), .fn 84 []] [] (.tup [.t (.int n), .t (.bool g)]) [] := by
  refine FnOk.intro fact_mixed Try.func83 rfl Try.ntmps83 (by rfl) (by simp) ?_
  repeat (first | (refine nf1_sound rfl ?_; simp [go_sem, ↓iO, iO, tN]; (repeat (refine anI ?_)); try (refine ⟨dcK, ?_⟩)) | ((first | refine itePos (by omega) ?_ | refine iteNeg (by omega) ?_); try simp [go_sem, ↓iO, iO, tN]) | (refine ⟨dcK, ?_⟩))
  refine nf1_sound' _ _ _ ?_; simp only [nf1]
  refine CW.loop (ι := Nat × Nat) (fun p => ⟨[(0, .t (encTgs ws)), (1, .t (.int t)), (2, .fn 84 []), (8, .t (.int ws.length)), (9, .t (.int p.1)), (10, .t (.int p.2))], []⟩) (fun p => p.1 ≤ n ∧ n ≤ p.2 ∧ p.2 ≤ ws.length) (fun p => p.2 - p.1) (0, ws.length) [] ?_ ?_ ?_
  · have := lb_le t (ws.map (·.sq))
    simp at this
    dsimp only
    omega
  · simp [go_sem, ↓iO, iO, tN]
  rintro ⟨i, j⟩ ⟨h1, h2, h3⟩
  dsimp only at h1 h2 h3
  by_cases hij : i < j
  · obtain ⟨h, he⟩ : ∃ h, (i + j) / 2 = h := ⟨_, rfl⟩
    have hh := half_sum he
    obtain ⟨w, hw⟩ := has_get (show h < ws.length by omega)
    have hk := lb_iff (t := t) ha (i := h) (x := w.sq) (by simp [hw])
    rw [hn] at hk
    by_cases hs : w.sq < t
    · have c := cmpSq_fn w t (-1) (by unfold cmpV; simp [hs])
      repeat (first | (refine nf1_sound rfl ?_; simp [go_sem, ↓iO, iO, tN, hh, he, hw]; (repeat (refine anI ?_)); try (refine ⟨dcK, ?_⟩)) | ((first | refine itePos (by omega) ?_ | refine iteNeg (by omega) ?_); try simp [go_sem, ↓iO, iO, tN, hh, he, hw]) | (refine ⟨dcK, ?_⟩))
      refine CallK.fn (c) [] [] [] (by kernel_rfl) ?_ ?_ ?_ (Or.inl rfl) ?_ <;> simp [go_sem, ↓iO, iO, tN]
      repeat (refine anI ?_)
      try (refine ⟨dcK, ?_⟩)
      repeat (first | (refine nf1_sound rfl ?_; simp [go_sem, ↓iO, iO, tN]; (repeat (refine anI ?_)); try (refine ⟨dcK, ?_⟩)) | ((first | refine itePos (by omega) ?_ | refine iteNeg (by omega) ?_); try simp [go_sem, ↓iO, iO, tN]) | (refine ⟨dcK, ?_⟩))
      rw [RoundQ_normal]; refine ⟨(h + 1, j), [], ?_, ?_, ?_⟩
      · dsimp only; omega
      · dsimp only; omega
      simp [go_sem, ↓iO, iO, tN]
    · obtain ⟨v, hv, hv0⟩ : ∃ v, cmpV w.sq t = v ∧ ¬ v < 0 := ⟨_, rfl, by unfold cmpV; split <;> (try split) <;> omega⟩
      have c := cmpSq_fn w t v hv
      repeat (first | (refine nf1_sound rfl ?_; simp [go_sem, ↓iO, iO, tN, hh, he, hw]; (repeat (refine anI ?_)); try (refine ⟨dcK, ?_⟩)) | ((first | refine itePos (by omega) ?_ | refine iteNeg (by omega) ?_); try simp [go_sem, ↓iO, iO, tN, hh, he, hw]) | (refine ⟨dcK, ?_⟩))
      refine CallK.fn (c) [] [] [] (by kernel_rfl) ?_ ?_ ?_ (Or.inl rfl) ?_ <;> simp [go_sem, ↓iO, iO, tN]
      repeat (refine anI ?_)
      try (refine ⟨dcK, ?_⟩)
      repeat (first | (refine nf1_sound rfl ?_; simp [go_sem, ↓iO, iO, tN, hv0]; (repeat (refine anI ?_)); try (refine ⟨dcK, ?_⟩)) | ((first | refine itePos (by omega) ?_ | refine iteNeg (by omega) ?_); try simp [go_sem, ↓iO, iO, tN, hv0]) | (refine ⟨dcK, ?_⟩))
      rw [RoundQ_normal]; refine ⟨(i, h), [], ?_, ?_, ?_⟩
      · dsimp only; omega
      · dsimp only; omega
      simp [go_sem, ↓iO, iO, tN]
  · obtain rfl : i = j := by omega
    obtain rfl : n = i := by omega
    clear hn
    by_cases hin : n < ws.length
    · obtain ⟨w, hw⟩ := has_get hin
      have c := cmpSq_fn w t (cmpV w.sq t) rfl
      repeat (first | (refine nf1_sound rfl ?_; simp [go_sem, ↓iO, iO, tN, hw]; (repeat (refine anI ?_)); try (refine ⟨dcK, ?_⟩)) | ((first | refine itePos (by omega) ?_ | refine iteNeg (by omega) ?_); try simp [go_sem, ↓iO, iO, tN, hw]) | (refine ⟨dcK, ?_⟩))
      refine CallK.fn (c) [] [] [] (by kernel_rfl) ?_ ?_ ?_ (Or.inl rfl) ?_ <;> simp [go_sem, ↓iO, iO, tN]
      repeat (refine anI ?_)
      try (refine ⟨dcK, ?_⟩)
      repeat (first | (refine nf1_sound rfl ?_; simp [go_sem, ↓iO, iO, tN]; (repeat (refine anI ?_)); try (refine ⟨dcK, ?_⟩)) | ((first | refine itePos (by omega) ?_ | refine iteNeg (by omega) ?_); try simp [go_sem, ↓iO, iO, tN]) | (refine ⟨dcK, ?_⟩))
      first | rw [RetQ_ret] | rw [RetQ_normal]
      refine ⟨[], ?_⟩
      simp [go_sem, ↓iO, iO, tN]
      subst hg
      simp [hw]
      unfold cmpV
      grind
    · repeat (first | (refine nf1_sound rfl ?_; simp [go_sem, ↓iO, iO, tN, hin]; (repeat (refine anI ?_)); try (refine ⟨dcK, ?_⟩)) | ((first | refine itePos (by omega) ?_ | refine iteNeg (by omega) ?_); try simp [go_sem, ↓iO, iO, tN, hin]) | (refine ⟨dcK, ?_⟩))
      first | rw [RetQ_ret] | rw [RetQ_normal]
      refine ⟨[], ?_⟩
      simp [go_sem, ↓iO, iO, tN]
      subst hg
      have hz : ws[n]? = none := List.getElem?_eq_none (by omega)
      simp [hz]
end Go.Proofs.Ytopmmodcaoaaeaa
namespace Go.Proofs.Ytopmmodcaoaaeaa
open Go.RowKit Sy
open Go.IntWalk renaming iteOmega → iO, toNatUp → tN
set_option linter.unusedVariables false
set_option linter.unusedSimpArgs false
@[go_sem] def blkTgs (l : List Tg) : Blk := .list 38 6 (l.map encTg)
@[go_sem] def blkWts (l : List Wt) : Blk := .list 47 4 (l.map encWt)
set_option maxRecDepth 100000 in
theorem icloneU_fn (l : List Nat) (hl : l.length ≤ 1000000000) : FnOk Try.prog 39 [.t (encUs l)] [] (.own 1000) [(1000, blkU l)] := by
  refine FnOk.intro fact_mixed Try.func39 rfl Try.ntmps39 (by rfl) (by simp) ?_
  iterate 1 (refine nf1_sound rfl ?_; simp [go_sem, ↓iO, iO, tN]; (repeat (refine anI ?_)); try (refine ⟨dcK, ?_⟩))
  refine CW.seq (CW.seq (CW.nilTest (k := 1) (xs := l.map encU) (e := 5) (by simp [go_sem]) (by simp [go_sem]) ?_ ?_))
  · intro hx
    have hx : l = [] := by simpa using hx
    simp [go_sem, ↓iO, iO, tN]
    repeat (first | (refine nf1_sound rfl ?_; simp [go_sem, ↓iO, iO, tN]; (repeat (refine anI ?_)); try (refine ⟨dcK, ?_⟩)) | ((first | refine itePos (by omega) ?_ | refine iteNeg (by omega) ?_); try simp [go_sem, ↓iO, iO, tN]) | (refine ⟨dcK, ?_⟩))
    first | rw [RetQ_ret] | rw [RetQ_normal]
    refine ⟨[(1000, none)], ?_⟩
    simp [go_sem, ↓iO, iO, tN, hx]
  · simp [go_sem, ↓iO, iO, tN]
    repeat (first | (refine nf1_sound rfl ?_; simp [go_sem, ↓iO, iO, tN]; (repeat (refine anI ?_)); try (refine ⟨dcK, ?_⟩)) | ((first | refine itePos (by omega) ?_ | refine iteNeg (by omega) ?_); try simp [go_sem, ↓iO, iO, tN]) | (refine ⟨dcK, ?_⟩))
    first | rw [RetQ_ret] | rw [RetQ_normal]
    refine ⟨[(1000, some 107)], ?_⟩
    simp [go_sem, ↓iO, iO, tN]
set_option maxRecDepth 100000 in
theorem icloneI_fn (l : List Int) (hl : l.length ≤ 1000000000) : FnOk Try.prog 74 [.t (encIs l)] [] (.own 1000) [(1000, blkI l)] := by
  refine FnOk.intro fact_mixed Try.func74 rfl Try.ntmps74 (by rfl) (by simp) ?_
  iterate 1 (refine nf1_sound rfl ?_; simp [go_sem, ↓iO, iO, tN]; (repeat (refine anI ?_)); try (refine ⟨dcK, ?_⟩))
  refine CW.seq (CW.seq (CW.nilTest (k := 1) (xs := l.map encI) (e := 3) (by simp [go_sem]) (by simp [go_sem]) ?_ ?_))
  · intro hx
    have hx : l = [] := by simpa using hx
    simp [go_sem, ↓iO, iO, tN]
    repeat (first | (refine nf1_sound rfl ?_; simp [go_sem, ↓iO, iO, tN]; (repeat (refine anI ?_)); try (refine ⟨dcK, ?_⟩)) | ((first | refine itePos (by omega) ?_ | refine iteNeg (by omega) ?_); try simp [go_sem, ↓iO, iO, tN]) | (refine ⟨dcK, ?_⟩))
    first | rw [RetQ_ret] | rw [RetQ_normal]
    refine ⟨[(1000, none)], ?_⟩
    simp [go_sem, ↓iO, iO, tN, hx]
  · simp [go_sem, ↓iO, iO, tN]
    repeat (first | (refine nf1_sound rfl ?_; simp [go_sem, ↓iO, iO, tN]; (repeat (refine anI ?_)); try (refine ⟨dcK, ?_⟩)) | ((first | refine itePos (by omega) ?_ | refine iteNeg (by omega) ?_); try simp [go_sem, ↓iO, iO, tN]) | (refine ⟨dcK, ?_⟩))
    first | rw [RetQ_ret] | rw [RetQ_normal]
    refine ⟨[(1000, some 107)], ?_⟩
    simp [go_sem, ↓iO, iO, tN]
set_option maxRecDepth 100000 in
theorem cloneT_fn (l : List Tg) (hl : l.length ≤ 1000000) : FnOk Try.prog 50 [.t (encTgs l)] [] (.own 1000) [(1000, blkTgs l)] := by
  refine FnOk.intro fact_mixed Try.func50 rfl Try.ntmps50 (by rfl) (by simp) ?_
  iterate 1 (refine nf1_sound rfl ?_; simp [go_sem, ↓iO, iO, tN]; (repeat (refine anI ?_)); try (refine ⟨dcK, ?_⟩))
  refine CW.seq (CW.seq (CW.nilTest (k := 6) (xs := l.map encTg) (e := 38) (by simp [go_sem]) (by simp [go_sem]) ?_ ?_))
  · intro hx
    have hx : l = [] := by simpa using hx
    simp [go_sem, ↓iO, iO, tN]
    repeat (first | (refine nf1_sound rfl ?_; simp [go_sem, ↓iO, iO, tN]; (repeat (refine anI ?_)); try (refine ⟨dcK, ?_⟩)) | ((first | refine itePos (by omega) ?_ | refine iteNeg (by omega) ?_); try simp [go_sem, ↓iO, iO, tN]) | (refine ⟨dcK, ?_⟩))
    first | rw [RetQ_ret] | rw [RetQ_normal]
    refine ⟨[(1000, none)], ?_⟩
    simp [go_sem, ↓iO, iO, tN, hx]
  · simp [go_sem, ↓iO, iO, tN]
    repeat (first | (refine nf1_sound rfl ?_; simp [go_sem, ↓iO, iO, tN]; (repeat (refine anI ?_)); try (refine ⟨dcK, ?_⟩)) | ((first | refine itePos (by omega) ?_ | refine iteNeg (by omega) ?_); try simp [go_sem, ↓iO, iO, tN]) | (refine ⟨dcK, ?_⟩))
    first | rw [RetQ_ret] | rw [RetQ_normal]
    refine ⟨[(1000, some 107)], ?_⟩
    simp [go_sem, ↓iO, iO, tN]
set_option maxRecDepth 100000 in
theorem cloneW_fn (l : List Wt) (hl : l.length ≤ 1000000) : FnOk Try.prog 49 [.t (encWts l)] [] (.own 1000) [(1000, blkWts l)] := by
  refine FnOk.intro fact_mixed Try.func49 rfl Try.ntmps49 (by rfl) (by simp) ?_
  iterate 1 (refine nf1_sound rfl ?_; simp [go_sem, ↓iO, iO, tN]; (repeat (refine anI ?_)); try (refine ⟨dcK, ?_⟩))
  refine CW.seq (CW.seq (CW.nilTest (k := 4) (xs := l.map encWt) (e := 47) (by simp [go_sem]) (by simp [go_sem]) ?_ ?_))
  · intro hx
    have hx : l = [] := by simpa using hx
    simp [go_sem, ↓iO, iO, tN]
    repeat (first | (refine nf1_sound rfl ?_; simp [go_sem, ↓iO, iO, tN]; (repeat (refine anI ?_)); try (refine ⟨dcK, ?_⟩)) | ((first | refine itePos (by omega) ?_ | refine iteNeg (by omega) ?_); try simp [go_sem, ↓iO, iO, tN]) | (refine ⟨dcK, ?_⟩))
    first | rw [RetQ_ret] | rw [RetQ_normal]
    refine ⟨[(1000, none)], ?_⟩
    simp [go_sem, ↓iO, iO, tN, hx]
  · simp [go_sem, ↓iO, iO, tN]
    repeat (first | (refine nf1_sound rfl ?_; simp [go_sem, ↓iO, iO, tN]; (repeat (refine anI ?_)); try (refine ⟨dcK, ?_⟩)) | ((first | refine itePos (by omega) ?_ | refine iteNeg (by omega) ?_); try simp [go_sem, ↓iO, iO, tN]) | (refine ⟨dcK, ?_⟩))
    first | rw [RetQ_ret] | rw [RetQ_normal]
    refine ⟨[(1000, some 107)], ?_⟩
    simp [go_sem, ↓iO, iO, tN]
set_option maxRecDepth 100000 in
theorem message_fn (t : Tg) (hl : t.vs.length ≤ 1000000) : FnOk Try.prog 51 [.t (encTg t)] [] (.t (encTg t)) [] := by
  have c := icloneI_fn t.vs (by omega)
  refine FnOk.intro fact_mixed Try.func51 rfl Try.ntmps51 (by rfl) (by simp) ?_
  repeat (first | (refine nf1_sound rfl ?_; simp [go_sem, ↓iO, iO, tN]; (repeat (refine anI ?_)); try (refine ⟨dcK, ?_⟩)) | ((first | refine itePos (by omega) ?_ | refine iteNeg (by omega) ?_); try simp [go_sem, ↓iO, iO, tN]) | (refine ⟨dcK, ?_⟩))
  refine CallK.fn (c) [(1000, 500)] [] [] (by kernel_rfl) ?_ ?_ ?_ (Or.inl rfl) ?_ <;> simp [go_sem, ↓iO, iO, tN]
  repeat (refine anI ?_)
  try (refine ⟨dcK, ?_⟩)
  repeat (first | (refine nf1_sound rfl ?_; simp [go_sem, ↓iO, iO, tN]; (repeat (refine anI ?_)); try (refine ⟨dcK, ?_⟩)) | ((first | refine itePos (by omega) ?_ | refine iteNeg (by omega) ?_); try simp [go_sem, ↓iO, iO, tN]) | (refine ⟨dcK, ?_⟩))
  first | rw [RetQ_ret] | rw [RetQ_normal]
  refine ⟨[], ?_⟩
  simp [go_sem, ↓iO, iO, tN]
end Go.Proofs.Ytopmmodcaoaaeaa
namespace Go.Proofs.Ytopmmodcaoaaeaa
open Go.RowKit Sy
open Go.IntWalk renaming iteOmega → iO, toNatUp → tN
set_option linter.unusedVariables false
set_option linter.unusedSimpArgs false
/-- The telegrams that wait: of the station, in this epoch, ascending, behind a number. -/
def heldOk (st ep : Int) : Int → List Tg → Prop
  | _, [] => True
  | la, t :: r => TgOk t ∧ t.st = st ∧ t.ep = ep ∧ la < t.sq ∧ heldOk st ep t.sq r
theorem held_cons (st ep la : Int) (t : Tg) (r : List Tg) : heldOk st ep la (t :: r) = (TgOk t ∧ t.st = st ∧ t.ep = ep ∧ la < t.sq ∧ heldOk st ep t.sq r) := rfl
instance decHeld (st ep : Int) : ∀ (la : Int) (l : List Tg), Decidable (heldOk st ep la l)
  | _, [] => isTrue trivial
  | la, t :: r => by
    unfold heldOk
    have := decHeld st ep t.sq r
    infer_instance
def WtOk (w : Wt) (win : Int) : Prop := ¬ w.st < 0 ∧ ¬ 255 < w.st ∧ ¬ w.ep < 0 ∧ ¬ 255 < w.ep ∧ ¬ w.nx < 0 ∧ ¬ 2147483649 < w.nx ∧ ¬ win < (w.held.length : Int) ∧ heldOk w.st w.ep w.nx w.held
instance (w : Wt) (win : Int) : Decidable (WtOk w win) := by unfold WtOk; infer_instance
theorem drop_cons {α : Type} {l : List α} {k : Nat} {t : α} (h : l[k]? = some t) : l.drop k = t :: l.drop (k + 1) := by
  obtain ⟨h1, h2⟩ := List.getElem?_eq_some_iff.1 h
  rw [List.drop_eq_getElem_cons h1, h2]
set_option maxRecDepth 100000 in
set_option maxHeartbeats 8000000 in
theorem waiting_fn (w : Wt) (win : Int) (hl : w.held.length ≤ 1000000) (hv : ∀ t ∈ w.held, t.vs.length ≤ 9223372036854775807) (g : Bool) (hg : decide (WtOk w win) = g) : FnOk Try.prog 54 [.t (encWt w), .t (.int win)] [] (.t (.bool g)) [] := by
  subst hg
  by_cases h0 : ¬ w.st < 0
  · skip
    by_cases h1 : ¬ 255 < w.st
    · skip
      by_cases h2 : ¬ w.ep < 0
      · skip
        by_cases h3 : ¬ 255 < w.ep
        · skip
          by_cases h4 : ¬ w.nx < 0
          · skip
            by_cases h5 : ¬ 2147483649 < w.nx
            · skip
              by_cases h6 : ¬ win < (w.held.length : Int)
              · skip
                rw [show decide (WtOk w win) = decide (heldOk w.st w.ep w.nx w.held) from decide_eq_decide.2 ⟨fun g => g.2.2.2.2.2.2.2, fun g => ⟨h0, h1, h2, h3, h4, h5, h6, g⟩⟩]
                obtain ⟨st, ep, nx, l⟩ := w
                dsimp only at *
                refine FnOk.intro fact_mixed Try.func54 rfl Try.ntmps54 (by rfl) (by simp) ?_
                repeat (first | (refine nf1_sound rfl ?_; simp [go_sem, ↓iO, iO, tN]; (repeat (refine anI ?_)); try (refine ⟨dcK, ?_⟩)) | ((first | refine itePos (by omega) ?_ | refine iteNeg (by omega) ?_); try simp [go_sem, ↓iO, iO, tN]) | (refine ⟨dcK, ?_⟩))
                refine nf1_sound' _ _ _ ?_; simp only [nf1]
                refine CW.loop (ι := Nat × Int) (fun p => ⟨[(2, .pt 502 [] 0), (5, .t (.int p.2)), (46, .t (encTgs l)), (47, .t (.int l.length)), (48, .t (.int p.1))], [(502, .box 47 (.t (.agg [.int st, .int ep, .int nx, encTgs l])))]⟩) (fun p => p.1 ≤ l.length ∧ (heldOk st ep nx l ↔ heldOk st ep p.2 (l.drop p.1))) (fun p => l.length - p.1) (0, nx) [(502, some 102)] ⟨by dsimp only; omega, by simp⟩ ?_ ?_
                · simp [go_sem, ↓iO, iO, tN]
                rintro ⟨k, la⟩ ⟨hk, hi⟩
                dsimp only at hk hi
                by_cases hk2 : k < l.length
                · obtain ⟨t, ht⟩ := has_get hk2
                  have hd : l.drop k = t :: l.drop (k + 1) := drop_cons ht
                  rw [hd] at hi
                  rw [held_cons] at hi
                  by_cases g1 : TgOk t
                  · have c := valid_fn t (hv t (mem_get ht)) true (decide_eq_true g1)
                    by_cases g2 : t.st = st
                    · by_cases g3 : t.ep = ep
                      · by_cases g4 : la < t.sq
                        · repeat (first | (refine nf1_sound rfl ?_; simp [go_sem, ↓iO, iO, tN, ht]; (repeat (refine anI ?_)); try (refine ⟨dcK, ?_⟩)) | ((first | refine itePos (by omega) ?_ | refine iteNeg (by omega) ?_); try simp [go_sem, ↓iO, iO, tN, ht]) | (refine ⟨dcK, ?_⟩))
                          refine CallK.fn (c) [] [] [] (by kernel_rfl) ?_ ?_ ?_ (Or.inl rfl) ?_ <;> simp [go_sem, ↓iO, iO, tN]
                          repeat (refine anI ?_)
                          try (refine ⟨dcK, ?_⟩)
                          repeat (first | (refine nf1_sound rfl ?_; simp [go_sem, ↓iO, iO, tN]; (repeat (refine anI ?_)); try (refine ⟨dcK, ?_⟩)) | ((first | refine itePos (by omega) ?_ | refine iteNeg (by omega) ?_); try simp [go_sem, ↓iO, iO, tN]) | (refine ⟨dcK, ?_⟩))
                          rw [RoundQ_normal]; refine ⟨(k + 1, t.sq), [(502, some 502)], ?_, ?_, ?_⟩
                          · dsimp only
                            refine ⟨by omega, ?_⟩
                            rw [hi]
                            exact ⟨fun g => g.2.2.2.2, fun g => ⟨g1, g2, g3, g4, g⟩⟩
                          · dsimp only; omega
                          simp [go_sem, ↓iO, iO, tN]
                        · rw [decide_eq_false (fun g => g4 (hi.1 g).2.2.2.1)]
                          repeat (first | (refine nf1_sound rfl ?_; simp [go_sem, ↓iO, iO, tN, ht]; (repeat (refine anI ?_)); try (refine ⟨dcK, ?_⟩)) | ((first | refine itePos (by omega) ?_ | refine iteNeg (by omega) ?_); try simp [go_sem, ↓iO, iO, tN, ht]) | (refine ⟨dcK, ?_⟩))
                          refine CallK.fn (c) [] [] [] (by kernel_rfl) ?_ ?_ ?_ (Or.inl rfl) ?_ <;> simp [go_sem, ↓iO, iO, tN]
                          repeat (refine anI ?_)
                          try (refine ⟨dcK, ?_⟩)
                          repeat (first | (refine nf1_sound rfl ?_; simp [go_sem, ↓iO, iO, tN]; (repeat (refine anI ?_)); try (refine ⟨dcK, ?_⟩)) | ((first | refine itePos (by omega) ?_ | refine iteNeg (by omega) ?_); try simp [go_sem, ↓iO, iO, tN]) | (refine ⟨dcK, ?_⟩))
                          first | rw [RetQ_ret] | rw [RetQ_normal]
                          refine ⟨[], ?_⟩
                          simp [go_sem, ↓iO, iO, tN]
                      · rw [decide_eq_false (fun g => g3 (hi.1 g).2.2.1)]
                        repeat (first | (refine nf1_sound rfl ?_; simp [go_sem, ↓iO, iO, tN, ht]; (repeat (refine anI ?_)); try (refine ⟨dcK, ?_⟩)) | ((first | refine itePos (by omega) ?_ | refine iteNeg (by omega) ?_); try simp [go_sem, ↓iO, iO, tN, ht]) | (refine ⟨dcK, ?_⟩))
                        refine CallK.fn (c) [] [] [] (by kernel_rfl) ?_ ?_ ?_ (Or.inl rfl) ?_ <;> simp [go_sem, ↓iO, iO, tN]
                        repeat (refine anI ?_)
                        try (refine ⟨dcK, ?_⟩)
                        repeat (first | (refine nf1_sound rfl ?_; simp [go_sem, ↓iO, iO, tN]; (repeat (refine anI ?_)); try (refine ⟨dcK, ?_⟩)) | ((first | refine itePos (by omega) ?_ | refine iteNeg (by omega) ?_); try simp [go_sem, ↓iO, iO, tN]) | (refine ⟨dcK, ?_⟩))
                        first | rw [RetQ_ret] | rw [RetQ_normal]
                        refine ⟨[], ?_⟩
                        simp [go_sem, ↓iO, iO, tN]
                    · rw [decide_eq_false (fun g => g2 (hi.1 g).2.1)]
                      repeat (first | (refine nf1_sound rfl ?_; simp [go_sem, ↓iO, iO, tN, ht]; (repeat (refine anI ?_)); try (refine ⟨dcK, ?_⟩)) | ((first | refine itePos (by omega) ?_ | refine iteNeg (by omega) ?_); try simp [go_sem, ↓iO, iO, tN, ht]) | (refine ⟨dcK, ?_⟩))
                      refine CallK.fn (c) [] [] [] (by kernel_rfl) ?_ ?_ ?_ (Or.inl rfl) ?_ <;> simp [go_sem, ↓iO, iO, tN]
                      repeat (refine anI ?_)
                      try (refine ⟨dcK, ?_⟩)
                      repeat (first | (refine nf1_sound rfl ?_; simp [go_sem, ↓iO, iO, tN]; (repeat (refine anI ?_)); try (refine ⟨dcK, ?_⟩)) | ((first | refine itePos (by omega) ?_ | refine iteNeg (by omega) ?_); try simp [go_sem, ↓iO, iO, tN]) | (refine ⟨dcK, ?_⟩))
                      first | rw [RetQ_ret] | rw [RetQ_normal]
                      refine ⟨[], ?_⟩
                      simp [go_sem, ↓iO, iO, tN]
                  · have c := valid_fn t (hv t (mem_get ht)) false (decide_eq_false g1)
                    rw [decide_eq_false (fun g => g1 (hi.1 g).1)]
                    repeat (first | (refine nf1_sound rfl ?_; simp [go_sem, ↓iO, iO, tN, ht]; (repeat (refine anI ?_)); try (refine ⟨dcK, ?_⟩)) | ((first | refine itePos (by omega) ?_ | refine iteNeg (by omega) ?_); try simp [go_sem, ↓iO, iO, tN, ht]) | (refine ⟨dcK, ?_⟩))
                    refine CallK.fn (c) [] [] [] (by kernel_rfl) ?_ ?_ ?_ (Or.inl rfl) ?_ <;> simp [go_sem, ↓iO, iO, tN]
                    repeat (refine anI ?_)
                    try (refine ⟨dcK, ?_⟩)
                    repeat (first | (refine nf1_sound rfl ?_; simp [go_sem, ↓iO, iO, tN]; (repeat (refine anI ?_)); try (refine ⟨dcK, ?_⟩)) | ((first | refine itePos (by omega) ?_ | refine iteNeg (by omega) ?_); try simp [go_sem, ↓iO, iO, tN]) | (refine ⟨dcK, ?_⟩))
                    first | rw [RetQ_ret] | rw [RetQ_normal]
                    refine ⟨[], ?_⟩
                    simp [go_sem, ↓iO, iO, tN]
                · obtain rfl : k = l.length := by omega
                  rw [List.drop_length] at hi
                  rw [decide_eq_true (hi.2 (by unfold heldOk; trivial))]
                  repeat (first | (refine nf1_sound rfl ?_; simp [go_sem, ↓iO, iO, tN]; (repeat (refine anI ?_)); try (refine ⟨dcK, ?_⟩)) | ((first | refine itePos (by omega) ?_ | refine iteNeg (by omega) ?_); try simp [go_sem, ↓iO, iO, tN]) | (refine ⟨dcK, ?_⟩))
                  first | rw [RetQ_ret] | rw [RetQ_normal]
                  refine ⟨[], ?_⟩
                  simp [go_sem, ↓iO, iO, tN]
              · rw [decide_eq_false (show ¬ WtOk w win from fun g => h6 g.2.2.2.2.2.2.1)]
                refine FnOk.intro fact_mixed Try.func54 rfl Try.ntmps54 (by rfl) (by simp) ?_
                repeat (first | (refine nf1_sound rfl ?_; simp [go_sem, ↓iO, iO, tN]; (repeat (refine anI ?_)); try (refine ⟨dcK, ?_⟩)) | ((first | refine itePos (by omega) ?_ | refine iteNeg (by omega) ?_); try simp [go_sem, ↓iO, iO, tN]) | (refine ⟨dcK, ?_⟩))
                first | rw [RetQ_ret] | rw [RetQ_normal]
                refine ⟨[], ?_⟩
                simp [go_sem, ↓iO, iO, tN]
            · rw [decide_eq_false (show ¬ WtOk w win from fun g => h5 g.2.2.2.2.2.1)]
              refine FnOk.intro fact_mixed Try.func54 rfl Try.ntmps54 (by rfl) (by simp) ?_
              repeat (first | (refine nf1_sound rfl ?_; simp [go_sem, ↓iO, iO, tN]; (repeat (refine anI ?_)); try (refine ⟨dcK, ?_⟩)) | ((first | refine itePos (by omega) ?_ | refine iteNeg (by omega) ?_); try simp [go_sem, ↓iO, iO, tN]) | (refine ⟨dcK, ?_⟩))
              first | rw [RetQ_ret] | rw [RetQ_normal]
              refine ⟨[], ?_⟩
              simp [go_sem, ↓iO, iO, tN]
          · rw [decide_eq_false (show ¬ WtOk w win from fun g => h4 g.2.2.2.2.1)]
            refine FnOk.intro fact_mixed Try.func54 rfl Try.ntmps54 (by rfl) (by simp) ?_
            repeat (first | (refine nf1_sound rfl ?_; simp [go_sem, ↓iO, iO, tN]; (repeat (refine anI ?_)); try (refine ⟨dcK, ?_⟩)) | ((first | refine itePos (by omega) ?_ | refine iteNeg (by omega) ?_); try simp [go_sem, ↓iO, iO, tN]) | (refine ⟨dcK, ?_⟩))
            first | rw [RetQ_ret] | rw [RetQ_normal]
            refine ⟨[], ?_⟩
            simp [go_sem, ↓iO, iO, tN]
        · rw [decide_eq_false (show ¬ WtOk w win from fun g => h3 g.2.2.2.1)]
          refine FnOk.intro fact_mixed Try.func54 rfl Try.ntmps54 (by rfl) (by simp) ?_
          repeat (first | (refine nf1_sound rfl ?_; simp [go_sem, ↓iO, iO, tN]; (repeat (refine anI ?_)); try (refine ⟨dcK, ?_⟩)) | ((first | refine itePos (by omega) ?_ | refine iteNeg (by omega) ?_); try simp [go_sem, ↓iO, iO, tN]) | (refine ⟨dcK, ?_⟩))
          first | rw [RetQ_ret] | rw [RetQ_normal]
          refine ⟨[], ?_⟩
          simp [go_sem, ↓iO, iO, tN]
      · rw [decide_eq_false (show ¬ WtOk w win from fun g => h2 g.2.2.1)]
        refine FnOk.intro fact_mixed Try.func54 rfl Try.ntmps54 (by rfl) (by simp) ?_
        repeat (first | (refine nf1_sound rfl ?_; simp [go_sem, ↓iO, iO, tN]; (repeat (refine anI ?_)); try (refine ⟨dcK, ?_⟩)) | ((first | refine itePos (by omega) ?_ | refine iteNeg (by omega) ?_); try simp [go_sem, ↓iO, iO, tN]) | (refine ⟨dcK, ?_⟩))
        first | rw [RetQ_ret] | rw [RetQ_normal]
        refine ⟨[], ?_⟩
        simp [go_sem, ↓iO, iO, tN]
    · rw [decide_eq_false (show ¬ WtOk w win from fun g => h1 g.2.1)]
      refine FnOk.intro fact_mixed Try.func54 rfl Try.ntmps54 (by rfl) (by simp) ?_
      repeat (first | (refine nf1_sound rfl ?_; simp [go_sem, ↓iO, iO, tN]; (repeat (refine anI ?_)); try (refine ⟨dcK, ?_⟩)) | ((first | refine itePos (by omega) ?_ | refine iteNeg (by omega) ?_); try simp [go_sem, ↓iO, iO, tN]) | (refine ⟨dcK, ?_⟩))
      first | rw [RetQ_ret] | rw [RetQ_normal]
      refine ⟨[], ?_⟩
      simp [go_sem, ↓iO, iO, tN]
  · rw [decide_eq_false (show ¬ WtOk w win from fun g => h0 g.1)]
    refine FnOk.intro fact_mixed Try.func54 rfl Try.ntmps54 (by rfl) (by simp) ?_
    repeat (first | (refine nf1_sound rfl ?_; simp [go_sem, ↓iO, iO, tN]; (repeat (refine anI ?_)); try (refine ⟨dcK, ?_⟩)) | ((first | refine itePos (by omega) ?_ | refine iteNeg (by omega) ?_); try simp [go_sem, ↓iO, iO, tN]) | (refine ⟨dcK, ?_⟩))
    first | rw [RetQ_ret] | rw [RetQ_normal]
    refine ⟨[], ?_⟩
    simp [go_sem, ↓iO, iO, tN]
end Go.Proofs.Ytopmmodcaoaaeaa
