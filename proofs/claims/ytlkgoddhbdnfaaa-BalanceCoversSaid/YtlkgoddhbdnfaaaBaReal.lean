/- What is really missing lies within the bounds. No condition. -/
import Derived.Test.YtlkgoddhbdnfaaaBaFn
namespace Go.Proofs.Ytlkgoddhbdnfaaa
open Go.RowKit Sy
set_option linter.unusedVariables false
set_option linter.unusedSimpArgs false
def adjV (v w : Int) : Int := (v * w).tdiv 128
theorem tdiv128 (P : Int) : (0 ≤ P ∧ P.tdiv 128 = P / 128) ∨ (P < 0 ∧ P.tdiv 128 = -((-P) / 128)) := by
  by_cases h : 0 ≤ P
  · exact .inl ⟨h, Int.tdiv_eq_ediv_of_nonneg h⟩
  · refine .inr ⟨by omega, ?_⟩
    rw [show P = -(-P) by omega, Int.neg_tdiv, Int.tdiv_eq_ediv_of_nonneg (by omega)]
    simp
theorem adj_mul {v w : Int} (h1 : 0 ≤ v) (h2 : -128 ≤ w) (h3 : w ≤ 127) : -128 * v ≤ v * w ∧ v * w ≤ 127 * v := by
  have a := Int.mul_le_mul_of_nonneg_left h2 h1
  have b := Int.mul_le_mul_of_nonneg_left h3 h1
  omega
theorem adj_range {v w : Int} (h1 : 0 ≤ v) (h2 : -128 ≤ w) (h3 : w ≤ 127) : -v ≤ adjV v w ∧ adjV v w ≤ v := by
  have h := adj_mul h1 h2 h3
  unfold adjV
  rcases tdiv128 (v * w) with ⟨a, b⟩ | ⟨a, b⟩ <;> rw [b] <;> omega
def realB (a : Acc) (b : Bal) (w : Int) : Bal := ⟨b.i + adjV (b.i * a.m / 1000000) w, b.o - adjV (b.o * a.m / 1000000) w, b.p + adjV a.p w⟩
def realL (a : Acc) : List Bal → List Int → List Bal
  | [], _ => []
  | b :: r, ws => realB a b (ws.headD 0) :: realL a r ws.tail
theorem realL_len (a : Acc) : ∀ (x : List Bal) (ws : List Int), (realL a x ws).length = x.length
  | [], _ => rfl
  | b :: r, ws => by simp [realL, realL_len a r]
theorem realL_get (a : Acc) : ∀ {x : List Bal} {ws : List Int} {k : Nat} {b : Bal}, x[k]? = some b → (realL a x ws)[k]? = some (realB a b ((ws[k]?).getD 0))
  | [], _, _, _, h => by simp at h
  | c :: r, ws, 0, b, h => by
    simp at h; subst h
    cases ws <;> simp [realL]
  | c :: r, ws, k + 1, b, h => by
    have := realL_get a (x := r) (ws := ws.tail) (k := k) (b := b) (by simpa using h)
    simp only [realL, List.getElem?_cons_succ, this]
    cases ws <;> simp
theorem realL_take (a : Acc) : ∀ (x : List Bal) (ws : List Int) (k : Nat), (realL a x ws).take k = realL a (x.take k) ws
  | [], _, _ => by simp [realL]
  | c :: r, ws, 0 => by simp [realL]
  | c :: r, ws, k + 1 => by simp [realL, realL_take a r]
theorem realL_tail (a : Acc) (x : List Bal) (ws : List Int) : (realL a x ws).drop 1 = realL a (x.drop 1) (ws.drop 1) := by
  cases x <;> simp [realL]
def WsOk (ws : List Int) : Prop := ∀ z ∈ ws, -128 ≤ z ∧ z ≤ 127
theorem ws_head {ws : List Int} (h : WsOk ws) : -128 ≤ ws.headD 0 ∧ ws.headD 0 ≤ 127 := by
  cases ws with
  | nil => simp
  | cons x r => simpa using h x (List.mem_cons_self)
theorem ws_tail {ws : List Int} (h : WsOk ws) : WsOk ws.tail := fun z hz => h z (List.mem_of_mem_tail hz)
theorem ws_at {ws : List Int} (h : WsOk ws) (k : Nat) : -128 ≤ (ws[k]?).getD 0 ∧ (ws[k]?).getD 0 ≤ 127 := by
  cases e : ws[k]? with
  | none => simp
  | some z => simpa using h z (List.mem_of_getElem? e)
theorem floor_mul {v m : Int} (h1 : 0 ≤ v) (h2 : 0 ≤ m) : 0 ≤ v * m / 1000000 ∧ 1000000 * (v * m / 1000000) ≤ v * m := by
  have := Int.mul_nonneg h1 h2
  omega
theorem real_in {a : Acc} (ha : 0 ≤ a.m) : ∀ {x : List Bal} {ws : List Int}, (∀ b ∈ x, BalOk b) → WsOk ws →
    -(sumI x * a.m) ≤ 1000000 * (sumI (realL a x ws) - sumI x) ∧ 1000000 * (sumI (realL a x ws) - sumI x) ≤ sumI x * a.m
  | [], _, _, _ => by simp [realL, sumI]
  | b :: r, ws, hx, hw => by
    have ih := real_in ha (x := r) (ws := ws.tail) (fun y hy => hx y (List.mem_cons_of_mem _ hy)) (ws_tail hw)
    have hb := (hx b (List.mem_cons_self)).1.1
    have hf := floor_mul hb ha
    have hr := adj_range hf.1 (ws_head hw).1 (ws_head hw).2
    simp only [realL, sumI, realB, Int.add_mul]
    omega
theorem real_out {a : Acc} (ha : 0 ≤ a.m) : ∀ {x : List Bal} {ws : List Int}, (∀ b ∈ x, BalOk b) → WsOk ws →
    -(sumO x * a.m) ≤ 1000000 * (sumO (realL a x ws) - sumO x) ∧ 1000000 * (sumO (realL a x ws) - sumO x) ≤ sumO x * a.m
  | [], _, _, _ => by simp [realL, sumO]
  | b :: r, ws, hx, hw => by
    have ih := real_out ha (x := r) (ws := ws.tail) (fun y hy => hx y (List.mem_cons_of_mem _ hy)) (ws_tail hw)
    have hb := (hx b (List.mem_cons_self)).2.1.1
    have hf := floor_mul hb ha
    have hr := adj_range hf.1 (ws_head hw).1 (ws_head hw).2
    simp only [realL, sumO, realB, Int.add_mul]
    omega
theorem upV_ge {a : Int} (h : 0 ≤ a) : a ≤ 1000000 * upV a 1000000 := by
  unfold upV
  split <;> omega
theorem part_ge {v m : Int} (h1 : 0 ≤ v) (h2 : 0 ≤ m) : v * m ≤ 1000000 * partV v m := by
  have e1 := Int.mul_nonneg (show 0 ≤ v % 1000000 by omega) h2
  have e2 := upV_ge e1
  have e3 : v * m = 1000000 * (v / 1000000 * m) + v % 1000000 * m := by
    rw [← Int.mul_assoc, ← Int.add_mul]; congr 1; omega
  unfold partV
  omega
theorem real_bounds {a : Acc} {x : List Bal} {ws : List Int} {t : Nat} (hA : AccOk a) (hx : ∀ b ∈ x, BalOk b) (hw : WsOk ws) (h0 : 0 < t) (ht : t < x.length) :
    missV x 0 t - wrongV x a 0 t ≤ missV (realL a x ws) 0 t ∧ missV (realL a x ws) 0 t ≤ missV x 0 t + wrongV x a 0 t := by
  have hwin : winB (realL a x ws) 0 t = realL a (winB x 0 t) (ws.drop 1) := by
    unfold winB; rw [realL_take, realL_tail]
  have hwo := winB_ok (f := 0) (t := t) hx
  have hws : WsOk (ws.drop 1) := fun z hz => hw z (List.mem_of_mem_drop hz)
  have h1 := real_in hA.1.1 hwo hws
  have h2 := real_out hA.1.1 hwo hws
  have r1 := sumI_range hwo
  have r2 := sumO_range hwo
  have p1 := part_ge r1.1 hA.1.1
  have p2 := part_ge r2.1 hA.1.1
  obtain ⟨b0, hb0⟩ := has_get (show 0 < x.length by omega)
  obtain ⟨bt, hbt⟩ := has_get ht
  have q0 := adj_range hA.2.1 (ws_at hw 0).1 (ws_at hw 0).2
  have qt := adj_range hA.2.1 (ws_at hw t).1 (ws_at hw t).2
  unfold missV wrongV
  rw [hwin, pAt_eq hb0, pAt_eq hbt, pAt_eq (realL_get a hb0), pAt_eq (realL_get a hbt)]
  simp only [realB]
  omega
/-- Small numbers. -/
abbrev NearB (b : Bal) : Prop := (-200 ≤ b.i ∧ b.i ≤ 200) ∧ (-200 ≤ b.o ∧ b.o ≤ 200) ∧ (-30000 ≤ b.p ∧ b.p ≤ 30000)
theorem near_sum {l : List Bal} (h : ∀ b ∈ l, NearB b) : (-200 * (l.length : Int) ≤ sumI l ∧ sumI l ≤ 200 * (l.length : Int)) ∧ (-200 * (l.length : Int) ≤ sumO l ∧ sumO l ≤ 200 * (l.length : Int)) := by
  induction l with
  | nil => simp [sumI, sumO]
  | cons x r ih =>
    have h1 := ih fun y hy => h y (List.mem_cons_of_mem _ hy)
    have h2 := (h x (List.mem_cons_self)).1
    have h3 := (h x (List.mem_cons_self)).2.1
    simp only [sumI, sumO, List.length_cons]; omega
end Go.Proofs.Ytlkgoddhbdnfaaa
