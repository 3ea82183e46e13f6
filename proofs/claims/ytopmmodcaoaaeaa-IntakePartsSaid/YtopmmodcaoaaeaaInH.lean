/- New, of the program and of the reference. No condition. The reference's give. No condition. What Take computes; the reference's Take. No condition. The reference's Take. No condition. -/
import Derived.Test.YtopmmodcaoaaeaaInE
namespace Go.Proofs.Ytopmmodcaoaaeaa
open Go.RowKit Sy
open Go.IntWalk (iteOmega toNatUp)
set_option linter.unusedVariables false
set_option linter.unusedSimpArgs false
def newV (n : Int) : In × Int := if n < 0 ∨ 16 < n then (⟨0, [], []⟩, 1) else (⟨n, [], []⟩, 0)
set_option maxRecDepth 100000 in
theorem inew_fn (n : Int) (i : In) (e : Int) (h : newV n = (i, e)) : FnOk Try.prog 12 [.t (.int n)] [] (.tup [.t (encIn i), .t (.int e)]) [] := by
  unfold newV at h
  by_cases h1 : n < 0
  · rw [if_pos (.inl h1)] at h
    obtain ⟨rfl, rfl⟩ := Prod.mk.inj h
    refine FnOk.intro fact_mixed Try.func12 rfl Try.ntmps12 (by rfl) (by simp) ?_
    repeat (first | (refine nf1_sound rfl ?_; simp [go_sem, ↓iteOmega, iteOmega, toNatUp]; (repeat (refine And.intro (by omega) ?_)); try (refine ⟨DrawChk_of (by kernel_rfl), ?_⟩)) | (refine itePos (by omega) ?_; try simp [go_sem, ↓iteOmega, iteOmega, toNatUp]) | (refine iteNeg (by omega) ?_; try simp [go_sem, ↓iteOmega, iteOmega, toNatUp]) | (refine ⟨DrawChk_of (by kernel_rfl), ?_⟩))
    first | rw [RetQ_ret] | rw [RetQ_normal]
    refine ⟨[], ?_⟩
    simp [go_sem, ↓iteOmega, iteOmega, toNatUp]
  · by_cases h2 : 16 < n
    · rw [if_pos (.inr h2)] at h
      obtain ⟨rfl, rfl⟩ := Prod.mk.inj h
      refine FnOk.intro fact_mixed Try.func12 rfl Try.ntmps12 (by rfl) (by simp) ?_
      repeat (first | (refine nf1_sound rfl ?_; simp [go_sem, ↓iteOmega, iteOmega, toNatUp]; (repeat (refine And.intro (by omega) ?_)); try (refine ⟨DrawChk_of (by kernel_rfl), ?_⟩)) | (refine itePos (by omega) ?_; try simp [go_sem, ↓iteOmega, iteOmega, toNatUp]) | (refine iteNeg (by omega) ?_; try simp [go_sem, ↓iteOmega, iteOmega, toNatUp]) | (refine ⟨DrawChk_of (by kernel_rfl), ?_⟩))
      first | rw [RetQ_ret] | rw [RetQ_normal]
      refine ⟨[], ?_⟩
      simp [go_sem, ↓iteOmega, iteOmega, toNatUp]
    · rw [if_neg (by omega)] at h
      obtain ⟨rfl, rfl⟩ := Prod.mk.inj h
      refine FnOk.intro fact_mixed Try.func12 rfl Try.ntmps12 (by rfl) (by simp) ?_
      repeat (first | (refine nf1_sound rfl ?_; simp [go_sem, ↓iteOmega, iteOmega, toNatUp]; (repeat (refine And.intro (by omega) ?_)); try (refine ⟨DrawChk_of (by kernel_rfl), ?_⟩)) | (refine itePos (by omega) ?_; try simp [go_sem, ↓iteOmega, iteOmega, toNatUp]) | (refine iteNeg (by omega) ?_; try simp [go_sem, ↓iteOmega, iteOmega, toNatUp]) | (refine ⟨DrawChk_of (by kernel_rfl), ?_⟩))
      first | rw [RetQ_ret] | rw [RetQ_normal]
      refine ⟨[], ?_⟩
      simp [go_sem, ↓iteOmega, iteOmega, toNatUp]
set_option maxRecDepth 100000 in
theorem irnew_fn (n : Int) (i : In) (e : Int) (h : newV n = (i, e)) : FnOk Try.prog 23 [.t (.int n)] [] (.tup [.t (encIn i), .t (.int e)]) [] := by
  unfold newV at h
  by_cases h1 : n < 0
  · rw [if_pos (.inl h1)] at h
    obtain ⟨rfl, rfl⟩ := Prod.mk.inj h
    refine FnOk.intro fact_mixed Try.func23 rfl Try.ntmps23 (by rfl) (by simp) ?_
    repeat (first | (refine nf1_sound rfl ?_; simp [go_sem, ↓iteOmega, iteOmega, toNatUp]; (repeat (refine And.intro (by omega) ?_)); try (refine ⟨DrawChk_of (by kernel_rfl), ?_⟩)) | (refine itePos (by omega) ?_; try simp [go_sem, ↓iteOmega, iteOmega, toNatUp]) | (refine iteNeg (by omega) ?_; try simp [go_sem, ↓iteOmega, iteOmega, toNatUp]) | (refine ⟨DrawChk_of (by kernel_rfl), ?_⟩))
    first | rw [RetQ_ret] | rw [RetQ_normal]
    refine ⟨[], ?_⟩
    simp [go_sem, ↓iteOmega, iteOmega, toNatUp]
  · by_cases h2 : 16 < n
    · rw [if_pos (.inr h2)] at h
      obtain ⟨rfl, rfl⟩ := Prod.mk.inj h
      refine FnOk.intro fact_mixed Try.func23 rfl Try.ntmps23 (by rfl) (by simp) ?_
      repeat (first | (refine nf1_sound rfl ?_; simp [go_sem, ↓iteOmega, iteOmega, toNatUp]; (repeat (refine And.intro (by omega) ?_)); try (refine ⟨DrawChk_of (by kernel_rfl), ?_⟩)) | (refine itePos (by omega) ?_; try simp [go_sem, ↓iteOmega, iteOmega, toNatUp]) | (refine iteNeg (by omega) ?_; try simp [go_sem, ↓iteOmega, iteOmega, toNatUp]) | (refine ⟨DrawChk_of (by kernel_rfl), ?_⟩))
      first | rw [RetQ_ret] | rw [RetQ_normal]
      refine ⟨[], ?_⟩
      simp [go_sem, ↓iteOmega, iteOmega, toNatUp]
    · rw [if_neg (by omega)] at h
      obtain ⟨rfl, rfl⟩ := Prod.mk.inj h
      refine FnOk.intro fact_mixed Try.func23 rfl Try.ntmps23 (by rfl) (by simp) ?_
      repeat (first | (refine nf1_sound rfl ?_; simp [go_sem, ↓iteOmega, iteOmega, toNatUp]; (repeat (refine And.intro (by omega) ?_)); try (refine ⟨DrawChk_of (by kernel_rfl), ?_⟩)) | (refine itePos (by omega) ?_; try simp [go_sem, ↓iteOmega, iteOmega, toNatUp]) | (refine iteNeg (by omega) ?_; try simp [go_sem, ↓iteOmega, iteOmega, toNatUp]) | (refine ⟨DrawChk_of (by kernel_rfl), ?_⟩))
      first | rw [RetQ_ret] | rw [RetQ_normal]
      refine ⟨[], ?_⟩
      simp [go_sem, ↓iteOmega, iteOmega, toNatUp]
end Go.Proofs.Ytopmmodcaoaaeaa
namespace Go.Proofs.Ytopmmodcaoaaeaa
open Go.RowKit Sy
open Go.IntWalk (iteOmega toNatUp)
set_option linter.unusedVariables false
set_option linter.unusedSimpArgs false
/-- How many of the telegrams come next, one behind the other. -/
def giveN : Int → List Tg → Nat
  | _, [] => 0
  | nx, t :: r => if t.sq = nx then giveN (nx + 1) r + 1 else 0
theorem giveN_le : ∀ (nx : Int) (l : List Tg), giveN nx l ≤ l.length
  | _, [] => Nat.le_refl _
  | nx, t :: r => by
    have := giveN_le (nx + 1) r
    unfold giveN; split <;> simp <;> omega
theorem giveN_lt : ∀ (nx : Int) (l : List Tg) {k : Nat}, k < giveN nx l → ∃ t, l[k]? = some t ∧ t.sq = nx + k
  | _, [], k, h => by simp [giveN] at h
  | nx, t :: r, k, h => by
    unfold giveN at h
    split at h
    · cases k with
      | zero => exact ⟨t, rfl, by simp; assumption⟩
      | succ k =>
        obtain ⟨x, h1, h2⟩ := giveN_lt (nx + 1) r (k := k) (by omega)
        exact ⟨x, by simpa using h1, by omega⟩
    · omega
theorem giveN_end : ∀ (nx : Int) (l : List Tg) {t : Tg}, l[giveN nx l]? = some t → t.sq ≠ nx + giveN nx l
  | _, [], t, h => by simp at h
  | nx, x :: r, t, h => by
    unfold giveN at h ⊢
    split at h
    · rename_i g
      rw [if_pos g]
      have := giveN_end (nx + 1) r (t := t) (by simpa using h)
      omega
    · rename_i g
      rw [if_neg g]
      simp at h
      subst h
      simpa using g
set_option maxRecDepth 100000 in
set_option maxHeartbeats 8000000 in
theorem rgive_fn (w : Wt) (out : List Tg) (hw : w.held.length ≤ 1000000) (ho : out.length ≤ 1000000) (hn0 : 0 ≤ w.nx) (hn1 : w.nx ≤ 1000000000000) (n : Nat) (hn : giveN w.nx w.held = n) : FnOk Try.prog 64 [.t (encWt w), .own 1] [(1, blkTgs out)] (.tup [.t (encWt ⟨w.st, w.ep, w.nx + n, w.held.drop n⟩), .own 1000]) [(1000, blkTgs (out ++ w.held.take n))] := by
  obtain ⟨st, ep, nx, l⟩ := w
  dsimp only at *
  have hnl := giveN_le nx l
  have hlt : ∀ k, k < n → ∃ t, l[k]? = some t ∧ t.sq = nx + k := fun k hk => giveN_lt nx l (by omega)
  have hend : ∀ t, l[n]? = some t → t.sq ≠ nx + n := fun t ht => by subst hn; exact giveN_end nx l ht
  rw [hn] at hnl
  clear hn
  obtain ⟨D, d0, ds, de, dn⟩ : ∃ D : Nat → List Tg, D 0 = l ∧ (∀ k t, l[k]? = some t → D k = t :: D (k + 1)) ∧ D l.length = [] ∧ D n = l.drop n :=
    ⟨fun k => l.drop k, by simp, fun k t h => drop_cons h, by simp, rfl⟩
  obtain ⟨Y, y0, ys, yn, yl⟩ : ∃ Y : Nat → List Tg, Y 0 = out ∧ (∀ k t, l[k]? = some t → Y (k + 1) = Y k ++ [t]) ∧ Y n = out ++ l.take n ∧ (∀ k, (Y k).length ≤ 2000000) :=
    ⟨fun k => out ++ l.take k, by simp, fun k t h => by simp only; rw [take_snoc h, List.append_assoc], rfl, fun k => by simp; omega⟩
  rw [← dn, ← yn]
  refine FnOk.intro fact_mixed Try.func64 rfl Try.ntmps64 (by rfl) (by simp) ?_
  repeat (first | (refine nf1_sound rfl ?_; simp [go_sem, ↓iteOmega, iteOmega, toNatUp]; (repeat (refine And.intro (by omega) ?_)); try (refine ⟨DrawChk_of (by kernel_rfl), ?_⟩)) | (refine itePos (by omega) ?_; try simp [go_sem, ↓iteOmega, iteOmega, toNatUp]) | (refine iteNeg (by omega) ?_; try simp [go_sem, ↓iteOmega, iteOmega, toNatUp]) | (refine ⟨DrawChk_of (by kernel_rfl), ?_⟩))
  refine nf1_sound' _ _ _ ?_; simp only [nf1]
  refine CW.loop (ι := Nat) (fun k => ⟨[(1, .own 500), (2, .pt 502 [] 0), (4, .pt 504 [] 0)], [(502, .box 47 (.t (.agg [.int st, .int ep, .int (nx + k), encTgs (D k)]))), (504, .box 47 (.t (.agg [.int 0, .int 0, .int 0, .nil]))), (500, blkTgs (Y k))]⟩) (fun k => k ≤ n) (fun k => n - k) 0 [(502, some 102), (504, some 104), (500, some 1)] (by omega) ?_ ?_
  · simp [go_sem, ↓iteOmega, iteOmega, toNatUp, d0, y0]
  intro k hk
  have hyk := yl k
  by_cases hkn : k < n
  · obtain ⟨t, ht, hs⟩ := hlt k hkn
    have h1 := ds k t ht
    have h2 := ys k t ht
    obtain ⟨E, hE⟩ : ∃ E, D (k + 1) = E := ⟨_, rfl⟩
    rw [hE] at h1
    obtain ⟨V, hV⟩ : ∃ V, Y k = V := ⟨_, rfl⟩
    rw [hV] at h2 hyk ⊢
    rw [h1]
    repeat (first | (refine nf1_sound rfl ?_; simp [go_sem, ↓iteOmega, iteOmega, toNatUp, hs]; (repeat (refine And.intro (by omega) ?_)); try (refine ⟨DrawChk_of (by kernel_rfl), ?_⟩)) | (refine itePos (by omega) ?_; try simp [go_sem, ↓iteOmega, iteOmega, toNatUp, hs]) | (refine iteNeg (by omega) ?_; try simp [go_sem, ↓iteOmega, iteOmega, toNatUp, hs]) | (refine ⟨DrawChk_of (by kernel_rfl), ?_⟩))
    rw [RoundQ_normal]; refine ⟨k + 1, [(502, some 502), (504, some 504), (500, some 126)], ?_, ?_, ?_⟩
    · omega
    · omega
    simp [go_sem, ↓iteOmega, iteOmega, toNatUp, h2, hE]
    exact ⟨⟨by omega, List.take_of_length_le (by simp)⟩, hs⟩
  · obtain rfl : k = n := by omega
    by_cases hl : k < l.length
    · obtain ⟨t, ht⟩ := has_get hl
      have hs := hend t ht
      have h1 := ds k t ht
      obtain ⟨E, hE⟩ : ∃ E, D (k + 1) = E := ⟨_, rfl⟩
      rw [hE] at h1
      obtain ⟨V, hV⟩ : ∃ V, Y k = V := ⟨_, rfl⟩
      rw [hV] at hyk ⊢
      rw [h1]
      repeat (first | (refine nf1_sound rfl ?_; simp [go_sem, ↓iteOmega, iteOmega, toNatUp, hs]; (repeat (refine And.intro (by omega) ?_)); try (refine ⟨DrawChk_of (by kernel_rfl), ?_⟩)) | (refine itePos (by omega) ?_; try simp [go_sem, ↓iteOmega, iteOmega, toNatUp, hs]) | (refine iteNeg (by omega) ?_; try simp [go_sem, ↓iteOmega, iteOmega, toNatUp, hs]) | (refine ⟨DrawChk_of (by kernel_rfl), ?_⟩))
      first | rw [RetQ_ret] | rw [RetQ_normal]
      refine ⟨[(1000, some 500)], ?_⟩
      simp [go_sem, ↓iteOmega, iteOmega, toNatUp]
    · obtain rfl : k = l.length := by omega
      rw [de]
      obtain ⟨V, hV⟩ : ∃ V, Y l.length = V := ⟨_, rfl⟩
      rw [hV] at hyk ⊢
      repeat (first | (refine nf1_sound rfl ?_; simp [go_sem, ↓iteOmega, iteOmega, toNatUp]; (repeat (refine And.intro (by omega) ?_)); try (refine ⟨DrawChk_of (by kernel_rfl), ?_⟩)) | (refine itePos (by omega) ?_; try simp [go_sem, ↓iteOmega, iteOmega, toNatUp]) | (refine iteNeg (by omega) ?_; try simp [go_sem, ↓iteOmega, iteOmega, toNatUp]) | (refine ⟨DrawChk_of (by kernel_rfl), ?_⟩))
      first | rw [RetQ_ret] | rw [RetQ_normal]
      refine ⟨[(1000, some 500)], ?_⟩
      simp [go_sem, ↓iteOmega, iteOmega, toNatUp]
set_option maxRecDepth 100000 in
set_option maxHeartbeats 8000000 in
theorem rgive0_fn (w : Wt) (hw : w.held.length ≤ 1000000) (hn0 : 0 ≤ w.nx) (hn1 : w.nx ≤ 1000000000000) (n : Nat) (hn : giveN w.nx w.held = n) : FnOk Try.prog 64 [.t (encWt w), .t .nil] [] (.tup [.t (encWt ⟨w.st, w.ep, w.nx + n, w.held.drop n⟩), .own 1000]) [(1000, blkTgs (w.held.take n))] := by
  obtain ⟨st, ep, nx, l⟩ := w
  dsimp only at *
  have hnl := giveN_le nx l
  have hlt : ∀ k, k < n → ∃ t, l[k]? = some t ∧ t.sq = nx + k := fun k hk => giveN_lt nx l (by omega)
  have hend : ∀ t, l[n]? = some t → t.sq ≠ nx + n := fun t ht => by subst hn; exact giveN_end nx l ht
  rw [hn] at hnl
  clear hn
  obtain ⟨D, d0, ds, de, dn⟩ : ∃ D : Nat → List Tg, D 0 = l ∧ (∀ k t, l[k]? = some t → D k = t :: D (k + 1)) ∧ D l.length = [] ∧ D n = l.drop n :=
    ⟨fun k => l.drop k, by simp, fun k t h => drop_cons h, by simp, rfl⟩
  obtain ⟨Y, y0, ys, yn, yl⟩ : ∃ Y : Nat → List Tg, Y 0 = [] ∧ (∀ k t, l[k]? = some t → Y (k + 1) = Y k ++ [t]) ∧ Y n = l.take n ∧ (∀ k, (Y k).length ≤ 2000000) :=
    ⟨fun k => l.take k, by simp, fun k t h => by simp only; rw [take_snoc h], rfl, fun k => by simp; omega⟩
  rw [← dn, ← yn]
  refine FnOk.intro fact_mixed Try.func64 rfl Try.ntmps64 (by rfl) (by simp) ?_
  repeat (first | (refine nf1_sound rfl ?_; simp [go_sem, ↓iteOmega, iteOmega, toNatUp]; (repeat (refine And.intro (by omega) ?_)); try (refine ⟨DrawChk_of (by kernel_rfl), ?_⟩)) | (refine itePos (by omega) ?_; try simp [go_sem, ↓iteOmega, iteOmega, toNatUp]) | (refine iteNeg (by omega) ?_; try simp [go_sem, ↓iteOmega, iteOmega, toNatUp]) | (refine ⟨DrawChk_of (by kernel_rfl), ?_⟩))
  refine nf1_sound' _ _ _ ?_; simp only [nf1]
  refine CW.loop (ι := Nat) (fun k => ⟨[(1, .own 500), (2, .pt 502 [] 0), (4, .pt 504 [] 0)], [(502, .box 47 (.t (.agg [.int st, .int ep, .int (nx + k), encTgs (D k)]))), (504, .box 47 (.t (.agg [.int 0, .int 0, .int 0, .nil]))), (500, blkTgs (Y k))]⟩) (fun k => k ≤ n) (fun k => n - k) 0 [(502, some 102), (504, some 104), (500, none)] (by omega) ?_ ?_
  · simp [go_sem, ↓iteOmega, iteOmega, toNatUp, d0, y0]
  intro k hk
  have hyk := yl k
  by_cases hkn : k < n
  · obtain ⟨t, ht, hs⟩ := hlt k hkn
    have h1 := ds k t ht
    have h2 := ys k t ht
    obtain ⟨E, hE⟩ : ∃ E, D (k + 1) = E := ⟨_, rfl⟩
    rw [hE] at h1
    obtain ⟨V, hV⟩ : ∃ V, Y k = V := ⟨_, rfl⟩
    rw [hV] at h2 hyk ⊢
    rw [h1]
    repeat (first | (refine nf1_sound rfl ?_; simp [go_sem, ↓iteOmega, iteOmega, toNatUp, hs]; (repeat (refine And.intro (by omega) ?_)); try (refine ⟨DrawChk_of (by kernel_rfl), ?_⟩)) | (refine itePos (by omega) ?_; try simp [go_sem, ↓iteOmega, iteOmega, toNatUp, hs]) | (refine iteNeg (by omega) ?_; try simp [go_sem, ↓iteOmega, iteOmega, toNatUp, hs]) | (refine ⟨DrawChk_of (by kernel_rfl), ?_⟩))
    rw [RoundQ_normal]; refine ⟨k + 1, [(502, some 502), (504, some 504), (500, some 126)], ?_, ?_, ?_⟩
    · omega
    · omega
    simp [go_sem, ↓iteOmega, iteOmega, toNatUp, h2, hE]
    exact ⟨⟨by omega, List.take_of_length_le (by simp)⟩, hs⟩
  · obtain rfl : k = n := by omega
    by_cases hl : k < l.length
    · obtain ⟨t, ht⟩ := has_get hl
      have hs := hend t ht
      have h1 := ds k t ht
      obtain ⟨E, hE⟩ : ∃ E, D (k + 1) = E := ⟨_, rfl⟩
      rw [hE] at h1
      obtain ⟨V, hV⟩ : ∃ V, Y k = V := ⟨_, rfl⟩
      rw [hV] at hyk ⊢
      rw [h1]
      repeat (first | (refine nf1_sound rfl ?_; simp [go_sem, ↓iteOmega, iteOmega, toNatUp, hs]; (repeat (refine And.intro (by omega) ?_)); try (refine ⟨DrawChk_of (by kernel_rfl), ?_⟩)) | (refine itePos (by omega) ?_; try simp [go_sem, ↓iteOmega, iteOmega, toNatUp, hs]) | (refine iteNeg (by omega) ?_; try simp [go_sem, ↓iteOmega, iteOmega, toNatUp, hs]) | (refine ⟨DrawChk_of (by kernel_rfl), ?_⟩))
      first | rw [RetQ_ret] | rw [RetQ_normal]
      refine ⟨[(1000, some 500)], ?_⟩
      simp [go_sem, ↓iteOmega, iteOmega, toNatUp]
    · obtain rfl : k = l.length := by omega
      rw [de]
      obtain ⟨V, hV⟩ : ∃ V, Y l.length = V := ⟨_, rfl⟩
      rw [hV] at hyk ⊢
      repeat (first | (refine nf1_sound rfl ?_; simp [go_sem, ↓iteOmega, iteOmega, toNatUp]; (repeat (refine And.intro (by omega) ?_)); try (refine ⟨DrawChk_of (by kernel_rfl), ?_⟩)) | (refine itePos (by omega) ?_; try simp [go_sem, ↓iteOmega, iteOmega, toNatUp]) | (refine iteNeg (by omega) ?_; try simp [go_sem, ↓iteOmega, iteOmega, toNatUp]) | (refine ⟨DrawChk_of (by kernel_rfl), ?_⟩))
      first | rw [RetQ_ret] | rw [RetQ_normal]
      refine ⟨[(1000, some 500)], ?_⟩
      simp [go_sem, ↓iteOmega, iteOmega, toNatUp]
end Go.Proofs.Ytopmmodcaoaaeaa
namespace Go.Proofs.Ytopmmodcaoaaeaa
open Go.RowKit Sy
open Go.IntWalk (iteOmega toNatUp)
set_option linter.unusedVariables false
set_option linter.unusedSimpArgs false
def keys (l : List Tg) : List Int := l.map (·.sq)
theorem lb_lt (t : Int) : ∀ (l : List Tg) {i : Nat}, i < lb t (keys l) → ∃ x, l[i]? = some x ∧ x.sq < t
  | [], i, h => by simp [keys, lb] at h
  | k :: r, i, h => by
    have e : keys (k :: r) = k.sq :: keys r := rfl
    rw [e] at h
    unfold lb at h
    split at h
    · cases i with
      | zero => exact ⟨k, rfl, by assumption⟩
      | succ i => exact lb_lt t r (i := i) (by omega)
    · omega
theorem lb_end (t : Int) : ∀ (l : List Tg) {x : Tg}, l[lb t (keys l)]? = some x → ¬ x.sq < t
  | [], x, h => by simp at h
  | k :: r, x, h => by
    have e : keys (k :: r) = k.sq :: keys r := rfl
    rw [e] at h
    unfold lb at h
    split at h
    · exact lb_end t r (by simpa using h)
    · simp at h; subst h; assumption
theorem lb_len (t : Int) (l : List Tg) : lb t (keys l) ≤ l.length := by
  have := lb_le t (keys l)
  simpa [keys] using this
def gvW (w : Wt) : Wt := ⟨w.st, w.ep, w.nx + giveN w.nx w.held, w.held.drop (giveN w.nx w.held)⟩
def gvL (w : Wt) : List Tg := w.held.take (giveN w.nx w.held)
/-- What is given out, when a telegram was put in. -/
def endV (w : Wt) (o : List Tg) (win : Int) : Wt × List Tg :=
  match (gvW w).held with
  | [] => (gvW w, o ++ gvL w)
  | x :: r => if win < (r.length + 1 : Nat) then (gvW ⟨w.st, w.ep, x.sq, x :: r⟩, o ++ gvL w ++ gvL ⟨w.st, w.ep, x.sq, x :: r⟩) else (gvW w, o ++ gvL w)
def putV (w : Wt) (o : List Tg) (t : Tg) (win : Int) : Wt × List Tg :=
  if ∃ x, w.held[lb t.sq (keys w.held)]? = some x ∧ x.sq = t.sq then (w, []) else endV ⟨w.st, w.ep, w.nx, w.held.take (lb t.sq (keys w.held)) ++ [t] ++ w.held.drop (lb t.sq (keys w.held))⟩ o win
def takeV (w : Wt) (t : Tg) (win : Int) : Wt × List Tg :=
  if t.ep < w.ep ∨ t.ep = w.ep ∧ t.sq < w.nx then (w, []) else if w.ep < t.ep then putV ⟨w.st, t.ep, 0, []⟩ w.held t win else putV w [] t win
set_option maxRecDepth 100000 in
set_option maxHeartbeats 8000000 in
theorem rtakeB_dup (w : Wt) (t x : Tg) (win : Int) (hw : w.held.length ≤ 1000000) (he : t.ep = w.ep) (hq : ¬ t.sq < w.nx) (p : Nat) (hp : lb t.sq (keys w.held) = p) (hx : w.held[p]? = some x) (hxs : x.sq = t.sq) : FnOk Try.prog 42 [.t (encWt w), .t (encTg t), .t (.int win)] [] (.tup [.t (encWt w), .t .nil]) [] := by
  obtain ⟨st, ep, nx, l⟩ := w
  obtain ⟨t1, t2, t3, t4, t5, tv⟩ := t
  dsimp only at *
  subst he
  have hlt : ∀ k, k < p → ∃ y, l[k]? = some y ∧ y.sq < t3 := fun k hk => lb_lt t3 l (by omega)
  have hpl := (List.getElem?_eq_some_iff.1 hx).1
  clear hp
  refine FnOk.intro fact_mixed Try.func42 rfl Try.ntmps42 (by rfl) (by simp) ?_
  repeat (first | (refine nf1_sound rfl ?_; simp [go_sem, ↓iteOmega, iteOmega, toNatUp]; (repeat (refine And.intro (by omega) ?_)); try (refine ⟨DrawChk_of (by kernel_rfl), ?_⟩)) | (refine itePos (by omega) ?_; try simp [go_sem, ↓iteOmega, iteOmega, toNatUp]) | (refine iteNeg (by omega) ?_; try simp [go_sem, ↓iteOmega, iteOmega, toNatUp]) | (refine ⟨DrawChk_of (by kernel_rfl), ?_⟩))
  refine nf1_sound' _ _ _ ?_; simp only [nf1]
  refine CW.loop (ι := Nat) (fun k => ⟨[(2, .t (.int win)), (3, .pt 503 [] 0), (4, .pt 504 [] 0), (6, .pt 506 [] 0), (8, .t .nil), (9, .t (.int k))], [(503, .box 47 (.t (.agg [.int st, .int t2, .int nx, encTgs l]))), (504, .box 38 (.t (.agg [.int t1, .int t2, .int t3, .int t4, .int t5, encIs tv]))), (506, .box 47 (.t (.agg [.int 0, .int 0, .int 0, .nil])))]⟩) (fun k => k ≤ p) (fun k => p - k) 0 [(503, some 103), (504, some 104), (506, some 106)] (by omega) ?_ ?_
  · simp [go_sem, ↓iteOmega, iteOmega, toNatUp]
  intro k hk
  by_cases hkp : k < p
  · obtain ⟨y, hy, hys⟩ := hlt k hkp
    have hkl : k < l.length := by omega
    repeat (first | (refine nf1_sound rfl ?_; simp [go_sem, ↓iteOmega, iteOmega, toNatUp, hy]; (repeat (refine And.intro (by omega) ?_)); try (refine ⟨DrawChk_of (by kernel_rfl), ?_⟩)) | (refine itePos (by omega) ?_; try simp [go_sem, ↓iteOmega, iteOmega, toNatUp, hy]) | (refine iteNeg (by omega) ?_; try simp [go_sem, ↓iteOmega, iteOmega, toNatUp, hy]) | (refine ⟨DrawChk_of (by kernel_rfl), ?_⟩))
    rw [RoundQ_normal]; refine ⟨k + 1, [(503, some 503), (504, some 504), (506, some 506)], ?_, ?_, ?_⟩
    · omega
    · omega
    simp [go_sem, ↓iteOmega, iteOmega, toNatUp]
  · obtain rfl : k = p := by omega
    repeat (first | (refine nf1_sound rfl ?_; simp [go_sem, ↓iteOmega, iteOmega, toNatUp, hx, hxs]; (repeat (refine And.intro (by omega) ?_)); try (refine ⟨DrawChk_of (by kernel_rfl), ?_⟩)) | (refine itePos (by omega) ?_; try simp [go_sem, ↓iteOmega, iteOmega, toNatUp, hx, hxs]) | (refine iteNeg (by omega) ?_; try simp [go_sem, ↓iteOmega, iteOmega, toNatUp, hx, hxs]) | (refine ⟨DrawChk_of (by kernel_rfl), ?_⟩))
    first | rw [RetQ_ret] | rw [RetQ_normal]
    refine ⟨[], ?_⟩
    simp [go_sem, ↓iteOmega, iteOmega, toNatUp]
end Go.Proofs.Ytopmmodcaoaaeaa
namespace Go.Proofs.Ytopmmodcaoaaeaa
open Go.RowKit Sy
open Go.IntWalk (iteOmega toNatUp)
set_option linter.unusedVariables false
set_option linter.unusedSimpArgs false
set_option maxRecDepth 100000 in
set_option maxHeartbeats 8000000 in
theorem rtakeB_few (w : Wt) (t : Tg) (win : Int) (hw : w.held.length ≤ 100000) (he : t.ep = w.ep) (hq : ¬ t.sq < w.nx) (h0 : 0 ≤ w.nx) (h1 : w.nx ≤ 1000000000) (p : Nat) (hp : lb t.sq (keys w.held) = p) (hx : ∀ x, w.held[p]? = some x → x.sq ≠ t.sq) (z : Wt) (hz : gvW ⟨w.st, w.ep, w.nx, w.held.take p ++ [t] ++ w.held.drop p⟩ = z) (hf : ¬ win < (z.held.length : Int)) : FnOk Try.prog 42 [.t (encWt w), .t (encTg t), .t (.int win)] [] (.tup [.t (encWt z), .own 1000]) [(1000, blkTgs (gvL ⟨w.st, w.ep, w.nx, w.held.take p ++ [t] ++ w.held.drop p⟩))] := by
  obtain ⟨st, ep, nx, l⟩ := w
  obtain ⟨t1, t2, t3, t4, t5, tv⟩ := t
  dsimp only at *
  subst he
  have hlt : ∀ k, k < p → ∃ y, l[k]? = some y ∧ y.sq < t3 := fun k hk => lb_lt t3 l (by omega)
  have hend : ∀ y, l[p]? = some y → ¬ y.sq < t3 := fun y hy => by subst hp; exact lb_end t3 l hy
  have hpl : p ≤ l.length := by subst hp; exact lb_len t3 l
  clear hp
  have c := rgive0_fn ⟨st, t2, nx, l.take p ++ [⟨t1, t2, t3, t4, t5, tv⟩] ++ l.drop p⟩ (by simp; omega) h0 (by dsimp only; omega) _ rfl
  have htk : List.take l.length (l.map encTg) = l.map encTg := List.take_of_length_le (by simp)
  have hz' := hz
  unfold gvW at hz'
  dsimp only at hz' c
  rw [hz'] at c
  refine FnOk.intro fact_mixed Try.func42 rfl Try.ntmps42 (by rfl) (by simp) ?_
  repeat (first | (refine nf1_sound rfl ?_; simp [go_sem, ↓iteOmega, iteOmega, toNatUp]; (repeat (refine And.intro (by omega) ?_)); try (refine ⟨DrawChk_of (by kernel_rfl), ?_⟩)) | (refine itePos (by omega) ?_; try simp [go_sem, ↓iteOmega, iteOmega, toNatUp]) | (refine iteNeg (by omega) ?_; try simp [go_sem, ↓iteOmega, iteOmega, toNatUp]) | (refine ⟨DrawChk_of (by kernel_rfl), ?_⟩))
  refine nf1_sound' _ _ _ ?_; simp only [nf1]
  refine CW.loop (ι := Nat) (fun k => ⟨[(2, .t (.int win)), (3, .pt 503 [] 0), (4, .pt 504 [] 0), (6, .pt 506 [] 0), (8, .t .nil), (9, .t (.int k))], [(503, .box 47 (.t (.agg [.int st, .int t2, .int nx, encTgs l]))), (504, .box 38 (.t (.agg [.int t1, .int t2, .int t3, .int t4, .int t5, encIs tv]))), (506, .box 47 (.t (.agg [.int 0, .int 0, .int 0, .nil])))]⟩) (fun k => k ≤ p) (fun k => p - k) 0 [(503, some 103), (504, some 104), (506, some 106)] (by omega) ?_ ?_
  · simp [go_sem, ↓iteOmega, iteOmega, toNatUp]
  intro k hk
  by_cases hkp : k < p
  · obtain ⟨y, hy, hys⟩ := hlt k hkp
    have hkl : k < l.length := by omega
    repeat (first | (refine nf1_sound rfl ?_; simp [go_sem, ↓iteOmega, iteOmega, toNatUp, hy]; (repeat (refine And.intro (by omega) ?_)); try (refine ⟨DrawChk_of (by kernel_rfl), ?_⟩)) | (refine itePos (by omega) ?_; try simp [go_sem, ↓iteOmega, iteOmega, toNatUp, hy]) | (refine iteNeg (by omega) ?_; try simp [go_sem, ↓iteOmega, iteOmega, toNatUp, hy]) | (refine ⟨DrawChk_of (by kernel_rfl), ?_⟩))
    rw [RoundQ_normal]; refine ⟨k + 1, [(503, some 503), (504, some 504), (506, some 506)], ?_, ?_, ?_⟩
    · omega
    · omega
    simp [go_sem, ↓iteOmega, iteOmega, toNatUp]
  · obtain rfl : k = p := by omega
    by_cases hkl : k < l.length
    · obtain ⟨y, hy⟩ := has_get hkl
      have hy1 := hend y hy
      have hy2 := hx y hy
      have hy3 : ¬ y.sq = t3 := hy2
      repeat (first | (refine nf1_sound rfl ?_; simp [go_sem, ↓iteOmega, iteOmega, toNatUp, hy, hy3, htk]; (repeat (refine And.intro (by omega) ?_)); try (refine ⟨DrawChk_of (by kernel_rfl), ?_⟩)) | (refine itePos (by omega) ?_; try simp [go_sem, ↓iteOmega, iteOmega, toNatUp, hy, hy3, htk]) | (refine iteNeg (by omega) ?_; try simp [go_sem, ↓iteOmega, iteOmega, toNatUp, hy, hy3, htk]) | (refine ⟨DrawChk_of (by kernel_rfl), ?_⟩))
      refine CallK.fn (c) [(1000, 509)] [] [192] (by kernel_rfl) (by simp [go_sem, ↓iteOmega, iteOmega, toNatUp, htk]) (by simp [go_sem, ↓iteOmega, iteOmega, toNatUp, htk]) (by simp [go_sem, ↓iteOmega, iteOmega, toNatUp, htk]) (Or.inl rfl) ?_
      simp [go_sem, ↓iteOmega, iteOmega, toNatUp, htk]
      repeat (refine And.intro (by omega) ?_)
      try (refine ⟨DrawChk_of (by kernel_rfl), ?_⟩)
      repeat (first | (refine nf1_sound rfl ?_; simp [go_sem, ↓iteOmega, iteOmega, toNatUp, hf]; (repeat (refine And.intro (by omega) ?_)); try (refine ⟨DrawChk_of (by kernel_rfl), ?_⟩)) | (refine itePos (by omega) ?_; try simp [go_sem, ↓iteOmega, iteOmega, toNatUp, hf]) | (refine iteNeg (by omega) ?_; try simp [go_sem, ↓iteOmega, iteOmega, toNatUp, hf]) | (refine ⟨DrawChk_of (by kernel_rfl), ?_⟩))
      first | rw [RetQ_ret] | rw [RetQ_normal]
      refine ⟨[(1000, some 509)], ?_⟩
      simp [go_sem, ↓iteOmega, iteOmega, toNatUp]
      simp [gvL, List.map_take, List.map_drop, encTg, encIs]
    · repeat (first | (refine nf1_sound rfl ?_; simp [go_sem, ↓iteOmega, iteOmega, toNatUp, hkl, htk]; (repeat (refine And.intro (by omega) ?_)); try (refine ⟨DrawChk_of (by kernel_rfl), ?_⟩)) | (refine itePos (by omega) ?_; try simp [go_sem, ↓iteOmega, iteOmega, toNatUp, hkl, htk]) | (refine iteNeg (by omega) ?_; try simp [go_sem, ↓iteOmega, iteOmega, toNatUp, hkl, htk]) | (refine ⟨DrawChk_of (by kernel_rfl), ?_⟩))
      refine CallK.fn (c) [(1000, 509)] [] [192] (by kernel_rfl) (by simp [go_sem, ↓iteOmega, iteOmega, toNatUp, htk]) (by simp [go_sem, ↓iteOmega, iteOmega, toNatUp, htk]) (by simp [go_sem, ↓iteOmega, iteOmega, toNatUp, htk]) (Or.inl rfl) ?_
      simp [go_sem, ↓iteOmega, iteOmega, toNatUp, htk]
      repeat (refine And.intro (by omega) ?_)
      try (refine ⟨DrawChk_of (by kernel_rfl), ?_⟩)
      repeat (first | (refine nf1_sound rfl ?_; simp [go_sem, ↓iteOmega, iteOmega, toNatUp, hf]; (repeat (refine And.intro (by omega) ?_)); try (refine ⟨DrawChk_of (by kernel_rfl), ?_⟩)) | (refine itePos (by omega) ?_; try simp [go_sem, ↓iteOmega, iteOmega, toNatUp, hf]) | (refine iteNeg (by omega) ?_; try simp [go_sem, ↓iteOmega, iteOmega, toNatUp, hf]) | (refine ⟨DrawChk_of (by kernel_rfl), ?_⟩))
      first | rw [RetQ_ret] | rw [RetQ_normal]
      refine ⟨[(1000, some 509)], ?_⟩
      simp [go_sem, ↓iteOmega, iteOmega, toNatUp]
      simp [gvL, List.map_take, List.map_drop, encTg, encIs]
set_option maxRecDepth 100000 in
set_option maxHeartbeats 8000000 in
theorem rtakeB_many (w : Wt) (t : Tg) (win : Int) (hw : w.held.length ≤ 100000) (he : t.ep = w.ep) (hq : ¬ t.sq < w.nx) (h0 : 0 ≤ w.nx) (h1 : w.nx ≤ 1000000000) (p : Nat) (hp : lb t.sq (keys w.held) = p) (hx : ∀ x, w.held[p]? = some x → x.sq ≠ t.sq) (zs ze zn : Int) (x : Tg) (r : List Tg) (hz : gvW ⟨w.st, w.ep, w.nx, w.held.take p ++ [t] ++ w.held.drop p⟩ = ⟨zs, ze, zn, x :: r⟩) (hf : win < ((r.length + 1 : Nat) : Int)) (hr : r.length ≤ 100000) (hs0 : 0 ≤ x.sq) (hs1 : x.sq ≤ 1000000000000) (G : List Tg) (hG : gvL ⟨w.st, w.ep, w.nx, w.held.take p ++ [t] ++ w.held.drop p⟩ = G) (hGl : G.length ≤ 1000000) (m : Nat) (hm : giveN x.sq (x :: r) = m) : FnOk Try.prog 42 [.t (encWt w), .t (encTg t), .t (.int win)] [] (.tup [.t (encWt ⟨zs, ze, x.sq + m, (x :: r).drop m⟩), .own 1000]) [(1000, blkTgs (G ++ (x :: r).take m))] := by
  obtain ⟨st, ep, nx, l⟩ := w
  obtain ⟨t1, t2, t3, t4, t5, tv⟩ := t
  dsimp only at *
  subst he
  have hlt : ∀ k, k < p → ∃ y, l[k]? = some y ∧ y.sq < t3 := fun k hk => lb_lt t3 l (by omega)
  have hend : ∀ y, l[p]? = some y → ¬ y.sq < t3 := fun y hy => by subst hp; exact lb_end t3 l hy
  have hpl : p ≤ l.length := by subst hp; exact lb_len t3 l
  clear hp
  have c := rgive0_fn ⟨st, t2, nx, l.take p ++ [⟨t1, t2, t3, t4, t5, tv⟩] ++ l.drop p⟩ (by simp; omega) h0 (by dsimp only; omega) _ rfl
  have htk : List.take l.length (l.map encTg) = l.map encTg := List.take_of_length_le (by simp)
  have hz' := hz
  unfold gvW at hz'
  dsimp only at hz' c
  rw [hz'] at c
  have hG' := hG
  unfold gvL at hG'
  dsimp only at hG'
  rw [hG'] at c
  have c2 := rgive_fn ⟨zs, ze, x.sq, x :: r⟩ G (by simp; omega) hGl hs0 hs1 m hm
  refine FnOk.intro fact_mixed Try.func42 rfl Try.ntmps42 (by rfl) (by simp) ?_
  repeat (first | (refine nf1_sound rfl ?_; simp [go_sem, ↓iteOmega, iteOmega, toNatUp]; (repeat (refine And.intro (by omega) ?_)); try (refine ⟨DrawChk_of (by kernel_rfl), ?_⟩)) | (refine itePos (by omega) ?_; try simp [go_sem, ↓iteOmega, iteOmega, toNatUp]) | (refine iteNeg (by omega) ?_; try simp [go_sem, ↓iteOmega, iteOmega, toNatUp]) | (refine ⟨DrawChk_of (by kernel_rfl), ?_⟩))
  refine nf1_sound' _ _ _ ?_; simp only [nf1]
  refine CW.loop (ι := Nat) (fun k => ⟨[(2, .t (.int win)), (3, .pt 503 [] 0), (4, .pt 504 [] 0), (6, .pt 506 [] 0), (8, .t .nil), (9, .t (.int k))], [(503, .box 47 (.t (.agg [.int st, .int t2, .int nx, encTgs l]))), (504, .box 38 (.t (.agg [.int t1, .int t2, .int t3, .int t4, .int t5, encIs tv]))), (506, .box 47 (.t (.agg [.int 0, .int 0, .int 0, .nil])))]⟩) (fun k => k ≤ p) (fun k => p - k) 0 [(503, some 103), (504, some 104), (506, some 106)] (by omega) ?_ ?_
  · simp [go_sem, ↓iteOmega, iteOmega, toNatUp]
  intro k hk
  by_cases hkp : k < p
  · obtain ⟨y, hy, hys⟩ := hlt k hkp
    have hkl : k < l.length := by omega
    repeat (first | (refine nf1_sound rfl ?_; simp [go_sem, ↓iteOmega, iteOmega, toNatUp, hy]; (repeat (refine And.intro (by omega) ?_)); try (refine ⟨DrawChk_of (by kernel_rfl), ?_⟩)) | (refine itePos (by omega) ?_; try simp [go_sem, ↓iteOmega, iteOmega, toNatUp, hy]) | (refine iteNeg (by omega) ?_; try simp [go_sem, ↓iteOmega, iteOmega, toNatUp, hy]) | (refine ⟨DrawChk_of (by kernel_rfl), ?_⟩))
    rw [RoundQ_normal]; refine ⟨k + 1, [(503, some 503), (504, some 504), (506, some 506)], ?_, ?_, ?_⟩
    · omega
    · omega
    simp [go_sem, ↓iteOmega, iteOmega, toNatUp]
  · obtain rfl : k = p := by omega
    by_cases hkl : k < l.length
    · obtain ⟨y, hy⟩ := has_get hkl
      have hy1 := hend y hy
      have hy2 := hx y hy
      have hy3 : ¬ y.sq = t3 := hy2
      repeat (first | (refine nf1_sound rfl ?_; simp [go_sem, ↓iteOmega, iteOmega, toNatUp, hy, hy3, htk]; (repeat (refine And.intro (by omega) ?_)); try (refine ⟨DrawChk_of (by kernel_rfl), ?_⟩)) | (refine itePos (by omega) ?_; try simp [go_sem, ↓iteOmega, iteOmega, toNatUp, hy, hy3, htk]) | (refine iteNeg (by omega) ?_; try simp [go_sem, ↓iteOmega, iteOmega, toNatUp, hy, hy3, htk]) | (refine ⟨DrawChk_of (by kernel_rfl), ?_⟩))
      refine CallK.fn (c) [(1000, 509)] [] [192] (by kernel_rfl) (by simp [go_sem, ↓iteOmega, iteOmega, toNatUp, htk]) (by simp [go_sem, ↓iteOmega, iteOmega, toNatUp, htk]) (by simp [go_sem, ↓iteOmega, iteOmega, toNatUp, htk]) (Or.inl rfl) ?_
      simp [go_sem, ↓iteOmega, iteOmega, toNatUp, htk]
      repeat (refine And.intro (by omega) ?_)
      try (refine ⟨DrawChk_of (by kernel_rfl), ?_⟩)
      repeat (first | (refine nf1_sound rfl ?_; simp [go_sem, ↓iteOmega, iteOmega, toNatUp]; (repeat (refine And.intro (by omega) ?_)); try (refine ⟨DrawChk_of (by kernel_rfl), ?_⟩)) | (refine itePos (by omega) ?_; try simp [go_sem, ↓iteOmega, iteOmega, toNatUp]) | (refine iteNeg (by omega) ?_; try simp [go_sem, ↓iteOmega, iteOmega, toNatUp]) | (refine ⟨DrawChk_of (by kernel_rfl), ?_⟩))
      refine CallK.fn (c2) [(1, 509), (1000, 510)] [] [] (by kernel_rfl) (by simp [go_sem, ↓iteOmega, iteOmega, toNatUp]) (by simp [go_sem, ↓iteOmega, iteOmega, toNatUp]) (by simp [go_sem, ↓iteOmega, iteOmega, toNatUp]) (Or.inl rfl) ?_
      simp [go_sem, ↓iteOmega, iteOmega, toNatUp]
      repeat (refine And.intro (by omega) ?_)
      try (refine ⟨DrawChk_of (by kernel_rfl), ?_⟩)
      repeat (first | (refine nf1_sound rfl ?_; simp [go_sem, ↓iteOmega, iteOmega, toNatUp]; (repeat (refine And.intro (by omega) ?_)); try (refine ⟨DrawChk_of (by kernel_rfl), ?_⟩)) | (refine itePos (by omega) ?_; try simp [go_sem, ↓iteOmega, iteOmega, toNatUp]) | (refine iteNeg (by omega) ?_; try simp [go_sem, ↓iteOmega, iteOmega, toNatUp]) | (refine ⟨DrawChk_of (by kernel_rfl), ?_⟩))
      first | rw [RetQ_ret] | rw [RetQ_normal]
      refine ⟨[(1000, some 510)], ?_⟩
      simp [go_sem, ↓iteOmega, iteOmega, toNatUp]
    · repeat (first | (refine nf1_sound rfl ?_; simp [go_sem, ↓iteOmega, iteOmega, toNatUp, hkl, htk]; (repeat (refine And.intro (by omega) ?_)); try (refine ⟨DrawChk_of (by kernel_rfl), ?_⟩)) | (refine itePos (by omega) ?_; try simp [go_sem, ↓iteOmega, iteOmega, toNatUp, hkl, htk]) | (refine iteNeg (by omega) ?_; try simp [go_sem, ↓iteOmega, iteOmega, toNatUp, hkl, htk]) | (refine ⟨DrawChk_of (by kernel_rfl), ?_⟩))
      refine CallK.fn (c) [(1000, 509)] [] [192] (by kernel_rfl) (by simp [go_sem, ↓iteOmega, iteOmega, toNatUp, htk]) (by simp [go_sem, ↓iteOmega, iteOmega, toNatUp, htk]) (by simp [go_sem, ↓iteOmega, iteOmega, toNatUp, htk]) (Or.inl rfl) ?_
      simp [go_sem, ↓iteOmega, iteOmega, toNatUp, htk]
      repeat (refine And.intro (by omega) ?_)
      try (refine ⟨DrawChk_of (by kernel_rfl), ?_⟩)
      repeat (first | (refine nf1_sound rfl ?_; simp [go_sem, ↓iteOmega, iteOmega, toNatUp]; (repeat (refine And.intro (by omega) ?_)); try (refine ⟨DrawChk_of (by kernel_rfl), ?_⟩)) | (refine itePos (by omega) ?_; try simp [go_sem, ↓iteOmega, iteOmega, toNatUp]) | (refine iteNeg (by omega) ?_; try simp [go_sem, ↓iteOmega, iteOmega, toNatUp]) | (refine ⟨DrawChk_of (by kernel_rfl), ?_⟩))
      refine CallK.fn (c2) [(1, 509), (1000, 510)] [] [] (by kernel_rfl) (by simp [go_sem, ↓iteOmega, iteOmega, toNatUp]) (by simp [go_sem, ↓iteOmega, iteOmega, toNatUp]) (by simp [go_sem, ↓iteOmega, iteOmega, toNatUp]) (Or.inl rfl) ?_
      simp [go_sem, ↓iteOmega, iteOmega, toNatUp]
      repeat (refine And.intro (by omega) ?_)
      try (refine ⟨DrawChk_of (by kernel_rfl), ?_⟩)
      repeat (first | (refine nf1_sound rfl ?_; simp [go_sem, ↓iteOmega, iteOmega, toNatUp]; (repeat (refine And.intro (by omega) ?_)); try (refine ⟨DrawChk_of (by kernel_rfl), ?_⟩)) | (refine itePos (by omega) ?_; try simp [go_sem, ↓iteOmega, iteOmega, toNatUp]) | (refine iteNeg (by omega) ?_; try simp [go_sem, ↓iteOmega, iteOmega, toNatUp]) | (refine ⟨DrawChk_of (by kernel_rfl), ?_⟩))
      first | rw [RetQ_ret] | rw [RetQ_normal]
      refine ⟨[(1000, some 510)], ?_⟩
      simp [go_sem, ↓iteOmega, iteOmega, toNatUp]
set_option maxRecDepth 100000 in
set_option maxHeartbeats 4000000 in
theorem rtake_old (w : Wt) (t : Tg) (win : Int) (h : t.ep < w.ep ∨ t.ep = w.ep ∧ t.sq < w.nx) : FnOk Try.prog 42 [.t (encWt w), .t (encTg t), .t (.int win)] [] (.tup [.t (encWt w), .t .nil]) [] := by
  obtain ⟨st, ep, nx, l⟩ := w
  obtain ⟨t1, t2, t3, t4, t5, tv⟩ := t
  dsimp only at *
  by_cases h1 : t2 < ep
  · clear h
    refine FnOk.intro fact_mixed Try.func42 rfl Try.ntmps42 (by rfl) (by simp) ?_
    repeat (first | (refine nf1_sound rfl ?_; simp [go_sem, ↓iteOmega, iteOmega, toNatUp]; (repeat (refine And.intro (by omega) ?_)); try (refine ⟨DrawChk_of (by kernel_rfl), ?_⟩)) | (refine itePos (by omega) ?_; try simp [go_sem, ↓iteOmega, iteOmega, toNatUp]) | (refine iteNeg (by omega) ?_; try simp [go_sem, ↓iteOmega, iteOmega, toNatUp]) | (refine ⟨DrawChk_of (by kernel_rfl), ?_⟩))
    first | rw [RetQ_ret] | rw [RetQ_normal]
    refine ⟨[], ?_⟩
    simp [go_sem, ↓iteOmega, iteOmega, toNatUp]
  · have h2 : t2 = ep := by omega
    have h3 : t3 < nx := by omega
    subst h2
    clear h
    refine FnOk.intro fact_mixed Try.func42 rfl Try.ntmps42 (by rfl) (by simp) ?_
    repeat (first | (refine nf1_sound rfl ?_; simp [go_sem, ↓iteOmega, iteOmega, toNatUp]; (repeat (refine And.intro (by omega) ?_)); try (refine ⟨DrawChk_of (by kernel_rfl), ?_⟩)) | (refine itePos (by omega) ?_; try simp [go_sem, ↓iteOmega, iteOmega, toNatUp]) | (refine iteNeg (by omega) ?_; try simp [go_sem, ↓iteOmega, iteOmega, toNatUp]) | (refine ⟨DrawChk_of (by kernel_rfl), ?_⟩))
    first | rw [RetQ_ret] | rw [RetQ_normal]
    refine ⟨[], ?_⟩
    simp [go_sem, ↓iteOmega, iteOmega, toNatUp]
end Go.Proofs.Ytopmmodcaoaaeaa
