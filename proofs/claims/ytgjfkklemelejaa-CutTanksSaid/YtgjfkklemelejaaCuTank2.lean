/- cut.Tanks and the reference's as contracts. No condition. cut.Tanks and the reference's as contracts. No condition. -/
import Derived.Test.YtgjfkklemelejaaCuBat2
namespace Go.Proofs.Ytgjfkklemelejaa
open Go.RowKit Sy
set_option linter.unusedVariables false
set_option linter.unusedSimpArgs false
def inB (bs : List Bt) (x : Po) : Prop := 0 ≤ x.1 ∧ x.1 < bs.length
instance (bs : List Bt) (x : Po) : Decidable (inB bs x) := inferInstanceAs (Decidable (0 ≤ x.1 ∧ x.1 < (bs.length : Int)))
/-- The first that is not so. -/
theorem first_no {α : Type} {p : α → Prop} (hd : ∀ x, Decidable (p x)) : ∀ l : List α, (∀ x ∈ l, p x) ∨ ∃ (j : Nat) (x : α), l[j]? = some x ∧ ¬ p x ∧ ∀ (i : Nat) (y : α), i < j → l[i]? = some y → p y
  | [] => .inl (by simp)
  | x :: r => by
    by_cases h : p x
    · rcases first_no hd r with h1 | ⟨j, y, h1, h2, h3⟩
      · refine .inl ?_
        intro y hy
        rcases List.mem_cons.1 hy with rfl | hy
        · exact h
        · exact h1 y hy
      · refine .inr ⟨j + 1, y, by simpa using h1, h2, ?_⟩
        intro i z hi hz
        cases i with
        | zero => simp at hz; rw [← hz]; exact h
        | succ i => exact h3 i z (by omega) (by simpa using hz)
    · exact .inr ⟨0, x, rfl, h, by intro i y hi; omega⟩
set_option maxRecDepth 100000 in
theorem unk1_fn (bs : List Bt) (hb : bs.length ≤ 1000000) (b v : Int) (s : Bool) (g : Bool) (hg : decide (¬ inB bs (b, v, s)) = g) : FnOk Try.prog 64 [.t (.agg [.int b, .int v, .bool s]), .pt 0 [] 0] [(0, .box 45 (.t (encBts bs)))] (.t (.bool g)) [(0, .box 45 (.t (encBts bs)))] := by
  subst hg
  by_cases h0 : b < 0
  · have e : ¬ inB bs (b, v, s) := by unfold inB; dsimp only; omega
    rw [decide_eq_true e]
    refine FnOk.intro fact_mixed Try.func64 rfl Try.ntmps64 (by rfl) (by simp) ?_
    repeat (first | (refine nf1_sound rfl ?_; simp [go_sem, ↓IntWalk.iteOmega, IntWalk.iteOmega, IntWalk.toNatUp]; (repeat (refine And.intro (by omega) ?_)); try (refine ⟨DrawChk_of (by kernel_rfl), ?_⟩)) | (refine itePos (by omega) ?_; try simp [go_sem, ↓IntWalk.iteOmega, IntWalk.iteOmega, IntWalk.toNatUp]) | (refine iteNeg (by omega) ?_; try simp [go_sem, ↓IntWalk.iteOmega, IntWalk.iteOmega, IntWalk.toNatUp]) | (refine ⟨DrawChk_of (by kernel_rfl), ?_⟩))
    first | rw [RetQ_ret] | rw [RetQ_normal]
    refine ⟨[(0, some 0)], ?_⟩
    simp [go_sem, ↓IntWalk.iteOmega, IntWalk.iteOmega, IntWalk.toNatUp]
  · by_cases h1 : (bs.length : Int) ≤ b
    · have e : ¬ inB bs (b, v, s) := by unfold inB; dsimp only; omega
      rw [decide_eq_true e]
      refine FnOk.intro fact_mixed Try.func64 rfl Try.ntmps64 (by rfl) (by simp) ?_
      repeat (first | (refine nf1_sound rfl ?_; simp [go_sem, ↓IntWalk.iteOmega, IntWalk.iteOmega, IntWalk.toNatUp]; (repeat (refine And.intro (by omega) ?_)); try (refine ⟨DrawChk_of (by kernel_rfl), ?_⟩)) | (refine itePos (by omega) ?_; try simp [go_sem, ↓IntWalk.iteOmega, IntWalk.iteOmega, IntWalk.toNatUp]) | (refine iteNeg (by omega) ?_; try simp [go_sem, ↓IntWalk.iteOmega, IntWalk.iteOmega, IntWalk.toNatUp]) | (refine ⟨DrawChk_of (by kernel_rfl), ?_⟩))
      first | rw [RetQ_ret] | rw [RetQ_normal]
      refine ⟨[(0, some 0)], ?_⟩
      simp [go_sem, ↓IntWalk.iteOmega, IntWalk.iteOmega, IntWalk.toNatUp]
      try omega
    · have e : ¬ ¬ inB bs (b, v, s) := by unfold inB; dsimp only; omega
      rw [decide_eq_false e]
      refine FnOk.intro fact_mixed Try.func64 rfl Try.ntmps64 (by rfl) (by simp) ?_
      repeat (first | (refine nf1_sound rfl ?_; simp [go_sem, ↓IntWalk.iteOmega, IntWalk.iteOmega, IntWalk.toNatUp]; (repeat (refine And.intro (by omega) ?_)); try (refine ⟨DrawChk_of (by kernel_rfl), ?_⟩)) | (refine itePos (by omega) ?_; try simp [go_sem, ↓IntWalk.iteOmega, IntWalk.iteOmega, IntWalk.toNatUp]) | (refine iteNeg (by omega) ?_; try simp [go_sem, ↓IntWalk.iteOmega, IntWalk.iteOmega, IntWalk.toNatUp]) | (refine ⟨DrawChk_of (by kernel_rfl), ?_⟩))
      first | rw [RetQ_ret] | rw [RetQ_normal]
      refine ⟨[(0, some 0)], ?_⟩
      simp [go_sem, ↓IntWalk.iteOmega, IntWalk.iteOmega, IntWalk.toNatUp]
      try omega
set_option maxRecDepth 100000 in
set_option maxHeartbeats 4000000 in
theorem unki_fn (bs : List Bt) (hb : bs.length ≤ 1000000) (l : List Po) (hl : l.length ≤ 1000000) (g : Bool) (hg : decide (¬ ∀ x ∈ l, inB bs x) = g) : ∃ n : Int, decide (0 ≤ n) = g ∧ FnOk Try.prog 65 [.t (encPos l), .fn 64 [.pt 0 [] 0]] [(0, .box 45 (.t (encBts bs)))] (.t (.int n)) [(0, .box 45 (.t (encBts bs)))] := by
  rcases first_no (p := inB bs) (fun _ => inferInstance) l with h | ⟨j, ⟨b, v, s⟩, hj, hn, hf⟩
  · rw [decide_eq_false (by simpa using h)] at hg
    subst hg
    refine ⟨-1, by decide, ?_⟩
    refine FnOk.intro fact_mixed Try.func65 rfl Try.ntmps65 (by rfl) (by simp) ?_
    repeat (first | (refine nf1_sound rfl ?_; simp [go_sem, ↓IntWalk.iteOmega, IntWalk.iteOmega, IntWalk.toNatUp]; (repeat (refine And.intro (by omega) ?_)); try (refine ⟨DrawChk_of (by kernel_rfl), ?_⟩)) | (refine itePos (by omega) ?_; try simp [go_sem, ↓IntWalk.iteOmega, IntWalk.iteOmega, IntWalk.toNatUp]) | (refine iteNeg (by omega) ?_; try simp [go_sem, ↓IntWalk.iteOmega, IntWalk.iteOmega, IntWalk.toNatUp]) | (refine ⟨DrawChk_of (by kernel_rfl), ?_⟩))
    refine nf1_sound' _ _ _ ?_; simp only [nf1]
    refine CW.loop (ι := Nat) (fun k => ⟨[(0, .t (encPos l)), (1, .fn 64 [.pt 0 [] 0]), (7, .t (.int l.length)), (8, .t (.int k))], [(0, .box 45 (.t (encBts bs)))]⟩) (fun k => k ≤ l.length) (fun k => l.length - k) 0 [(0, some 0)] (by omega) ?_ ?_
    · simp [go_sem, ↓IntWalk.iteOmega, IntWalk.iteOmega, IntWalk.toNatUp]
    intro k hk
    by_cases hk2 : k < l.length
    · obtain ⟨⟨b, v, s⟩, hx⟩ := has_get hk2
      have c := unk1_fn bs hb b v s false (decide_eq_false (by simpa using h _ (mem_get hx)))
      repeat (first | (refine nf1_sound rfl ?_; simp [go_sem, ↓IntWalk.iteOmega, IntWalk.iteOmega, IntWalk.toNatUp, hx]; (repeat (refine And.intro (by omega) ?_)); try (refine ⟨DrawChk_of (by kernel_rfl), ?_⟩)) | (refine itePos (by omega) ?_; try simp [go_sem, ↓IntWalk.iteOmega, IntWalk.iteOmega, IntWalk.toNatUp, hx]) | (refine iteNeg (by omega) ?_; try simp [go_sem, ↓IntWalk.iteOmega, IntWalk.iteOmega, IntWalk.toNatUp, hx]) | (refine ⟨DrawChk_of (by kernel_rfl), ?_⟩))
      refine CallK.fn (c) [(0, 0)] [] [] (by kernel_rfl) (by simp [go_sem, ↓IntWalk.iteOmega, IntWalk.iteOmega, IntWalk.toNatUp]) (by simp [go_sem, ↓IntWalk.iteOmega, IntWalk.iteOmega, IntWalk.toNatUp]) (by simp [go_sem, ↓IntWalk.iteOmega, IntWalk.iteOmega, IntWalk.toNatUp]) (Or.inl rfl) ?_
      simp [go_sem, ↓IntWalk.iteOmega, IntWalk.iteOmega, IntWalk.toNatUp]
      repeat (refine And.intro (by omega) ?_)
      try (refine ⟨DrawChk_of (by kernel_rfl), ?_⟩)
      repeat (first | (refine nf1_sound rfl ?_; simp [go_sem, ↓IntWalk.iteOmega, IntWalk.iteOmega, IntWalk.toNatUp]; (repeat (refine And.intro (by omega) ?_)); try (refine ⟨DrawChk_of (by kernel_rfl), ?_⟩)) | (refine itePos (by omega) ?_; try simp [go_sem, ↓IntWalk.iteOmega, IntWalk.iteOmega, IntWalk.toNatUp]) | (refine iteNeg (by omega) ?_; try simp [go_sem, ↓IntWalk.iteOmega, IntWalk.iteOmega, IntWalk.toNatUp]) | (refine ⟨DrawChk_of (by kernel_rfl), ?_⟩))
      rw [RoundQ_normal]; refine ⟨k + 1, [(0, some 0)], ?_, ?_, ?_⟩
      · omega
      · omega
      simp [go_sem, ↓IntWalk.iteOmega, IntWalk.iteOmega, IntWalk.toNatUp]
    · obtain rfl : k = l.length := by omega
      repeat (first | (refine nf1_sound rfl ?_; simp [go_sem, ↓IntWalk.iteOmega, IntWalk.iteOmega, IntWalk.toNatUp]; (repeat (refine And.intro (by omega) ?_)); try (refine ⟨DrawChk_of (by kernel_rfl), ?_⟩)) | (refine itePos (by omega) ?_; try simp [go_sem, ↓IntWalk.iteOmega, IntWalk.iteOmega, IntWalk.toNatUp]) | (refine iteNeg (by omega) ?_; try simp [go_sem, ↓IntWalk.iteOmega, IntWalk.iteOmega, IntWalk.toNatUp]) | (refine ⟨DrawChk_of (by kernel_rfl), ?_⟩))
      first | rw [RetQ_ret] | rw [RetQ_normal]
      refine ⟨[(0, some 0)], ?_⟩
      simp [go_sem, ↓IntWalk.iteOmega, IntWalk.iteOmega, IntWalk.toNatUp]
  · rw [decide_eq_true (show ¬ (∀ x ∈ l, inB bs x) from fun h => hn (h _ (mem_get hj)))] at hg
    subst hg
    have hjl := (List.getElem?_eq_some_iff.1 hj).1
    refine ⟨j, by simp, ?_⟩
    refine FnOk.intro fact_mixed Try.func65 rfl Try.ntmps65 (by rfl) (by simp) ?_
    repeat (first | (refine nf1_sound rfl ?_; simp [go_sem, ↓IntWalk.iteOmega, IntWalk.iteOmega, IntWalk.toNatUp]; (repeat (refine And.intro (by omega) ?_)); try (refine ⟨DrawChk_of (by kernel_rfl), ?_⟩)) | (refine itePos (by omega) ?_; try simp [go_sem, ↓IntWalk.iteOmega, IntWalk.iteOmega, IntWalk.toNatUp]) | (refine iteNeg (by omega) ?_; try simp [go_sem, ↓IntWalk.iteOmega, IntWalk.iteOmega, IntWalk.toNatUp]) | (refine ⟨DrawChk_of (by kernel_rfl), ?_⟩))
    refine nf1_sound' _ _ _ ?_; simp only [nf1]
    refine CW.loop (ι := Nat) (fun k => ⟨[(0, .t (encPos l)), (1, .fn 64 [.pt 0 [] 0]), (7, .t (.int l.length)), (8, .t (.int k))], [(0, .box 45 (.t (encBts bs)))]⟩) (fun k => k ≤ j) (fun k => j - k) 0 [(0, some 0)] (by omega) ?_ ?_
    · simp [go_sem, ↓IntWalk.iteOmega, IntWalk.iteOmega, IntWalk.toNatUp]
    intro k hk
    by_cases hk2 : k < j
    · obtain ⟨⟨b2, v2, s2⟩, hx⟩ := has_get (show k < l.length by omega)
      have c := unk1_fn bs hb b2 v2 s2 false (decide_eq_false (by simpa using hf k _ hk2 hx))
      repeat (first | (refine nf1_sound rfl ?_; simp [go_sem, ↓IntWalk.iteOmega, IntWalk.iteOmega, IntWalk.toNatUp, hx]; (repeat (refine And.intro (by omega) ?_)); try (refine ⟨DrawChk_of (by kernel_rfl), ?_⟩)) | (refine itePos (by omega) ?_; try simp [go_sem, ↓IntWalk.iteOmega, IntWalk.iteOmega, IntWalk.toNatUp, hx]) | (refine iteNeg (by omega) ?_; try simp [go_sem, ↓IntWalk.iteOmega, IntWalk.iteOmega, IntWalk.toNatUp, hx]) | (refine ⟨DrawChk_of (by kernel_rfl), ?_⟩))
      refine CallK.fn (c) [(0, 0)] [] [] (by kernel_rfl) (by simp [go_sem, ↓IntWalk.iteOmega, IntWalk.iteOmega, IntWalk.toNatUp]) (by simp [go_sem, ↓IntWalk.iteOmega, IntWalk.iteOmega, IntWalk.toNatUp]) (by simp [go_sem, ↓IntWalk.iteOmega, IntWalk.iteOmega, IntWalk.toNatUp]) (Or.inl rfl) ?_
      simp [go_sem, ↓IntWalk.iteOmega, IntWalk.iteOmega, IntWalk.toNatUp]
      repeat (refine And.intro (by omega) ?_)
      try (refine ⟨DrawChk_of (by kernel_rfl), ?_⟩)
      repeat (first | (refine nf1_sound rfl ?_; simp [go_sem, ↓IntWalk.iteOmega, IntWalk.iteOmega, IntWalk.toNatUp]; (repeat (refine And.intro (by omega) ?_)); try (refine ⟨DrawChk_of (by kernel_rfl), ?_⟩)) | (refine itePos (by omega) ?_; try simp [go_sem, ↓IntWalk.iteOmega, IntWalk.iteOmega, IntWalk.toNatUp]) | (refine iteNeg (by omega) ?_; try simp [go_sem, ↓IntWalk.iteOmega, IntWalk.iteOmega, IntWalk.toNatUp]) | (refine ⟨DrawChk_of (by kernel_rfl), ?_⟩))
      rw [RoundQ_normal]; refine ⟨k + 1, [(0, some 0)], ?_, ?_, ?_⟩
      · omega
      · omega
      simp [go_sem, ↓IntWalk.iteOmega, IntWalk.iteOmega, IntWalk.toNatUp]
    · obtain rfl : k = j := by omega
      have c := unk1_fn bs hb b v s true (decide_eq_true hn)
      repeat (first | (refine nf1_sound rfl ?_; simp [go_sem, ↓IntWalk.iteOmega, IntWalk.iteOmega, IntWalk.toNatUp, hj]; (repeat (refine And.intro (by omega) ?_)); try (refine ⟨DrawChk_of (by kernel_rfl), ?_⟩)) | (refine itePos (by omega) ?_; try simp [go_sem, ↓IntWalk.iteOmega, IntWalk.iteOmega, IntWalk.toNatUp, hj]) | (refine iteNeg (by omega) ?_; try simp [go_sem, ↓IntWalk.iteOmega, IntWalk.iteOmega, IntWalk.toNatUp, hj]) | (refine ⟨DrawChk_of (by kernel_rfl), ?_⟩))
      refine CallK.fn (c) [(0, 0)] [] [] (by kernel_rfl) (by simp [go_sem, ↓IntWalk.iteOmega, IntWalk.iteOmega, IntWalk.toNatUp]) (by simp [go_sem, ↓IntWalk.iteOmega, IntWalk.iteOmega, IntWalk.toNatUp]) (by simp [go_sem, ↓IntWalk.iteOmega, IntWalk.iteOmega, IntWalk.toNatUp]) (Or.inl rfl) ?_
      simp [go_sem, ↓IntWalk.iteOmega, IntWalk.iteOmega, IntWalk.toNatUp]
      repeat (refine And.intro (by omega) ?_)
      try (refine ⟨DrawChk_of (by kernel_rfl), ?_⟩)
      repeat (first | (refine nf1_sound rfl ?_; simp [go_sem, ↓IntWalk.iteOmega, IntWalk.iteOmega, IntWalk.toNatUp]; (repeat (refine And.intro (by omega) ?_)); try (refine ⟨DrawChk_of (by kernel_rfl), ?_⟩)) | (refine itePos (by omega) ?_; try simp [go_sem, ↓IntWalk.iteOmega, IntWalk.iteOmega, IntWalk.toNatUp]) | (refine iteNeg (by omega) ?_; try simp [go_sem, ↓IntWalk.iteOmega, IntWalk.iteOmega, IntWalk.toNatUp]) | (refine ⟨DrawChk_of (by kernel_rfl), ?_⟩))
      first | rw [RetQ_ret] | rw [RetQ_normal]
      refine ⟨[(0, some 0)], ?_⟩
      simp [go_sem, ↓IntWalk.iteOmega, IntWalk.iteOmega, IntWalk.toNatUp]
set_option maxRecDepth 100000 in
theorem unkc_fn (bs : List Bt) (hb : bs.length ≤ 1000000) (l : List Po) (hl : l.length ≤ 1000000) (g : Bool) (hg : decide (¬ ∀ x ∈ l, inB bs x) = g) : FnOk Try.prog 49 [.t (encPos l), .fn 64 [.pt 0 [] 0]] [(0, .box 45 (.t (encBts bs)))] (.t (.bool g)) [(0, .box 45 (.t (encBts bs)))] := by
  obtain ⟨n, hn, c⟩ := unki_fn bs hb l hl g hg
  subst hn
  refine FnOk.intro fact_mixed Try.func49 rfl Try.ntmps49 (by rfl) (by simp) ?_
  repeat (first | (refine nf1_sound rfl ?_; simp [go_sem, ↓IntWalk.iteOmega, IntWalk.iteOmega, IntWalk.toNatUp]; (repeat (refine And.intro (by omega) ?_)); try (refine ⟨DrawChk_of (by kernel_rfl), ?_⟩)) | (refine itePos (by omega) ?_; try simp [go_sem, ↓IntWalk.iteOmega, IntWalk.iteOmega, IntWalk.toNatUp]) | (refine iteNeg (by omega) ?_; try simp [go_sem, ↓IntWalk.iteOmega, IntWalk.iteOmega, IntWalk.toNatUp]) | (refine ⟨DrawChk_of (by kernel_rfl), ?_⟩))
  refine CallK.fn (c) [(0, 0)] [] [] (by kernel_rfl) (by simp [go_sem, ↓IntWalk.iteOmega, IntWalk.iteOmega, IntWalk.toNatUp]) (by simp [go_sem, ↓IntWalk.iteOmega, IntWalk.iteOmega, IntWalk.toNatUp]) (by simp [go_sem, ↓IntWalk.iteOmega, IntWalk.iteOmega, IntWalk.toNatUp]) (Or.inl rfl) ?_
  simp [go_sem, ↓IntWalk.iteOmega, IntWalk.iteOmega, IntWalk.toNatUp]
  repeat (refine And.intro (by omega) ?_)
  try (refine ⟨DrawChk_of (by kernel_rfl), ?_⟩)
  repeat (first | (refine nf1_sound rfl ?_; simp [go_sem, ↓IntWalk.iteOmega, IntWalk.iteOmega, IntWalk.toNatUp]; (repeat (refine And.intro (by omega) ?_)); try (refine ⟨DrawChk_of (by kernel_rfl), ?_⟩)) | (refine itePos (by omega) ?_; try simp [go_sem, ↓IntWalk.iteOmega, IntWalk.iteOmega, IntWalk.toNatUp]) | (refine iteNeg (by omega) ?_; try simp [go_sem, ↓IntWalk.iteOmega, IntWalk.iteOmega, IntWalk.toNatUp]) | (refine ⟨DrawChk_of (by kernel_rfl), ?_⟩))
  first | rw [RetQ_ret] | rw [RetQ_normal]
  refine ⟨[(0, some 0)], ?_⟩
  simp [go_sem, ↓IntWalk.iteOmega, IntWalk.iteOmega, IntWalk.toNatUp]
set_option maxRecDepth 100000 in
theorem unk_fn (bs : List Bt) (hb : bs.length ≤ 1000000) (l : List Po) (hl : l.length ≤ 1000000) (g : Bool) (hg : decide (¬ ∀ x ∈ l, inB bs x) = g) : FnOk Try.prog 45 [.t (encPos l), .t (encBts bs)] [] (.t (.bool g)) [] := by
  have c := unkc_fn bs hb l hl g hg
  refine FnOk.intro fact_mixed Try.func45 rfl Try.ntmps45 (by rfl) (by simp) ?_
  repeat (first | (refine nf1_sound rfl ?_; simp [go_sem, ↓IntWalk.iteOmega, IntWalk.iteOmega, IntWalk.toNatUp]; (repeat (refine And.intro (by omega) ?_)); try (refine ⟨DrawChk_of (by kernel_rfl), ?_⟩)) | (refine itePos (by omega) ?_; try simp [go_sem, ↓IntWalk.iteOmega, IntWalk.iteOmega, IntWalk.toNatUp]) | (refine iteNeg (by omega) ?_; try simp [go_sem, ↓IntWalk.iteOmega, IntWalk.iteOmega, IntWalk.toNatUp]) | (refine ⟨DrawChk_of (by kernel_rfl), ?_⟩))
  refine CallK.fn (c) [(0, 103)] [] [] (by kernel_rfl) (by simp [go_sem, ↓IntWalk.iteOmega, IntWalk.iteOmega, IntWalk.toNatUp]) (by simp [go_sem, ↓IntWalk.iteOmega, IntWalk.iteOmega, IntWalk.toNatUp]) (by simp [go_sem, ↓IntWalk.iteOmega, IntWalk.iteOmega, IntWalk.toNatUp]) (Or.inl rfl) ?_
  simp [go_sem, ↓IntWalk.iteOmega, IntWalk.iteOmega, IntWalk.toNatUp]
  repeat (refine And.intro (by omega) ?_)
  try (refine ⟨DrawChk_of (by kernel_rfl), ?_⟩)
  repeat (first | (refine nf1_sound rfl ?_; simp [go_sem, ↓IntWalk.iteOmega, IntWalk.iteOmega, IntWalk.toNatUp]; (repeat (refine And.intro (by omega) ?_)); try (refine ⟨DrawChk_of (by kernel_rfl), ?_⟩)) | (refine itePos (by omega) ?_; try simp [go_sem, ↓IntWalk.iteOmega, IntWalk.iteOmega, IntWalk.toNatUp]) | (refine iteNeg (by omega) ?_; try simp [go_sem, ↓IntWalk.iteOmega, IntWalk.iteOmega, IntWalk.toNatUp]) | (refine ⟨DrawChk_of (by kernel_rfl), ?_⟩))
  first | rw [RetQ_ret] | rw [RetQ_normal]
  refine ⟨[], ?_⟩
  simp [go_sem, ↓IntWalk.iteOmega, IntWalk.iteOmega, IntWalk.toNatUp]
/-- The tank of a portion; the tanks one behind the other. -/
def tkV (bs : List Bt) (x : Po) : Int := if x.2.2 then -1 else ((bs[x.1.toNat]?).getD (0, default)).1
def tStep (out : List Int) (t : Int) : List Int := if out.getLast? = some t then out else out ++ [t]
def tanksL (bs : List Bt) (l : List Po) : List Int := l.foldl (fun out x => tStep out (tkV bs x)) []
theorem tanks_snoc {bs : List Bt} {l : List Po} {k : Nat} {x : Po} (h : l[k]? = some x) : tanksL bs (l.take (k + 1)) = tStep (tanksL bs (l.take k)) (tkV bs x) := by
  unfold tanksL; rw [take_snoc h, List.foldl_append]; rfl
theorem tStep_len (out : List Int) (t : Int) : (tStep out t).length ≤ out.length + 1 := by unfold tStep; split <;> simp
theorem foldl_len (bs : List Bt) : ∀ (l : List Po) (out : List Int), (l.foldl (fun out x => tStep out (tkV bs x)) out).length ≤ out.length + l.length
  | [], out => by simp
  | x :: r, out => by
    have h1 := foldl_len bs r (tStep out (tkV bs x))
    have h2 := tStep_len out (tkV bs x)
    simp only [List.foldl_cons, List.length_cons]
    omega
theorem tanks_len (bs : List Bt) (l : List Po) : (tanksL bs l).length ≤ l.length := by unfold tanksL; have := foldl_len bs l []; simpa using this
def tanksR (bs : List Bt) (l : List Po) : List Int × Int := if 400 < l.length then ([], 4) else if ∀ x ∈ l, inB bs x then (tanksL bs l, 0) else ([], 8)
theorem tk_get {bs : List Bt} {b v : Int} {s : Bool} (h : inB bs (b, v, s)) : ∃ p n, bs[b.toNat]? = some (p, n) ∧ tkV bs (b, v, s) = if s then -1 else p := by
  unfold inB at h
  dsimp only at h
  obtain ⟨⟨p, n⟩, hg⟩ := has_get (show b.toNat < bs.length by omega)
  refine ⟨p, n, hg, ?_⟩
  unfold tkV
  simp only [hg]
  rfl
end Go.Proofs.Ytgjfkklemelejaa
namespace Go.Proofs.Ytgjfkklemelejaa
open Go.RowKit Sy
set_option linter.unusedVariables false
set_option linter.unusedSimpArgs false
theorem tanks_ex (bs : List Bt) (l : List Po) : ∃ Y : Nat → List Int, Y 0 = [] ∧ (∀ k b v s, l[k]? = some (b, v, s) → Y (k + 1) = tStep (Y k) (tkV bs (b, v, s))) ∧ (∀ k, (Y k).length ≤ k) ∧ Y l.length = tanksL bs l :=
  ⟨fun k => tanksL bs (l.take k), rfl, fun k b v s h => tanks_snoc h, fun k => by have := tanks_len bs (l.take k); rw [List.length_take] at this; dsimp only; omega, by simp⟩
set_option maxRecDepth 100000 in
set_option maxHeartbeats 8000000 in
theorem tanks_fn (bs : List Bt) (hb : bs.length ≤ 1000000) (l : List Po) (hl : l.length ≤ 1000000) (X : List Int) (e : Int) (hr : tanksR bs l = (X, e)) : FnOk Try.prog 19 [.t (encPos l), .t (encBts bs)] [] (.tup [.own 1000, .t (.int e)]) [(1000, blkI X)] := by
  unfold tanksR at hr
  by_cases h4 : 400 < l.length
  · rw [if_pos h4] at hr
    obtain ⟨rfl, rfl⟩ := Prod.mk.inj hr
    refine FnOk.intro fact_mixed Try.func19 rfl Try.ntmps19 (by rfl) (by simp) ?_
    repeat (first | (refine nf1_sound rfl ?_; simp [go_sem, ↓IntWalk.iteOmega, IntWalk.iteOmega, IntWalk.toNatUp]; (repeat (refine And.intro (by omega) ?_)); try (refine ⟨DrawChk_of (by kernel_rfl), ?_⟩)) | (refine itePos (by omega) ?_; try simp [go_sem, ↓IntWalk.iteOmega, IntWalk.iteOmega, IntWalk.toNatUp]) | (refine iteNeg (by omega) ?_; try simp [go_sem, ↓IntWalk.iteOmega, IntWalk.iteOmega, IntWalk.toNatUp]) | (refine ⟨DrawChk_of (by kernel_rfl), ?_⟩))
    first | rw [RetQ_ret] | rw [RetQ_normal]
    refine ⟨[(1000, none)], ?_⟩
    simp [go_sem, ↓IntWalk.iteOmega, IntWalk.iteOmega, IntWalk.toNatUp]
  rw [if_neg h4] at hr
  by_cases ha : ∀ x ∈ l, inB bs x
  · rw [if_pos ha] at hr
    obtain ⟨rfl, rfl⟩ := Prod.mk.inj hr
    have cu := unk_fn bs hb l hl false (decide_eq_false (by simpa using ha))
    obtain ⟨Y, hY0, hYs, hYl, hYe⟩ := tanks_ex bs l
    refine FnOk.intro fact_mixed Try.func19 rfl Try.ntmps19 (by rfl) (by simp) ?_
    repeat (first | (refine nf1_sound rfl ?_; simp [go_sem, ↓IntWalk.iteOmega, IntWalk.iteOmega, IntWalk.toNatUp]; (repeat (refine And.intro (by omega) ?_)); try (refine ⟨DrawChk_of (by kernel_rfl), ?_⟩)) | (refine itePos (by omega) ?_; try simp [go_sem, ↓IntWalk.iteOmega, IntWalk.iteOmega, IntWalk.toNatUp]) | (refine iteNeg (by omega) ?_; try simp [go_sem, ↓IntWalk.iteOmega, IntWalk.iteOmega, IntWalk.toNatUp]) | (refine ⟨DrawChk_of (by kernel_rfl), ?_⟩))
    refine CallK.fn (cu) [] [] [] (by kernel_rfl) (by simp [go_sem, ↓IntWalk.iteOmega, IntWalk.iteOmega, IntWalk.toNatUp]) (by simp [go_sem, ↓IntWalk.iteOmega, IntWalk.iteOmega, IntWalk.toNatUp]) (by simp [go_sem, ↓IntWalk.iteOmega, IntWalk.iteOmega, IntWalk.toNatUp]) (Or.inl rfl) ?_
    simp [go_sem, ↓IntWalk.iteOmega, IntWalk.iteOmega, IntWalk.toNatUp]
    repeat (refine And.intro (by omega) ?_)
    try (refine ⟨DrawChk_of (by kernel_rfl), ?_⟩)
    repeat (first | (refine nf1_sound rfl ?_; simp [go_sem, ↓IntWalk.iteOmega, IntWalk.iteOmega, IntWalk.toNatUp]; (repeat (refine And.intro (by omega) ?_)); try (refine ⟨DrawChk_of (by kernel_rfl), ?_⟩)) | (refine itePos (by omega) ?_; try simp [go_sem, ↓IntWalk.iteOmega, IntWalk.iteOmega, IntWalk.toNatUp]) | (refine iteNeg (by omega) ?_; try simp [go_sem, ↓IntWalk.iteOmega, IntWalk.iteOmega, IntWalk.toNatUp]) | (refine ⟨DrawChk_of (by kernel_rfl), ?_⟩))
    refine nf1_sound' _ _ _ ?_; simp only [nf1]
    refine CW.loop (ι := Nat) (fun k => ⟨[(1, .t (encBts bs)), (6, .own 506), (18, .t (encPos l)), (19, .t (.int l.length)), (20, .t (.int k))], [(506, blkI (Y k))]⟩) (fun k => k ≤ l.length) (fun k => l.length - k) 0 [(506, none)] (by omega) ?_ ?_
    · simp [go_sem, ↓IntWalk.iteOmega, IntWalk.iteOmega, IntWalk.toNatUp, hY0]
    intro k hk
    by_cases hk2 : k < l.length
    · obtain ⟨⟨b, v, s⟩, hx⟩ := has_get hk2
      obtain ⟨p, n, hg, htk⟩ := tk_get (ha _ (mem_get hx))
      have hin := ha _ (mem_get hx)
      unfold inB at hin
      dsimp only at hin
      cases s with
      | true =>
        have e := hYs k b v true hx
        rw [htk] at e
        simp only [if_true] at e
        rcases List.eq_nil_or_concat (Y k) with hY | ⟨o, u, hY⟩
        · have e2 : Y (k + 1) = [-1] := by rw [e, hY]; simp [tStep]
          repeat (first | (refine nf1_sound rfl ?_; simp [go_sem, ↓IntWalk.iteOmega, IntWalk.iteOmega, IntWalk.toNatUp, hx, hY]; (repeat (refine And.intro (by omega) ?_)); try (refine ⟨DrawChk_of (by kernel_rfl), ?_⟩)) | (refine itePos (by omega) ?_; try simp [go_sem, ↓IntWalk.iteOmega, IntWalk.iteOmega, IntWalk.toNatUp, hx, hY]) | (refine iteNeg (by omega) ?_; try simp [go_sem, ↓IntWalk.iteOmega, IntWalk.iteOmega, IntWalk.toNatUp, hx, hY]) | (refine ⟨DrawChk_of (by kernel_rfl), ?_⟩))
          rw [RoundQ_normal]; refine ⟨k + 1, [(506, some 149)], ?_, ?_, ?_⟩
          · exact (by omega)
          · omega
          simp [go_sem, ↓IntWalk.iteOmega, IntWalk.iteOmega, IntWalk.toNatUp, e2]
        · rw [List.concat_eq_append] at hY
          have hol : o.length ≤ k := by have := hYl k; rw [hY] at this; simp at this; omega
          by_cases hu : u = -1
          · have e2 : Y (k + 1) = o ++ [-1] := by rw [e, hY]; simp [tStep, hu]
            repeat (first | (refine nf1_sound rfl ?_; simp [go_sem, ↓IntWalk.iteOmega, IntWalk.iteOmega, IntWalk.toNatUp, hx, hY, hu]; (repeat (refine And.intro (by omega) ?_)); try (refine ⟨DrawChk_of (by kernel_rfl), ?_⟩)) | (refine itePos (by omega) ?_; try simp [go_sem, ↓IntWalk.iteOmega, IntWalk.iteOmega, IntWalk.toNatUp, hx, hY, hu]) | (refine iteNeg (by omega) ?_; try simp [go_sem, ↓IntWalk.iteOmega, IntWalk.iteOmega, IntWalk.toNatUp, hx, hY, hu]) | (refine ⟨DrawChk_of (by kernel_rfl), ?_⟩))
            rw [RoundQ_normal]; refine ⟨k + 1, [(506, some 506)], ?_, ?_, ?_⟩
            · exact (by omega)
            · omega
            simp [go_sem, ↓IntWalk.iteOmega, IntWalk.iteOmega, IntWalk.toNatUp, e2]
          · have e2 : Y (k + 1) = o ++ [u] ++ [-1] := by rw [e, hY]; simp [tStep, hu]
            repeat (first | (refine nf1_sound rfl ?_; simp [go_sem, ↓IntWalk.iteOmega, IntWalk.iteOmega, IntWalk.toNatUp, hx, hY, hu]; (repeat (refine And.intro (by omega) ?_)); try (refine ⟨DrawChk_of (by kernel_rfl), ?_⟩)) | (refine itePos (by omega) ?_; try simp [go_sem, ↓IntWalk.iteOmega, IntWalk.iteOmega, IntWalk.toNatUp, hx, hY, hu]) | (refine iteNeg (by omega) ?_; try simp [go_sem, ↓IntWalk.iteOmega, IntWalk.iteOmega, IntWalk.toNatUp, hx, hY, hu]) | (refine ⟨DrawChk_of (by kernel_rfl), ?_⟩))
            rw [RoundQ_normal]; refine ⟨k + 1, [(506, some 149)], ?_, ?_, ?_⟩
            · exact (by omega)
            · omega
            simp [go_sem, ↓IntWalk.iteOmega, IntWalk.iteOmega, IntWalk.toNatUp, e2]
      | false =>
        have e := hYs k b v false hx
        rw [htk] at e
        simp only [Bool.false_eq_true, if_false] at e
        rcases List.eq_nil_or_concat (Y k) with hY | ⟨o, u, hY⟩
        · have e2 : Y (k + 1) = [p] := by rw [e, hY]; simp [tStep]
          repeat (first | (refine nf1_sound rfl ?_; simp [go_sem, ↓IntWalk.iteOmega, IntWalk.iteOmega, IntWalk.toNatUp, hx, hg, hY]; (repeat (refine And.intro (by omega) ?_)); try (refine ⟨DrawChk_of (by kernel_rfl), ?_⟩)) | (refine itePos (by omega) ?_; try simp [go_sem, ↓IntWalk.iteOmega, IntWalk.iteOmega, IntWalk.toNatUp, hx, hg, hY]) | (refine iteNeg (by omega) ?_; try simp [go_sem, ↓IntWalk.iteOmega, IntWalk.iteOmega, IntWalk.toNatUp, hx, hg, hY]) | (refine ⟨DrawChk_of (by kernel_rfl), ?_⟩))
          rw [RoundQ_normal]; refine ⟨k + 1, [(506, some 149)], ?_, ?_, ?_⟩
          · exact (by omega)
          · omega
          simp [go_sem, ↓IntWalk.iteOmega, IntWalk.iteOmega, IntWalk.toNatUp, e2]
        · rw [List.concat_eq_append] at hY
          have hol : o.length ≤ k := by have := hYl k; rw [hY] at this; simp at this; omega
          by_cases hu : u = p
          · have e2 : Y (k + 1) = o ++ [p] := by rw [e, hY]; simp [tStep, hu]
            repeat (first | (refine nf1_sound rfl ?_; simp [go_sem, ↓IntWalk.iteOmega, IntWalk.iteOmega, IntWalk.toNatUp, hx, hg, hY, hu]; (repeat (refine And.intro (by omega) ?_)); try (refine ⟨DrawChk_of (by kernel_rfl), ?_⟩)) | (refine itePos (by omega) ?_; try simp [go_sem, ↓IntWalk.iteOmega, IntWalk.iteOmega, IntWalk.toNatUp, hx, hg, hY, hu]) | (refine iteNeg (by omega) ?_; try simp [go_sem, ↓IntWalk.iteOmega, IntWalk.iteOmega, IntWalk.toNatUp, hx, hg, hY, hu]) | (refine ⟨DrawChk_of (by kernel_rfl), ?_⟩))
            rw [RoundQ_normal]; refine ⟨k + 1, [(506, some 506)], ?_, ?_, ?_⟩
            · exact (by omega)
            · omega
            simp [go_sem, ↓IntWalk.iteOmega, IntWalk.iteOmega, IntWalk.toNatUp, e2]
          · have e2 : Y (k + 1) = o ++ [u] ++ [p] := by rw [e, hY]; simp [tStep, hu]
            repeat (first | (refine nf1_sound rfl ?_; simp [go_sem, ↓IntWalk.iteOmega, IntWalk.iteOmega, IntWalk.toNatUp, hx, hg, hY, hu]; (repeat (refine And.intro (by omega) ?_)); try (refine ⟨DrawChk_of (by kernel_rfl), ?_⟩)) | (refine itePos (by omega) ?_; try simp [go_sem, ↓IntWalk.iteOmega, IntWalk.iteOmega, IntWalk.toNatUp, hx, hg, hY, hu]) | (refine iteNeg (by omega) ?_; try simp [go_sem, ↓IntWalk.iteOmega, IntWalk.iteOmega, IntWalk.toNatUp, hx, hg, hY, hu]) | (refine ⟨DrawChk_of (by kernel_rfl), ?_⟩))
            rw [RoundQ_normal]; refine ⟨k + 1, [(506, some 149)], ?_, ?_, ?_⟩
            · exact (by omega)
            · omega
            simp [go_sem, ↓IntWalk.iteOmega, IntWalk.iteOmega, IntWalk.toNatUp, e2]
    · obtain rfl : k = l.length := by omega
      repeat (first | (refine nf1_sound rfl ?_; simp [go_sem, ↓IntWalk.iteOmega, IntWalk.iteOmega, IntWalk.toNatUp]; (repeat (refine And.intro (by omega) ?_)); try (refine ⟨DrawChk_of (by kernel_rfl), ?_⟩)) | (refine itePos (by omega) ?_; try simp [go_sem, ↓IntWalk.iteOmega, IntWalk.iteOmega, IntWalk.toNatUp]) | (refine iteNeg (by omega) ?_; try simp [go_sem, ↓IntWalk.iteOmega, IntWalk.iteOmega, IntWalk.toNatUp]) | (refine ⟨DrawChk_of (by kernel_rfl), ?_⟩))
      first | rw [RetQ_ret] | rw [RetQ_normal]
      refine ⟨[(1000, some 506)], ?_⟩
      simp [go_sem, ↓IntWalk.iteOmega, IntWalk.iteOmega, IntWalk.toNatUp, hYe]
  · rw [if_neg ha] at hr
    obtain ⟨rfl, rfl⟩ := Prod.mk.inj hr
    have cu := unk_fn bs hb l hl true (decide_eq_true ha)
    refine FnOk.intro fact_mixed Try.func19 rfl Try.ntmps19 (by rfl) (by simp) ?_
    repeat (first | (refine nf1_sound rfl ?_; simp [go_sem, ↓IntWalk.iteOmega, IntWalk.iteOmega, IntWalk.toNatUp]; (repeat (refine And.intro (by omega) ?_)); try (refine ⟨DrawChk_of (by kernel_rfl), ?_⟩)) | (refine itePos (by omega) ?_; try simp [go_sem, ↓IntWalk.iteOmega, IntWalk.iteOmega, IntWalk.toNatUp]) | (refine iteNeg (by omega) ?_; try simp [go_sem, ↓IntWalk.iteOmega, IntWalk.iteOmega, IntWalk.toNatUp]) | (refine ⟨DrawChk_of (by kernel_rfl), ?_⟩))
    refine CallK.fn (cu) [] [] [] (by kernel_rfl) (by simp [go_sem, ↓IntWalk.iteOmega, IntWalk.iteOmega, IntWalk.toNatUp]) (by simp [go_sem, ↓IntWalk.iteOmega, IntWalk.iteOmega, IntWalk.toNatUp]) (by simp [go_sem, ↓IntWalk.iteOmega, IntWalk.iteOmega, IntWalk.toNatUp]) (Or.inl rfl) ?_
    simp [go_sem, ↓IntWalk.iteOmega, IntWalk.iteOmega, IntWalk.toNatUp]
    repeat (refine And.intro (by omega) ?_)
    try (refine ⟨DrawChk_of (by kernel_rfl), ?_⟩)
    repeat (first | (refine nf1_sound rfl ?_; simp [go_sem, ↓IntWalk.iteOmega, IntWalk.iteOmega, IntWalk.toNatUp]; (repeat (refine And.intro (by omega) ?_)); try (refine ⟨DrawChk_of (by kernel_rfl), ?_⟩)) | (refine itePos (by omega) ?_; try simp [go_sem, ↓IntWalk.iteOmega, IntWalk.iteOmega, IntWalk.toNatUp]) | (refine iteNeg (by omega) ?_; try simp [go_sem, ↓IntWalk.iteOmega, IntWalk.iteOmega, IntWalk.toNatUp]) | (refine ⟨DrawChk_of (by kernel_rfl), ?_⟩))
    first | rw [RetQ_ret] | rw [RetQ_normal]
    refine ⟨[(1000, none)], ?_⟩
    simp [go_sem, ↓IntWalk.iteOmega, IntWalk.iteOmega, IntWalk.toNatUp]
set_option maxRecDepth 100000 in
set_option maxHeartbeats 8000000 in
theorem rtanks_fn (bs : List Bt) (hb : bs.length ≤ 1000000) (l : List Po) (hl : l.length ≤ 1000000) (X : List Int) (e : Int) (hr : tanksR bs l = (X, e)) : FnOk Try.prog 26 [.t (encPos l), .t (encBts bs)] [] (.tup [.own 1000, .t (.int e)]) [(1000, blkI X)] := by
  unfold tanksR at hr
  by_cases h4 : 400 < l.length
  · rw [if_pos h4] at hr
    obtain ⟨rfl, rfl⟩ := Prod.mk.inj hr
    refine FnOk.intro fact_mixed Try.func26 rfl Try.ntmps26 (by rfl) (by simp) ?_
    repeat (first | (refine nf1_sound rfl ?_; simp [go_sem, ↓IntWalk.iteOmega, IntWalk.iteOmega, IntWalk.toNatUp]; (repeat (refine And.intro (by omega) ?_)); try (refine ⟨DrawChk_of (by kernel_rfl), ?_⟩)) | (refine itePos (by omega) ?_; try simp [go_sem, ↓IntWalk.iteOmega, IntWalk.iteOmega, IntWalk.toNatUp]) | (refine iteNeg (by omega) ?_; try simp [go_sem, ↓IntWalk.iteOmega, IntWalk.iteOmega, IntWalk.toNatUp]) | (refine ⟨DrawChk_of (by kernel_rfl), ?_⟩))
    first | rw [RetQ_ret] | rw [RetQ_normal]
    refine ⟨[(1000, none)], ?_⟩
    simp [go_sem, ↓IntWalk.iteOmega, IntWalk.iteOmega, IntWalk.toNatUp]
  rw [if_neg h4] at hr
  obtain ⟨Y, hY0, hYs, hYl, hYe⟩ := tanks_ex bs l
  refine FnOk.intro fact_mixed Try.func26 rfl Try.ntmps26 (by rfl) (by simp) ?_
  repeat (first | (refine nf1_sound rfl ?_; simp [go_sem, ↓IntWalk.iteOmega, IntWalk.iteOmega, IntWalk.toNatUp]; (repeat (refine And.intro (by omega) ?_)); try (refine ⟨DrawChk_of (by kernel_rfl), ?_⟩)) | (refine itePos (by omega) ?_; try simp [go_sem, ↓IntWalk.iteOmega, IntWalk.iteOmega, IntWalk.toNatUp]) | (refine iteNeg (by omega) ?_; try simp [go_sem, ↓IntWalk.iteOmega, IntWalk.iteOmega, IntWalk.toNatUp]) | (refine ⟨DrawChk_of (by kernel_rfl), ?_⟩))
  refine nf1_sound' _ _ _ ?_; simp only [nf1]
  refine CW.loop (ι := Nat) (fun k => ⟨[(0, .t (encPos l)), (1, .t (encBts bs)), (6, .own 506), (7, .t (.int k))], [(506, blkI (Y k))]⟩) (fun k => k ≤ l.length ∧ ∀ x ∈ l.take k, inB bs x) (fun k => l.length - k) 0 [(506, none)] ⟨by omega, by simp⟩ ?_ ?_
  · simp [go_sem, ↓IntWalk.iteOmega, IntWalk.iteOmega, IntWalk.toNatUp, hY0]
  rintro k ⟨hk, hok⟩
  by_cases hk2 : k < l.length
  · obtain ⟨⟨b, v, s⟩, hx⟩ := has_get hk2
    by_cases hin : inB bs (b, v, s)
    · obtain ⟨p, n, hg, htk⟩ := tk_get hin
      have hok2 : ∀ x ∈ l.take (k + 1), inB bs x := by
        rw [take_snoc hx]
        intro y hy
        rcases List.mem_append.1 hy with hy | hy
        · exact hok y hy
        · obtain rfl := List.mem_singleton.1 hy
          exact hin
      unfold inB at hin
      dsimp only at hin
      cases s with
      | true =>
        have e := hYs k b v true hx
        rw [htk] at e
        simp only [if_true] at e
        rcases List.eq_nil_or_concat (Y k) with hY | ⟨o, u, hY⟩
        · have e2 : Y (k + 1) = [-1] := by rw [e, hY]; simp [tStep]
          repeat (first | (refine nf1_sound rfl ?_; simp [go_sem, ↓IntWalk.iteOmega, IntWalk.iteOmega, IntWalk.toNatUp, hx, hg, hY]; (repeat (refine And.intro (by omega) ?_)); try (refine ⟨DrawChk_of (by kernel_rfl), ?_⟩)) | (refine itePos (by omega) ?_; try simp [go_sem, ↓IntWalk.iteOmega, IntWalk.iteOmega, IntWalk.toNatUp, hx, hg, hY]) | (refine iteNeg (by omega) ?_; try simp [go_sem, ↓IntWalk.iteOmega, IntWalk.iteOmega, IntWalk.toNatUp, hx, hg, hY]) | (refine ⟨DrawChk_of (by kernel_rfl), ?_⟩))
          rw [RoundQ_normal]; refine ⟨k + 1, [(506, some 165)], ?_, ?_, ?_⟩
          · exact ⟨by omega, fun a c => ⟨hok2 _, hok2 _⟩⟩
          · omega
          simp [go_sem, ↓IntWalk.iteOmega, IntWalk.iteOmega, IntWalk.toNatUp, e2]
        · rw [List.concat_eq_append] at hY
          have hol : o.length ≤ k := by have := hYl k; rw [hY] at this; simp at this; omega
          by_cases hu : u = -1
          · have e2 : Y (k + 1) = o ++ [-1] := by rw [e, hY]; simp [tStep, hu]
            repeat (first | (refine nf1_sound rfl ?_; simp [go_sem, ↓IntWalk.iteOmega, IntWalk.iteOmega, IntWalk.toNatUp, hx, hg, hY, hu]; (repeat (refine And.intro (by omega) ?_)); try (refine ⟨DrawChk_of (by kernel_rfl), ?_⟩)) | (refine itePos (by omega) ?_; try simp [go_sem, ↓IntWalk.iteOmega, IntWalk.iteOmega, IntWalk.toNatUp, hx, hg, hY, hu]) | (refine iteNeg (by omega) ?_; try simp [go_sem, ↓IntWalk.iteOmega, IntWalk.iteOmega, IntWalk.toNatUp, hx, hg, hY, hu]) | (refine ⟨DrawChk_of (by kernel_rfl), ?_⟩))
            rw [RoundQ_normal]; refine ⟨k + 1, [(506, some 506)], ?_, ?_, ?_⟩
            · exact ⟨by omega, fun a c => ⟨hok2 _, hok2 _⟩⟩
            · omega
            simp [go_sem, ↓IntWalk.iteOmega, IntWalk.iteOmega, IntWalk.toNatUp, e2]
          · have e2 : Y (k + 1) = o ++ [u] ++ [-1] := by rw [e, hY]; simp [tStep, hu]
            repeat (first | (refine nf1_sound rfl ?_; simp [go_sem, ↓IntWalk.iteOmega, IntWalk.iteOmega, IntWalk.toNatUp, hx, hg, hY, hu]; (repeat (refine And.intro (by omega) ?_)); try (refine ⟨DrawChk_of (by kernel_rfl), ?_⟩)) | (refine itePos (by omega) ?_; try simp [go_sem, ↓IntWalk.iteOmega, IntWalk.iteOmega, IntWalk.toNatUp, hx, hg, hY, hu]) | (refine iteNeg (by omega) ?_; try simp [go_sem, ↓IntWalk.iteOmega, IntWalk.iteOmega, IntWalk.toNatUp, hx, hg, hY, hu]) | (refine ⟨DrawChk_of (by kernel_rfl), ?_⟩))
            rw [RoundQ_normal]; refine ⟨k + 1, [(506, some 165)], ?_, ?_, ?_⟩
            · exact ⟨by omega, fun a c => ⟨hok2 _, hok2 _⟩⟩
            · omega
            simp [go_sem, ↓IntWalk.iteOmega, IntWalk.iteOmega, IntWalk.toNatUp, e2]
      | false =>
        have e := hYs k b v false hx
        rw [htk] at e
        simp only [Bool.false_eq_true, if_false] at e
        rcases List.eq_nil_or_concat (Y k) with hY | ⟨o, u, hY⟩
        · have e2 : Y (k + 1) = [p] := by rw [e, hY]; simp [tStep]
          repeat (first | (refine nf1_sound rfl ?_; simp [go_sem, ↓IntWalk.iteOmega, IntWalk.iteOmega, IntWalk.toNatUp, hx, hg, hY]; (repeat (refine And.intro (by omega) ?_)); try (refine ⟨DrawChk_of (by kernel_rfl), ?_⟩)) | (refine itePos (by omega) ?_; try simp [go_sem, ↓IntWalk.iteOmega, IntWalk.iteOmega, IntWalk.toNatUp, hx, hg, hY]) | (refine iteNeg (by omega) ?_; try simp [go_sem, ↓IntWalk.iteOmega, IntWalk.iteOmega, IntWalk.toNatUp, hx, hg, hY]) | (refine ⟨DrawChk_of (by kernel_rfl), ?_⟩))
          rw [RoundQ_normal]; refine ⟨k + 1, [(506, some 165)], ?_, ?_, ?_⟩
          · exact ⟨by omega, fun a c => ⟨hok2 _, hok2 _⟩⟩
          · omega
          simp [go_sem, ↓IntWalk.iteOmega, IntWalk.iteOmega, IntWalk.toNatUp, e2]
        · rw [List.concat_eq_append] at hY
          have hol : o.length ≤ k := by have := hYl k; rw [hY] at this; simp at this; omega
          by_cases hu : u = p
          · have e2 : Y (k + 1) = o ++ [p] := by rw [e, hY]; simp [tStep, hu]
            repeat (first | (refine nf1_sound rfl ?_; simp [go_sem, ↓IntWalk.iteOmega, IntWalk.iteOmega, IntWalk.toNatUp, hx, hg, hY, hu]; (repeat (refine And.intro (by omega) ?_)); try (refine ⟨DrawChk_of (by kernel_rfl), ?_⟩)) | (refine itePos (by omega) ?_; try simp [go_sem, ↓IntWalk.iteOmega, IntWalk.iteOmega, IntWalk.toNatUp, hx, hg, hY, hu]) | (refine iteNeg (by omega) ?_; try simp [go_sem, ↓IntWalk.iteOmega, IntWalk.iteOmega, IntWalk.toNatUp, hx, hg, hY, hu]) | (refine ⟨DrawChk_of (by kernel_rfl), ?_⟩))
            rw [RoundQ_normal]; refine ⟨k + 1, [(506, some 506)], ?_, ?_, ?_⟩
            · exact ⟨by omega, fun a c => ⟨hok2 _, hok2 _⟩⟩
            · omega
            simp [go_sem, ↓IntWalk.iteOmega, IntWalk.iteOmega, IntWalk.toNatUp, e2]
          · have e2 : Y (k + 1) = o ++ [u] ++ [p] := by rw [e, hY]; simp [tStep, hu]
            repeat (first | (refine nf1_sound rfl ?_; simp [go_sem, ↓IntWalk.iteOmega, IntWalk.iteOmega, IntWalk.toNatUp, hx, hg, hY, hu]; (repeat (refine And.intro (by omega) ?_)); try (refine ⟨DrawChk_of (by kernel_rfl), ?_⟩)) | (refine itePos (by omega) ?_; try simp [go_sem, ↓IntWalk.iteOmega, IntWalk.iteOmega, IntWalk.toNatUp, hx, hg, hY, hu]) | (refine iteNeg (by omega) ?_; try simp [go_sem, ↓IntWalk.iteOmega, IntWalk.iteOmega, IntWalk.toNatUp, hx, hg, hY, hu]) | (refine ⟨DrawChk_of (by kernel_rfl), ?_⟩))
            rw [RoundQ_normal]; refine ⟨k + 1, [(506, some 165)], ?_, ?_, ?_⟩
            · exact ⟨by omega, fun a c => ⟨hok2 _, hok2 _⟩⟩
            · omega
            simp [go_sem, ↓IntWalk.iteOmega, IntWalk.iteOmega, IntWalk.toNatUp, e2]
    · rw [if_neg (fun h => hin (h _ (mem_get hx)))] at hr
      obtain ⟨rfl, rfl⟩ := Prod.mk.inj hr
      unfold inB at hin
      dsimp only at hin
      by_cases h0 : b < 0
      · repeat (first | (refine nf1_sound rfl ?_; simp [go_sem, ↓IntWalk.iteOmega, IntWalk.iteOmega, IntWalk.toNatUp, hx]; (repeat (refine And.intro (by omega) ?_)); try (refine ⟨DrawChk_of (by kernel_rfl), ?_⟩)) | (refine itePos (by omega) ?_; try simp [go_sem, ↓IntWalk.iteOmega, IntWalk.iteOmega, IntWalk.toNatUp, hx]) | (refine iteNeg (by omega) ?_; try simp [go_sem, ↓IntWalk.iteOmega, IntWalk.iteOmega, IntWalk.toNatUp, hx]) | (refine ⟨DrawChk_of (by kernel_rfl), ?_⟩))
        first | rw [RetQ_ret] | rw [RetQ_normal]
        refine ⟨[(1000, none)], ?_⟩
        simp [go_sem, ↓IntWalk.iteOmega, IntWalk.iteOmega, IntWalk.toNatUp]
      · have h1 : (bs.length : Int) ≤ b := by omega
        repeat (first | (refine nf1_sound rfl ?_; simp [go_sem, ↓IntWalk.iteOmega, IntWalk.iteOmega, IntWalk.toNatUp, hx]; (repeat (refine And.intro (by omega) ?_)); try (refine ⟨DrawChk_of (by kernel_rfl), ?_⟩)) | (refine itePos (by omega) ?_; try simp [go_sem, ↓IntWalk.iteOmega, IntWalk.iteOmega, IntWalk.toNatUp, hx]) | (refine iteNeg (by omega) ?_; try simp [go_sem, ↓IntWalk.iteOmega, IntWalk.iteOmega, IntWalk.toNatUp, hx]) | (refine ⟨DrawChk_of (by kernel_rfl), ?_⟩))
        first | rw [RetQ_ret] | rw [RetQ_normal]
        refine ⟨[(1000, none)], ?_⟩
        simp [go_sem, ↓IntWalk.iteOmega, IntWalk.iteOmega, IntWalk.toNatUp]
  · obtain rfl : k = l.length := by omega
    rw [List.take_length] at hok
    rw [if_pos hok] at hr
    obtain ⟨rfl, rfl⟩ := Prod.mk.inj hr
    repeat (first | (refine nf1_sound rfl ?_; simp [go_sem, ↓IntWalk.iteOmega, IntWalk.iteOmega, IntWalk.toNatUp]; (repeat (refine And.intro (by omega) ?_)); try (refine ⟨DrawChk_of (by kernel_rfl), ?_⟩)) | (refine itePos (by omega) ?_; try simp [go_sem, ↓IntWalk.iteOmega, IntWalk.iteOmega, IntWalk.toNatUp]) | (refine iteNeg (by omega) ?_; try simp [go_sem, ↓IntWalk.iteOmega, IntWalk.iteOmega, IntWalk.toNatUp]) | (refine ⟨DrawChk_of (by kernel_rfl), ?_⟩))
    first | rw [RetQ_ret] | rw [RetQ_normal]
    refine ⟨[(1000, some 506)], ?_⟩
    simp [go_sem, ↓IntWalk.iteOmega, IntWalk.iteOmega, IntWalk.toNatUp, hYe]
end Go.Proofs.Ytgjfkklemelejaa
