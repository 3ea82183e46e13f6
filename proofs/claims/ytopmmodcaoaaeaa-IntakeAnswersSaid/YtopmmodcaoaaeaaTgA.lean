/- Telegrams: Before, Valid, sealed, equal bytes as contracts. No condition. -/
import Derived.Test.YtopmmodcaoaaeaaWSum
import Derived.Test.YtopmmodcaoaaeaaWStuff
import Derived.Test.YtopmmodcaoaaeaaKIntB
namespace Go.Proofs.Ytopmmodcaoaaeaa
open Go.RowKit Sy
open Go.IntWalk renaming iteOmega → iO, toNatUp → tN
set_option linter.unusedVariables false
set_option linter.unusedSimpArgs false
structure Tg where
  st : Int
  ep : Int
  sq : Int
  tm : Int
  kd : Int
  vs : List Int
@[go_sem] def encTg (t : Tg) : T := .agg [.int t.st, .int t.ep, .int t.sq, .int t.tm, .int t.kd, encIs t.vs]
def befV (a b : Tg) : Bool := decide (a.st = b.st ∧ (a.ep < b.ep ∨ a.ep = b.ep ∧ a.sq < b.sq))
set_option maxRecDepth 100000 in
theorem in_fn (n m : Int) (g : Bool) (hg : decide (0 ≤ n ∧ n ≤ m) = g) : FnOk Try.prog 77 [.t (.int n), .t (.int m)] [] (.t (.bool g)) [] := by
  subst hg
  by_cases h1 : 0 ≤ n
  · by_cases h2 : n ≤ m
    · refine FnOk.intro fact_mixed Try.func77 rfl Try.ntmps77 (by rfl) (by simp) ?_
      repeat (first | (refine nf1_sound rfl ?_; simp [go_sem, ↓iO, iO, tN]; (repeat (refine anI ?_)); try (refine ⟨dcK, ?_⟩)) | ((first | refine itePos (by omega) ?_ | refine iteNeg (by omega) ?_); try simp [go_sem, ↓iO, iO, tN]) | (refine ⟨dcK, ?_⟩))
      first | rw [RetQ_ret] | rw [RetQ_normal]
      refine ⟨[], ?_⟩
      simp [go_sem, ↓iO, iO, tN, h1, h2]
    · refine FnOk.intro fact_mixed Try.func77 rfl Try.ntmps77 (by rfl) (by simp) ?_
      repeat (first | (refine nf1_sound rfl ?_; simp [go_sem, ↓iO, iO, tN]; (repeat (refine anI ?_)); try (refine ⟨dcK, ?_⟩)) | ((first | refine itePos (by omega) ?_ | refine iteNeg (by omega) ?_); try simp [go_sem, ↓iO, iO, tN]) | (refine ⟨dcK, ?_⟩))
      first | rw [RetQ_ret] | rw [RetQ_normal]
      refine ⟨[], ?_⟩
      simp [go_sem, ↓iO, iO, tN, h1, h2]
  · refine FnOk.intro fact_mixed Try.func77 rfl Try.ntmps77 (by rfl) (by simp) ?_
    repeat (first | (refine nf1_sound rfl ?_; simp [go_sem, ↓iO, iO, tN]; (repeat (refine anI ?_)); try (refine ⟨dcK, ?_⟩)) | ((first | refine itePos (by omega) ?_ | refine iteNeg (by omega) ?_); try simp [go_sem, ↓iO, iO, tN]) | (refine ⟨dcK, ?_⟩))
    first | rw [RetQ_ret] | rw [RetQ_normal]
    refine ⟨[], ?_⟩
    simp [go_sem, ↓iO, iO, tN, h1]
def okN (v : Int) : Prop := -9007199254740992 ≤ v ∧ v ≤ 9007199254740992
instance (v : Int) : Decidable (okN v) := inferInstanceAs (Decidable (-9007199254740992 ≤ v ∧ v ≤ 9007199254740992))
set_option maxRecDepth 100000 in
theorem num_fn (v : Int) (g : Bool) (hg : decide (¬ okN v) = g) : FnOk Try.prog 79 [.t (.int v)] [] (.t (.bool g)) [] := by
  subst hg
  by_cases h1 : v < -9007199254740992
  · rw [decide_eq_true (by unfold okN; omega)]
    refine FnOk.intro fact_mixed Try.func79 rfl Try.ntmps79 (by rfl) (by simp) ?_
    repeat (first | (refine nf1_sound rfl ?_; simp [go_sem, ↓iO, iO, tN]; (repeat (refine anI ?_)); try (refine ⟨dcK, ?_⟩)) | ((first | refine itePos (by omega) ?_ | refine iteNeg (by omega) ?_); try simp [go_sem, ↓iO, iO, tN]) | (refine ⟨dcK, ?_⟩))
    first | rw [RetQ_ret] | rw [RetQ_normal]
    refine ⟨[], ?_⟩
    simp [go_sem, ↓iO, iO, tN]
  · by_cases h2 : 9007199254740992 < v
    · rw [decide_eq_true (by unfold okN; omega)]
      refine FnOk.intro fact_mixed Try.func79 rfl Try.ntmps79 (by rfl) (by simp) ?_
      repeat (first | (refine nf1_sound rfl ?_; simp [go_sem, ↓iO, iO, tN]; (repeat (refine anI ?_)); try (refine ⟨dcK, ?_⟩)) | ((first | refine itePos (by omega) ?_ | refine iteNeg (by omega) ?_); try simp [go_sem, ↓iO, iO, tN]) | (refine ⟨dcK, ?_⟩))
      first | rw [RetQ_ret] | rw [RetQ_normal]
      refine ⟨[], ?_⟩
      simp [go_sem, ↓iO, iO, tN]
      try omega
    · rw [decide_eq_false (by unfold okN; omega)]
      refine FnOk.intro fact_mixed Try.func79 rfl Try.ntmps79 (by rfl) (by simp) ?_
      repeat (first | (refine nf1_sound rfl ?_; simp [go_sem, ↓iO, iO, tN]; (repeat (refine anI ?_)); try (refine ⟨dcK, ?_⟩)) | ((first | refine itePos (by omega) ?_ | refine iteNeg (by omega) ?_); try simp [go_sem, ↓iO, iO, tN]) | (refine ⟨dcK, ?_⟩))
      first | rw [RetQ_ret] | rw [RetQ_normal]
      refine ⟨[], ?_⟩
      simp [go_sem, ↓iO, iO, tN]
      try omega
/-- The first that is not so. -/
theorem first_no {α : Type} {p : α → Prop} (hd : ∀ x, Decidable (p x)) : ∀ l : List α, (∀ x ∈ l, p x) ∨ ∃ (j : Nat) (x : α), l[j]? = some x ∧ ¬ p x ∧ ∀ (i : Nat) (y : α), i < j → l[i]? = some y → p y
  | [] => .inl (by simp)
  | x :: r => by
    by_cases h : p x
    · rcases first_no hd r with h1 | ⟨j, y, h1, h2, h3⟩
      · refine .inl ?_
        intro y hy
        rcases List.mem_cons.1 hy with rfl | hy
        · exact h
        · exact h1 y hy
      · refine .inr ⟨j + 1, y, by simpa using h1, h2, ?_⟩
        intro i z hi hz
        cases i with
        | zero => simp at hz; rw [← hz]; exact h
        | succ i => exact h3 i z (by omega) (by simpa using hz)
    · exact .inr ⟨0, x, rfl, h, by intro i y hi; omega⟩
set_option maxRecDepth 100000 in
set_option maxHeartbeats 4000000 in
theorem numi_fn (l : List Int) (hl : l.length ≤ 9223372036854775807) (g : Bool) (hg : decide (¬ ∀ x ∈ l, okN x) = g) : ∃ n : Int, decide (0 ≤ n) = g ∧ FnOk Try.prog 91 [.t (encIs l), .fn 79 []] [] (.t (.int n)) [] := by
  rcases first_no (p := okN) (fun _ => inferInstance) l with h | ⟨j, v, hj, hn, hf⟩
  · rw [decide_eq_false (by simpa using h)] at hg
    subst hg
    refine ⟨-1, by decide, ?_⟩
    refine FnOk.intro fact_mixed Try.func91 rfl Try.ntmps91 (by rfl) (by simp) ?_
    repeat (first | (refine nf1_sound rfl ?_; simp [go_sem, ↓iO, iO, tN]; (repeat (refine anI ?_)); try (refine ⟨dcK, ?_⟩)) | ((first | refine itePos (by omega) ?_ | refine iteNeg (by omega) ?_); try simp [go_sem, ↓iO, iO, tN]) | (refine ⟨dcK, ?_⟩))
    refine nf1_sound' _ _ _ ?_; simp only [nf1]
    refine CW.loop (ι := Nat) (fun k => ⟨[(0, .t (encIs l)), (1, .fn 79 []), (7, .t (.int l.length)), (8, .t (.int k))], []⟩) (fun k => k ≤ l.length) (fun k => l.length - k) 0 [] (by omega) ?_ ?_
    · simp [go_sem, ↓iO, iO, tN]
    intro k hk
    by_cases hk2 : k < l.length
    · obtain ⟨v, hx⟩ := has_get hk2
      have c := num_fn v false (decide_eq_false (by simpa using h _ (mem_get hx)))
      repeat (first | (refine nf1_sound rfl ?_; simp [go_sem, ↓iO, iO, tN, hx]; (repeat (refine anI ?_)); try (refine ⟨dcK, ?_⟩)) | ((first | refine itePos (by omega) ?_ | refine iteNeg (by omega) ?_); try simp [go_sem, ↓iO, iO, tN, hx]) | (refine ⟨dcK, ?_⟩))
      refine CallK.fn (c) [] [] [] (by kernel_rfl) ?_ ?_ ?_ (Or.inl rfl) ?_ <;> simp [go_sem, ↓iO, iO, tN]
      repeat (refine anI ?_)
      try (refine ⟨dcK, ?_⟩)
      repeat (first | (refine nf1_sound rfl ?_; simp [go_sem, ↓iO, iO, tN]; (repeat (refine anI ?_)); try (refine ⟨dcK, ?_⟩)) | ((first | refine itePos (by omega) ?_ | refine iteNeg (by omega) ?_); try simp [go_sem, ↓iO, iO, tN]) | (refine ⟨dcK, ?_⟩))
      rw [RoundQ_normal]; refine ⟨k + 1, [], ?_, ?_, ?_⟩
      · omega
      · omega
      simp [go_sem, ↓iO, iO, tN]
    · obtain rfl : k = l.length := by omega
      repeat (first | (refine nf1_sound rfl ?_; simp [go_sem, ↓iO, iO, tN]; (repeat (refine anI ?_)); try (refine ⟨dcK, ?_⟩)) | ((first | refine itePos (by omega) ?_ | refine iteNeg (by omega) ?_); try simp [go_sem, ↓iO, iO, tN]) | (refine ⟨dcK, ?_⟩))
      first | rw [RetQ_ret] | rw [RetQ_normal]
      refine ⟨[], ?_⟩
      simp [go_sem, ↓iO, iO, tN]
  · rw [decide_eq_true (show ¬ (∀ x ∈ l, okN x) from fun h => hn (h _ (mem_get hj)))] at hg
    subst hg
    have hjl := (List.getElem?_eq_some_iff.1 hj).1
    refine ⟨j, by simp, ?_⟩
    refine FnOk.intro fact_mixed Try.func91 rfl Try.ntmps91 (by rfl) (by simp) ?_
    repeat (first | (refine nf1_sound rfl ?_; simp [go_sem, ↓iO, iO, tN]; (repeat (refine anI ?_)); try (refine ⟨dcK, ?_⟩)) | ((first | refine itePos (by omega) ?_ | refine iteNeg (by omega) ?_); try simp [go_sem, ↓iO, iO, tN]) | (refine ⟨dcK, ?_⟩))
    refine nf1_sound' _ _ _ ?_; simp only [nf1]
    refine CW.loop (ι := Nat) (fun k => ⟨[(0, .t (encIs l)), (1, .fn 79 []), (7, .t (.int l.length)), (8, .t (.int k))], []⟩) (fun k => k ≤ j) (fun k => j - k) 0 [] (by omega) ?_ ?_
    · simp [go_sem, ↓iO, iO, tN]
    intro k hk
    by_cases hk2 : k < j
    · obtain ⟨v2, hx⟩ := has_get (show k < l.length by omega)
      have c := num_fn v2 false (decide_eq_false (by simpa using hf k _ hk2 hx))
      repeat (first | (refine nf1_sound rfl ?_; simp [go_sem, ↓iO, iO, tN, hx]; (repeat (refine anI ?_)); try (refine ⟨dcK, ?_⟩)) | ((first | refine itePos (by omega) ?_ | refine iteNeg (by omega) ?_); try simp [go_sem, ↓iO, iO, tN, hx]) | (refine ⟨dcK, ?_⟩))
      refine CallK.fn (c) [] [] [] (by kernel_rfl) ?_ ?_ ?_ (Or.inl rfl) ?_ <;> simp [go_sem, ↓iO, iO, tN]
      repeat (refine anI ?_)
      try (refine ⟨dcK, ?_⟩)
      repeat (first | (refine nf1_sound rfl ?_; simp [go_sem, ↓iO, iO, tN]; (repeat (refine anI ?_)); try (refine ⟨dcK, ?_⟩)) | ((first | refine itePos (by omega) ?_ | refine iteNeg (by omega) ?_); try simp [go_sem, ↓iO, iO, tN]) | (refine ⟨dcK, ?_⟩))
      rw [RoundQ_normal]; refine ⟨k + 1, [], ?_, ?_, ?_⟩
      · omega
      · omega
      simp [go_sem, ↓iO, iO, tN]
    · obtain rfl : k = j := by omega
      have c := num_fn v true (decide_eq_true hn)
      repeat (first | (refine nf1_sound rfl ?_; simp [go_sem, ↓iO, iO, tN, hj]; (repeat (refine anI ?_)); try (refine ⟨dcK, ?_⟩)) | ((first | refine itePos (by omega) ?_ | refine iteNeg (by omega) ?_); try simp [go_sem, ↓iO, iO, tN, hj]) | (refine ⟨dcK, ?_⟩))
      refine CallK.fn (c) [] [] [] (by kernel_rfl) ?_ ?_ ?_ (Or.inl rfl) ?_ <;> simp [go_sem, ↓iO, iO, tN]
      repeat (refine anI ?_)
      try (refine ⟨dcK, ?_⟩)
      repeat (first | (refine nf1_sound rfl ?_; simp [go_sem, ↓iO, iO, tN]; (repeat (refine anI ?_)); try (refine ⟨dcK, ?_⟩)) | ((first | refine itePos (by omega) ?_ | refine iteNeg (by omega) ?_); try simp [go_sem, ↓iO, iO, tN]) | (refine ⟨dcK, ?_⟩))
      first | rw [RetQ_ret] | rw [RetQ_normal]
      refine ⟨[], ?_⟩
      simp [go_sem, ↓iO, iO, tN]
set_option maxRecDepth 100000 in
theorem numc_fn (l : List Int) (hl : l.length ≤ 9223372036854775807) (g : Bool) (hg : decide (¬ ∀ x ∈ l, okN x) = g) : FnOk Try.prog 78 [.t (encIs l), .fn 79 []] [] (.t (.bool g)) [] := by
  obtain ⟨n, hn, c⟩ := numi_fn l hl g hg
  subst hn
  refine FnOk.intro fact_mixed Try.func78 rfl Try.ntmps78 (by rfl) (by simp) ?_
  repeat (first | (refine nf1_sound rfl ?_; simp [go_sem, ↓iO, iO, tN]; (repeat (refine anI ?_)); try (refine ⟨dcK, ?_⟩)) | ((first | refine itePos (by omega) ?_ | refine iteNeg (by omega) ?_); try simp [go_sem, ↓iO, iO, tN]) | (refine ⟨dcK, ?_⟩))
  refine CallK.fn (c) [] [] [] (by kernel_rfl) ?_ ?_ ?_ (Or.inl rfl) ?_ <;> simp [go_sem, ↓iO, iO, tN]
  repeat (refine anI ?_)
  try (refine ⟨dcK, ?_⟩)
  repeat (first | (refine nf1_sound rfl ?_; simp [go_sem, ↓iO, iO, tN]; (repeat (refine anI ?_)); try (refine ⟨dcK, ?_⟩)) | ((first | refine itePos (by omega) ?_ | refine iteNeg (by omega) ?_); try simp [go_sem, ↓iO, iO, tN]) | (refine ⟨dcK, ?_⟩))
  first | rw [RetQ_ret] | rw [RetQ_normal]
  refine ⟨[], ?_⟩
  simp [go_sem, ↓iO, iO, tN]
structure TgOk (t : Tg) : Prop where
  st : 0 ≤ t.st ∧ t.st ≤ 255
  ep : 0 ≤ t.ep ∧ t.ep ≤ 255
  sq : 0 ≤ t.sq ∧ t.sq ≤ 2147483648
  tm : 0 ≤ t.tm ∧ t.tm ≤ 1099511627776
  kd : 0 ≤ t.kd ∧ t.kd ≤ 63
  ln : t.vs.length ≤ 16
  vs : ∀ v ∈ t.vs, okN v
def eqL (a b : List Nat) : Bool := decide (a = b)
set_option maxRecDepth 100000 in
set_option maxHeartbeats 4000000 in
theorem equal_fn (a b : List Nat) (ha : a.length ≤ 1000000) (hb : b.length ≤ 1000000) (g : Bool) (hg : decide (a = b) = g) : FnOk Try.prog 67 [.t (encUs a), .t (encUs b)] [] (.t (.bool g)) [] := by
  subst hg
  by_cases hl : a.length = b.length
  · refine FnOk.intro fact_mixed Try.func67 rfl Try.ntmps67 (by rfl) (by simp) ?_
    repeat (first | (refine nf1_sound rfl ?_; simp [go_sem, ↓iO, iO, tN, hl]; (repeat (refine anI ?_)); try (refine ⟨dcK, ?_⟩)) | ((first | refine itePos (by omega) ?_ | refine iteNeg (by omega) ?_); try simp [go_sem, ↓iO, iO, tN, hl]) | (refine ⟨dcK, ?_⟩))
    refine nf1_sound' _ _ _ ?_; simp only [nf1]
    refine CW.loop (ι := Nat) (fun k => ⟨[(0, .t (encUs a)), (1, .t (encUs b)), (12, .t (.int b.length)), (13, .t (.int k))], []⟩) (fun k => k ≤ b.length ∧ ∀ i, i < k → a[i]? = b[i]?) (fun k => b.length - k) 0 [] ⟨by omega, by intros; omega⟩ ?_ ?_
    · simp [go_sem, ↓iO, iO, tN]
    rintro k ⟨hk, hok⟩
    by_cases hk2 : k < b.length
    · obtain ⟨x, hx⟩ := has_get (show k < a.length by omega)
      obtain ⟨y, hy⟩ := has_get hk2
      by_cases hxy : x = y
      · subst hxy
        repeat (first | (refine nf1_sound rfl ?_; simp [go_sem, ↓iO, iO, tN, hx, hy]; (repeat (refine anI ?_)); try (refine ⟨dcK, ?_⟩)) | ((first | refine itePos (by omega) ?_ | refine iteNeg (by omega) ?_); try simp [go_sem, ↓iO, iO, tN, hx, hy]) | (refine ⟨dcK, ?_⟩))
        rw [RoundQ_normal]; refine ⟨k + 1, [], ?_, ?_, ?_⟩
        · refine ⟨by omega, fun i hi => ?_⟩
          by_cases e : i = k
          · rw [e, hx, hy]
          · exact hok i (by omega)
        · omega
        simp [go_sem, ↓iO, iO, tN]
      · rw [decide_eq_false (by rintro rfl; rw [hx] at hy; exact hxy (Option.some.inj hy))]
        have hxy2 : (x : Int) ≠ (y : Int) := by omega
        repeat (first | (refine nf1_sound rfl ?_; simp [go_sem, ↓iO, iO, tN, hx, hy, hxy2, hxy]; (repeat (refine anI ?_)); try (refine ⟨dcK, ?_⟩)) | ((first | refine itePos (by omega) ?_ | refine iteNeg (by omega) ?_); try simp [go_sem, ↓iO, iO, tN, hx, hy, hxy2, hxy]) | (refine ⟨dcK, ?_⟩))
        first | rw [RetQ_ret] | rw [RetQ_normal]
        refine ⟨[], ?_⟩
        simp [go_sem, ↓iO, iO, tN]
    · obtain rfl : k = b.length := by omega
      have e : a = b := by
        apply List.ext_getElem?
        intro i
        by_cases hi : i < b.length
        · exact hok i hi
        · rw [List.getElem?_eq_none (by omega), List.getElem?_eq_none (by omega)]
      rw [decide_eq_true e]
      repeat (first | (refine nf1_sound rfl ?_; simp [go_sem, ↓iO, iO, tN]; (repeat (refine anI ?_)); try (refine ⟨dcK, ?_⟩)) | ((first | refine itePos (by omega) ?_ | refine iteNeg (by omega) ?_); try simp [go_sem, ↓iO, iO, tN]) | (refine ⟨dcK, ?_⟩))
      first | rw [RetQ_ret] | rw [RetQ_normal]
      refine ⟨[], ?_⟩
      simp [go_sem, ↓iO, iO, tN]
  · rw [decide_eq_false (by rintro rfl; exact hl rfl)]
    refine FnOk.intro fact_mixed Try.func67 rfl Try.ntmps67 (by rfl) (by simp) ?_
    repeat (first | (refine nf1_sound rfl ?_; simp [go_sem, ↓iO, iO, tN, hl]; (repeat (refine anI ?_)); try (refine ⟨dcK, ?_⟩)) | ((first | refine itePos (by omega) ?_ | refine iteNeg (by omega) ?_); try simp [go_sem, ↓iO, iO, tN, hl]) | (refine ⟨dcK, ?_⟩))
    first | rw [RetQ_ret] | rw [RetQ_normal]
    refine ⟨[], ?_⟩
    simp [go_sem, ↓iO, iO, tN]
def sealV (bs : List Nat) : List Nat := bs ++ [Crc.sum bs % 256, Crc.sum bs / 256 % 256, Crc.sum bs / 65536 % 256, Crc.sum bs / 16777216 % 256]
theorem arK_u8 {n m : Int} (h0 : 0 ≤ n) (hm : m = n % 256) (K : Value → Prop) : arK .u8 n K = K (.int .u8 m) := by
  subst hm
  show (if inR .u8 n then K (.int .u8 n) else K (.int .u8 (IntKind.u8.wrap n))) = _
  by_cases h : n ≤ 255
  · rw [if_pos (by simp only [inR]; omega), show n % 256 = n by omega]
  · rw [if_neg (by simp only [inR]; omega), u8_wrap]
theorem sum_u32 (bs : List Nat) : Crc.sum bs < 4294967296 := by unfold Crc.sum; omega
set_option maxRecDepth 100000 in
set_option maxHeartbeats 4000000 in
theorem sealed_fn (bs : List Nat) (hb : bs.length ≤ 1000000) (h8 : ∀ c ∈ bs, c < 256) : FnOk Try.prog 68 [.t (encUs bs)] [] (.own 1000) [(1000, blkU (sealV bs))] := by
  have c := sumU_fn bs (by omega) h8
  have hs := sum_u32 bs
  unfold sealV
  obtain ⟨s, hse⟩ : ∃ s, Crc.sum bs = s := ⟨_, rfl⟩
  rw [hse] at c hs ⊢
  have a0 : ∀ K : Value → Prop, arK .u8 (s : Int) K = K (.int .u8 ((s % 256 : Nat) : Int)) := fun K => arK_u8 (by omega) (by omega) K
  have a1 : ∀ K : Value → Prop, arK .u8 ((s : Int) / 256) K = K (.int .u8 ((s / 256 % 256 : Nat) : Int)) := fun K => arK_u8 (by omega) (by omega) K
  have a2 : ∀ K : Value → Prop, arK .u8 ((s : Int) / 65536) K = K (.int .u8 ((s / 65536 % 256 : Nat) : Int)) := fun K => arK_u8 (by omega) (by omega) K
  have a3 : ∀ K : Value → Prop, arK .u8 ((s : Int) / 16777216) K = K (.int .u8 ((s / 16777216 % 256 : Nat) : Int)) := fun K => arK_u8 (by omega) (by omega) K
  refine FnOk.intro fact_mixed Try.func68 rfl Try.ntmps68 (by rfl) (by simp) ?_
  repeat (first | (refine nf1_sound rfl ?_; simp [go_sem, ↓iO, iO, tN]; (repeat (refine anI ?_)); try (refine ⟨dcK, ?_⟩)) | ((first | refine itePos (by omega) ?_ | refine iteNeg (by omega) ?_); try simp [go_sem, ↓iO, iO, tN]) | (refine ⟨dcK, ?_⟩))
  refine CallK.fn (c) [] [] [] (by kernel_rfl) ?_ ?_ ?_ (Or.inl rfl) ?_ <;> simp [go_sem, ↓iO, iO, tN]
  repeat (refine anI ?_)
  try (refine ⟨dcK, ?_⟩)
  have ht : List.take bs.length (List.map encU bs) = List.map encU bs := List.take_of_length_le (by simp)
  repeat (first | (refine nf1_sound rfl ?_; simp [go_sem, ↓iO, iO, tN, ↓a0, ↓a1, ↓a2, ↓a3]; (repeat (refine anI ?_)); try (refine ⟨dcK, ?_⟩)) | ((first | refine itePos (by omega) ?_ | refine iteNeg (by omega) ?_); try simp [go_sem, ↓iO, iO, tN, ↓a0, ↓a1, ↓a2, ↓a3]) | (refine ⟨dcK, ?_⟩))
  first | rw [RetQ_ret] | rw [RetQ_normal]
  refine ⟨[(1000, some 124)], ?_⟩
  simp [go_sem, ↓iO, iO, tN, ht]
end Go.Proofs.Ytopmmodcaoaaeaa
