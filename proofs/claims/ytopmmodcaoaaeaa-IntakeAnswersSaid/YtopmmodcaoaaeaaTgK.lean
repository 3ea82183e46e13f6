/- Chapter 02's reference: Stuff and Unstuff as contracts. No condition. -/
import Derived.Test.YtopmmodcaoaaeaaTgA
import Derived.Test.YtopmmodcaoaaeaaRefPlain
namespace Go.Proofs.Ytopmmodcaoaaeaa
open Go.RowKit Sy
open Go.IntWalk renaming iteOmega → iO, toNatUp → tN
set_option linter.unusedVariables false
set_option linter.unusedSimpArgs false
set_option maxRecDepth 100000 in
theorem rspecial_fn (c : Nat) (hc : c < 256) (b : Bool) (hb : Wire.spec c = b) : FnOk Try.prog 46 [.t (.lit (.int .u8 c))] [] (.t (.bool b)) [] := by
  by_cases h1 : c = 126
  · have : Wire.spec c = true := Wire.spec_iff.2 (by omega)
    rw [this] at hb
    subst hb
    refine FnOk.intro fact_mixed Try.func46 rfl Try.ntmps46 (by rfl) (by simp) ?_
    repeat (first | (refine nf1_sound rfl ?_; simp [go_sem, ↓iO, iO, tN]; (repeat (refine anI ?_)); try (refine ⟨dcK, ?_⟩)) | ((first | refine itePos (by omega) ?_ | refine iteNeg (by omega) ?_); try simp [go_sem, ↓iO, iO, tN]) | (refine ⟨dcK, ?_⟩))
    first | rw [RetQ_ret] | rw [RetQ_normal]
    refine ⟨[], ?_⟩
    simp [go_sem, ↓iO, iO, tN]
  · by_cases h2 : c = 124
    · have : Wire.spec c = true := Wire.spec_iff.2 (by omega)
      rw [this] at hb
      subst hb
      refine FnOk.intro fact_mixed Try.func46 rfl Try.ntmps46 (by rfl) (by simp) ?_
      repeat (first | (refine nf1_sound rfl ?_; simp [go_sem, ↓iO, iO, tN]; (repeat (refine anI ?_)); try (refine ⟨dcK, ?_⟩)) | ((first | refine itePos (by omega) ?_ | refine iteNeg (by omega) ?_); try simp [go_sem, ↓iO, iO, tN]) | (refine ⟨dcK, ?_⟩))
      first | rw [RetQ_ret] | rw [RetQ_normal]
      refine ⟨[], ?_⟩
      simp [go_sem, ↓iO, iO, tN]
    · by_cases h3 : c = 125
      · have : Wire.spec c = true := Wire.spec_iff.2 (by omega)
        rw [this] at hb
        subst hb
        refine FnOk.intro fact_mixed Try.func46 rfl Try.ntmps46 (by rfl) (by simp) ?_
        repeat (first | (refine nf1_sound rfl ?_; simp [go_sem, ↓iO, iO, tN]; (repeat (refine anI ?_)); try (refine ⟨dcK, ?_⟩)) | ((first | refine itePos (by omega) ?_ | refine iteNeg (by omega) ?_); try simp [go_sem, ↓iO, iO, tN]) | (refine ⟨dcK, ?_⟩))
        first | rw [RetQ_ret] | rw [RetQ_normal]
        refine ⟨[], ?_⟩
        simp [go_sem, ↓iO, iO, tN]
        try omega
      · have : Wire.spec c = false := by
          cases hs : Wire.spec c
          · rfl
          · have := Wire.spec_iff.1 hs; omega
        rw [this] at hb
        subst hb
        refine FnOk.intro fact_mixed Try.func46 rfl Try.ntmps46 (by rfl) (by simp) ?_
        repeat (first | (refine nf1_sound rfl ?_; simp [go_sem, ↓iO, iO, tN]; (repeat (refine anI ?_)); try (refine ⟨dcK, ?_⟩)) | ((first | refine itePos (by omega) ?_ | refine iteNeg (by omega) ?_); try simp [go_sem, ↓iO, iO, tN]) | (refine ⟨dcK, ?_⟩))
        first | rw [RetQ_ret] | rw [RetQ_normal]
        refine ⟨[], ?_⟩
        simp [go_sem, ↓iO, iO, tN]
        try omega
set_option maxRecDepth 100000 in
set_option maxHeartbeats 4000000 in
theorem rstuff_fn (bs : List Nat) (hb : bs.length ≤ 1000000) (h8 : ∀ c ∈ bs, c < 256) : FnOk Try.prog 30 [.t (encUs bs)] [] (.own 1000) [(1000, blkU (Wire.stuff bs))] := by
  obtain ⟨Y, y0, ys, ye, yl⟩ := body_ex bs
  rw [← ye]
  refine FnOk.intro fact_mixed Try.func30 rfl Try.ntmps30 (by rfl) (by simp) ?_
  repeat (first | (refine nf1_sound rfl ?_; simp [go_sem, ↓iO, iO, tN]; (repeat (refine anI ?_)); try (refine ⟨dcK, ?_⟩)) | ((first | refine itePos (by omega) ?_ | refine iteNeg (by omega) ?_); try simp [go_sem, ↓iO, iO, tN]) | (refine ⟨dcK, ?_⟩))
  refine nf1_sound' _ _ _ ?_; simp only [nf1]
  refine CW.loop (ι := Nat) (fun k => ⟨[(0, .t (encUs bs)), (3, .own 503), (7, .t (.int bs.length)), (8, .t (.int k))], [(503, blkU (Y k))]⟩) (fun k => k ≤ bs.length) (fun k => bs.length - k) 0 [(503, some 105)] (by omega) ?_ ?_
  · simp [go_sem, ↓iO, iO, tN, y0]
  intro k hk
  have hyl := yl k
  by_cases hkl : k < bs.length
  · obtain ⟨c, hc⟩ := has_get hkl
    have hc8 := h8 c (mem_get hc)
    have hx := xor_32 hc8
    have hs := ys k c hc
    obtain ⟨V, hV⟩ : ∃ V, Y k = V := ⟨_, rfl⟩
    rw [hV] at hs hyl ⊢
    cases hsp : Wire.spec c with
    | true =>
      rw [Wire.esc_yes hsp] at hs
      repeat (first | (refine nf1_sound rfl ?_; simp [go_sem, ↓iO, iO, tN, hc]; (repeat (refine anI ?_)); try (refine ⟨dcK, ?_⟩)) | ((first | refine itePos (by omega) ?_ | refine iteNeg (by omega) ?_); try simp [go_sem, ↓iO, iO, tN, hc]) | (refine ⟨dcK, ?_⟩))
      refine CallK.fn (rspecial_fn c hc8 true hsp) [] [] [] (by kernel_rfl) ?_ ?_ ?_ (Or.inl rfl) ?_ <;> simp [go_sem, ↓iO, iO, tN]
      repeat (refine anI ?_)
      try (refine ⟨dcK, ?_⟩)
      repeat (first | (refine nf1_sound rfl ?_; simp [go_sem, ↓iO, iO, tN, hc, hx]; (repeat (refine anI ?_)); try (refine ⟨dcK, ?_⟩)) | ((first | refine itePos (by omega) ?_ | refine iteNeg (by omega) ?_); try simp [go_sem, ↓iO, iO, tN, hc, hx]) | (refine ⟨dcK, ?_⟩))
      rw [RoundQ_normal]; refine ⟨k + 1, [(503, some 123)], ?_, ?_, ?_⟩
      · omega
      · omega
      simp [go_sem, ↓iO, iO, tN, hs, hx]
    | false =>
      rw [Wire.esc_no hsp] at hs
      repeat (first | (refine nf1_sound rfl ?_; simp [go_sem, ↓iO, iO, tN, hc]; (repeat (refine anI ?_)); try (refine ⟨dcK, ?_⟩)) | ((first | refine itePos (by omega) ?_ | refine iteNeg (by omega) ?_); try simp [go_sem, ↓iO, iO, tN, hc]) | (refine ⟨dcK, ?_⟩))
      refine CallK.fn (rspecial_fn c hc8 false hsp) [] [] [] (by kernel_rfl) ?_ ?_ ?_ (Or.inl rfl) ?_ <;> simp [go_sem, ↓iO, iO, tN]
      repeat (refine anI ?_)
      try (refine ⟨dcK, ?_⟩)
      repeat (first | (refine nf1_sound rfl ?_; simp [go_sem, ↓iO, iO, tN, hc]; (repeat (refine anI ?_)); try (refine ⟨dcK, ?_⟩)) | ((first | refine itePos (by omega) ?_ | refine iteNeg (by omega) ?_); try simp [go_sem, ↓iO, iO, tN, hc]) | (refine ⟨dcK, ?_⟩))
      rw [RoundQ_normal]; refine ⟨k + 1, [(503, some 130)], ?_, ?_, ?_⟩
      · omega
      · omega
      simp [go_sem, ↓iO, iO, tN, hs]
  · obtain rfl : k = bs.length := by omega
    repeat (first | (refine nf1_sound rfl ?_; simp [go_sem, ↓iO, iO, tN]; (repeat (refine anI ?_)); try (refine ⟨dcK, ?_⟩)) | ((first | refine itePos (by omega) ?_ | refine iteNeg (by omega) ?_); try simp [go_sem, ↓iO, iO, tN]) | (refine ⟨dcK, ?_⟩))
    first | rw [RetQ_ret] | rw [RetQ_normal]
    refine ⟨[(1000, some 134)], ?_⟩
    simp [go_sem, ↓iO, iO, tN]
theorem gath_ends : ∀ {l : List Nat}, l.length ≤ 1 → Wire.gath l = []
  | [], _ => rfl
  | [_], _ => rfl
  | _ :: _ :: _, h => by simp at h
theorem gath_len : ∀ (n : Nat) {l : List Nat}, l.length ≤ n → (Wire.gath l).length ≤ n
  | 0, l, h => by rw [gath_ends (by omega)]; simp
  | n + 1, [], h => by simp [Wire.gath]
  | n + 1, [_], h => by simp [Wire.gath]
  | n + 1, c :: d :: r, h => by
    simp only [List.length_cons] at h
    have h1 := gath_len n (l := r) (by omega)
    have h2 := gath_len n (l := d :: r) (by simp only [List.length_cons]; omega)
    simp only [Wire.gath]
    split <;> simp only [List.length_cons] <;> omega
theorem gath_b8 : ∀ (n : Nat) {l : List Nat}, l.length ≤ n → (∀ c ∈ l, c < 256) → ∀ c ∈ Wire.gath l, c < 256
  | 0, l, h, _ => by rw [gath_ends (by omega)]; simp
  | n + 1, [], h, _ => by simp [Wire.gath]
  | n + 1, [_], h, _ => by simp [Wire.gath]
  | n + 1, c :: d :: r, h, h8 => by
    simp only [List.length_cons] at h
    have h1 := gath_b8 n (l := r) (by omega) fun x hx => h8 x (by simp [hx])
    have h2 := gath_b8 n (l := d :: r) (by simp only [List.length_cons]; omega) fun x hx => h8 x (List.mem_cons_of_mem _ hx)
    have hc := h8 c (by simp)
    have hd := h8 d (by simp)
    have hx : d ^^^ 32 < 256 := Nat.xor_lt_two_pow (n := 8) hd (by omega)
    simp only [Wire.gath]
    intro x hx2
    split at hx2
    · rcases List.mem_cons.1 hx2 with rfl | hx2
      · exact hx
      · exact h1 x hx2
    · rcases List.mem_cons.1 hx2 with rfl | hx2
      · exact hc
      · exact h2 x hx2
set_option maxRecDepth 100000 in
set_option maxHeartbeats 8000000 in
theorem runstuff_fn (bs : List Nat) (hb : bs.length ≤ 1000000) (h8 : ∀ c ∈ bs, c < 256) (x : List Nat) (e : Int) (hr : Wire.unstuff bs = (x, e)) : FnOk Try.prog 70 [.t (encUs bs)] [] (.tup [.own 1000, .t (.int e)]) [(1000, blkU x)] := by
  rw [← Wire.refUnstuff_eq] at hr
  unfold Wire.refUnstuff at hr
  by_cases h2 : bs.length < 2
  · rw [if_pos h2] at hr
    obtain ⟨rfl, rfl⟩ := Prod.mk.inj hr
    refine FnOk.intro fact_mixed Try.func70 rfl Try.ntmps70 (by rfl) (by simp) ?_
    repeat (first | (refine nf1_sound rfl ?_; simp [go_sem, ↓iO, iO, tN]; (repeat (refine anI ?_)); try (refine ⟨dcK, ?_⟩)) | ((first | refine itePos (by omega) ?_ | refine iteNeg (by omega) ?_); try simp [go_sem, ↓iO, iO, tN]) | (refine ⟨dcK, ?_⟩))
    first | rw [RetQ_ret] | rw [RetQ_normal]
    refine ⟨[(1000, none)], ?_⟩
    simp [go_sem, ↓iO, iO, tN]
  · rw [if_neg h2] at hr
    have hgl := gath_len (bs.length - 1) (l := bs.drop 1) (by rw [List.length_drop]; omega)
    have hg8 := gath_b8 _ (l := bs.drop 1) (Nat.le_refl _) fun c hc => h8 c (List.mem_of_mem_drop hc)
    obtain ⟨g, hg⟩ : ∃ g, Wire.gath (bs.drop 1) = g := ⟨_, rfl⟩
    rw [hg] at hr hgl hg8
    refine FnOk.intro fact_mixed Try.func70 rfl Try.ntmps70 (by rfl) (by simp) ?_
    repeat (first | (refine nf1_sound rfl ?_; simp [go_sem, ↓iO, iO, tN]; (repeat (refine anI ?_)); try (refine ⟨dcK, ?_⟩)) | ((first | refine itePos (by omega) ?_ | refine iteNeg (by omega) ?_); try simp [go_sem, ↓iO, iO, tN]) | (refine ⟨dcK, ?_⟩))
    refine nf1_sound' _ _ _ ?_; simp only [nf1]
    refine CW.loop (ι := Nat × List Nat) (fun p => ⟨[(0, .t (encUs bs)), (4, .own 504), (5, .t (.int p.1))], [(504, blkU p.2)]⟩) (fun p => 1 ≤ p.1 ∧ p.1 ≤ bs.length ∧ p.2.length ≤ p.1 ∧ p.2 ++ Wire.gath (bs.drop p.1) = g) (fun p => bs.length - p.1) (1, []) [(504, none)] ⟨by simp, by dsimp only; omega, by simp, by simpa using hg⟩ ?_ ?_
    · simp [go_sem, ↓iO, iO, tN]
    rintro ⟨k, q⟩ ⟨hk1, hk, hq, hgk⟩
    dsimp only at hk1 hk hq hgk ⊢
    by_cases hkl : k < bs.length - 1
    · obtain ⟨c, hc⟩ := has_get (show k < bs.length by omega)
      obtain ⟨d, hd⟩ := has_get (show k + 1 < bs.length by omega)
      have hc8 := h8 c (mem_get hc)
      have hd8 := h8 d (mem_get hd)
      have hx := xor_32 hd8
      rw [drop_get hc, drop_get hd] at hgk
      simp only [Wire.gath] at hgk
      by_cases h125 : c = 125
      · rw [if_pos h125] at hgk
        subst h125
        repeat (first | (refine nf1_sound rfl ?_; simp [go_sem, ↓iO, iO, tN, hc, hd, hx]; (repeat (refine anI ?_)); try (refine ⟨dcK, ?_⟩)) | ((first | refine itePos (by omega) ?_ | refine iteNeg (by omega) ?_); try simp [go_sem, ↓iO, iO, tN, hc, hd, hx]) | (refine ⟨dcK, ?_⟩))
        rw [RoundQ_normal]; refine ⟨(k + 1 + 1, q ++ [d ^^^ 32]), [(504, some 134)], ?_, ?_, ?_⟩
        · exact ⟨by dsimp only; omega, by dsimp only; omega, by simp; omega, by simpa using hgk⟩
        · dsimp only
          omega
        simp [go_sem, ↓iO, iO, tN, hx]
      · rw [if_neg h125, ← drop_get hd] at hgk
        repeat (first | (refine nf1_sound rfl ?_; simp [go_sem, ↓iO, iO, tN, hc, h125]; (repeat (refine anI ?_)); try (refine ⟨dcK, ?_⟩)) | ((first | refine itePos (by omega) ?_ | refine iteNeg (by omega) ?_); try simp [go_sem, ↓iO, iO, tN, hc, h125]) | (refine ⟨dcK, ?_⟩))
        rw [RoundQ_normal]; refine ⟨(k + 1, q ++ [c]), [(504, some 134)], ?_, ?_, ?_⟩
        · exact ⟨by dsimp only; omega, by dsimp only; omega, by simp; omega, by simpa using hgk⟩
        · dsimp only
          omega
        simp [go_sem, ↓iO, iO, tN]
    · have hend : Wire.gath (bs.drop k) = [] := gath_ends (by rw [List.length_drop]; omega)
      rw [hend, List.append_nil] at hgk
      subst hgk
      have cs := rstuff_fn q (by omega) hg8
      have hs8 := Wire.stuff_lt hg8
      have hbe := str_beq hs8 h8
      by_cases he : Wire.stuff q = bs
      · rw [if_pos he] at hr
        obtain ⟨rfl, rfl⟩ := Prod.mk.inj hr
        rw [decide_eq_true he] at hbe
        repeat (first | (refine nf1_sound rfl ?_; simp [go_sem, ↓iO, iO, tN]; (repeat (refine anI ?_)); try (refine ⟨dcK, ?_⟩)) | ((first | refine itePos (by omega) ?_ | refine iteNeg (by omega) ?_); try simp [go_sem, ↓iO, iO, tN]) | (refine ⟨dcK, ?_⟩))
        refine CallK.fn (cs) [(1000, 636)] [504] [] (by kernel_rfl) ?_ ?_ ?_ (Or.inr ⟨?_, ?_⟩) ?_ <;> simp [go_sem, ↓iO, iO, tN]
        repeat (refine anI ?_)
        try (refine ⟨dcK, ?_⟩)
        repeat (first | (refine nf1_sound rfl ?_; simp [go_sem, ↓iO, iO, tN, hbe]; (repeat (refine anI ?_)); try (refine ⟨dcK, ?_⟩)) | ((first | refine itePos (by omega) ?_ | refine iteNeg (by omega) ?_); try simp [go_sem, ↓iO, iO, tN, hbe]) | (refine ⟨dcK, ?_⟩))
        first | rw [RetQ_ret] | rw [RetQ_normal]
        refine ⟨[(1000, some 504)], ?_⟩
        simp [go_sem, ↓iO, iO, tN]
      · rw [if_neg he] at hr
        obtain ⟨rfl, rfl⟩ := Prod.mk.inj hr
        rw [decide_eq_false he] at hbe
        repeat (first | (refine nf1_sound rfl ?_; simp [go_sem, ↓iO, iO, tN]; (repeat (refine anI ?_)); try (refine ⟨dcK, ?_⟩)) | ((first | refine itePos (by omega) ?_ | refine iteNeg (by omega) ?_); try simp [go_sem, ↓iO, iO, tN]) | (refine ⟨dcK, ?_⟩))
        refine CallK.fn (cs) [(1000, 636)] [504] [] (by kernel_rfl) ?_ ?_ ?_ (Or.inr ⟨?_, ?_⟩) ?_ <;> simp [go_sem, ↓iO, iO, tN]
        repeat (refine anI ?_)
        try (refine ⟨dcK, ?_⟩)
        repeat (first | (refine nf1_sound rfl ?_; simp [go_sem, ↓iO, iO, tN, hbe]; (repeat (refine anI ?_)); try (refine ⟨dcK, ?_⟩)) | ((first | refine itePos (by omega) ?_ | refine iteNeg (by omega) ?_); try simp [go_sem, ↓iO, iO, tN, hbe]) | (refine ⟨dcK, ?_⟩))
        first | rw [RetQ_ret] | rw [RetQ_normal]
        refine ⟨[(1000, none)], ?_⟩
        simp [go_sem, ↓iO, iO, tN]
end Go.Proofs.Ytopmmodcaoaaeaa
