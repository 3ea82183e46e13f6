/- The reference's Valid of an intake. No condition. -/
import Derived.Test.YtopmmodcaoaaeaaInE
import Derived.Test.YtopmmodcaoaaeaaTgG
namespace Go.Proofs.Ytopmmodcaoaaeaa
open Go.RowKit Sy
open Go.IntWalk renaming iteOmega → iO, toNatUp → tN
set_option linter.unusedVariables false
set_option linter.unusedSimpArgs false
def tlAt (l : List Nat) (k : Nat) : Prop := ∀ j c, j < k → l[j]? = some c → c ≠ 124 ∧ (c = 126 ↔ j = 0)
theorem tlAt_ok {l : List Nat} (h : tlAt l l.length) : tailOk l := by
  by_cases h0 : l = []
  · exact .inl h0
  · have hpos : 0 < l.length := List.length_pos_iff.2 h0
    obtain ⟨c0, hc0⟩ := has_get hpos
    have h1 := h 0 c0 hpos hc0
    refine .inr ⟨by rw [hc0, h1.2.2 rfl], ?_, fun hm => ?_⟩
    · rintro ⟨i, hi, hx⟩
      have := (h i 126 (List.getElem?_eq_some_iff.1 hx).1 hx).2.1 rfl
      omega
    · obtain ⟨i, hi⟩ := List.mem_iff_getElem?.1 hm
      exact (h i 124 (List.getElem?_eq_some_iff.1 hi).1 hi).1 rfl
theorem tlAt_of {l : List Nat} (h : tailOk l) {j c : Nat} (hj : l[j]? = some c) : c ≠ 124 ∧ (c = 126 ↔ j = 0) := by
  rcases h with rfl | ⟨h1, h2, h3⟩
  · simp at hj
  · refine ⟨fun e => h3 (by subst e; exact mem_get hj), fun e => ?_, fun e => ?_⟩
    · subst e
      by_cases h : j = 0
      · exact h
      · exact absurd ⟨j, by omega, hj⟩ h2
    · subst e
      rw [h1] at hj
      exact (Option.some.inj hj).symm
set_option maxRecDepth 100000 in
set_option maxHeartbeats 16000000 in
theorem rvalidIn_fn (i : In) (htl : i.tail.length ≤ 1000000) (hsl : i.sts.length ≤ 1000000) (h8 : ∀ c ∈ i.tail, c < 256) (hs : ∀ w ∈ i.sts, Mod w) (g : Bool) (hg : g = true ↔ InOk i) : FnOk Try.prog 40 [.t (encIn i)] [] (.t (.bool g)) [] := by
  obtain ⟨win, tail, sts⟩ := i
  dsimp only at htl hsl h8 hs
  by_cases h0 : win < 0
  · obtain rfl : g = false := by
      cases g
      · rfl
      · exact absurd (h0) ((hg.1 rfl).wn)
    refine FnOk.intro fact_mixed Try.func40 rfl Try.ntmps40 (by rfl) (by simp) ?_
    repeat (first | (refine nf1_sound rfl ?_; simp [go_sem, ↓iO, iO, tN]; (repeat (refine anI ?_)); try (refine ⟨dcK, ?_⟩)) | ((first | refine itePos (by omega) ?_ | refine iteNeg (by omega) ?_); try simp [go_sem, ↓iO, iO, tN]) | (refine ⟨dcK, ?_⟩))
    first | rw [RetQ_ret] | rw [RetQ_normal]
    refine ⟨[], ?_⟩
    simp [go_sem, ↓iO, iO, tN]
  by_cases h1 : 16 < win
  · obtain rfl : g = false := by
      cases g
      · rfl
      · exact absurd (h1) ((hg.1 rfl).wx)
    refine FnOk.intro fact_mixed Try.func40 rfl Try.ntmps40 (by rfl) (by simp) ?_
    repeat (first | (refine nf1_sound rfl ?_; simp [go_sem, ↓iO, iO, tN]; (repeat (refine anI ?_)); try (refine ⟨dcK, ?_⟩)) | ((first | refine itePos (by omega) ?_ | refine iteNeg (by omega) ?_); try simp [go_sem, ↓iO, iO, tN]) | (refine ⟨dcK, ?_⟩))
    first | rw [RetQ_ret] | rw [RetQ_normal]
    refine ⟨[], ?_⟩
    simp [go_sem, ↓iO, iO, tN]
  by_cases h2 : 400 < tail.length
  · obtain rfl : g = false := by
      cases g
      · rfl
      · exact absurd (h2) ((hg.1 rfl).tl)
    refine FnOk.intro fact_mixed Try.func40 rfl Try.ntmps40 (by rfl) (by simp) ?_
    repeat (first | (refine nf1_sound rfl ?_; simp [go_sem, ↓iO, iO, tN]; (repeat (refine anI ?_)); try (refine ⟨dcK, ?_⟩)) | ((first | refine itePos (by omega) ?_ | refine iteNeg (by omega) ?_); try simp [go_sem, ↓iO, iO, tN]) | (refine ⟨dcK, ?_⟩))
    first | rw [RetQ_ret] | rw [RetQ_normal]
    refine ⟨[], ?_⟩
    simp [go_sem, ↓iO, iO, tN]
  by_cases h3 : 64 < sts.length
  · obtain rfl : g = false := by
      cases g
      · rfl
      · exact absurd (h3) ((hg.1 rfl).sl)
    refine FnOk.intro fact_mixed Try.func40 rfl Try.ntmps40 (by rfl) (by simp) ?_
    repeat (first | (refine nf1_sound rfl ?_; simp [go_sem, ↓iO, iO, tN]; (repeat (refine anI ?_)); try (refine ⟨dcK, ?_⟩)) | ((first | refine itePos (by omega) ?_ | refine iteNeg (by omega) ?_); try simp [go_sem, ↓iO, iO, tN]) | (refine ⟨dcK, ?_⟩))
    first | rw [RetQ_ret] | rw [RetQ_normal]
    refine ⟨[], ?_⟩
    simp [go_sem, ↓iO, iO, tN]
  refine FnOk.intro fact_mixed Try.func40 rfl Try.ntmps40 (by rfl) (by simp) ?_
  repeat (first | (refine nf1_sound rfl ?_; simp [go_sem, ↓iO, iO, tN]; (repeat (refine anI ?_)); try (refine ⟨dcK, ?_⟩)) | ((first | refine itePos (by omega) ?_ | refine iteNeg (by omega) ?_); try simp [go_sem, ↓iO, iO, tN]) | (refine ⟨dcK, ?_⟩))
  refine nf1_sound' _ _ _ ?_; simp only [nf1]
  refine CW.loop (ι := Nat) (fun k => ⟨[(1, .pt 501 [] 0), (31, .t (.int tail.length)), (32, .t (.int k))], [(501, .box 29 (.t (.agg [.int win, encUs tail, encWts sts])))]⟩) (fun k => k ≤ tail.length ∧ tlAt tail k) (fun k => tail.length - k) 0 [(501, some 101)] ⟨Nat.zero_le _, fun j c h => by omega⟩ ?_ ?_
  · simp [go_sem, ↓iO, iO, tN]
  rintro k ⟨hk, hall⟩
  by_cases hkl : k < tail.length
  · obtain ⟨c, hc⟩ := has_get hkl
    have hc8 := h8 c (mem_get hc)
    have hwc : IntKind.i64.wrap (c : Int) = (c : Int) := by rw [IntKind.wrap_i64]; omega
    have hno : ∀ (h : InOk ⟨win, tail, sts⟩), c ≠ 124 ∧ (c = 126 ↔ k = 0) := fun h => tlAt_of h.tk hc
    by_cases g1 : c = 124
    · obtain rfl : g = false := by
        cases g
        · rfl
        · exact absurd (g1) ((hno (hg.1 rfl)).1)
      repeat (first | (refine nf1_sound rfl ?_; simp [go_sem, ↓iO, iO, tN, hc, hwc, g1]; (repeat (refine anI ?_)); try (refine ⟨dcK, ?_⟩)) | ((first | refine itePos (by omega) ?_ | refine iteNeg (by omega) ?_); try simp [go_sem, ↓iO, iO, tN, hc, hwc, g1]) | (refine ⟨dcK, ?_⟩))
      first | rw [RetQ_ret] | rw [RetQ_normal]
      refine ⟨[], ?_⟩
      simp [go_sem, ↓iO, iO, tN]
    have g1' : ¬ (c : Int) = 124 := by omega
    by_cases g2 : c = 126
    · by_cases g3 : k = 0
      · subst g2
        subst g3
        repeat (first | (refine nf1_sound rfl ?_; simp [go_sem, ↓iO, iO, tN, hc]; (repeat (refine anI ?_)); try (refine ⟨dcK, ?_⟩)) | ((first | refine itePos (by omega) ?_ | refine iteNeg (by omega) ?_); try simp [go_sem, ↓iO, iO, tN, hc]) | (refine ⟨dcK, ?_⟩))
        rw [RoundQ_normal]; refine ⟨1, [(501, some 501)], ?_, ?_, ?_⟩
        · refine ⟨by omega, fun j x hj hx => ?_⟩
          obtain rfl : j = 0 := by omega
          rw [hc] at hx
          cases hx
          exact ⟨by omega, by omega⟩
        · omega
        simp [go_sem, ↓iO, iO, tN]
      · have g3' : ¬ (k : Int) = 0 := by omega
        obtain rfl : g = false := by
          cases g
          · rfl
          · exact absurd ((hno (hg.1 rfl)).2.1 g2) (g3)
        repeat (first | (refine nf1_sound rfl ?_; simp [go_sem, ↓iO, iO, tN, hc, hwc, g1, g1', g2, g3, g3']; (repeat (refine anI ?_)); try (refine ⟨dcK, ?_⟩)) | ((first | refine itePos (by omega) ?_ | refine iteNeg (by omega) ?_); try simp [go_sem, ↓iO, iO, tN, hc, hwc, g1, g1', g2, g3, g3']) | (refine ⟨dcK, ?_⟩))
        first | rw [RetQ_ret] | rw [RetQ_normal]
        refine ⟨[], ?_⟩
        simp [go_sem, ↓iO, iO, tN]
    · have g2' : ¬ (c : Int) = 126 := by omega
      by_cases g3 : k = 0
      · obtain rfl : g = false := by
          cases g
          · rfl
          · exact absurd ((hno (hg.1 rfl)).2.2 g3) (g2)
        subst g3
        repeat (first | (refine nf1_sound rfl ?_; simp [go_sem, ↓iO, iO, tN, hc, hwc, g1, g1', g2, g2']; (repeat (refine anI ?_)); try (refine ⟨dcK, ?_⟩)) | ((first | refine itePos (by omega) ?_ | refine iteNeg (by omega) ?_); try simp [go_sem, ↓iO, iO, tN, hc, hwc, g1, g1', g2, g2']) | (refine ⟨dcK, ?_⟩))
        first | rw [RetQ_ret] | rw [RetQ_normal]
        refine ⟨[], ?_⟩
        simp [go_sem, ↓iO, iO, tN]
      · have g3' : ¬ (k : Int) = 0 := by omega
        repeat (first | (refine nf1_sound rfl ?_; simp [go_sem, ↓iO, iO, tN, hc, hwc, g1, g1', g2, g2', g3, g3']; (repeat (refine anI ?_)); try (refine ⟨dcK, ?_⟩)) | ((first | refine itePos (by omega) ?_ | refine iteNeg (by omega) ?_); try simp [go_sem, ↓iO, iO, tN, hc, hwc, g1, g1', g2, g2', g3, g3']) | (refine ⟨dcK, ?_⟩))
        rw [RoundQ_normal]; refine ⟨k + 1, [(501, some 501)], ?_, ?_, ?_⟩
        · refine ⟨by omega, fun j x hj hx => ?_⟩
          by_cases e : j < k
          · exact hall j x e hx
          · obtain rfl : j = k := by omega
            rw [hc] at hx
            cases hx
            exact ⟨g1, by omega⟩
        · omega
        simp [go_sem, ↓iO, iO, tN]
  · obtain rfl : k = tail.length := by omega
    have ht := tlAt_ok hall
    repeat (first | (refine nf1_sound rfl ?_; simp [go_sem, ↓iO, iO, tN]; (repeat (refine anI ?_)); try (refine ⟨dcK, ?_⟩)) | ((first | refine itePos (by omega) ?_ | refine iteNeg (by omega) ?_); try simp [go_sem, ↓iO, iO, tN]) | (refine ⟨dcK, ?_⟩))
    refine nf1_sound' _ _ _ ?_; simp only [nf1]
    refine CW.loop (ι := Nat) (fun k => ⟨[(1, .pt 501 [] 0), (56, .t (encWts sts)), (57, .t (.int sts.length)), (58, .t (.int k))], [(501, .box 29 (.t (.agg [.int win, encUs tail, encWts sts])))]⟩) (fun k => k ≤ sts.length ∧ ∀ j w, j < k → sts[j]? = some w → StOk ⟨win, tail, sts⟩ w j) (fun k => sts.length - k) 0 [(501, some 501)] ⟨Nat.zero_le _, fun j w h => by omega⟩ ?_ ?_
    · simp [go_sem, ↓iO, iO, tN]
    rintro k ⟨hk, hall⟩
    by_cases hk2 : k < sts.length
    · obtain ⟨w, hw⟩ := has_get hk2
      obtain ⟨hm1, hm2⟩ := hs w (mem_get hw)
      have hst : ∀ (h : InOk ⟨win, tail, sts⟩), StOk ⟨win, tail, sts⟩ w k := fun h => h.st k w hw
      obtain ⟨st, ep, nx, l⟩ := w
      dsimp only at hm1 hm2
      have em : ∀ m : Nat, ((m + 1 : Nat) : Int) - 1 = (m : Int) := fun m => by omega
      by_cases hk0 : k = 0
      · subst hk0
        by_cases t0 : st < 0
        · obtain rfl : g = false := by
            cases g
            · rfl
            · exact absurd (t0) ((hst (hg.1 rfl)).1.1)
          repeat (first | (refine nf1_sound rfl ?_; simp [go_sem, ↓iO, iO, tN, hw]; (repeat (refine anI ?_)); try (refine ⟨dcK, ?_⟩)) | ((first | refine itePos (by omega) ?_ | refine iteNeg (by omega) ?_); try simp [go_sem, ↓iO, iO, tN, hw]) | (refine ⟨dcK, ?_⟩))
          first | rw [RetQ_ret] | rw [RetQ_normal]
          refine ⟨[], ?_⟩
          simp [go_sem, ↓iO, iO, tN]
        by_cases t1 : 255 < st
        · obtain rfl : g = false := by
            cases g
            · rfl
            · exact absurd (t1) ((hst (hg.1 rfl)).1.2.1)
          repeat (first | (refine nf1_sound rfl ?_; simp [go_sem, ↓iO, iO, tN, hw]; (repeat (refine anI ?_)); try (refine ⟨dcK, ?_⟩)) | ((first | refine itePos (by omega) ?_ | refine iteNeg (by omega) ?_); try simp [go_sem, ↓iO, iO, tN, hw]) | (refine ⟨dcK, ?_⟩))
          first | rw [RetQ_ret] | rw [RetQ_normal]
          refine ⟨[], ?_⟩
          simp [go_sem, ↓iO, iO, tN]
        by_cases t2 : ep < 0
        · obtain rfl : g = false := by
            cases g
            · rfl
            · exact absurd (t2) ((hst (hg.1 rfl)).1.2.2.1)
          repeat (first | (refine nf1_sound rfl ?_; simp [go_sem, ↓iO, iO, tN, hw]; (repeat (refine anI ?_)); try (refine ⟨dcK, ?_⟩)) | ((first | refine itePos (by omega) ?_ | refine iteNeg (by omega) ?_); try simp [go_sem, ↓iO, iO, tN, hw]) | (refine ⟨dcK, ?_⟩))
          first | rw [RetQ_ret] | rw [RetQ_normal]
          refine ⟨[], ?_⟩
          simp [go_sem, ↓iO, iO, tN]
        by_cases t3 : 255 < ep
        · obtain rfl : g = false := by
            cases g
            · rfl
            · exact absurd (t3) ((hst (hg.1 rfl)).1.2.2.2.1)
          repeat (first | (refine nf1_sound rfl ?_; simp [go_sem, ↓iO, iO, tN, hw]; (repeat (refine anI ?_)); try (refine ⟨dcK, ?_⟩)) | ((first | refine itePos (by omega) ?_ | refine iteNeg (by omega) ?_); try simp [go_sem, ↓iO, iO, tN, hw]) | (refine ⟨dcK, ?_⟩))
          first | rw [RetQ_ret] | rw [RetQ_normal]
          refine ⟨[], ?_⟩
          simp [go_sem, ↓iO, iO, tN]
        by_cases t4 : nx < 0
        · obtain rfl : g = false := by
            cases g
            · rfl
            · exact absurd (t4) ((hst (hg.1 rfl)).1.2.2.2.2.1)
          repeat (first | (refine nf1_sound rfl ?_; simp [go_sem, ↓iO, iO, tN, hw]; (repeat (refine anI ?_)); try (refine ⟨dcK, ?_⟩)) | ((first | refine itePos (by omega) ?_ | refine iteNeg (by omega) ?_); try simp [go_sem, ↓iO, iO, tN, hw]) | (refine ⟨dcK, ?_⟩))
          first | rw [RetQ_ret] | rw [RetQ_normal]
          refine ⟨[], ?_⟩
          simp [go_sem, ↓iO, iO, tN]
        by_cases t5 : 2147483649 < nx
        · obtain rfl : g = false := by
            cases g
            · rfl
            · exact absurd (t5) ((hst (hg.1 rfl)).1.2.2.2.2.2.1)
          repeat (first | (refine nf1_sound rfl ?_; simp [go_sem, ↓iO, iO, tN, hw]; (repeat (refine anI ?_)); try (refine ⟨dcK, ?_⟩)) | ((first | refine itePos (by omega) ?_ | refine iteNeg (by omega) ?_); try simp [go_sem, ↓iO, iO, tN, hw]) | (refine ⟨dcK, ?_⟩))
          first | rw [RetQ_ret] | rw [RetQ_normal]
          refine ⟨[], ?_⟩
          simp [go_sem, ↓iO, iO, tN]
        by_cases t6 : win < (l.length : Int)
        · obtain rfl : g = false := by
            cases g
            · rfl
            · exact absurd (t6) ((hst (hg.1 rfl)).1.2.2.2.2.2.2.1)
          repeat (first | (refine nf1_sound rfl ?_; simp [go_sem, ↓iO, iO, tN, hw]; (repeat (refine anI ?_)); try (refine ⟨dcK, ?_⟩)) | ((first | refine itePos (by omega) ?_ | refine iteNeg (by omega) ?_); try simp [go_sem, ↓iO, iO, tN, hw]) | (refine ⟨dcK, ?_⟩))
          first | rw [RetQ_ret] | rw [RetQ_normal]
          refine ⟨[], ?_⟩
          simp [go_sem, ↓iO, iO, tN]
        repeat (first | (refine nf1_sound rfl ?_; simp [go_sem, ↓iO, iO, tN, hw]; (repeat (refine anI ?_)); try (refine ⟨dcK, ?_⟩)) | ((first | refine itePos (by omega) ?_ | refine iteNeg (by omega) ?_); try simp [go_sem, ↓iO, iO, tN, hw]) | (refine ⟨dcK, ?_⟩))
        refine nf1_sound' _ _ _ ?_; simp only [nf1]
        refine CW.loop (ι := Nat × Int) (fun p => ⟨[(1, .pt 501 [] 0), (5, .pt 505 [] 0), (6, .t (.int p.2)), (56, .t (encWts sts)), (57, .t (.int sts.length)), (58, .t (.int 0)), (118, .t (encTgs l)), (119, .t (.int l.length)), (120, .t (.int p.1))], [(501, .box 29 (.t (.agg [.int win, encUs tail, encWts sts]))), (505, .box 47 (.t (.agg [.int st, .int ep, .int nx, encTgs l])))]⟩) (fun p => p.1 ≤ l.length ∧ (heldOk st ep nx l ↔ heldOk st ep p.2 (l.drop p.1))) (fun p => l.length - p.1) (0, nx) [(501, some 501), (505, some 105)] ⟨Nat.zero_le _, by simp⟩ ?_ ?_
        · simp [go_sem, ↓iO, iO, tN]
        rintro ⟨q, la⟩ ⟨hq, hi⟩
        dsimp only at hq hi ⊢
        by_cases hq2 : q < l.length
        · obtain ⟨t, hqt⟩ := has_get hq2
          have hd : l.drop q = t :: l.drop (q + 1) := drop_cons hqt
          rw [hd, held_cons] at hi
          have hno : ∀ h : InOk ⟨win, tail, sts⟩, TgOk t ∧ t.st = st ∧ t.ep = ep ∧ la < t.sq ∧ heldOk st ep t.sq (l.drop (q + 1)) := fun h => hi.1 (hst h).1.2.2.2.2.2.2.2
          have hvl := hm2 t (mem_get hqt)
          by_cases g1 : TgOk t
          · have c := rvalid_fn t hvl true (decide_eq_true g1)
            obtain ⟨t1, t2, t3, t4, t5, tv⟩ := t
            dsimp only at hno hi
            by_cases g2 : t1 = st
            · by_cases g3 : t2 = ep
              · by_cases g4 : la < t3
                · repeat (first | (refine nf1_sound rfl ?_; simp [go_sem, ↓iO, iO, tN, hqt]; (repeat (refine anI ?_)); try (refine ⟨dcK, ?_⟩)) | ((first | refine itePos (by omega) ?_ | refine iteNeg (by omega) ?_); try simp [go_sem, ↓iO, iO, tN, hqt]) | (refine ⟨dcK, ?_⟩))
                  refine CallK.fn (c) [] [] [] (by kernel_rfl) ?_ ?_ ?_ (Or.inl rfl) ?_ <;> simp [go_sem, ↓iO, iO, tN]
                  repeat (refine anI ?_)
                  try (refine ⟨dcK, ?_⟩)
                  repeat (first | (refine nf1_sound rfl ?_; simp [go_sem, ↓iO, iO, tN, g2, g3]; (repeat (refine anI ?_)); try (refine ⟨dcK, ?_⟩)) | ((first | refine itePos (by omega) ?_ | refine iteNeg (by omega) ?_); try simp [go_sem, ↓iO, iO, tN, g2, g3]) | (refine ⟨dcK, ?_⟩))
                  rw [RoundQ_normal]; refine ⟨(q + 1, t3), [(501, some 501), (505, some 505)], ?_, ?_, ?_⟩
                  · dsimp only
                    refine ⟨by omega, ?_⟩
                    rw [hi]
                    exact ⟨fun g => g.2.2.2.2, fun g => ⟨g1, g2, g3, g4, g⟩⟩
                  · dsimp only; omega
                  simp [go_sem, ↓iO, iO, tN]
                · obtain rfl : g = false := by
                    cases g
                    · rfl
                    · exact absurd (hno (hg.1 rfl)).2.2.2.1 g4
                  repeat (first | (refine nf1_sound rfl ?_; simp [go_sem, ↓iO, iO, tN, hqt]; (repeat (refine anI ?_)); try (refine ⟨dcK, ?_⟩)) | ((first | refine itePos (by omega) ?_ | refine iteNeg (by omega) ?_); try simp [go_sem, ↓iO, iO, tN, hqt]) | (refine ⟨dcK, ?_⟩))
                  refine CallK.fn (c) [] [] [] (by kernel_rfl) ?_ ?_ ?_ (Or.inl rfl) ?_ <;> simp [go_sem, ↓iO, iO, tN]
                  repeat (refine anI ?_)
                  try (refine ⟨dcK, ?_⟩)
                  repeat (first | (refine nf1_sound rfl ?_; simp [go_sem, ↓iO, iO, tN, g2, g3]; (repeat (refine anI ?_)); try (refine ⟨dcK, ?_⟩)) | ((first | refine itePos (by omega) ?_ | refine iteNeg (by omega) ?_); try simp [go_sem, ↓iO, iO, tN, g2, g3]) | (refine ⟨dcK, ?_⟩))
                  first | rw [RetQ_ret] | rw [RetQ_normal]
                  refine ⟨[], ?_⟩
                  simp [go_sem, ↓iO, iO, tN]
              · obtain rfl : g = false := by
                  cases g
                  · rfl
                  · exact absurd (hno (hg.1 rfl)).2.2.1 g3
                repeat (first | (refine nf1_sound rfl ?_; simp [go_sem, ↓iO, iO, tN, hqt]; (repeat (refine anI ?_)); try (refine ⟨dcK, ?_⟩)) | ((first | refine itePos (by omega) ?_ | refine iteNeg (by omega) ?_); try simp [go_sem, ↓iO, iO, tN, hqt]) | (refine ⟨dcK, ?_⟩))
                refine CallK.fn (c) [] [] [] (by kernel_rfl) ?_ ?_ ?_ (Or.inl rfl) ?_ <;> simp [go_sem, ↓iO, iO, tN]
                repeat (refine anI ?_)
                try (refine ⟨dcK, ?_⟩)
                repeat (first | (refine nf1_sound rfl ?_; simp [go_sem, ↓iO, iO, tN, g2, g3]; (repeat (refine anI ?_)); try (refine ⟨dcK, ?_⟩)) | ((first | refine itePos (by omega) ?_ | refine iteNeg (by omega) ?_); try simp [go_sem, ↓iO, iO, tN, g2, g3]) | (refine ⟨dcK, ?_⟩))
                first | rw [RetQ_ret] | rw [RetQ_normal]
                refine ⟨[], ?_⟩
                simp [go_sem, ↓iO, iO, tN]
            · obtain rfl : g = false := by
                cases g
                · rfl
                · exact absurd (hno (hg.1 rfl)).2.1 g2
              repeat (first | (refine nf1_sound rfl ?_; simp [go_sem, ↓iO, iO, tN, hqt]; (repeat (refine anI ?_)); try (refine ⟨dcK, ?_⟩)) | ((first | refine itePos (by omega) ?_ | refine iteNeg (by omega) ?_); try simp [go_sem, ↓iO, iO, tN, hqt]) | (refine ⟨dcK, ?_⟩))
              refine CallK.fn (c) [] [] [] (by kernel_rfl) ?_ ?_ ?_ (Or.inl rfl) ?_ <;> simp [go_sem, ↓iO, iO, tN]
              repeat (refine anI ?_)
              try (refine ⟨dcK, ?_⟩)
              repeat (first | (refine nf1_sound rfl ?_; simp [go_sem, ↓iO, iO, tN, g2]; (repeat (refine anI ?_)); try (refine ⟨dcK, ?_⟩)) | ((first | refine itePos (by omega) ?_ | refine iteNeg (by omega) ?_); try simp [go_sem, ↓iO, iO, tN, g2]) | (refine ⟨dcK, ?_⟩))
              first | rw [RetQ_ret] | rw [RetQ_normal]
              refine ⟨[], ?_⟩
              simp [go_sem, ↓iO, iO, tN]
          · have c := rvalid_fn t hvl false (decide_eq_false g1)
            obtain rfl : g = false := by
              cases g
              · rfl
              · exact absurd (hno (hg.1 rfl)).1 g1
            repeat (first | (refine nf1_sound rfl ?_; simp [go_sem, ↓iO, iO, tN, hqt]; (repeat (refine anI ?_)); try (refine ⟨dcK, ?_⟩)) | ((first | refine itePos (by omega) ?_ | refine iteNeg (by omega) ?_); try simp [go_sem, ↓iO, iO, tN, hqt]) | (refine ⟨dcK, ?_⟩))
            refine CallK.fn (c) [] [] [] (by kernel_rfl) ?_ ?_ ?_ (Or.inl rfl) ?_ <;> simp [go_sem, ↓iO, iO, tN]
            repeat (refine anI ?_)
            try (refine ⟨dcK, ?_⟩)
            repeat (first | (refine nf1_sound rfl ?_; simp [go_sem, ↓iO, iO, tN]; (repeat (refine anI ?_)); try (refine ⟨dcK, ?_⟩)) | ((first | refine itePos (by omega) ?_ | refine iteNeg (by omega) ?_); try simp [go_sem, ↓iO, iO, tN]) | (refine ⟨dcK, ?_⟩))
            first | rw [RetQ_ret] | rw [RetQ_normal]
            refine ⟨[], ?_⟩
            simp [go_sem, ↓iO, iO, tN]
        · obtain rfl : q = l.length := by omega
          rw [List.drop_length] at hi
          have hh : heldOk st ep nx l := hi.2 (by unfold heldOk; trivial)
          repeat (first | (refine nf1_sound rfl ?_; simp [go_sem, ↓iO, iO, tN]; (repeat (refine anI ?_)); try (refine ⟨dcK, ?_⟩)) | ((first | refine itePos (by omega) ?_ | refine iteNeg (by omega) ?_); try simp [go_sem, ↓iO, iO, tN]) | (refine ⟨dcK, ?_⟩))
          rw [RoundQ_normal]; refine ⟨1, [(501, some 501)], ?_, ?_, ?_⟩
          · refine ⟨by omega, fun j x hj hx => ?_⟩
            obtain rfl : j = 0 := by omega
            rw [hw] at hx
            obtain rfl := Option.some.inj hx
            exact ⟨⟨t0, t1, t2, t3, t4, t5, t6, hh⟩, fun v h => by omega⟩
          · omega
          simp [go_sem, ↓iO, iO, tN]
      · obtain ⟨m, rfl⟩ : ∃ m, k = m + 1 := ⟨k - 1, by omega⟩
        obtain ⟨v, hv⟩ := has_get (show m < sts.length by omega)
        obtain ⟨v1, v2, v3, v4⟩ := v
        by_cases g2 : v1 < st
        rotate_left
        · obtain rfl : g = false := by
            cases g
            · rfl
            · exact absurd ((hst (hg.1 rfl)).2 _ (by omega) (by simpa using hv)) (g2)
          repeat (first | (refine nf1_sound rfl ?_; simp [go_sem, ↓iO, iO, tN, hw, em, hv]; (repeat (refine anI ?_)); try (refine ⟨dcK, ?_⟩)) | ((first | refine itePos (by omega) ?_ | refine iteNeg (by omega) ?_); try simp [go_sem, ↓iO, iO, tN, hw, em, hv]) | (refine ⟨dcK, ?_⟩))
          first | rw [RetQ_ret] | rw [RetQ_normal]
          refine ⟨[], ?_⟩
          simp [go_sem, ↓iO, iO, tN]
        by_cases t0 : st < 0
        · obtain rfl : g = false := by
            cases g
            · rfl
            · exact absurd (t0) ((hst (hg.1 rfl)).1.1)
          repeat (first | (refine nf1_sound rfl ?_; simp [go_sem, ↓iO, iO, tN, hw, em, hv]; (repeat (refine anI ?_)); try (refine ⟨dcK, ?_⟩)) | ((first | refine itePos (by omega) ?_ | refine iteNeg (by omega) ?_); try simp [go_sem, ↓iO, iO, tN, hw, em, hv]) | (refine ⟨dcK, ?_⟩))
          first | rw [RetQ_ret] | rw [RetQ_normal]
          refine ⟨[], ?_⟩
          simp [go_sem, ↓iO, iO, tN]
        by_cases t1 : 255 < st
        · obtain rfl : g = false := by
            cases g
            · rfl
            · exact absurd (t1) ((hst (hg.1 rfl)).1.2.1)
          repeat (first | (refine nf1_sound rfl ?_; simp [go_sem, ↓iO, iO, tN, hw, em, hv]; (repeat (refine anI ?_)); try (refine ⟨dcK, ?_⟩)) | ((first | refine itePos (by omega) ?_ | refine iteNeg (by omega) ?_); try simp [go_sem, ↓iO, iO, tN, hw, em, hv]) | (refine ⟨dcK, ?_⟩))
          first | rw [RetQ_ret] | rw [RetQ_normal]
          refine ⟨[], ?_⟩
          simp [go_sem, ↓iO, iO, tN]
        by_cases t2 : ep < 0
        · obtain rfl : g = false := by
            cases g
            · rfl
            · exact absurd (t2) ((hst (hg.1 rfl)).1.2.2.1)
          repeat (first | (refine nf1_sound rfl ?_; simp [go_sem, ↓iO, iO, tN, hw, em, hv]; (repeat (refine anI ?_)); try (refine ⟨dcK, ?_⟩)) | ((first | refine itePos (by omega) ?_ | refine iteNeg (by omega) ?_); try simp [go_sem, ↓iO, iO, tN, hw, em, hv]) | (refine ⟨dcK, ?_⟩))
          first | rw [RetQ_ret] | rw [RetQ_normal]
          refine ⟨[], ?_⟩
          simp [go_sem, ↓iO, iO, tN]
        by_cases t3 : 255 < ep
        · obtain rfl : g = false := by
            cases g
            · rfl
            · exact absurd (t3) ((hst (hg.1 rfl)).1.2.2.2.1)
          repeat (first | (refine nf1_sound rfl ?_; simp [go_sem, ↓iO, iO, tN, hw, em, hv]; (repeat (refine anI ?_)); try (refine ⟨dcK, ?_⟩)) | ((first | refine itePos (by omega) ?_ | refine iteNeg (by omega) ?_); try simp [go_sem, ↓iO, iO, tN, hw, em, hv]) | (refine ⟨dcK, ?_⟩))
          first | rw [RetQ_ret] | rw [RetQ_normal]
          refine ⟨[], ?_⟩
          simp [go_sem, ↓iO, iO, tN]
        by_cases t4 : nx < 0
        · obtain rfl : g = false := by
            cases g
            · rfl
            · exact absurd (t4) ((hst (hg.1 rfl)).1.2.2.2.2.1)
          repeat (first | (refine nf1_sound rfl ?_; simp [go_sem, ↓iO, iO, tN, hw, em, hv]; (repeat (refine anI ?_)); try (refine ⟨dcK, ?_⟩)) | ((first | refine itePos (by omega) ?_ | refine iteNeg (by omega) ?_); try simp [go_sem, ↓iO, iO, tN, hw, em, hv]) | (refine ⟨dcK, ?_⟩))
          first | rw [RetQ_ret] | rw [RetQ_normal]
          refine ⟨[], ?_⟩
          simp [go_sem, ↓iO, iO, tN]
        by_cases t5 : 2147483649 < nx
        · obtain rfl : g = false := by
            cases g
            · rfl
            · exact absurd (t5) ((hst (hg.1 rfl)).1.2.2.2.2.2.1)
          repeat (first | (refine nf1_sound rfl ?_; simp [go_sem, ↓iO, iO, tN, hw, em, hv]; (repeat (refine anI ?_)); try (refine ⟨dcK, ?_⟩)) | ((first | refine itePos (by omega) ?_ | refine iteNeg (by omega) ?_); try simp [go_sem, ↓iO, iO, tN, hw, em, hv]) | (refine ⟨dcK, ?_⟩))
          first | rw [RetQ_ret] | rw [RetQ_normal]
          refine ⟨[], ?_⟩
          simp [go_sem, ↓iO, iO, tN]
        by_cases t6 : win < (l.length : Int)
        · obtain rfl : g = false := by
            cases g
            · rfl
            · exact absurd (t6) ((hst (hg.1 rfl)).1.2.2.2.2.2.2.1)
          repeat (first | (refine nf1_sound rfl ?_; simp [go_sem, ↓iO, iO, tN, hw, em, hv]; (repeat (refine anI ?_)); try (refine ⟨dcK, ?_⟩)) | ((first | refine itePos (by omega) ?_ | refine iteNeg (by omega) ?_); try simp [go_sem, ↓iO, iO, tN, hw, em, hv]) | (refine ⟨dcK, ?_⟩))
          first | rw [RetQ_ret] | rw [RetQ_normal]
          refine ⟨[], ?_⟩
          simp [go_sem, ↓iO, iO, tN]
        repeat (first | (refine nf1_sound rfl ?_; simp [go_sem, ↓iO, iO, tN, hw, em, hv]; (repeat (refine anI ?_)); try (refine ⟨dcK, ?_⟩)) | ((first | refine itePos (by omega) ?_ | refine iteNeg (by omega) ?_); try simp [go_sem, ↓iO, iO, tN, hw, em, hv]) | (refine ⟨dcK, ?_⟩))
        refine nf1_sound' _ _ _ ?_; simp only [nf1]
        refine CW.loop (ι := Nat × Int) (fun p => ⟨[(1, .pt 501 [] 0), (5, .pt 505 [] 0), (6, .t (.int p.2)), (56, .t (encWts sts)), (57, .t (.int sts.length)), (58, .t (.int ((m + 1 : Nat) : Int))), (118, .t (encTgs l)), (119, .t (.int l.length)), (120, .t (.int p.1))], [(501, .box 29 (.t (.agg [.int win, encUs tail, encWts sts]))), (505, .box 47 (.t (.agg [.int st, .int ep, .int nx, encTgs l])))]⟩) (fun p => p.1 ≤ l.length ∧ (heldOk st ep nx l ↔ heldOk st ep p.2 (l.drop p.1))) (fun p => l.length - p.1) (0, nx) [(501, some 501), (505, some 105)] ⟨Nat.zero_le _, by simp⟩ ?_ ?_
        · simp [go_sem, ↓iO, iO, tN]
        rintro ⟨q, la⟩ ⟨hq, hi⟩
        dsimp only at hq hi ⊢
        by_cases hq2 : q < l.length
        · obtain ⟨t, hqt⟩ := has_get hq2
          have hd : l.drop q = t :: l.drop (q + 1) := drop_cons hqt
          rw [hd, held_cons] at hi
          have hno : ∀ h : InOk ⟨win, tail, sts⟩, TgOk t ∧ t.st = st ∧ t.ep = ep ∧ la < t.sq ∧ heldOk st ep t.sq (l.drop (q + 1)) := fun h => hi.1 (hst h).1.2.2.2.2.2.2.2
          have hvl := hm2 t (mem_get hqt)
          by_cases g1 : TgOk t
          · have c := rvalid_fn t hvl true (decide_eq_true g1)
            obtain ⟨t1, t2, t3, t4, t5, tv⟩ := t
            dsimp only at hno hi
            by_cases g2 : t1 = st
            · by_cases g3 : t2 = ep
              · by_cases g4 : la < t3
                · repeat (first | (refine nf1_sound rfl ?_; simp [go_sem, ↓iO, iO, tN, hqt]; (repeat (refine anI ?_)); try (refine ⟨dcK, ?_⟩)) | ((first | refine itePos (by omega) ?_ | refine iteNeg (by omega) ?_); try simp [go_sem, ↓iO, iO, tN, hqt]) | (refine ⟨dcK, ?_⟩))
                  refine CallK.fn (c) [] [] [] (by kernel_rfl) ?_ ?_ ?_ (Or.inl rfl) ?_ <;> simp [go_sem, ↓iO, iO, tN]
                  repeat (refine anI ?_)
                  try (refine ⟨dcK, ?_⟩)
                  repeat (first | (refine nf1_sound rfl ?_; simp [go_sem, ↓iO, iO, tN, g2, g3]; (repeat (refine anI ?_)); try (refine ⟨dcK, ?_⟩)) | ((first | refine itePos (by omega) ?_ | refine iteNeg (by omega) ?_); try simp [go_sem, ↓iO, iO, tN, g2, g3]) | (refine ⟨dcK, ?_⟩))
                  rw [RoundQ_normal]; refine ⟨(q + 1, t3), [(501, some 501), (505, some 505)], ?_, ?_, ?_⟩
                  · dsimp only
                    refine ⟨by omega, ?_⟩
                    rw [hi]
                    exact ⟨fun g => g.2.2.2.2, fun g => ⟨g1, g2, g3, g4, g⟩⟩
                  · dsimp only; omega
                  simp [go_sem, ↓iO, iO, tN]
                · obtain rfl : g = false := by
                    cases g
                    · rfl
                    · exact absurd (hno (hg.1 rfl)).2.2.2.1 g4
                  repeat (first | (refine nf1_sound rfl ?_; simp [go_sem, ↓iO, iO, tN, hqt]; (repeat (refine anI ?_)); try (refine ⟨dcK, ?_⟩)) | ((first | refine itePos (by omega) ?_ | refine iteNeg (by omega) ?_); try simp [go_sem, ↓iO, iO, tN, hqt]) | (refine ⟨dcK, ?_⟩))
                  refine CallK.fn (c) [] [] [] (by kernel_rfl) ?_ ?_ ?_ (Or.inl rfl) ?_ <;> simp [go_sem, ↓iO, iO, tN]
                  repeat (refine anI ?_)
                  try (refine ⟨dcK, ?_⟩)
                  repeat (first | (refine nf1_sound rfl ?_; simp [go_sem, ↓iO, iO, tN, g2, g3]; (repeat (refine anI ?_)); try (refine ⟨dcK, ?_⟩)) | ((first | refine itePos (by omega) ?_ | refine iteNeg (by omega) ?_); try simp [go_sem, ↓iO, iO, tN, g2, g3]) | (refine ⟨dcK, ?_⟩))
                  first | rw [RetQ_ret] | rw [RetQ_normal]
                  refine ⟨[], ?_⟩
                  simp [go_sem, ↓iO, iO, tN]
              · obtain rfl : g = false := by
                  cases g
                  · rfl
                  · exact absurd (hno (hg.1 rfl)).2.2.1 g3
                repeat (first | (refine nf1_sound rfl ?_; simp [go_sem, ↓iO, iO, tN, hqt]; (repeat (refine anI ?_)); try (refine ⟨dcK, ?_⟩)) | ((first | refine itePos (by omega) ?_ | refine iteNeg (by omega) ?_); try simp [go_sem, ↓iO, iO, tN, hqt]) | (refine ⟨dcK, ?_⟩))
                refine CallK.fn (c) [] [] [] (by kernel_rfl) ?_ ?_ ?_ (Or.inl rfl) ?_ <;> simp [go_sem, ↓iO, iO, tN]
                repeat (refine anI ?_)
                try (refine ⟨dcK, ?_⟩)
                repeat (first | (refine nf1_sound rfl ?_; simp [go_sem, ↓iO, iO, tN, g2, g3]; (repeat (refine anI ?_)); try (refine ⟨dcK, ?_⟩)) | ((first | refine itePos (by omega) ?_ | refine iteNeg (by omega) ?_); try simp [go_sem, ↓iO, iO, tN, g2, g3]) | (refine ⟨dcK, ?_⟩))
                first | rw [RetQ_ret] | rw [RetQ_normal]
                refine ⟨[], ?_⟩
                simp [go_sem, ↓iO, iO, tN]
            · obtain rfl : g = false := by
                cases g
                · rfl
                · exact absurd (hno (hg.1 rfl)).2.1 g2
              repeat (first | (refine nf1_sound rfl ?_; simp [go_sem, ↓iO, iO, tN, hqt]; (repeat (refine anI ?_)); try (refine ⟨dcK, ?_⟩)) | ((first | refine itePos (by omega) ?_ | refine iteNeg (by omega) ?_); try simp [go_sem, ↓iO, iO, tN, hqt]) | (refine ⟨dcK, ?_⟩))
              refine CallK.fn (c) [] [] [] (by kernel_rfl) ?_ ?_ ?_ (Or.inl rfl) ?_ <;> simp [go_sem, ↓iO, iO, tN]
              repeat (refine anI ?_)
              try (refine ⟨dcK, ?_⟩)
              repeat (first | (refine nf1_sound rfl ?_; simp [go_sem, ↓iO, iO, tN, g2]; (repeat (refine anI ?_)); try (refine ⟨dcK, ?_⟩)) | ((first | refine itePos (by omega) ?_ | refine iteNeg (by omega) ?_); try simp [go_sem, ↓iO, iO, tN, g2]) | (refine ⟨dcK, ?_⟩))
              first | rw [RetQ_ret] | rw [RetQ_normal]
              refine ⟨[], ?_⟩
              simp [go_sem, ↓iO, iO, tN]
          · have c := rvalid_fn t hvl false (decide_eq_false g1)
            obtain rfl : g = false := by
              cases g
              · rfl
              · exact absurd (hno (hg.1 rfl)).1 g1
            repeat (first | (refine nf1_sound rfl ?_; simp [go_sem, ↓iO, iO, tN, hqt]; (repeat (refine anI ?_)); try (refine ⟨dcK, ?_⟩)) | ((first | refine itePos (by omega) ?_ | refine iteNeg (by omega) ?_); try simp [go_sem, ↓iO, iO, tN, hqt]) | (refine ⟨dcK, ?_⟩))
            refine CallK.fn (c) [] [] [] (by kernel_rfl) ?_ ?_ ?_ (Or.inl rfl) ?_ <;> simp [go_sem, ↓iO, iO, tN]
            repeat (refine anI ?_)
            try (refine ⟨dcK, ?_⟩)
            repeat (first | (refine nf1_sound rfl ?_; simp [go_sem, ↓iO, iO, tN]; (repeat (refine anI ?_)); try (refine ⟨dcK, ?_⟩)) | ((first | refine itePos (by omega) ?_ | refine iteNeg (by omega) ?_); try simp [go_sem, ↓iO, iO, tN]) | (refine ⟨dcK, ?_⟩))
            first | rw [RetQ_ret] | rw [RetQ_normal]
            refine ⟨[], ?_⟩
            simp [go_sem, ↓iO, iO, tN]
        · obtain rfl : q = l.length := by omega
          rw [List.drop_length] at hi
          have hh : heldOk st ep nx l := hi.2 (by unfold heldOk; trivial)
          repeat (first | (refine nf1_sound rfl ?_; simp [go_sem, ↓iO, iO, tN]; (repeat (refine anI ?_)); try (refine ⟨dcK, ?_⟩)) | ((first | refine itePos (by omega) ?_ | refine iteNeg (by omega) ?_); try simp [go_sem, ↓iO, iO, tN]) | (refine ⟨dcK, ?_⟩))
          rw [RoundQ_normal]; refine ⟨m + 1 + 1, [(501, some 501)], ?_, ?_, ?_⟩
          · refine ⟨by omega, fun j x hj hx => ?_⟩
            by_cases e : j < m + 1
            · exact hall j x e hx
            · obtain rfl : j = m + 1 := by omega
              rw [hw] at hx
              obtain rfl := Option.some.inj hx
              refine ⟨⟨t0, t1, t2, t3, t4, t5, t6, hh⟩, fun v' _ h => ?_⟩
              rw [show m + 1 - 1 = m by omega, hv] at h
              obtain rfl := Option.some.inj h
              exact g2
          · omega
          simp [go_sem, ↓iO, iO, tN]
    · obtain rfl : k = sts.length := by omega
      obtain rfl : g = true := hg.2 ⟨h0, h1, by dsimp only; omega, by dsimp only; omega, ht, fun j w hw => hall j w (List.getElem?_eq_some_iff.1 hw).1 hw⟩
      repeat (first | (refine nf1_sound rfl ?_; simp [go_sem, ↓iO, iO, tN]; (repeat (refine anI ?_)); try (refine ⟨dcK, ?_⟩)) | ((first | refine itePos (by omega) ?_ | refine iteNeg (by omega) ?_); try simp [go_sem, ↓iO, iO, tN]) | (refine ⟨dcK, ?_⟩))
      first | rw [RetQ_ret] | rw [RetQ_normal]
      refine ⟨[], ?_⟩
      simp [go_sem, ↓iO, iO, tN]
end Go.Proofs.Ytopmmodcaoaaeaa
