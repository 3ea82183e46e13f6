/- The law IntakeAnswers: all functions of the intake return what the chapter says. No condition. -/
import Derived.Test.YtopmmodcaoaaeaaInX
namespace Go.Proofs.Ytopmmodcaoaaeaa
open Go.RowKit Sy
open Go.IntWalk renaming iteOmega → iO, toNatUp → tN
set_option linter.unusedVariables false
set_option linter.unusedSimpArgs false
/-! ### Wide -/
set_option maxRecDepth 100000 in
set_option maxHeartbeats 4000000 in
theorem intsB_fn (a b : List Int) (ha : a.length ≤ 17592186044416) (r : Bool) (hr : decide (a = b) = r) : FnOk Try.prog 61 [.t (encIs a), .t (encIs b)] [] (.t (.bool r)) [] := by
  subst hr
  refine FnOk.intro fact_mixed Try.func61 rfl Try.ntmps61 (by rfl) (by simp) ?_
  by_cases hl : a.length = b.length
  · repeat (first | (refine nf1_sound rfl ?_; simp [go_sem, ↓iO, iO, tN, hl]; (repeat (refine anI ?_)); try (refine ⟨dcK, ?_⟩)) | ((first | refine itePos (by omega) ?_ | refine iteNeg (by omega) ?_); try simp [go_sem, ↓iO, iO, tN, hl]) | (refine ⟨dcK, ?_⟩))
    refine nf1_sound' _ _ _ ?_; simp only [nf1]
    refine CW.loop (ι := Nat) (fun k => ⟨[(0, .t (encIs a)), (1, .t (encIs b)), (12, .t (.int b.length)), (13, .t (.int k))], []⟩) (fun k => k ≤ b.length ∧ a.take k = b.take k) (fun k => b.length - k) 0 [] ⟨by omega, by simp⟩ ?_ ?_
    · simp [go_sem, ↓iO, iO, tN]
    rintro k ⟨hk, ht⟩
    by_cases hb : k < b.length
    · obtain ⟨p, hp⟩ := has_get (show k < a.length by omega)
      obtain ⟨q, hq⟩ := has_get hb
      by_cases e1 : p = q
      · subst e1
        repeat (first | (refine nf1_sound rfl ?_; simp [go_sem, ↓iO, iO, tN, hp, hq]; (repeat (refine anI ?_)); try (refine ⟨dcK, ?_⟩)) | ((first | refine itePos (by omega) ?_ | refine iteNeg (by omega) ?_); try simp [go_sem, ↓iO, iO, tN, hp, hq]) | (refine ⟨dcK, ?_⟩))
        rw [RoundQ_normal]; refine ⟨k + 1, [], ?_, ?_, ?_⟩
        · exact ⟨by omega, takeI_step hp hq ht⟩
        · omega
        simp [go_sem, ↓iO, iO, tN]
      · have hn := takeI_ne hp hq e1
        repeat (first | (refine nf1_sound rfl ?_; simp [go_sem, ↓iO, iO, tN, hp, hq, e1]; (repeat (refine anI ?_)); try (refine ⟨dcK, ?_⟩)) | ((first | refine itePos (by omega) ?_ | refine iteNeg (by omega) ?_); try simp [go_sem, ↓iO, iO, tN, hp, hq, e1]) | (refine ⟨dcK, ?_⟩))
        first | rw [RetQ_ret] | rw [RetQ_normal]
        refine ⟨[], ?_⟩
        simp [go_sem, ↓iO, iO, tN, hn]
    · obtain rfl : k = b.length := by omega
      have hab : a = b := by rw [List.take_length] at ht; rw [← ht, ← hl, List.take_length]
      repeat (first | (refine nf1_sound rfl ?_; simp [go_sem, ↓iO, iO, tN]; (repeat (refine anI ?_)); try (refine ⟨dcK, ?_⟩)) | ((first | refine itePos (by omega) ?_ | refine iteNeg (by omega) ?_); try simp [go_sem, ↓iO, iO, tN]) | (refine ⟨dcK, ?_⟩))
      first | rw [RetQ_ret] | rw [RetQ_normal]
      refine ⟨[], ?_⟩
      simp [go_sem, ↓iO, iO, tN, hab]
  · have hn : a ≠ b := fun h => hl (by rw [h])
    repeat (first | (refine nf1_sound rfl ?_; simp [go_sem, ↓iO, iO, tN, hl]; (repeat (refine anI ?_)); try (refine ⟨dcK, ?_⟩)) | ((first | refine itePos (by omega) ?_ | refine iteNeg (by omega) ?_); try simp [go_sem, ↓iO, iO, tN, hl]) | (refine ⟨dcK, ?_⟩))
    first | rw [RetQ_ret] | rw [RetQ_normal]
    refine ⟨[], ?_⟩
    simp [go_sem, ↓iO, iO, tN, hn]
set_option maxRecDepth 100000 in
theorem rsameB_fn (a : Tg) (ha : a.vs.length ≤ 17592186044416) : FnOk Try.prog 37 [.t (encTg a), .t (encTg a)] [] (.t (.bool true)) [] := by
  obtain ⟨a1, a2, a3, a4, a5, vs⟩ := a
  dsimp only at ha
  have c := intsB_fn vs vs ha true (decide_eq_true rfl)
  refine FnOk.intro fact_mixed Try.func37 rfl Try.ntmps37 (by rfl) (by simp) ?_
  repeat (first | (refine nf1_sound rfl ?_; simp [go_sem, ↓iO, iO, tN]; (repeat (refine anI ?_)); try (refine ⟨dcK, ?_⟩)) | ((first | refine itePos (by omega) ?_ | refine iteNeg (by omega) ?_); try simp [go_sem, ↓iO, iO, tN]) | (refine ⟨dcK, ?_⟩))
  refine CallK.fn (c) [] [] [] (by kernel_rfl) ?_ ?_ ?_ (Or.inl rfl) ?_ <;> simp [go_sem, ↓iO, iO, tN]
  repeat (refine anI ?_)
  try (refine ⟨dcK, ?_⟩)
  repeat (first | (refine nf1_sound rfl ?_; simp [go_sem, ↓iO, iO, tN]; (repeat (refine anI ?_)); try (refine ⟨dcK, ?_⟩)) | ((first | refine itePos (by omega) ?_ | refine iteNeg (by omega) ?_); try simp [go_sem, ↓iO, iO, tN]) | (refine ⟨dcK, ?_⟩))
  first | rw [RetQ_ret] | rw [RetQ_normal]
  refine ⟨[], ?_⟩
  simp [go_sem, ↓iO, iO, tN]
set_option maxRecDepth 100000 in
set_option maxHeartbeats 8000000 in
theorem ralikeB_fn (l : List Tg) (hl : l.length ≤ 1000000) (hv : ∀ t ∈ l, t.vs.length ≤ 17592186044416) : FnOk Try.prog 18 [.t (encTgs l), .t (encTgs l)] [] (.t (.bool true)) [] := by
  refine FnOk.intro fact_mixed Try.func18 rfl Try.ntmps18 (by rfl) (by simp) ?_
  repeat (first | (refine nf1_sound rfl ?_; simp [go_sem, ↓iO, iO, tN]; (repeat (refine anI ?_)); try (refine ⟨dcK, ?_⟩)) | ((first | refine itePos (by omega) ?_ | refine iteNeg (by omega) ?_); try simp [go_sem, ↓iO, iO, tN]) | (refine ⟨dcK, ?_⟩))
  refine nf1_sound' _ _ _ ?_; simp only [nf1]
  refine CW.loop (ι := Nat) (fun k => ⟨[(0, .t (encTgs l)), (1, .t (encTgs l)), (12, .t (.int l.length)), (13, .t (.int k))], []⟩) (fun k => k ≤ l.length) (fun k => l.length - k) 0 [] (by omega) ?_ ?_
  · simp [go_sem, ↓iO, iO, tN]
  intro k hk
  by_cases hkl : k < l.length
  · obtain ⟨t, ht⟩ := has_get hkl
    have c := rsameB_fn t (hv t (mem_get ht))
    repeat (first | (refine nf1_sound rfl ?_; simp [go_sem, ↓iO, iO, tN, ht]; (repeat (refine anI ?_)); try (refine ⟨dcK, ?_⟩)) | ((first | refine itePos (by omega) ?_ | refine iteNeg (by omega) ?_); try simp [go_sem, ↓iO, iO, tN, ht]) | (refine ⟨dcK, ?_⟩))
    refine CallK.fn (c) [] [] [] (by kernel_rfl) ?_ ?_ ?_ (Or.inl rfl) ?_ <;> simp [go_sem, ↓iO, iO, tN]
    repeat (refine anI ?_)
    try (refine ⟨dcK, ?_⟩)
    repeat (first | (refine nf1_sound rfl ?_; simp [go_sem, ↓iO, iO, tN]; (repeat (refine anI ?_)); try (refine ⟨dcK, ?_⟩)) | ((first | refine itePos (by omega) ?_ | refine iteNeg (by omega) ?_); try simp [go_sem, ↓iO, iO, tN]) | (refine ⟨dcK, ?_⟩))
    rw [RoundQ_normal]; refine ⟨k + 1, [], ?_, ?_, ?_⟩
    · omega
    · omega
    simp [go_sem, ↓iO, iO, tN]
  · obtain rfl : k = l.length := by omega
    repeat (first | (refine nf1_sound rfl ?_; simp [go_sem, ↓iO, iO, tN]; (repeat (refine anI ?_)); try (refine ⟨dcK, ?_⟩)) | ((first | refine itePos (by omega) ?_ | refine iteNeg (by omega) ?_); try simp [go_sem, ↓iO, iO, tN]) | (refine ⟨dcK, ?_⟩))
    first | rw [RetQ_ret] | rw [RetQ_normal]
    refine ⟨[], ?_⟩
    simp [go_sem, ↓iO, iO, tN]
set_option maxRecDepth 100000 in
set_option maxHeartbeats 8000000 in
theorem rsameInB_fn (i : In) (ht : i.tail.length ≤ 1000000) (hs : i.sts.length ≤ 1000000) (hh : ∀ w ∈ i.sts, w.held.length ≤ 1000000 ∧ ∀ t ∈ w.held, t.vs.length ≤ 17592186044416) : FnOk Try.prog 16 [.t (encIn i), .t (encIn i)] [] (.t (.bool true)) [] := by
  obtain ⟨win, tail, sts⟩ := i
  dsimp only at ht hs hh
  refine FnOk.intro fact_mixed Try.func16 rfl Try.ntmps16 (by rfl) (by simp) ?_
  repeat (first | (refine nf1_sound rfl ?_; simp [go_sem, ↓iO, iO, tN]; (repeat (refine anI ?_)); try (refine ⟨dcK, ?_⟩)) | ((first | refine itePos (by omega) ?_ | refine iteNeg (by omega) ?_); try simp [go_sem, ↓iO, iO, tN]) | (refine ⟨dcK, ?_⟩))
  refine nf1_sound' _ _ _ ?_; simp only [nf1]
  refine CW.loop (ι := Nat) (fun k => ⟨[(2, .pt 502 [] 0), (3, .pt 503 [] 0), (33, .t (.int sts.length)), (34, .t (.int k))], [(502, .box 29 (.t (.agg [.int win, encUs tail, encWts sts]))), (503, .box 29 (.t (.agg [.int win, encUs tail, encWts sts])))]⟩) (fun k => k ≤ sts.length) (fun k => sts.length - k) 0 [(502, some 102), (503, some 103)] (Nat.zero_le _) ?_ ?_
  · simp [go_sem, ↓iO, iO, tN]
  intro k hk
  by_cases hkl : k < sts.length
  · obtain ⟨w, hw⟩ := has_get hkl
    obtain ⟨h1, h2⟩ := hh w (mem_get hw)
    have c := ralikeB_fn w.held h1 h2
    repeat (first | (refine nf1_sound rfl ?_; simp [go_sem, ↓iO, iO, tN, hw]; (repeat (refine anI ?_)); try (refine ⟨dcK, ?_⟩)) | ((first | refine itePos (by omega) ?_ | refine iteNeg (by omega) ?_); try simp [go_sem, ↓iO, iO, tN, hw]) | (refine ⟨dcK, ?_⟩))
    refine CallK.fn (c) [] [] [] (by kernel_rfl) ?_ ?_ ?_ (Or.inl rfl) ?_ <;> simp [go_sem, ↓iO, iO, tN]
    repeat (refine anI ?_)
    try (refine ⟨dcK, ?_⟩)
    repeat (first | (refine nf1_sound rfl ?_; simp [go_sem, ↓iO, iO, tN]; (repeat (refine anI ?_)); try (refine ⟨dcK, ?_⟩)) | ((first | refine itePos (by omega) ?_ | refine iteNeg (by omega) ?_); try simp [go_sem, ↓iO, iO, tN]) | (refine ⟨dcK, ?_⟩))
    rw [RoundQ_normal]; refine ⟨k + 1, [(502, some 502), (503, some 503)], ?_, ?_, ?_⟩
    · omega
    · omega
    simp [go_sem, ↓iO, iO, tN]
  · obtain rfl : k = sts.length := by omega
    repeat (first | (refine nf1_sound rfl ?_; simp [go_sem, ↓iO, iO, tN]; (repeat (refine anI ?_)); try (refine ⟨dcK, ?_⟩)) | ((first | refine itePos (by omega) ?_ | refine iteNeg (by omega) ?_); try simp [go_sem, ↓iO, iO, tN]) | (refine ⟨dcK, ?_⟩))
    first | rw [RetQ_ret] | rw [RetQ_normal]
    refine ⟨[], ?_⟩
    simp [go_sem, ↓iO, iO, tN]
set_option maxRecDepth 100000 in
theorem icloneIB_fn (l : List Int) (hl : l.length ≤ 17592186044416) : FnOk Try.prog 74 [.t (encIs l)] [] (.own 1000) [(1000, blkI l)] := by
  refine FnOk.intro fact_mixed Try.func74 rfl Try.ntmps74 (by rfl) (by simp) ?_
  iterate 1 (refine nf1_sound rfl ?_; simp [go_sem, ↓iO, iO, tN]; (repeat (refine anI ?_)); try (refine ⟨dcK, ?_⟩))
  refine CW.seq (CW.seq (CW.nilTest (k := 1) (xs := l.map encI) (e := 3) (by simp [go_sem]) (by simp [go_sem]) ?_ ?_))
  · intro hx
    have hx : l = [] := by simpa using hx
    simp [go_sem, ↓iO, iO, tN]
    repeat (first | (refine nf1_sound rfl ?_; simp [go_sem, ↓iO, iO, tN]; (repeat (refine anI ?_)); try (refine ⟨dcK, ?_⟩)) | ((first | refine itePos (by omega) ?_ | refine iteNeg (by omega) ?_); try simp [go_sem, ↓iO, iO, tN]) | (refine ⟨dcK, ?_⟩))
    first | rw [RetQ_ret] | rw [RetQ_normal]
    refine ⟨[(1000, none)], ?_⟩
    simp [go_sem, ↓iO, iO, tN, hx]
  · simp [go_sem, ↓iO, iO, tN]
    repeat (first | (refine nf1_sound rfl ?_; simp [go_sem, ↓iO, iO, tN]; (repeat (refine anI ?_)); try (refine ⟨dcK, ?_⟩)) | ((first | refine itePos (by omega) ?_ | refine iteNeg (by omega) ?_); try simp [go_sem, ↓iO, iO, tN]) | (refine ⟨dcK, ?_⟩))
    first | rw [RetQ_ret] | rw [RetQ_normal]
    refine ⟨[(1000, some 107)], ?_⟩
    simp [go_sem, ↓iO, iO, tN]
set_option maxRecDepth 100000 in
theorem messageB_fn (t : Tg) (hl : t.vs.length ≤ 17592186044416) : FnOk Try.prog 51 [.t (encTg t)] [] (.t (encTg t)) [] := by
  have c := icloneIB_fn t.vs (by omega)
  refine FnOk.intro fact_mixed Try.func51 rfl Try.ntmps51 (by rfl) (by simp) ?_
  repeat (first | (refine nf1_sound rfl ?_; simp [go_sem, ↓iO, iO, tN]; (repeat (refine anI ?_)); try (refine ⟨dcK, ?_⟩)) | ((first | refine itePos (by omega) ?_ | refine iteNeg (by omega) ?_); try simp [go_sem, ↓iO, iO, tN]) | (refine ⟨dcK, ?_⟩))
  refine CallK.fn (c) [(1000, 500)] [] [] (by kernel_rfl) ?_ ?_ ?_ (Or.inl rfl) ?_ <;> simp [go_sem, ↓iO, iO, tN]
  repeat (refine anI ?_)
  try (refine ⟨dcK, ?_⟩)
  repeat (first | (refine nf1_sound rfl ?_; simp [go_sem, ↓iO, iO, tN]; (repeat (refine anI ?_)); try (refine ⟨dcK, ?_⟩)) | ((first | refine itePos (by omega) ?_ | refine iteNeg (by omega) ?_); try simp [go_sem, ↓iO, iO, tN]) | (refine ⟨dcK, ?_⟩))
  first | rw [RetQ_ret] | rw [RetQ_normal]
  refine ⟨[], ?_⟩
  simp [go_sem, ↓iO, iO, tN]
set_option maxRecDepth 100000 in
set_option maxHeartbeats 8000000 in
theorem copiedB_fn (i : In) (htl : i.tail.length ≤ 1000000) (hsl : i.sts.length ≤ 1000000) (hs : ∀ w ∈ i.sts, w.held.length ≤ 1000000 ∧ ∀ t ∈ w.held, t.vs.length ≤ 17592186044416) : FnOk Try.prog 33 [.t (encIn i)] [] (.ag [.t (.int i.win), .t (encUs i.tail), .own 1000]) [(1000, rowWts i.sts)] := by
  obtain ⟨win, tail, l⟩ := i
  dsimp only at *
  have ct := icloneU_fn tail (by omega)
  have cw := cloneW_fn l hsl
  obtain ⟨R, r0, rn, rl, rs⟩ := half_ex l
  rw [rowWts, ← rn]
  refine FnOk.intro fact_mixed Try.func33 rfl Try.ntmps33 (by rfl) (by simp) ?_
  repeat (first | (refine nf1_sound rfl ?_; simp [go_sem, ↓iO, iO, tN]; (repeat (refine anI ?_)); try (refine ⟨dcK, ?_⟩)) | ((first | refine itePos (by omega) ?_ | refine iteNeg (by omega) ?_); try simp [go_sem, ↓iO, iO, tN]) | (refine ⟨dcK, ?_⟩))
  refine CallK.fn (ct) [(1000, 609)] [] [] (by kernel_rfl) ?_ ?_ ?_ (Or.inl rfl) ?_ <;> simp [go_sem, ↓iO, iO, tN]
  repeat (refine anI ?_)
  try (refine ⟨dcK, ?_⟩)
  refine CallK.fn (cw) [(1000, 610)] [] [] (by kernel_rfl) ?_ ?_ ?_ (Or.inl rfl) ?_ <;> simp [go_sem, ↓iO, iO, tN]
  repeat (refine anI ?_)
  try (refine ⟨dcK, ?_⟩)
  refine CW.toRows 610 (R 0) (e := 47) (s := 4) (xs := l.map encWt) (by simp [go_sem]) (by rw [rl]; simp) (fun j x u h1 h2 => ?_) ?_
  · rw [r0, List.getElem?_map] at h2
    rw [List.getElem?_map] at h1
    cases hj : l[j]? with
    | none => rw [hj] at h1; cases h1
    | some w =>
      rw [hj] at h1 h2
      cases h1; cases h2
      rfl
  simp [go_sem, ↓iO, iO, tN]
  have rl0 := rl 0
  repeat (first | (refine nf1_sound rfl ?_; simp [go_sem, ↓iO, iO, tN, rl0]; (repeat (refine anI ?_)); try (refine ⟨dcK, ?_⟩)) | ((first | refine itePos (by omega) ?_ | refine iteNeg (by omega) ?_); try simp [go_sem, ↓iO, iO, tN, rl0]) | (refine ⟨dcK, ?_⟩))
  refine nf1_sound' _ _ _ ?_; simp only [nf1]
  refine CW.loop (ι := Nat) (fun k => ⟨[(1, .pt 501 [] 0), (2, .pt 502 [] 0), (16, .own 510), (17, .t (.int l.length)), (18, .t (.int k))], [(501, .box 29 (.ag [.t (.int win), .t (encUs tail), .own 510])), (502, .box 29 (.t (.agg [.int 0, .nil, .nil]))), (510, .rows 47 4 (R k) [])]⟩) (fun k => k ≤ l.length) (fun k => l.length - k) 0 [(501, some 101), (502, some 102), (510, some 610)] (by omega) ?_ ?_
  · simp [go_sem, ↓iO, iO, tN]
  intro k hk
  have rlk := rl k
  by_cases hkl : k < l.length
  · obtain ⟨w, hw⟩ := has_get hkl
    obtain ⟨hg, hset⟩ := rs k w hw
    obtain ⟨hwl, hwv⟩ := hs w (mem_get hw)
    obtain ⟨st, ep, nx, h⟩ := w
    dsimp only at hwl hwv
    have ch := cloneT_fn h (by omega)
    obtain ⟨X, hX⟩ : ∃ X, R k = X := ⟨_, rfl⟩
    rw [hX] at hg hset rlk ⊢
    unfold encWt at hg
    dsimp only at hg
    repeat (first | (refine nf1_sound rfl ?_; simp [go_sem, ↓iO, iO, tN, hg, rlk]; (repeat (refine anI ?_)); try (refine ⟨dcK, ?_⟩)) | ((first | refine itePos (by omega) ?_ | refine iteNeg (by omega) ?_); try simp [go_sem, ↓iO, iO, tN, hg, rlk]) | (refine ⟨dcK, ?_⟩))
    refine CallK.fn (ch) [(1000, 611)] [] [] (by kernel_rfl) ?_ ?_ ?_ (Or.inl rfl) ?_ <;> simp [go_sem, ↓iO, iO, tN, hg, rlk]
    repeat (refine anI ?_)
    try (refine ⟨dcK, ?_⟩)
    repeat (first | (refine nf1_sound rfl ?_; simp [go_sem, ↓iO, iO, tN, hg, rlk]; (repeat (refine anI ?_)); try (refine ⟨dcK, ?_⟩)) | ((first | refine itePos (by omega) ?_ | refine iteNeg (by omega) ?_); try simp [go_sem, ↓iO, iO, tN, hg, rlk]) | (refine ⟨dcK, ?_⟩))
    refine nf1_sound' _ _ _ ?_; simp only [nf1]
    refine CW.loop (ι := Nat) (fun m => ⟨[(1, .pt 501 [] 0), (2, .pt 502 [] 0), (16, .own 510), (17, .t (.int l.length)), (18, .t (.int k)), (3, .t (.int k)), (32, .t (encTgs h)), (33, .t (.int h.length)), (34, .t (.int m))], [(501, .box 29 (.ag [.t (.int win), .t (encUs tail), .own 510])), (502, .box 29 (.t (.agg [.int 0, .nil, .nil]))), (510, .rows 47 4 X [(k, .ag [.t (.int st), .t (.int ep), .t (.int nx), .own 511])]), (511, .list 38 6 (h.map encTg))]⟩) (fun m => m ≤ h.length) (fun m => h.length - m) 0 [(501, some 501), (502, some 502), (510, some 510), (511, some 611)] (by omega) ?_ ?_
    · simp [go_sem, ↓iO, iO, tN]
    intro m hm
    by_cases hmh : m < h.length
    · obtain ⟨t, ht⟩ := has_get hmh
      have cm := messageB_fn t (by have := hwv t (mem_get ht); omega)
      have hse : (h.map encTg).set m (encTg t) = h.map encTg := by rw [← List.map_set, List.set_getElem?_self' ht]
      obtain ⟨t1, t2, t3, t4, t5, tv⟩ := t
      repeat (first | (refine nf1_sound rfl ?_; simp [go_sem, ↓iO, iO, tN, hg, rlk, ht]; (repeat (refine anI ?_)); try (refine ⟨dcK, ?_⟩)) | ((first | refine itePos (by omega) ?_ | refine iteNeg (by omega) ?_); try simp [go_sem, ↓iO, iO, tN, hg, rlk, ht]) | (refine ⟨dcK, ?_⟩))
      refine CallK.fn (cm) [] [] [] (by kernel_rfl) ?_ ?_ ?_ (Or.inl rfl) ?_ <;> simp [go_sem, ↓iO, iO, tN, hg, rlk, ht]
      repeat (refine anI ?_)
      try (refine ⟨dcK, ?_⟩)
      repeat (first | (refine nf1_sound rfl ?_; simp [go_sem, ↓iO, iO, tN, hg, rlk, ht]; (repeat (refine anI ?_)); try (refine ⟨dcK, ?_⟩)) | ((first | refine itePos (by omega) ?_ | refine iteNeg (by omega) ?_); try simp [go_sem, ↓iO, iO, tN, hg, rlk, ht]) | (refine ⟨dcK, ?_⟩))
      rw [RoundQ_normal]; refine ⟨m + 1, [(501, some 501), (502, some 502), (510, some 510), (511, some 511)], ?_, ?_, ?_⟩
      · omega
      · omega
      simp [go_sem, ↓iO, iO, tN]
      exact hse.symm
    · obtain rfl : m = h.length := by omega
      iterate 2 (refine nf1_sound rfl ?_; simp [go_sem, ↓iO, iO, tN]; (repeat (refine anI ?_)); try (refine ⟨dcK, ?_⟩))
      refine CW.closeRow 510 k 511 (.fw [.int st, .int ep, .int nx] 38 6 (h.map encTg)) (us := X) (e := 47) (s := 4) (e' := 38) (s' := 6) (xs := h.map encTg) (ex := [(k, .ag [.t (.int st), .t (.int ep), .t (.int nx), .own 511])]) (by simp [go_sem]) (by simp [go_sem]) (by simp [go_sem]) (by rfl) ?_
      have hset2 : X.set k (.fw [.int st, .int ep, .int nx] 38 6 (h.map encTg)) = R (k + 1) := hset
      rw [hset2]
      repeat (first | (refine nf1_sound rfl ?_; simp [go_sem, ↓iO, iO, tN]; (repeat (refine anI ?_)); try (refine ⟨dcK, ?_⟩)) | ((first | refine itePos (by omega) ?_ | refine iteNeg (by omega) ?_); try simp [go_sem, ↓iO, iO, tN]) | (refine ⟨dcK, ?_⟩))
      rw [RoundQ_normal]; refine ⟨k + 1, [(501, some 501), (502, some 502), (510, some 510)], ?_, ?_, ?_⟩
      · omega
      · omega
      simp [go_sem, ↓iO, iO, tN]
  · obtain rfl : k = l.length := by omega
    repeat (first | (refine nf1_sound rfl ?_; simp [go_sem, ↓iO, iO, tN]; (repeat (refine anI ?_)); try (refine ⟨dcK, ?_⟩)) | ((first | refine itePos (by omega) ?_ | refine iteNeg (by omega) ?_); try simp [go_sem, ↓iO, iO, tN]) | (refine ⟨dcK, ?_⟩))
    first | rw [RetQ_ret] | rw [RetQ_normal]
    refine ⟨[(1000, some 510)], ?_⟩
    simp [go_sem, ↓iO, iO, tN]
/-! ### Own -/
set_option maxRecDepth 100000 in
set_option maxHeartbeats 8000000 in
theorem inlists_fn (ls : List (List Nat)) (hl : ls.length ≤ 1000000) (hx : ∀ x ∈ ls, x.length ≤ 1000000) : FnOk Try.prog 22 [.t (.sl 1 (ls.map encUs)), .t (.sl 1 (ls.map encUs))] [] (.t (.bool true)) [] := by
  refine FnOk.intro fact_mixed Try.func22 rfl Try.ntmps22 (by rfl) (by simp) ?_
  repeat (first | (refine nf1_sound rfl ?_; simp [go_sem, ↓iO, iO, tN]; (repeat (refine anI ?_)); try (refine ⟨dcK, ?_⟩)) | ((first | refine itePos (by omega) ?_ | refine iteNeg (by omega) ?_); try simp [go_sem, ↓iO, iO, tN]) | (refine ⟨dcK, ?_⟩))
  refine nf1_sound' _ _ _ ?_; simp only [nf1]
  refine CW.loop (ι := Nat) (fun k => ⟨[(0, .t (.sl 1 (ls.map encUs))), (1, .t (.sl 1 (ls.map encUs))), (12, .t (.int ls.length)), (13, .t (.int k))], []⟩) (fun k => k ≤ ls.length) (fun k => ls.length - k) 0 [] (Nat.zero_le _) ?_ ?_
  · simp [go_sem, ↓iO, iO, tN]
  intro k hk
  by_cases hkl : k < ls.length
  · obtain ⟨x, hxk⟩ := has_get hkl
    have hxl := hx x (mem_get hxk)
    repeat (first | (refine nf1_sound rfl ?_; simp [go_sem, ↓iO, iO, tN, hxk]; (repeat (refine anI ?_)); try (refine ⟨dcK, ?_⟩)) | ((first | refine itePos (by omega) ?_ | refine iteNeg (by omega) ?_); try simp [go_sem, ↓iO, iO, tN, hxk]) | (refine ⟨dcK, ?_⟩))
    rw [RoundQ_normal]; refine ⟨k + 1, [], ?_, ?_, ?_⟩
    · omega
    · omega
    simp [go_sem, ↓iO, iO, tN]
  · obtain rfl : k = ls.length := by omega
    repeat (first | (refine nf1_sound rfl ?_; simp [go_sem, ↓iO, iO, tN]; (repeat (refine anI ?_)); try (refine ⟨dcK, ?_⟩)) | ((first | refine itePos (by omega) ?_ | refine iteNeg (by omega) ?_); try simp [go_sem, ↓iO, iO, tN]) | (refine ⟨dcK, ?_⟩))
    first | rw [RetQ_ret] | rw [RetQ_normal]
    refine ⟨[], ?_⟩
    simp [go_sem, ↓iO, iO, tN]
/-- An intake of moderate size. -/
structure SmI (i : In) : Prop where
  tl : i.tail.length ≤ 500
  t8 : ∀ c ∈ i.tail, c < 256
  sl : i.sts.length ≤ 100
  hl : ∀ w ∈ i.sts, w.held.length ≤ 100 ∧ ∀ t ∈ w.held, t.vs.length ≤ 17592186044416
theorem SmI.mod {i : In} (h : SmI i) : ∀ w ∈ i.sts, Mod w := fun w hw => ⟨by have := (h.hl w hw).1; omega, fun t ht => by have := (h.hl w hw).2 t ht; omega⟩
theorem SmI.same {i : In} (h : SmI i) : FnOk Try.prog 16 [.t (encIn i), .t (encIn i)] [] (.t (.bool true)) [] := by
  have h1 := h.tl
  have h2 := h.sl
  exact rsameInB_fn i (by omega) (by omega) (fun w hw => ⟨by have := (h.hl w hw).1; omega, (h.hl w hw).2⟩)
theorem InOk.small {i : In} (h : InOk i) (h8 : ∀ c ∈ i.tail, c < 256) : SmI i := by
  have h1 := h.tl
  have h2 := h.sl
  have h4 := h.wx
  refine ⟨by omega, h8, by omega, fun w hw => ?_⟩
  have hw' := h.each w hw
  have h3 := hw'.2.2.2.2.2.2.1
  exact ⟨by omega, fun t ht => by have := (held_mem hw'.2.2.2.2.2.2.2 t ht).2.1.ln; omega⟩
set_option maxRecDepth 100000 in
set_option maxHeartbeats 8000000 in
theorem feedNo_fn (i : In) (b : List Nat) (hi : SmI i) (ho : ¬ InOk i) : FnOk Try.prog 26 [.t (encIn i), .t (encUs b)] [] (resA (i, [], 9)) [] := by
  have h1 := hi.tl
  have h2 := hi.sl
  have cc := copiedB_fn i (by omega) (by omega) (fun w hw => ⟨by have := (hi.hl w hw).1; omega, (hi.hl w hw).2⟩)
  have cv := invalid_fn i (by omega) (by omega) hi.t8 hi.mod false ⟨(fun h => by cases h), (fun h => (ho h).elim)⟩
  clear hi ho h1 h2
  obtain ⟨win, tail, sts⟩ := i
  refine FnOk.intro fact_mixed Try.func26 rfl Try.ntmps26 (by rfl) (by simp) ?_
  repeat (first | (refine nf1_sound rfl ?_; simp [go_sem, ↓iO, iO, tN]; (repeat (refine anI ?_)); try (refine ⟨dcK, ?_⟩)) | ((first | refine itePos (by omega) ?_ | refine iteNeg (by omega) ?_); try simp [go_sem, ↓iO, iO, tN]) | (refine ⟨dcK, ?_⟩))
  refine CallK.fn (cc) [(1000, 600)] [] [] (by kernel_rfl) ?_ ?_ ?_ (Or.inl rfl) ?_ <;> simp [go_sem, ↓iO, iO, tN]
  repeat (refine anI ?_)
  try (refine ⟨dcK, ?_⟩)
  repeat (first | (refine nf1_sound rfl ?_; simp [go_sem, ↓iO, iO, tN]; (repeat (refine anI ?_)); try (refine ⟨dcK, ?_⟩)) | ((first | refine itePos (by omega) ?_ | refine iteNeg (by omega) ?_); try simp [go_sem, ↓iO, iO, tN]) | (refine ⟨dcK, ?_⟩))
  refine CallK.fn (cv) [] [] [] (by kernel_rfl) ?_ ?_ ?_ (Or.inl rfl) ?_ <;> simp [go_sem, ↓iO, iO, tN]
  repeat (refine anI ?_)
  try (refine ⟨dcK, ?_⟩)
  repeat (first | (refine nf1_sound rfl ?_; simp [go_sem, ↓iO, iO, tN]; (repeat (refine anI ?_)); try (refine ⟨dcK, ?_⟩)) | ((first | refine itePos (by omega) ?_ | refine iteNeg (by omega) ?_); try simp [go_sem, ↓iO, iO, tN]) | (refine ⟨dcK, ?_⟩))
  first | rw [RetQ_ret] | rw [RetQ_normal]
  refine ⟨[], ?_⟩
  simp [go_sem, ↓iO, iO, tN, toT_uWt]
set_option maxRecDepth 100000 in
set_option maxHeartbeats 8000000 in
theorem rfeedNo_fn (i : In) (b : List Nat) (hi : SmI i) (ho : ¬ InOk i) : FnOk Try.prog 27 [.t (encIn i), .t (encUs b)] [] (resA (i, [], 9)) [] := by
  have h1 := hi.tl
  have h2 := hi.sl
  have cv := rvalidIn_fn i (by omega) (by omega) hi.t8 hi.mod false ⟨(fun h => by cases h), (fun h => (ho h).elim)⟩
  clear hi ho h1 h2
  obtain ⟨win, tail, sts⟩ := i
  refine FnOk.intro fact_mixed Try.func27 rfl Try.ntmps27 (by rfl) (by simp) ?_
  repeat (first | (refine nf1_sound rfl ?_; simp [go_sem, ↓iO, iO, tN]; (repeat (refine anI ?_)); try (refine ⟨dcK, ?_⟩)) | ((first | refine itePos (by omega) ?_ | refine iteNeg (by omega) ?_); try simp [go_sem, ↓iO, iO, tN]) | (refine ⟨dcK, ?_⟩))
  refine CallK.fn (cv) [] [] [] (by kernel_rfl) ?_ ?_ ?_ (Or.inl rfl) ?_ <;> simp [go_sem, ↓iO, iO, tN]
  repeat (refine anI ?_)
  try (refine ⟨dcK, ?_⟩)
  repeat (first | (refine nf1_sound rfl ?_; simp [go_sem, ↓iO, iO, tN]; (repeat (refine anI ?_)); try (refine ⟨dcK, ?_⟩)) | ((first | refine itePos (by omega) ?_ | refine iteNeg (by omega) ?_); try simp [go_sem, ↓iO, iO, tN]) | (refine ⟨dcK, ?_⟩))
  first | rw [RetQ_ret] | rw [RetQ_normal]
  refine ⟨[], ?_⟩
  simp [go_sem, ↓iO, iO, tN, wkXs]
set_option maxRecDepth 100000 in
set_option maxHeartbeats 8000000 in
theorem acceptNoB_fn (i : In) (t : Tg) (hi : SmI i) (ho : ¬ InOk i) : FnOk Try.prog 13 [.t (encIn i), .t (encTg t)] [] (resA (i, [], 9)) [] := by
  have h1 := hi.tl
  have h2 := hi.sl
  have cc := copiedB_fn i (by omega) (by omega) (fun w hw => ⟨by have := (hi.hl w hw).1; omega, (hi.hl w hw).2⟩)
  have cv := invalid_fn i (by omega) (by omega) hi.t8 hi.mod false ⟨(fun h => by cases h), (fun h => (ho h).elim)⟩
  clear hi ho h1 h2
  obtain ⟨win, tail, sts⟩ := i
  refine FnOk.intro fact_mixed Try.func13 rfl Try.ntmps13 (by rfl) (by simp) ?_
  repeat (first | (refine nf1_sound rfl ?_; simp [go_sem, ↓iO, iO, tN]; (repeat (refine anI ?_)); try (refine ⟨dcK, ?_⟩)) | ((first | refine itePos (by omega) ?_ | refine iteNeg (by omega) ?_); try simp [go_sem, ↓iO, iO, tN]) | (refine ⟨dcK, ?_⟩))
  refine CallK.fn (cc) [(1000, 600)] [] [] (by kernel_rfl) ?_ ?_ ?_ (Or.inl rfl) ?_ <;> simp [go_sem, ↓iO, iO, tN]
  repeat (refine anI ?_)
  try (refine ⟨dcK, ?_⟩)
  repeat (first | (refine nf1_sound rfl ?_; simp [go_sem, ↓iO, iO, tN]; (repeat (refine anI ?_)); try (refine ⟨dcK, ?_⟩)) | ((first | refine itePos (by omega) ?_ | refine iteNeg (by omega) ?_); try simp [go_sem, ↓iO, iO, tN]) | (refine ⟨dcK, ?_⟩))
  refine CallK.fn (cv) [] [] [] (by kernel_rfl) ?_ ?_ ?_ (Or.inl rfl) ?_ <;> simp [go_sem, ↓iO, iO, tN]
  repeat (refine anI ?_)
  try (refine ⟨dcK, ?_⟩)
  repeat (first | (refine nf1_sound rfl ?_; simp [go_sem, ↓iO, iO, tN]; (repeat (refine anI ?_)); try (refine ⟨dcK, ?_⟩)) | ((first | refine itePos (by omega) ?_ | refine iteNeg (by omega) ?_); try simp [go_sem, ↓iO, iO, tN]) | (refine ⟨dcK, ?_⟩))
  first | rw [RetQ_ret] | rw [RetQ_normal]
  refine ⟨[], ?_⟩
  simp [go_sem, ↓iO, iO, tN, toT_uWt]
set_option maxRecDepth 100000 in
set_option maxHeartbeats 8000000 in
theorem racceptNoB_fn (i : In) (t : Tg) (hi : SmI i) (ho : ¬ InOk i) : FnOk Try.prog 25 [.t (encIn i), .t (encTg t)] [] (resA (i, [], 9)) [] := by
  have h1 := hi.tl
  have h2 := hi.sl
  have cv := rvalidIn_fn i (by omega) (by omega) hi.t8 hi.mod false ⟨(fun h => by cases h), (fun h => (ho h).elim)⟩
  clear hi ho h1 h2
  obtain ⟨win, tail, sts⟩ := i
  refine FnOk.intro fact_mixed Try.func25 rfl Try.ntmps25 (by rfl) (by simp) ?_
  repeat (first | (refine nf1_sound rfl ?_; simp [go_sem, ↓iO, iO, tN]; (repeat (refine anI ?_)); try (refine ⟨dcK, ?_⟩)) | ((first | refine itePos (by omega) ?_ | refine iteNeg (by omega) ?_); try simp [go_sem, ↓iO, iO, tN]) | (refine ⟨dcK, ?_⟩))
  refine CallK.fn (cv) [] [] [] (by kernel_rfl) ?_ ?_ ?_ (Or.inl rfl) ?_ <;> simp [go_sem, ↓iO, iO, tN]
  repeat (refine anI ?_)
  try (refine ⟨dcK, ?_⟩)
  repeat (first | (refine nf1_sound rfl ?_; simp [go_sem, ↓iO, iO, tN]; (repeat (refine anI ?_)); try (refine ⟨dcK, ?_⟩)) | ((first | refine itePos (by omega) ?_ | refine iteNeg (by omega) ?_); try simp [go_sem, ↓iO, iO, tN]) | (refine ⟨dcK, ?_⟩))
  first | rw [RetQ_ret] | rw [RetQ_normal]
  refine ⟨[], ?_⟩
  simp [go_sem, ↓iO, iO, tN, wkXs]
/-- Two functions answer alike; and the answer is like itself. -/
def Two (f g : FuncId) (ss : List S) : Prop := ∃ (a : In) (o : List Tg) (e : Int), FnOk Try.prog f ss [] (resA (a, o, e)) [] ∧ FnOk Try.prog g ss [] (resA (a, o, e)) [] ∧
  FnOk Try.prog 16 [.t (encIn a), .t (encIn a)] [] (.t (.bool true)) [] ∧ FnOk Try.prog 18 [.t (encTgs o), .t (encTgs o)] [] (.t (.bool true)) []
theorem accept_two {x : In} (h : SmI x) {y : Tg} (hy : y.vs.length ≤ 1000000) : Two 13 25 [.t (encIn x), .t (encTg y)] := by
  have hn := ralike_fn [] (by simp) (by simp)
  by_cases ho : InOk x
  · refine ⟨(accV x y).1, (accV x y).2.1, (accV x y).2.2, accept_fn x y (ho.sized h.t8) hy ho, raccept_fn x y (ho.sized h.t8) hy ho, (accV_ok ho).same, ?_⟩
    by_cases hyo : TgOk y
    · exact ralike_fn _ (by have := accV_len ho y; omega) (fun t ht => by have := (accV_tgs ho hyo t ht).ln; omega)
    · have e : (accV x y).2.1 = [] := by unfold accV; rw [if_neg hyo]
      rw [e]
      exact hn
  · exact ⟨x, [], 9, acceptNoB_fn x y h ho, racceptNoB_fn x y h ho, h.same, hn⟩
theorem feeds_two {x : In} (h : SmI x) {b : List Nat} (hb : b.length ≤ 50000) (h8 : ∀ c ∈ b, c < 256) : Two 26 27 [.t (encIn x), .t (encUs b)] := by
  by_cases ho : InOk x
  · refine ⟨(feedV x b).1, (feedV x b).2, 0, feed_fn x b (ho.sized h.t8) (by omega) h8 ho, rfeed_fn x b (ho.sized h.t8) (by omega) h8 ho, (feedV_ok ho b).same, ?_⟩
    have htl := h.tl
    have hlen := feedV_len ho b
    exact ralike_fn _ (by omega) (fun t ht => by have := (feedV_tgs ho h.t8 h8 t ht).ln; omega)
  · exact ⟨x, [], 9, feedNo_fn x b h ho, rfeedNo_fn x b h ho, h.same, ralike_fn [] (by simp) (by simp)⟩
theorem reps_last {F : Nat → Prop} {w : World} {x y : T} (hxy : ∀ u, Rep F w x u → Rep F w y u) : ∀ {A : List T} {cells : List Value}, Reps F w (A ++ [x]) cells → Reps F w (A ++ [y]) cells
  | [], cells, h => by
    rw [List.nil_append] at h ⊢
    unfold Reps at h ⊢
    obtain ⟨v, cs, e, h1, h2⟩ := h
    exact ⟨v, cs, e, hxy v h1, by unfold Reps at h2 ⊢; exact h2⟩
  | a :: A, cells, h => by
    rw [List.cons_append] at h ⊢
    unfold Reps at h ⊢
    obtain ⟨v, cs, e, h1, h2⟩ := h
    exact ⟨v, cs, e, h1, reps_last hxy h2⟩
theorem rep_wtn {F : Nat → Prop} {w : World} {a b c : Int} (u : Value) (h : Rep F w (.agg [.int a, .int b, .int c, .nil]) u) : Rep F w (encWt ⟨a, b, c, []⟩) u := by
  unfold encWt
  unfold Rep at h ⊢
  obtain ⟨cells, rfl, h⟩ := h
  refine ⟨cells, rfl, ?_⟩
  have e := reps_last (F := F) (w := w) (x := .nil) (y := encTgs []) (fun u hu => by
    unfold Rep at hu
    rw [hu.1]
    exact rep_nil 6) (A := [.int a, .int b, .int c]) (cells := cells) h
  exact e
theorem oddN {f : FuncId} {ss : List S} {pre post : List (Nat × Blk)} {win a b c : Int} {tail : List Nat} {sts : List Wt} (h : FnOk Try.prog f ss pre (.t (.agg [.int win, encUs tail, .sl 4 (sts.map encWt ++ [.agg [.int a, .int b, .int c, .nil]])])) post) :
    FnOk Try.prog f ss pre (.t (encIn ⟨win, tail, sts ++ [⟨a, b, c, []⟩]⟩)) post := by
  intro G w us hh hr
  refine (h G w us hh hr).mono ?_
  rintro e w' ⟨v, G', rfl, hf, hh', hv⟩
  refine ⟨v, G', rfl, hf, hh', ?_⟩
  unfold RepS at hv ⊢
  unfold encIn
  unfold Rep at hv ⊢
  obtain ⟨cells, rfl, hv⟩ := hv
  refine ⟨cells, rfl, ?_⟩
  have hv' : Reps G'.F w' ([.int win, encUs tail] ++ [.sl 4 (sts.map encWt ++ [.agg [.int a, .int b, .int c, .nil]])]) cells := hv
  have e := reps_last (F := G'.F) (w := w') (x := .sl 4 (sts.map encWt ++ [.agg [.int a, .int b, .int c, .nil]])) (y := encWts (sts ++ [⟨a, b, c, []⟩])) (fun u hu => by
    unfold encWts
    unfold Rep at hu ⊢
    obtain ⟨x, cap, cs, h1, h2, h3, h4⟩ := hu
    rw [List.map_append, List.map_cons, List.map_nil]
    refine ⟨x, cap, cs, by simpa using h1, reps_last (fun u hu => rep_wtn u hu) h2, fun y hy => ?_, by simpa using h4⟩
    rcases List.mem_append.1 hy with hy | hy
    · exact h3 y (List.mem_append.2 (.inl hy))
    · simp at hy
      rw [hy]
      simp [encWt, encTgs, T.width, T.widths]) (A := [.int win, encUs tail]) (cells := cells) hv'
  exact e
set_option maxRecDepth 100000 in
set_option maxHeartbeats 16000000 in
theorem odd_ex {l : List Int} {k : Nat} (h : SrcOk l k) (s : In) (hs : SmI s) (hs2 : s.sts.length ≤ 64 ∧ ∀ w ∈ s.sts, w.held.length ≤ 50) : ∃ k' o, SrcOk l k' ∧ SmI o ∧ FnOk Try.prog 24 [.pt 0 [] 0, .t (encIn s)] [(0, srcB l k)] (.t (encIn o)) [(0, srcB l k')] := by
  obtain ⟨n, hn, c0⟩ := n_ex h 4 (by omega) (by omega)
  have hk1 := h.next
  obtain ⟨win, tail, sts⟩ := s
  have htl := hs.tl
  have ht8 := hs.t8
  have hhl := hs.hl
  dsimp only at hs2 htl ht8 hhl
  obtain ⟨hsl, hh50⟩ := hs2
  have hta : (sts.map encWt).take sts.length = sts.map encWt := List.take_of_length_le (by simp)
  by_cases h0 : n = 0
  · subst h0
    obtain ⟨v, hv, c1⟩ := pick_ex hk1 [-1, 0, 17] (by simp) (by simp)
    refine ⟨_, ⟨v, tail, sts⟩, hk1.next, ⟨htl, ht8, by dsimp only; omega, hhl⟩, ?_⟩
    clear hv
    refine FnOk.intro fact_mixed Try.func24 rfl Try.ntmps24 (by rfl) (by simp) ?_
    repeat (first | (refine nf1_sound rfl ?_; simp [go_sem, ↓iO, iO, tN]; (repeat (refine anI ?_)); try (refine ⟨dcK, ?_⟩)) | ((first | refine itePos (by omega) ?_ | refine iteNeg (by omega) ?_); try simp [go_sem, ↓iO, iO, tN]) | (refine ⟨dcK, ?_⟩))
    refine CallK.fn (c0) [(0, 0)] [] [] (by kernel_rfl) ?_ ?_ ?_ (Or.inl rfl) ?_ <;> simp [go_sem, ↓iO, iO, tN]
    repeat (refine anI ?_)
    try (refine ⟨dcK, ?_⟩)
    repeat (first | (refine nf1_sound rfl ?_; simp [go_sem, ↓iO, iO, tN]; (repeat (refine anI ?_)); try (refine ⟨dcK, ?_⟩)) | ((first | refine itePos (by omega) ?_ | refine iteNeg (by omega) ?_); try simp [go_sem, ↓iO, iO, tN]) | (refine ⟨dcK, ?_⟩))
    refine CallK.fn (c1) [(0, 0)] [] [144] (by kernel_rfl) ?_ ?_ ?_ (Or.inl rfl) ?_ <;> simp [go_sem, ↓iO, iO, tN]
    repeat (refine anI ?_)
    try (refine ⟨dcK, ?_⟩)
    repeat (first | (refine nf1_sound rfl ?_; simp [go_sem, ↓iO, iO, tN]; (repeat (refine anI ?_)); try (refine ⟨dcK, ?_⟩)) | ((first | refine itePos (by omega) ?_ | refine iteNeg (by omega) ?_); try simp [go_sem, ↓iO, iO, tN]) | (refine ⟨dcK, ?_⟩))
    first | rw [RetQ_ret] | rw [RetQ_normal]
    refine ⟨[(0, some 0)], ?_⟩
    simp [go_sem, ↓iO, iO, tN, wkXs]
  by_cases h1 : n = 1
  · subst h1
    obtain ⟨q, hq, c1⟩ := n_ex hk1 4 (by omega) (by omega)
    obtain ⟨Z, hZ⟩ : ∃ Z : List Nat, Z = List.replicate 401 0 := ⟨_, rfl⟩
    have hZe : List.replicate 401 (T.lit (.int .u8 0)) = Z.map encU := by rw [hZ, List.map_replicate]; rfl
    have hZe2 : List.replicate (Int.toNat 401) (T.lit (.int .u8 0)) = Z.map encU := hZe
    have hZl : Z.length = 401 := by rw [hZ]; simp
    have hZ8 : ∀ c ∈ Z, c < 256 := fun c hc => by rw [hZ] at hc; have := List.eq_of_mem_replicate hc; omega
    clear hZ
    have main : ∀ (tl : List Nat), [[126, 126], [1], [126, 124], Z][q.toNat]? = some tl → SmI ⟨win, tl, sts⟩ ∧ FnOk Try.prog 24 [.pt 0 [] 0, .t (encIn ⟨win, tail, sts⟩)] [(0, srcB l k)] (.t (encIn ⟨win, tl, sts⟩)) [(0, srcB l (nextK l (nextK l k)))] := by
      intro tl htl2
      have hc : q = 0 ∨ q = 1 ∨ q = 2 ∨ q = 3 := by omega
      rcases hc with rfl | rfl | rfl | rfl
      all_goals
        simp at htl2
        subst htl2
      · refine ⟨⟨by simp, by simp, by dsimp only; omega, hhl⟩, ?_⟩
        refine FnOk.intro fact_mixed Try.func24 rfl Try.ntmps24 (by rfl) (by simp) ?_
        repeat (first | (refine nf1_sound rfl ?_; simp [go_sem, ↓iO, iO, tN]; (repeat (refine anI ?_)); try (refine ⟨dcK, ?_⟩)) | ((first | refine itePos (by omega) ?_ | refine iteNeg (by omega) ?_); try simp [go_sem, ↓iO, iO, tN]) | (refine ⟨dcK, ?_⟩))
        refine CallK.fn (c0) [(0, 0)] [] [] (by kernel_rfl) ?_ ?_ ?_ (Or.inl rfl) ?_ <;> simp [go_sem, ↓iO, iO, tN]
        repeat (refine anI ?_)
        try (refine ⟨dcK, ?_⟩)
        repeat (first | (refine nf1_sound rfl ?_; simp [go_sem, ↓iO, iO, tN, ↓hZe2, ↓hZe]; (repeat (refine anI ?_)); try (refine ⟨dcK, ?_⟩)) | ((first | refine itePos (by omega) ?_ | refine iteNeg (by omega) ?_); try simp [go_sem, ↓iO, iO, tN, ↓hZe2, ↓hZe]) | (refine ⟨dcK, ?_⟩))
        refine CallK.fn (c1) [(0, 0)] [] [] (by kernel_rfl) ?_ ?_ ?_ (Or.inl rfl) ?_ <;> simp [go_sem, ↓iO, iO, tN, ↓hZe2, ↓hZe]
        repeat (refine anI ?_)
        try (refine ⟨dcK, ?_⟩)
        repeat (first | (refine nf1_sound rfl ?_; simp [go_sem, ↓iO, iO, tN, ↓hZe2, ↓hZe]; (repeat (refine anI ?_)); try (refine ⟨dcK, ?_⟩)) | ((first | refine itePos (by omega) ?_ | refine iteNeg (by omega) ?_); try simp [go_sem, ↓iO, iO, tN, ↓hZe2, ↓hZe]) | (refine ⟨dcK, ?_⟩))
        first | rw [RetQ_ret] | rw [RetQ_normal]
        refine ⟨[(0, some 0)], ?_⟩
        simp [go_sem, ↓iO, iO, tN, wkXs]
      · refine ⟨⟨by simp, by simp, by dsimp only; omega, hhl⟩, ?_⟩
        refine FnOk.intro fact_mixed Try.func24 rfl Try.ntmps24 (by rfl) (by simp) ?_
        repeat (first | (refine nf1_sound rfl ?_; simp [go_sem, ↓iO, iO, tN]; (repeat (refine anI ?_)); try (refine ⟨dcK, ?_⟩)) | ((first | refine itePos (by omega) ?_ | refine iteNeg (by omega) ?_); try simp [go_sem, ↓iO, iO, tN]) | (refine ⟨dcK, ?_⟩))
        refine CallK.fn (c0) [(0, 0)] [] [] (by kernel_rfl) ?_ ?_ ?_ (Or.inl rfl) ?_ <;> simp [go_sem, ↓iO, iO, tN]
        repeat (refine anI ?_)
        try (refine ⟨dcK, ?_⟩)
        repeat (first | (refine nf1_sound rfl ?_; simp [go_sem, ↓iO, iO, tN, ↓hZe2, ↓hZe]; (repeat (refine anI ?_)); try (refine ⟨dcK, ?_⟩)) | ((first | refine itePos (by omega) ?_ | refine iteNeg (by omega) ?_); try simp [go_sem, ↓iO, iO, tN, ↓hZe2, ↓hZe]) | (refine ⟨dcK, ?_⟩))
        refine CallK.fn (c1) [(0, 0)] [] [] (by kernel_rfl) ?_ ?_ ?_ (Or.inl rfl) ?_ <;> simp [go_sem, ↓iO, iO, tN, ↓hZe2, ↓hZe]
        repeat (refine anI ?_)
        try (refine ⟨dcK, ?_⟩)
        repeat (first | (refine nf1_sound rfl ?_; simp [go_sem, ↓iO, iO, tN, ↓hZe2, ↓hZe]; (repeat (refine anI ?_)); try (refine ⟨dcK, ?_⟩)) | ((first | refine itePos (by omega) ?_ | refine iteNeg (by omega) ?_); try simp [go_sem, ↓iO, iO, tN, ↓hZe2, ↓hZe]) | (refine ⟨dcK, ?_⟩))
        first | rw [RetQ_ret] | rw [RetQ_normal]
        refine ⟨[(0, some 0)], ?_⟩
        simp [go_sem, ↓iO, iO, tN, wkXs]
      · refine ⟨⟨by simp, by simp, by dsimp only; omega, hhl⟩, ?_⟩
        refine FnOk.intro fact_mixed Try.func24 rfl Try.ntmps24 (by rfl) (by simp) ?_
        repeat (first | (refine nf1_sound rfl ?_; simp [go_sem, ↓iO, iO, tN]; (repeat (refine anI ?_)); try (refine ⟨dcK, ?_⟩)) | ((first | refine itePos (by omega) ?_ | refine iteNeg (by omega) ?_); try simp [go_sem, ↓iO, iO, tN]) | (refine ⟨dcK, ?_⟩))
        refine CallK.fn (c0) [(0, 0)] [] [] (by kernel_rfl) ?_ ?_ ?_ (Or.inl rfl) ?_ <;> simp [go_sem, ↓iO, iO, tN]
        repeat (refine anI ?_)
        try (refine ⟨dcK, ?_⟩)
        repeat (first | (refine nf1_sound rfl ?_; simp [go_sem, ↓iO, iO, tN, ↓hZe2, ↓hZe]; (repeat (refine anI ?_)); try (refine ⟨dcK, ?_⟩)) | ((first | refine itePos (by omega) ?_ | refine iteNeg (by omega) ?_); try simp [go_sem, ↓iO, iO, tN, ↓hZe2, ↓hZe]) | (refine ⟨dcK, ?_⟩))
        refine CallK.fn (c1) [(0, 0)] [] [] (by kernel_rfl) ?_ ?_ ?_ (Or.inl rfl) ?_ <;> simp [go_sem, ↓iO, iO, tN, ↓hZe2, ↓hZe]
        repeat (refine anI ?_)
        try (refine ⟨dcK, ?_⟩)
        repeat (first | (refine nf1_sound rfl ?_; simp [go_sem, ↓iO, iO, tN, ↓hZe2, ↓hZe]; (repeat (refine anI ?_)); try (refine ⟨dcK, ?_⟩)) | ((first | refine itePos (by omega) ?_ | refine iteNeg (by omega) ?_); try simp [go_sem, ↓iO, iO, tN, ↓hZe2, ↓hZe]) | (refine ⟨dcK, ?_⟩))
        first | rw [RetQ_ret] | rw [RetQ_normal]
        refine ⟨[(0, some 0)], ?_⟩
        simp [go_sem, ↓iO, iO, tN, wkXs]
      · refine ⟨⟨by dsimp only; omega, hZ8, by dsimp only; omega, hhl⟩, ?_⟩
        refine FnOk.intro fact_mixed Try.func24 rfl Try.ntmps24 (by rfl) (by simp) ?_
        repeat (first | (refine nf1_sound rfl ?_; simp [go_sem, ↓iO, iO, tN]; (repeat (refine anI ?_)); try (refine ⟨dcK, ?_⟩)) | ((first | refine itePos (by omega) ?_ | refine iteNeg (by omega) ?_); try simp [go_sem, ↓iO, iO, tN]) | (refine ⟨dcK, ?_⟩))
        refine CallK.fn (c0) [(0, 0)] [] [] (by kernel_rfl) ?_ ?_ ?_ (Or.inl rfl) ?_ <;> simp [go_sem, ↓iO, iO, tN]
        repeat (refine anI ?_)
        try (refine ⟨dcK, ?_⟩)
        repeat (first | (refine nf1_sound rfl ?_; simp [go_sem, ↓iO, iO, tN, ↓hZe2, ↓hZe]; (repeat (refine anI ?_)); try (refine ⟨dcK, ?_⟩)) | ((first | refine itePos (by omega) ?_ | refine iteNeg (by omega) ?_); try simp [go_sem, ↓iO, iO, tN, ↓hZe2, ↓hZe]) | (refine ⟨dcK, ?_⟩))
        refine CallK.fn (c1) [(0, 0)] [] [] (by kernel_rfl) ?_ ?_ ?_ (Or.inl rfl) ?_ <;> simp [go_sem, ↓iO, iO, tN, ↓hZe2, ↓hZe]
        repeat (refine anI ?_)
        try (refine ⟨dcK, ?_⟩)
        repeat (first | (refine nf1_sound rfl ?_; simp [go_sem, ↓iO, iO, tN, ↓hZe2, ↓hZe]; (repeat (refine anI ?_)); try (refine ⟨dcK, ?_⟩)) | ((first | refine itePos (by omega) ?_ | refine iteNeg (by omega) ?_); try simp [go_sem, ↓iO, iO, tN, ↓hZe2, ↓hZe]) | (refine ⟨dcK, ?_⟩))
        first | rw [RetQ_ret] | rw [RetQ_normal]
        refine ⟨[(0, some 0)], ?_⟩
        simp [go_sem, ↓iO, iO, tN, wkXs, ↓hZe2, ↓hZe]
    obtain ⟨tl, htl2⟩ := has_get (show q.toNat < [[126, 126], [1], [126, 124], Z].length by simp; omega)
    obtain ⟨m1, m2⟩ := main tl htl2
    exact ⟨_, _, hk1.next, m1, m2⟩
  by_cases h2 : n = 2
  · subst h2
    obtain ⟨v1, hv1, c1⟩ := pick_ex hk1 [0, -1, 256, 255] (by simp) (by simp)
    obtain ⟨v2, hv2, c2⟩ := pick_ex hk1.next [0, 256] (by simp) (by simp)
    obtain ⟨v3, hv3, c3⟩ := pick_ex hk1.next.next [0, 2147483649, 2147483650] (by simp) (by simp)
    refine ⟨_, ⟨win, tail, sts ++ [⟨v1, v2, v3, []⟩]⟩, hk1.next.next.next, ⟨htl, ht8, by simp; omega, fun w hw => ?_⟩, ?_⟩
    · rcases List.mem_append.1 hw with hw | hw
      · exact hhl w hw
      · simp at hw; subst hw; exact ⟨by simp, by simp⟩
    clear hv1 hv2 hv3
    refine oddN ?_
    refine FnOk.intro fact_mixed Try.func24 rfl Try.ntmps24 (by rfl) (by simp) ?_
    repeat (first | (refine nf1_sound rfl ?_; simp [go_sem, ↓iO, iO, tN]; (repeat (refine anI ?_)); try (refine ⟨dcK, ?_⟩)) | ((first | refine itePos (by omega) ?_ | refine iteNeg (by omega) ?_); try simp [go_sem, ↓iO, iO, tN]) | (refine ⟨dcK, ?_⟩))
    refine CallK.fn (c0) [(0, 0)] [] [] (by kernel_rfl) ?_ ?_ ?_ (Or.inl rfl) ?_ <;> simp [go_sem, ↓iO, iO, tN]
    repeat (refine anI ?_)
    try (refine ⟨dcK, ?_⟩)
    repeat (first | (refine nf1_sound rfl ?_; simp [go_sem, ↓iO, iO, tN]; (repeat (refine anI ?_)); try (refine ⟨dcK, ?_⟩)) | ((first | refine itePos (by omega) ?_ | refine iteNeg (by omega) ?_); try simp [go_sem, ↓iO, iO, tN]) | (refine ⟨dcK, ?_⟩))
    refine CallK.fn (c1) [(0, 0)] [] [164] (by kernel_rfl) ?_ ?_ ?_ (Or.inl rfl) ?_ <;> simp [go_sem, ↓iO, iO, tN]
    repeat (refine anI ?_)
    try (refine ⟨dcK, ?_⟩)
    refine CallK.fn (c2) [(0, 0)] [] [167] (by kernel_rfl) ?_ ?_ ?_ (Or.inl rfl) ?_ <;> simp [go_sem, ↓iO, iO, tN]
    repeat (refine anI ?_)
    try (refine ⟨dcK, ?_⟩)
    refine CallK.fn (c3) [(0, 0)] [] [170] (by kernel_rfl) ?_ ?_ ?_ (Or.inl rfl) ?_ <;> simp [go_sem, ↓iO, iO, tN]
    repeat (refine anI ?_)
    try (refine ⟨dcK, ?_⟩)
    repeat (first | (refine nf1_sound rfl ?_; simp [go_sem, ↓iO, iO, tN]; (repeat (refine anI ?_)); try (refine ⟨dcK, ?_⟩)) | ((first | refine itePos (by omega) ?_ | refine iteNeg (by omega) ?_); try simp [go_sem, ↓iO, iO, tN]) | (refine ⟨dcK, ?_⟩))
    first | rw [RetQ_ret] | rw [RetQ_normal]
    refine ⟨[(0, some 0)], ?_⟩
    simp [go_sem, ↓iO, iO, tN, wkXs]
  · by_cases hz : sts.length = 0
    · refine ⟨_, ⟨win, tail, sts⟩, hk1, hs, ?_⟩
      refine FnOk.intro fact_mixed Try.func24 rfl Try.ntmps24 (by rfl) (by simp) ?_
      repeat (first | (refine nf1_sound rfl ?_; simp [go_sem, ↓iO, iO, tN]; (repeat (refine anI ?_)); try (refine ⟨dcK, ?_⟩)) | ((first | refine itePos (by omega) ?_ | refine iteNeg (by omega) ?_); try simp [go_sem, ↓iO, iO, tN]) | (refine ⟨dcK, ?_⟩))
      refine CallK.fn (c0) [(0, 0)] [] [] (by kernel_rfl) ?_ ?_ ?_ (Or.inl rfl) ?_ <;> simp [go_sem, ↓iO, iO, tN]
      repeat (refine anI ?_)
      try (refine ⟨dcK, ?_⟩)
      repeat (first | (refine nf1_sound rfl ?_; simp [go_sem, ↓iO, iO, tN, h0, h1, h2, hz]; (repeat (refine anI ?_)); try (refine ⟨dcK, ?_⟩)) | ((first | refine itePos (by omega) ?_ | refine iteNeg (by omega) ?_); try simp [go_sem, ↓iO, iO, tN, h0, h1, h2, hz]) | (refine ⟨dcK, ?_⟩))
      first | rw [RetQ_ret] | rw [RetQ_normal]
      refine ⟨[(0, some 0)], ?_⟩
      simp [go_sem, ↓iO, iO, tN, wkXs]
    · obtain ⟨p0, hp, c1⟩ := n_ex hk1 (sts.length : Int) (by omega) (by omega)
      obtain ⟨p, rfl⟩ : ∃ p : Nat, p0 = (p : Int) := ⟨p0.toNat, by omega⟩
      obtain ⟨st, hst, c2⟩ := n_ex hk1.next 3 (by omega) (by omega)
      obtain ⟨k4, x, hk4, hx, hxs, _, c3⟩ := telegram_ex2 hk1.next.next st (by omega)
      have hxl := hx.ln
      obtain ⟨w, hw⟩ := has_get (show p < sts.length by omega)
      obtain ⟨hw1, hw2⟩ := hhl w (mem_get hw)
      have hw5 := hh50 w (mem_get hw)
      refine ⟨k4, ⟨win, tail, sts.set p (⟨w.st, w.ep, w.nx, w.held ++ [x]⟩ : Wt)⟩, hk4, ⟨htl, ht8, by simp; omega, fun v hv => ?_⟩, ?_⟩
      · rcases List.mem_or_eq_of_mem_set hv with hv | hv
        · exact hhl v hv
        · subst hv
          refine ⟨by simp; omega, fun t ht => ?_⟩
          dsimp only at ht
          rcases List.mem_append.1 ht with ht | ht
          · exact hw2 t ht
          · simp at ht; subst ht; omega
      obtain ⟨us, hus⟩ : ∃ us, us = sts.map tWt := ⟨_, rfl⟩
      have hul : us.length = sts.length := by rw [hus]; simp
      have hg : us[p]? = some (.t (encWt w)) := by rw [hus, List.getElem?_map, hw]; rfl
      obtain ⟨w1, w2', w3, hd⟩ := w
      obtain ⟨x1, x2, x3, x4, x5, xv⟩ := x
      dsimp only at hw1 hw5 hxs hxl ⊢
      subst hxs
      have hres : (us.set p (.fw [.int w1, .int w2', .int w3] 38 6 ((hd ++ [(⟨x1, x2, x3, x4, x5, xv⟩ : Tg)]).map encTg))).map U.toT = (sts.set p (⟨w1, w2', w3, hd ++ [(⟨x1, x2, x3, x4, x5, xv⟩ : Tg)]⟩ : Wt)).map encWt := by
        rw [hus, List.map_set, List.map_set, List.map_map]
        rfl
      have hpl : p < sts.length := by omega
      unfold encWt at hg
      dsimp only at hg
      refine FnOk.intro fact_mixed Try.func24 rfl Try.ntmps24 (by rfl) (by simp) ?_
      repeat (first | (refine nf1_sound rfl ?_; simp [go_sem, ↓iO, iO, tN]; (repeat (refine anI ?_)); try (refine ⟨dcK, ?_⟩)) | ((first | refine itePos (by omega) ?_ | refine iteNeg (by omega) ?_); try simp [go_sem, ↓iO, iO, tN]) | (refine ⟨dcK, ?_⟩))
      refine CallK.fn (c0) [(0, 0)] [] [] (by kernel_rfl) ?_ ?_ ?_ (Or.inl rfl) ?_ <;> simp [go_sem, ↓iO, iO, tN]
      repeat (refine anI ?_)
      try (refine ⟨dcK, ?_⟩)
      refine nf_sound [4] _ _ _ ?_
      simp (maxSteps := 2000000) [go_sem, ↓iO, iO, tN, h0, h1, h2, hz, stops, firstReg]
      refine CW.toRows 109 us (e := 47) (s := 4) (xs := sts.map encWt) (by simp [go_sem]) (by rw [hul]; simp) (fun j y u g1 g2 => ?_) ?_
      · rw [hus, List.getElem?_map] at g2
        rw [List.getElem?_map] at g1
        cases hj : sts[j]? with
        | none => rw [hj] at g1; cases g1
        | some w =>
          rw [hj] at g1 g2
          cases g1; cases g2
          rfl
      simp [go_sem, ↓iO, iO, tN]
      repeat (first | (refine nf1_sound rfl ?_; simp [go_sem, ↓iO, iO, tN, hul]; (repeat (refine anI ?_)); try (refine ⟨dcK, ?_⟩)) | ((first | refine itePos (by omega) ?_ | refine iteNeg (by omega) ?_); try simp [go_sem, ↓iO, iO, tN, hul]) | (refine ⟨dcK, ?_⟩))
      refine CallK.fn (c1) [(0, 0)] [] [] (by kernel_rfl) ?_ ?_ ?_ (Or.inl rfl) ?_ <;> simp [go_sem, ↓iO, iO, tN, hul]
      repeat (refine anI ?_)
      try (refine ⟨dcK, ?_⟩)
      repeat (first | (refine nf1_sound rfl ?_; simp [go_sem, ↓iO, iO, tN, hg, hul]; (repeat (refine anI ?_)); try (refine ⟨dcK, ?_⟩)) | ((first | refine itePos (by omega) ?_ | refine iteNeg (by omega) ?_); try simp [go_sem, ↓iO, iO, tN, hg, hul]) | (refine ⟨dcK, ?_⟩))
      refine CallK.fn (c2) [(0, 0)] [] [] (by kernel_rfl) ?_ ?_ ?_ (Or.inl rfl) ?_ <;> simp [go_sem, ↓iO, iO, tN, hg, hul]
      repeat (refine anI ?_)
      try (refine ⟨dcK, ?_⟩)
      refine CallK.fn (c3) [(0, 0), (1000, 636)] [] [] (by kernel_rfl) ?_ ?_ ?_ (Or.inl rfl) ?_ <;> simp [go_sem, ↓iO, iO, tN, hg, hul]
      repeat (refine anI ?_)
      try (refine ⟨dcK, ?_⟩)
      refine CW.closeRow 109 p 138 (.fw [.int w1, .int w2', .int w3] 38 6 ((hd ++ [(⟨x1, x2, x3, x4, x5, xv⟩ : Tg)]).map encTg)) (us := us) (e := 47) (s := 4) (e' := 38) (s' := 6) (xs := (hd ++ [(⟨x1, x2, x3, x4, x5, xv⟩ : Tg)]).map encTg) (ex := [(p, .ag [.t (.int w1), .t (.int w2'), .t (.int w3), .own 138])]) (by simp [go_sem]) (by simp [go_sem]) (by simp [go_sem]) (by rfl) ?_
      repeat (first | (refine nf1_sound rfl ?_; simp [go_sem, ↓iO, iO, tN]; (repeat (refine anI ?_)); try (refine ⟨dcK, ?_⟩)) | ((first | refine itePos (by omega) ?_ | refine iteNeg (by omega) ?_); try simp [go_sem, ↓iO, iO, tN]) | (refine ⟨dcK, ?_⟩))
      first | rw [RetQ_ret] | rw [RetQ_normal]
      refine ⟨[(0, some 0)], ?_⟩
      simp [go_sem, ↓iO, iO, tN, wkXs]
      simpa [encWt, encTg, go_sem] using hres
end Go.Proofs.Ytopmmodcaoaaeaa
