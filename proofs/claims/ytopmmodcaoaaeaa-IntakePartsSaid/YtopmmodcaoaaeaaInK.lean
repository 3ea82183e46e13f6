/- The reference's Same of an intake and itself; streams in parts. No condition. -/
import Derived.Test.YtopmmodcaoaaeaaInJ
import Derived.Test.YtopmmodcaoaaeaaInS
namespace Go.Proofs.Ytopmmodcaoaaeaa
open Go.RowKit Sy
open Go.IntWalk (iteOmega toNatUp)
set_option linter.unusedVariables false
set_option linter.unusedSimpArgs false
set_option maxRecDepth 100000 in
set_option maxHeartbeats 8000000 in
theorem rsameIn_fn (i : In) (ht : i.tail.length ≤ 1000000) (hs : i.sts.length ≤ 1000000) (hh : ∀ w ∈ i.sts, w.held.length ≤ 1000000 ∧ ∀ t ∈ w.held, t.vs.length ≤ 100000000) : FnOk Try.prog 16 [.t (encIn i), .t (encIn i)] [] (.t (.bool true)) [] := by
  obtain ⟨win, tail, sts⟩ := i
  dsimp only at ht hs hh
  refine FnOk.intro fact_mixed Try.func16 rfl Try.ntmps16 (by rfl) (by simp) ?_
  repeat (first | (refine nf1_sound rfl ?_; simp [go_sem, ↓iteOmega, iteOmega, toNatUp]; (repeat (refine And.intro (by omega) ?_)); try (refine ⟨DrawChk_of (by kernel_rfl), ?_⟩)) | (refine itePos (by omega) ?_; try simp [go_sem, ↓iteOmega, iteOmega, toNatUp]) | (refine iteNeg (by omega) ?_; try simp [go_sem, ↓iteOmega, iteOmega, toNatUp]) | (refine ⟨DrawChk_of (by kernel_rfl), ?_⟩))
  refine nf1_sound' _ _ _ ?_; simp only [nf1]
  refine CW.loop (ι := Nat) (fun k => ⟨[(2, .pt 502 [] 0), (3, .pt 503 [] 0), (33, .t (.int sts.length)), (34, .t (.int k))], [(502, .box 29 (.t (.agg [.int win, encUs tail, encWts sts]))), (503, .box 29 (.t (.agg [.int win, encUs tail, encWts sts])))]⟩) (fun k => k ≤ sts.length) (fun k => sts.length - k) 0 [(502, some 102), (503, some 103)] (Nat.zero_le _) ?_ ?_
  · simp [go_sem, ↓iteOmega, iteOmega, toNatUp]
  intro k hk
  by_cases hkl : k < sts.length
  · obtain ⟨w, hw⟩ := has_get hkl
    obtain ⟨h1, h2⟩ := hh w (mem_get hw)
    have c := ralike_fn w.held h1 h2
    repeat (first | (refine nf1_sound rfl ?_; simp [go_sem, ↓iteOmega, iteOmega, toNatUp, hw]; (repeat (refine And.intro (by omega) ?_)); try (refine ⟨DrawChk_of (by kernel_rfl), ?_⟩)) | (refine itePos (by omega) ?_; try simp [go_sem, ↓iteOmega, iteOmega, toNatUp, hw]) | (refine iteNeg (by omega) ?_; try simp [go_sem, ↓iteOmega, iteOmega, toNatUp, hw]) | (refine ⟨DrawChk_of (by kernel_rfl), ?_⟩))
    refine CallK.fn (c) [] [] [] (by kernel_rfl) (by simp [go_sem, ↓iteOmega, iteOmega, toNatUp]) (by simp [go_sem, ↓iteOmega, iteOmega, toNatUp]) (by simp [go_sem, ↓iteOmega, iteOmega, toNatUp]) (Or.inl rfl) ?_
    simp [go_sem, ↓iteOmega, iteOmega, toNatUp]
    repeat (refine And.intro (by omega) ?_)
    try (refine ⟨DrawChk_of (by kernel_rfl), ?_⟩)
    repeat (first | (refine nf1_sound rfl ?_; simp [go_sem, ↓iteOmega, iteOmega, toNatUp]; (repeat (refine And.intro (by omega) ?_)); try (refine ⟨DrawChk_of (by kernel_rfl), ?_⟩)) | (refine itePos (by omega) ?_; try simp [go_sem, ↓iteOmega, iteOmega, toNatUp]) | (refine iteNeg (by omega) ?_; try simp [go_sem, ↓iteOmega, iteOmega, toNatUp]) | (refine ⟨DrawChk_of (by kernel_rfl), ?_⟩))
    rw [RoundQ_normal]; refine ⟨k + 1, [(502, some 502), (503, some 503)], ?_, ?_, ?_⟩
    · omega
    · omega
    simp [go_sem, ↓iteOmega, iteOmega, toNatUp]
  · obtain rfl : k = sts.length := by omega
    repeat (first | (refine nf1_sound rfl ?_; simp [go_sem, ↓iteOmega, iteOmega, toNatUp]; (repeat (refine And.intro (by omega) ?_)); try (refine ⟨DrawChk_of (by kernel_rfl), ?_⟩)) | (refine itePos (by omega) ?_; try simp [go_sem, ↓iteOmega, iteOmega, toNatUp]) | (refine iteNeg (by omega) ?_; try simp [go_sem, ↓iteOmega, iteOmega, toNatUp]) | (refine ⟨DrawChk_of (by kernel_rfl), ?_⟩))
    first | rw [RetQ_ret] | rw [RetQ_normal]
    refine ⟨[], ?_⟩
    simp [go_sem, ↓iteOmega, iteOmega, toNatUp]
theorem InOk.same {i : In} (h : InOk i) : FnOk Try.prog 16 [.t (encIn i), .t (encIn i)] [] (.t (.bool true)) [] := by
  have h1 := h.tl
  have h2 := h.sl
  refine rsameIn_fn i (by omega) (by omega) (fun w hw => ?_)
  have hw' := h.each w hw
  have h3 := hw'.2.2.2.2.2.2.1
  have h4 := h.wx
  exact ⟨by omega, fun t ht => by have := (held_mem hw'.2.2.2.2.2.2.2 t ht).2.1.ln; omega⟩
theorem InOk.sized {i : In} (h : InOk i) (h8 : ∀ c ∈ i.tail, c < 256) : Sized i := by
  have h1 := h.tl
  have h2 := h.sl
  refine ⟨by omega, by omega, h8, fun w hw => ?_⟩
  have hw' := h.each w hw
  have h3 := hw'.2.2.2.2.2.2.1
  have h4 := h.wx
  exact ⟨by omega, fun t ht => by have := (held_mem hw'.2.2.2.2.2.2.2 t ht).2.1.ln; omega⟩
/-- What is given out is valid. -/
theorem accV_tgs {i : In} (h : InOk i) {x : Tg} (hx : TgOk x) : ∀ t ∈ (accV i x).2.1, TgOk t := by
  have hwin : 0 ≤ i.win := by have := h.wn; omega
  have new : ∀ p, ∀ t ∈ (newA i x p).2.1, TgOk t := fun p t ht => by
    unfold newA at ht
    split at ht
    · simp at ht
    · exact ((takeV_ok (newW_ok hx hwin) hx rfl hwin).2.2 t ht).2
  unfold accV
  rw [if_pos hx]
  unfold accA
  split
  · rename_i w hw
    split
    · rename_i hs
      intro t ht
      exact ((takeV_ok (h.each w (mem_get hw)) hx hs.symm hwin).2.2 t ht).2
    · exact new _
  · exact new _
/-- The frames of a stream, a frame having begun with s; and what is open at its end. -/
def scanO : Option (List Nat) → List Nat → List (List Nat)
  | _, [] => []
  | s, c :: r => if c = 126 then scanO (some [126]) r else if c = 124 then (match s with
    | some p => (p ++ [124]) :: scanO none r
    | none => scanO none r) else scanO (s.map fun p => p ++ [c]) r
def scanS : Option (List Nat) → List Nat → Option (List Nat)
  | s, [] => s
  | s, c :: r => if c = 126 then scanS (some [126]) r else if c = 124 then scanS none r else scanS (s.map fun p => p ++ [c]) r
theorem scanO_cons (s : Option (List Nat)) (c : Nat) (r : List Nat) : scanO s (c :: r) = if c = 126 then scanO (some [126]) r else if c = 124 then (match s with
    | some p => (p ++ [124]) :: scanO none r
    | none => scanO none r) else scanO (s.map fun p => p ++ [c]) r := by cases s <;> rfl
theorem scanS_cons (s : Option (List Nat)) (c : Nat) (r : List Nat) : scanS s (c :: r) = if c = 126 then scanS (some [126]) r else if c = 124 then scanS none r else scanS (s.map fun p => p ++ [c]) r := by cases s <;> rfl
theorem scan_app : ∀ (a b : List Nat) (s : Option (List Nat)), scanO s (a ++ b) = scanO s a ++ scanO (scanS s a) b ∧ scanS s (a ++ b) = scanS (scanS s a) b
  | [], b, s => by simp [scanO, scanS]
  | c :: r, b, s => by
    rw [List.cons_append, scanO_cons, scanS_cons, scanO_cons, scanS_cons]
    split
    · exact scan_app r b _
    · split
      · have ih := scan_app r b none
        refine ⟨?_, ih.2⟩
        cases s with
        | none => exact ih.1
        | some p => dsimp only; rw [ih.1]; rfl
      · exact scan_app r b _
theorem evs_scan : ∀ (r pre : List Nat) (bs : List Nat) (st : Option Nat), bs = pre ++ r → (∀ j, st = some j → j ≤ pre.length) →
    frsE bs (evs pre.length st r) = scanO (st.map fun j => pre.drop j) r ∧ tlE bs (evs pre.length st r) = (scanS (st.map fun j => pre.drop j) r).getD []
  | [], pre, bs, st, hb, hj => by
    cases st with
    | none => simp [evs, frsE, tlE, scanO, scanS]
    | some j =>
      rw [List.append_nil] at hb
      subst hb
      simp [evs, frsE, tlE, scanO, scanS]
  | c :: r, pre, bs, st, hb, hj => by
    have hb2 : bs = (pre ++ [c]) ++ r := by rw [hb]; simp
    have hl : (pre ++ [c]).length = pre.length + 1 := by simp
    by_cases h1 : c = 126
    · subst h1
      have ih := evs_scan r (pre ++ [126]) bs (some pre.length) hb2 (fun j e => by cases e; simp)
      rw [hl] at ih
      rw [evs_start]
      have e : (Option.map (fun j => List.drop j (pre ++ [126])) (some pre.length)) = some [126] := by simp
      rw [e] at ih
      rw [scanO_cons, scanS_cons, if_pos rfl, if_pos rfl]
      exact ih
    · by_cases h2 : c = 124
      · subst h2
        have ih := evs_scan r (pre ++ [124]) bs none hb2 (fun j e => by cases e)
        rw [hl] at ih
        rw [scanO_cons, scanS_cons, if_neg h1, if_pos rfl, if_neg h1, if_pos rfl]
        cases st with
        | none =>
          rw [evs_none]
          exact ih
        | some j =>
          have hj' := hj j rfl
          rw [evs_some]
          refine ⟨?_, ?_⟩
          · show frsE bs ((j, pre.length + 1, true) :: evs (pre.length + 1) none r) = _
            unfold frsE at ih ⊢
            rw [List.filter_cons, if_pos rfl, List.map_cons, ih.1]
            dsimp only [Option.map]
            congr 1
            rw [hb2, List.take_append_of_le_length (by rw [hl]; exact Nat.le_refl _), List.take_of_length_le (by rw [hl]; exact Nat.le_refl _), List.drop_append_of_le_length hj']
          · show tlE bs ((j, pre.length + 1, true) :: evs (pre.length + 1) none r) = _
            have : tlE bs ((j, pre.length + 1, true) :: evs (pre.length + 1) none r) = tlE bs (evs (pre.length + 1) none r) := rfl
            rw [this]
            exact ih.2
      · have ih := evs_scan r (pre ++ [c]) bs st hb2 (fun j e => by have := hj j e; rw [hl]; omega)
        rw [hl] at ih
        rw [evs_other _ _ _ _ h1 h2]
        rw [scanO_cons, scanS_cons, if_neg h1, if_neg h2, if_neg h1, if_neg h2]
        have e : (Option.map (fun j => List.drop j (pre ++ [c])) st) = (Option.map (fun p => p ++ [c]) (Option.map (fun j => List.drop j pre) st)) := by
          cases st with
          | none => rfl
          | some j => simp [List.drop_append_of_le_length (hj j rfl)]
        rw [e] at ih
        exact ih
theorem frV_scan (bs : List Nat) : frV bs = scanO none bs ∧ tlV bs = (scanS none bs).getD [] :=
  evs_scan bs [] bs none rfl (fun j e => by cases e)
/-- What is open at the end begins a frame, and ends none. -/
def openOk (p : List Nat) : Prop := ∃ r, p = 126 :: r ∧ ∀ c ∈ r, c ≠ 126 ∧ c ≠ 124
theorem scanS_open : ∀ (a : List Nat) (s : Option (List Nat)), (∀ p, s = some p → openOk p) → ∀ p, scanS s a = some p → openOk p
  | [], s, h => h
  | c :: r, s, h => by
    rw [scanS_cons]
    split
    · exact scanS_open r _ (fun p e => by cases e; exact ⟨[], rfl, by simp⟩)
    · rename_i h1
      split
      · exact scanS_open r _ (fun p e => by cases e)
      · rename_i h2
        refine scanS_open r _ (fun p e => ?_)
        cases s with
        | none => cases e
        | some q =>
          cases e
          obtain ⟨q', rfl, hq⟩ := h q rfl
          refine ⟨q' ++ [c], rfl, fun x hx => ?_⟩
          rcases List.mem_append.1 hx with hx | hx
          · exact hq x hx
          · simp at hx; subst hx; exact ⟨h1, h2⟩
theorem scan_plain : ∀ (r p : List Nat), (∀ c ∈ r, c ≠ 126 ∧ c ≠ 124) → scanS (some p) r = some (p ++ r) ∧ scanO (some p) r = []
  | [], p, _ => by simp [scanO, scanS]
  | c :: r, p, h => by
    have hc := h c (List.mem_cons_self ..)
    rw [scanO_cons, scanS_cons, if_neg hc.1, if_neg hc.2, if_neg hc.1, if_neg hc.2]
    have ih := scan_plain r (p ++ [c]) (fun x hx => h x (List.mem_cons_of_mem _ hx))
    refine ⟨?_, ih.2⟩
    rw [show Option.map (fun p => p ++ [c]) (some p) = some (p ++ [c]) from rfl, ih.1]
    simp
theorem scan_open {p : List Nat} (h : openOk p) : scanS none p = some p ∧ scanO none p = [] := by
  obtain ⟨r, rfl, hr⟩ := h
  rw [scanO_cons, scanS_cons, if_pos rfl, if_pos rfl]
  exact scan_plain r [126] hr
theorem tailOk_open {l : List Nat} (h : tailOk l) : l = [] ∨ openOk l := by
  rcases h with h | ⟨h1, h2, h3⟩
  · exact .inl h
  · right
    cases l with
    | nil => cases h1
    | cons a r =>
      obtain rfl := Option.some.inj h1
      refine ⟨r, rfl, fun c hc => ⟨fun e => ?_, fun e => h3 (List.mem_cons_of_mem _ (e ▸ hc))⟩⟩
      subst e
      obtain ⟨i, hi⟩ := List.mem_iff_getElem?.1 hc
      exact h2 ⟨i + 1, by omega, by simpa using hi⟩
theorem open_tailOk {l : List Nat} (h : openOk l) : tailOk l := by
  obtain ⟨r, rfl, hr⟩ := h
  refine .inr ⟨rfl, ?_, ?_⟩
  · rintro ⟨i, hi, h⟩
    obtain ⟨j, rfl⟩ : ∃ j, i = j + 1 := ⟨i - 1, by omega⟩
    exact (hr 126 (List.mem_iff_getElem?.2 ⟨j, by simpa using h⟩)).1 rfl
  · intro h
    rcases List.mem_cons.1 h with h | h
    · omega
    · exact (hr 124 h).2 rfl
def stO (l : List Nat) : Option (List Nat) := if l = [] then none else some l
theorem scan_tail {l : List Nat} (h : tailOk l) : scanS none l = stO l ∧ scanO none l = [] := by
  unfold stO
  rcases tailOk_open h with rfl | h
  · exact ⟨rfl, rfl⟩
  · obtain ⟨r, hr, _⟩ := id h
    rw [if_neg (by rw [hr]; simp)]
    exact scan_open h
/-- Folding from a list that is given. -/
theorem stepF_acc (s : In) (o : List Tg) (f : List Nat) : stepF (s, o) f = ((stepF (s, []) f).1, o ++ (stepF (s, []) f).2) := by
  unfold stepF
  split <;> simp
theorem fold_acc : ∀ (fs : List (List Nat)) (s : In) (o : List Tg), fs.foldl stepF (s, o) = ((fs.foldl stepF (s, [])).1, o ++ (fs.foldl stepF (s, [])).2)
  | [], s, o => by simp
  | f :: r, s, o => by
    rw [List.foldl_cons, List.foldl_cons, stepF_acc]
    rw [show stepF (s, []) f = ((stepF (s, []) f).1, (stepF (s, []) f).2) from rfl]
    rw [fold_acc r _ (o ++ _), fold_acc r _ ((stepF (s, []) f).2)]
    simp
/-- The tail plays no part. -/
def wt (i : In) (t : List Nat) : In := ⟨i.win, t, i.sts⟩
theorem accA_tail (i : In) (t : List Nat) (x : Tg) (p : Nat) : accA (wt i t) x p = (wt (accA i x p).1 t, (accA i x p).2) := by
  unfold accA newA wt
  dsimp only
  cases i.sts[p]? with
  | none => dsimp only; split <;> rfl
  | some w => dsimp only; split <;> (try split) <;> rfl
theorem accV_tail (i : In) (t : List Nat) (x : Tg) : accV (wt i t) x = (wt (accV i x).1 t, (accV i x).2) := by
  unfold accV
  split
  · exact accA_tail i t x _
  · rfl
theorem fold_tail : ∀ (fs : List (List Nat)) (i : In) (t : List Nat) (o : List Tg), fs.foldl stepF (wt i t, o) = (wt (fs.foldl stepF (i, o)).1 t, (fs.foldl stepF (i, o)).2)
  | [], i, t, o => rfl
  | f :: r, i, t, o => by
    rw [List.foldl_cons, List.foldl_cons]
    have e : stepF (wt i t, o) f = (wt (stepF (i, o) f).1 t, (stepF (i, o) f).2) := by
      unfold stepF
      dsimp only
      split
      · rw [accV_tail]
      · rfl
    rw [e]
    exact fold_tail r _ t _
/-- A frame that is too long is not read. -/
theorem long_skip {s : In × List Tg} {f : List Nat} (h : 400 < f.length) : stepF s f = s := by
  unfold stepF
  have : (decV f).2 = 4 := by unfold decV; rw [if_pos h]
  rw [this, if_neg (by omega)]
theorem long_open : ∀ (b : List Nat) (p : List Nat) (s : In × List Tg), 400 < p.length → (scanO (some p) b).foldl stepF s = (scanO none b).foldl stepF s ∧ cutT ((scanS (some p) b).getD []) = cutT ((scanS none b).getD [])
  | [], p, s, h => by simp [scanO, scanS, cutT, h]
  | c :: r, p, s, h => by
    rw [scanO_cons, scanS_cons, scanO_cons, scanS_cons]
    split
    · exact ⟨rfl, rfl⟩
    · split
      · refine ⟨?_, rfl⟩
        dsimp only
        rw [List.foldl_cons, long_skip (by simp; omega)]
      · exact long_open r (p ++ [c]) s (by simp; omega)
theorem InOk.wt {i : In} (h : InOk i) {t : List Nat} (h1 : t.length ≤ 400) (h2 : tailOk t) : InOk (wt i t) := ⟨h.wn, h.wx, by show ¬ 400 < t.length; omega, h.sl, h2, h.st⟩
theorem fold_ok {i : In} (h : InOk i) (fs : List (List Nat)) : InOk (fs.foldl stepF (i, [])).1 := by
  obtain ⟨L, g, _, _, _, h1, h2, h3⟩ := feed_ex i h fs
  unfold foldF at h1
  rw [h1]
  exact (h3 _).1
theorem cut_ok (bs : List Nat) : (cutT ((scanS none bs).getD [])).length ≤ 400 ∧ tailOk (cutT ((scanS none bs).getD [])) := by
  unfold cutT
  split
  · exact ⟨by simp, .inl rfl⟩
  · refine ⟨by omega, ?_⟩
    cases h : scanS none bs with
    | none => exact .inl rfl
    | some p => exact open_tailOk (scanS_open bs none (fun p e => by cases e) p h)
theorem feedV_eq (i : In) (b : List Nat) : feedV i b = (wt ((scanO none (i.tail ++ b)).foldl stepF (i, [])).1 (cutT ((scanS none (i.tail ++ b)).getD [])), ((scanO none (i.tail ++ b)).foldl stepF (i, [])).2) := by
  unfold feedV foldF
  rw [(frV_scan _).1, (frV_scan _).2]
  rfl
theorem feedV_ok {i : In} (h : InOk i) (b : List Nat) : InOk (feedV i b).1 := by
  rw [feedV_eq]
  exact (fold_ok h _).wt (cut_ok _).1 (cut_ok _).2
theorem feedV_8 {i : In} {b : List Nat} (h1 : ∀ c ∈ i.tail, c < 256) (h2 : ∀ c ∈ b, c < 256) : ∀ c ∈ (feedV i b).1.tail, c < 256 := by
  intro c hc
  have : c ∈ cutT (tlV (i.tail ++ b)) := hc
  unfold cutT at this
  split at this
  · simp at this
  · rcases List.mem_append.1 ((tlV_mem _).2 c this) with h | h
    · exact h1 c h
    · exact h2 c h
theorem fold_tgs : ∀ (fs : List (List Nat)) (s : In × List Tg), (∀ f ∈ fs, ∀ c ∈ f, c < 256) → InOk s.1 → (∀ t ∈ s.2, TgOk t) → ∀ t ∈ (fs.foldl stepF s).2, TgOk t
  | [], s, _, _, h => h
  | f :: r, s, h8, hs, h => by
    rw [List.foldl_cons]
    refine fold_tgs r _ (fun g hg => h8 g (List.mem_cons_of_mem _ hg)) (stepF_ok hs f).1 ?_
    unfold stepF
    split
    · rename_i he
      have hd : decV f = ((decV f).1, 0) := by rw [← he]
      have htk := (dec_back (h8 f (List.mem_cons_self ..)) hd).1
      intro t ht
      rcases List.mem_append.1 ht with ht | ht
      · exact h t ht
      · exact accV_tgs hs htk t ht
    · exact h
theorem feedV_tgs {i : In} (h : InOk i) (h8 : ∀ c ∈ i.tail, c < 256) {b : List Nat} (hb : ∀ c ∈ b, c < 256) : ∀ t ∈ (feedV i b).2, TgOk t := by
  refine fold_tgs (frV (i.tail ++ b)) (i, []) (fun f hf c hc => ?_) h (by simp)
  rcases List.mem_append.1 ((frV_mem hf).2 c hc) with h | h
  · exact h8 c h
  · exact hb c h
theorem feedV_len {i : In} (h : InOk i) (b : List Nat) : (feedV i b).2.length ≤ 17 * (i.tail.length + b.length + 1) := by
  obtain ⟨_, g, _, _, _, _, hg, hok⟩ := feed_ex i h (frV (i.tail ++ b))
  have e : (feedV i b).2 = (foldF i (frV (i.tail ++ b))).2 := rfl
  rw [e, hg]
  have h1 := (hok (frV (i.tail ++ b)).length).2
  have h2 := frV_len (i.tail ++ b)
  rw [List.length_append] at h2
  omega
/-- A stream in two parts. -/
theorem feed_two {i : In} (h : InOk i) (a b : List Nat) : feedV i (a ++ b) = ((feedV (feedV i a).1 b).1, (feedV i a).2 ++ (feedV (feedV i a).1 b).2) := by
  obtain ⟨e1, e2⟩ := scan_app (i.tail ++ a) b none
  obtain ⟨T, hT⟩ : ∃ T, scanS none (i.tail ++ a) = T := ⟨_, rfl⟩
  obtain ⟨A, hA⟩ : ∃ A, (scanO none (i.tail ++ a)).foldl stepF (i, []) = A := ⟨_, rfl⟩
  have hTo : ∀ p, T = some p → openOk p := by rw [← hT]; exact scanS_open _ none (fun p e => by cases e)
  rw [hT] at e1 e2
  rw [feedV_eq i (a ++ b), feedV_eq i a, ← List.append_assoc, e1, e2, hT, hA, List.foldl_append, hA, feedV_eq]
  dsimp only
  rw [show (wt A.1 (cutT (T.getD []))).tail = cutT (T.getD []) from rfl]
  have key : ∀ fs : List (List Nat), fs.foldl stepF A = ((fs.foldl stepF (A.1, [])).1, A.2 ++ (fs.foldl stepF (A.1, [])).2) := fun fs => fold_acc fs A.1 A.2
  rw [key]
  have fin : ∀ (fs : List (List Nat)) (t u : List Nat), wt (fs.foldl stepF (wt A.1 t, [])).1 u = wt (fs.foldl stepF (A.1, [])).1 u ∧ (fs.foldl stepF (wt A.1 t, [])).2 = (fs.foldl stepF (A.1, [])).2 := fun fs t u => by
    rw [fold_tail]
    exact ⟨rfl, rfl⟩
  have goal : ∀ x : List Nat, ((scanO none (x ++ b)).foldl stepF (A.1, [])) = ((scanO T b).foldl stepF (A.1, [])) → cutT ((scanS none (x ++ b)).getD []) = cutT ((scanS T b).getD []) →
      (wt ((scanO T b).foldl stepF (A.1, [])).1 (cutT ((scanS T b).getD [])), A.2 ++ ((scanO T b).foldl stepF (A.1, [])).2) = (wt ((scanO none (x ++ b)).foldl stepF (wt A.1 x, [])).1 (cutT ((scanS none (x ++ b)).getD [])), A.2 ++ ((scanO none (x ++ b)).foldl stepF (wt A.1 x, [])).2) := fun x h1 h2 => by
    rw [(fin _ _ _).1, (fin _ x []).2, h1, h2]
  apply goal
  · cases T with
    | none => rfl
    | some p =>
      show (scanO none (cutT p ++ b)).foldl stepF _ = _
      unfold cutT
      split
      · rename_i hp
        exact (long_open b p _ hp).1.symm
      · rw [(scan_app p b none).1, (scan_open (hTo p rfl)).1, (scan_open (hTo p rfl)).2]
        rfl
  · cases T with
    | none => rfl
    | some p =>
      show cutT ((scanS none (cutT p ++ b)).getD []) = _
      conv => lhs; rw [cutT.eq_1 p]
      split
      · rename_i hp
        exact (long_open b p (A.1, []) hp).2.symm
      · rw [(scan_app p b none).2, (scan_open (hTo p rfl)).1]
end Go.Proofs.Ytopmmodcaoaaeaa
