/- The law's stream: telegrams as bytes, with damage. No condition. -/
import Derived.Test.YtopmmodcaoaaeaaInSu
import Derived.Test.YtopmmodcaoaaeaaTgK
import Derived.Test.YtopmmodcaoaaeaaTgL
import Derived.Test.YtopmmodcaoaaeaaTgI
namespace Go.Proofs.Ytopmmodcaoaaeaa
open Go.RowKit Sy
open Go.IntWalk (iteOmega toNatUp)
set_option linter.unusedVariables false
set_option linter.unusedSimpArgs false
/-- A telegram as the reader draws it. -/
structure DrTg (t : Tg) : Prop where
  ep : 0 ≤ t.ep ∧ t.ep < 3
  sq : 0 ≤ t.sq ∧ t.sq < 6
  tm : t.tm ∈ [0, 125, 63, 62, 1099511627776]
  kd : 0 ≤ t.kd ∧ t.kd < 64
  ln : t.vs.length ≤ 3
  vs : ∀ v ∈ t.vs, v ∈ [0, -1, 62, 63, -63, -62, 9007199254740992, -9007199254740992, 126, 1000]
set_option maxRecDepth 100000 in
set_option maxHeartbeats 8000000 in
theorem telegram_ex2 {l : List Int} {k : Nat} (h : SrcOk l k) (st : Int) (hst : 0 ≤ st ∧ st ≤ 255) :
    ∃ k' t, SrcOk l k' ∧ TgOk t ∧ t.st = st ∧ DrTg t ∧ FnOk Try.prog 17 [.pt 0 [] 0, .t (.int st)] [(0, srcB l k)] (tgS t 1000) [(0, srcB l k'), (1000, blkI t.vs)] := by
  obtain ⟨ep, hep, c1⟩ := n_ex h 3 (by omega) (by omega)
  obtain ⟨sq, hsq, c2⟩ := n_ex h.next 6 (by omega) (by omega)
  obtain ⟨tm, htm, c3⟩ := pick_ex h.next.next [0, 125, 63, 62, 1099511627776] (by simp) (by simp)
  obtain ⟨kd, hkd, c4⟩ := n_ex h.next.next.next 64 (by omega) (by omega)
  obtain ⟨n, hn, c5⟩ := n_ex h.next.next.next.next 4 (by omega) (by omega)
  obtain ⟨K, V, x, K0, V0, hj⟩ := draws_ex h.next.next.next.next.next [0, -1, 62, 63, -63, -62, 9007199254740992, -9007199254740992, 126, 1000] (by simp) (by simp)
  obtain ⟨_, _, f3, f4, f5, _⟩ := hj n.toNat
  refine ⟨K n.toNat, ⟨st, ep, sq, tm, kd, V n.toNat⟩, f3, ⟨hst, by dsimp only; omega, by dsimp only; omega, ?_, by dsimp only; omega, by dsimp only; omega, ?_⟩, rfl, ⟨hep, hsq, htm, hkd, by dsimp only; omega, f5⟩, ?_⟩
  · simp only [List.mem_cons, List.not_mem_nil, or_false] at htm
    dsimp only
    omega
  · intro v hv
    have := f5 v hv
    simp only [List.mem_cons, List.not_mem_nil, or_false] at this
    unfold okN
    omega
  clear f3 f4 f5 htm
  refine FnOk.intro fact_mixed Try.func17 rfl Try.ntmps17 (by rfl) (by simp) ?_
  repeat (first | (refine nf1_sound rfl ?_; simp [go_sem, ↓iteOmega, iteOmega, toNatUp]; (repeat (refine And.intro (by omega) ?_)); try (refine ⟨DrawChk_of (by kernel_rfl), ?_⟩)) | (refine itePos (by omega) ?_; try simp [go_sem, ↓iteOmega, iteOmega, toNatUp]) | (refine iteNeg (by omega) ?_; try simp [go_sem, ↓iteOmega, iteOmega, toNatUp]) | (refine ⟨DrawChk_of (by kernel_rfl), ?_⟩))
  refine CallK.fn (c1) [(0, 0)] [] [] (by kernel_rfl) (by simp [go_sem, ↓iteOmega, iteOmega, toNatUp]) (by simp [go_sem, ↓iteOmega, iteOmega, toNatUp]) (by simp [go_sem, ↓iteOmega, iteOmega, toNatUp]) (Or.inl rfl) ?_
  simp [go_sem, ↓iteOmega, iteOmega, toNatUp]
  repeat (refine And.intro (by omega) ?_)
  try (refine ⟨DrawChk_of (by kernel_rfl), ?_⟩)
  refine CallK.fn (c2) [(0, 0)] [] [] (by kernel_rfl) (by simp [go_sem, ↓iteOmega, iteOmega, toNatUp]) (by simp [go_sem, ↓iteOmega, iteOmega, toNatUp]) (by simp [go_sem, ↓iteOmega, iteOmega, toNatUp]) (Or.inl rfl) ?_
  simp [go_sem, ↓iteOmega, iteOmega, toNatUp]
  repeat (refine And.intro (by omega) ?_)
  try (refine ⟨DrawChk_of (by kernel_rfl), ?_⟩)
  refine CallK.fn (c3) [(0, 0)] [] [113] (by kernel_rfl) (by simp [go_sem, ↓iteOmega, iteOmega, toNatUp]) (by simp [go_sem, ↓iteOmega, iteOmega, toNatUp]) (by simp [go_sem, ↓iteOmega, iteOmega, toNatUp]) (Or.inl rfl) ?_
  simp [go_sem, ↓iteOmega, iteOmega, toNatUp]
  repeat (refine And.intro (by omega) ?_)
  try (refine ⟨DrawChk_of (by kernel_rfl), ?_⟩)
  refine CallK.fn (c4) [(0, 0)] [] [] (by kernel_rfl) (by simp [go_sem, ↓iteOmega, iteOmega, toNatUp]) (by simp [go_sem, ↓iteOmega, iteOmega, toNatUp]) (by simp [go_sem, ↓iteOmega, iteOmega, toNatUp]) (Or.inl rfl) ?_
  simp [go_sem, ↓iteOmega, iteOmega, toNatUp]
  repeat (refine And.intro (by omega) ?_)
  try (refine ⟨DrawChk_of (by kernel_rfl), ?_⟩)
  repeat (first | (refine nf1_sound rfl ?_; simp [go_sem, ↓iteOmega, iteOmega, toNatUp]; (repeat (refine And.intro (by omega) ?_)); try (refine ⟨DrawChk_of (by kernel_rfl), ?_⟩)) | (refine itePos (by omega) ?_; try simp [go_sem, ↓iteOmega, iteOmega, toNatUp]) | (refine iteNeg (by omega) ?_; try simp [go_sem, ↓iteOmega, iteOmega, toNatUp]) | (refine ⟨DrawChk_of (by kernel_rfl), ?_⟩))
  refine CallK.fn (c5) [(0, 0)] [] [] (by kernel_rfl) (by simp [go_sem, ↓iteOmega, iteOmega, toNatUp]) (by simp [go_sem, ↓iteOmega, iteOmega, toNatUp]) (by simp [go_sem, ↓iteOmega, iteOmega, toNatUp]) (Or.inl rfl) ?_
  simp [go_sem, ↓iteOmega, iteOmega, toNatUp]
  repeat (refine And.intro (by omega) ?_)
  try (refine ⟨DrawChk_of (by kernel_rfl), ?_⟩)
  repeat (first | (refine nf1_sound rfl ?_; simp [go_sem, ↓iteOmega, iteOmega, toNatUp]; (repeat (refine And.intro (by omega) ?_)); try (refine ⟨DrawChk_of (by kernel_rfl), ?_⟩)) | (refine itePos (by omega) ?_; try simp [go_sem, ↓iteOmega, iteOmega, toNatUp]) | (refine iteNeg (by omega) ?_; try simp [go_sem, ↓iteOmega, iteOmega, toNatUp]) | (refine ⟨DrawChk_of (by kernel_rfl), ?_⟩))
  refine nf1_sound' _ _ _ ?_; simp only [nf1]
  refine CW.loop (ι := Nat) (fun j => ⟨[(0, .pt 0 [] 0), (4, .pt 504 [] 0), (5, .pt 505 [] 0), (6, .t (.int (n - j)))], [(0, srcB l (K j)), (504, .box 38 (.t (.agg [.int 0, .int 0, .int 0, .int 0, .int 0, .nil]))), (505, .box 38 (tgS ⟨st, ep, sq, tm, kd, V j⟩ 500)), (500, blkI (V j))]⟩) (fun j => (j : Int) ≤ n) (fun j => n.toNat - j) 0 [(0, some 0), (504, some 104), (505, some 105), (500, none)] (by omega) ?_ ?_
  · simp [go_sem, ↓iteOmega, iteOmega, toNatUp, V0, K0, wkXs]
  intro j hjn
  obtain ⟨e1, e2, e3, e4, e5, ce⟩ := hj j
  by_cases hb : (j : Int) < n
  · repeat (first | (refine nf1_sound rfl ?_; simp [go_sem, ↓iteOmega, iteOmega, toNatUp]; (repeat (refine And.intro (by omega) ?_)); try (refine ⟨DrawChk_of (by kernel_rfl), ?_⟩)) | (refine itePos (by omega) ?_; try simp [go_sem, ↓iteOmega, iteOmega, toNatUp]) | (refine iteNeg (by omega) ?_; try simp [go_sem, ↓iteOmega, iteOmega, toNatUp]) | (refine ⟨DrawChk_of (by kernel_rfl), ?_⟩))
    refine CallK.fn (ce) [(0, 0)] [] [127] (by kernel_rfl) (by simp [go_sem, ↓iteOmega, iteOmega, toNatUp]) (by simp [go_sem, ↓iteOmega, iteOmega, toNatUp]) (by simp [go_sem, ↓iteOmega, iteOmega, toNatUp]) (Or.inl rfl) ?_
    simp [go_sem, ↓iteOmega, iteOmega, toNatUp]
    repeat (refine And.intro (by omega) ?_)
    try (refine ⟨DrawChk_of (by kernel_rfl), ?_⟩)
    repeat (first | (refine nf1_sound rfl ?_; simp [go_sem, ↓iteOmega, iteOmega, toNatUp]; (repeat (refine And.intro (by omega) ?_)); try (refine ⟨DrawChk_of (by kernel_rfl), ?_⟩)) | (refine itePos (by omega) ?_; try simp [go_sem, ↓iteOmega, iteOmega, toNatUp]) | (refine iteNeg (by omega) ?_; try simp [go_sem, ↓iteOmega, iteOmega, toNatUp]) | (refine ⟨DrawChk_of (by kernel_rfl), ?_⟩))
    rw [RoundQ_normal]; refine ⟨j + 1, [(0, some 0), (504, some 504), (505, some 505), (500, some 130)], ?_, ?_, ?_⟩
    · omega
    · omega
    simp [go_sem, ↓iteOmega, iteOmega, toNatUp, e2]
    omega
  · have hjn2 : n.toNat = j := by omega
    repeat (first | (refine nf1_sound rfl ?_; simp [go_sem, ↓iteOmega, iteOmega, toNatUp]; (repeat (refine And.intro (by omega) ?_)); try (refine ⟨DrawChk_of (by kernel_rfl), ?_⟩)) | (refine itePos (by omega) ?_; try simp [go_sem, ↓iteOmega, iteOmega, toNatUp]) | (refine iteNeg (by omega) ?_; try simp [go_sem, ↓iteOmega, iteOmega, toNatUp]) | (refine ⟨DrawChk_of (by kernel_rfl), ?_⟩))
    first | rw [RetQ_ret] | rw [RetQ_normal]
    refine ⟨[(0, some 0), (1000, some 500)], ?_⟩
    simp [go_sem, ↓iteOmega, iteOmega, toNatUp, hjn2]
/-- One thing is changed in a frame, or a byte is put ahead of it. -/
def pks : List Int := [0, 124, 125, 126, 200]
def Chg (f f' ins : List Nat) : Prop := (∃ p v, p < f.length ∧ v ∈ [0, 124, 125, 126, 200] ∧ f' = f.set p v ∧ ins = []) ∨ (∃ k, k < f.length ∧ f' = f.take k ∧ ins = []) ∨ (∃ v, v ∈ [0, 124, 125, 126, 200] ∧ f' = f ∧ ins = [v]) ∨ (f' = f ∧ ins = [])
def StrStep (g : List Nat) : Prop := ∃ t f' ins, TgOk t ∧ DrTg t ∧ (0 ≤ t.st ∧ t.st < 3) ∧ Chg (Wire.stuff (insideV t)) f' ins ∧ (g = ins ++ f' ∨ g = ins ++ f' ++ f')
inductive Strm : Nat → List Nat → Prop
  | nil : Strm 0 []
  | app {n : Nat} {b g : List Nat} : Strm n b → StrStep g → Strm (n + 1) (b ++ g)
def frmV (l : List Int) (f : List Nat) (k : Nat) (n : Int) : Nat × List Nat × List Nat :=
  if n = 0 then (nextK l (nextK l k), f.set (nV l k f.length).toNat (pickV l (nextK l k) pks).toNat, [])
  else if n = 1 then (nextK l k, f.take (nV l k f.length).toNat, [])
  else if n = 2 then (nextK l k, f, [(pickV l k pks).toNat]) else (k, f, [])
def sgV (l : List Int) (k : Nat) (f acc : List Nat) : Nat × List Nat :=
  (nextK l (frmV l f (nextK l k) (nV l k 6)).1, acc ++ (frmV l f (nextK l k) (nV l k 6)).2.2 ++ (frmV l f (nextK l k) (nV l k 6)).2.1 ++ (if nV l (frmV l f (nextK l k) (nV l k 6)).1 5 = 0 then (frmV l f (nextK l k) (nV l k 6)).2.1 else []))
theorem pks_nat {v : Int} (h : v ∈ pks) : ∃ c : Nat, v = (c : Int) ∧ c ∈ [0, 124, 125, 126, 200] := by
  unfold pks at h
  simp only [List.mem_cons, List.not_mem_nil, or_false] at h
  rcases h with rfl | rfl | rfl | rfl | rfl
  · exact ⟨0, rfl, by simp⟩
  · exact ⟨124, rfl, by simp⟩
  · exact ⟨125, rfl, by simp⟩
  · exact ⟨126, rfl, by simp⟩
  · exact ⟨200, rfl, by simp⟩
theorem pk_lt {c : Nat} (h : c ∈ [0, 124, 125, 126, 200]) : c < 256 := by
  simp only [List.mem_cons, List.not_mem_nil, or_false] at h
  omega
theorem frmV_ok {l : List Int} {k : Nat} (h : SrcOk l k) (f : List Nat) (hf : 1 ≤ f.length) (n : Int) : SrcOk l (frmV l f k n).1 ∧ Chg f (frmV l f k n).2.1 (frmV l f k n).2.2 := by
  unfold frmV Chg
  have hr := nV_range (l := l) (k := k) (n := (f.length : Int)) (by omega)
  split
  · obtain ⟨c, hc, hm⟩ := pks_nat (pickV_mem (l := l) (k := nextK l k) (xs := pks) (by simp [pks]))
    exact ⟨h.next.next, .inl ⟨_, _, by omega, by rw [hc]; simpa using hm, rfl, rfl⟩⟩
  · split
    · exact ⟨h.next, .inr (.inl ⟨_, by omega, rfl, rfl⟩)⟩
    · split
      · obtain ⟨c, hc, hm⟩ := pks_nat (pickV_mem (l := l) (k := k) (xs := pks) (by simp [pks]))
        exact ⟨h.next, .inr (.inr (.inl ⟨_, by rw [hc]; simpa using hm, rfl, rfl⟩))⟩
      · exact ⟨h, .inr (.inr (.inr ⟨rfl, rfl⟩))⟩
theorem sgV_ok {l : List Int} {k : Nat} (h : SrcOk l k) {t : Tg} (ht : TgOk t) (hd : DrTg t) (hs : 0 ≤ t.st ∧ t.st < 3) (acc : List Nat) : SrcOk l (sgV l k (Wire.stuff (insideV t)) acc).1 ∧ ∃ g, StrStep g ∧ (sgV l k (Wire.stuff (insideV t)) acc).2 = acc ++ g := by
  have hf : 1 ≤ (Wire.stuff (insideV t)).length := by rw [Wire.stuff_length]; omega
  obtain ⟨h1, h2⟩ := frmV_ok h.next (Wire.stuff (insideV t)) hf (nV l k 6)
  refine ⟨h1.next, (frmV l (Wire.stuff (insideV t)) (nextK l k) (nV l k 6)).2.2 ++ (frmV l (Wire.stuff (insideV t)) (nextK l k) (nV l k 6)).2.1 ++ (if nV l (frmV l (Wire.stuff (insideV t)) (nextK l k) (nV l k 6)).1 5 = 0 then (frmV l (Wire.stuff (insideV t)) (nextK l k) (nV l k 6)).2.1 else []), ⟨t, _, _, ht, hd, hs, h2, ?_⟩, by unfold sgV; simp only [List.append_assoc]⟩
  split
  · right; simp only [List.append_assoc]
  · left; simp only [List.append_nil]
theorem chg_mem {f f' ins : List Nat} (h : Chg f f' ins) (h8 : ∀ c ∈ f, c < 256) : (∀ c ∈ f', c < 256) ∧ (∀ c ∈ ins, c < 256) ∧ f'.length ≤ f.length ∧ ins.length ≤ 1 := by
  rcases h with ⟨p, v, _, h2, rfl, rfl⟩ | ⟨k, _, rfl, rfl⟩ | ⟨v, h2, rfl, rfl⟩ | ⟨rfl, rfl⟩
  · refine ⟨fun c hc => ?_, by simp, by simp, by simp⟩
    rcases List.mem_or_eq_of_mem_set hc with h | h
    · exact h8 c h
    · rw [h]; exact pk_lt h2
  · exact ⟨fun c hc => h8 c (List.mem_of_mem_take hc), by simp, by simp; omega, by simp⟩
  · exact ⟨h8, by simpa using pk_lt h2, by simp, by simp⟩
  · exact ⟨h8, by simp, by simp, by simp⟩
theorem frame_facts {t : Tg} (ht : TgOk t) : (∀ c ∈ Wire.stuff (insideV t), c < 256) ∧ (Wire.stuff (insideV t)).length ≤ 400 ∧ 1 ≤ (Wire.stuff (insideV t)).length :=
  ⟨Wire.stuff_lt (sealV_b8 (putL_b8 (numsL t))), (dec_enc ht).1, by rw [Wire.stuff_length]; omega⟩
theorem step_len {g : List Nat} (h : StrStep g) : g.length ≤ 801 ∧ ∀ c ∈ g, c < 256 := by
  obtain ⟨t, f', ins, ht, _, _, hc, hg⟩ := h
  obtain ⟨h8, hl, _⟩ := frame_facts ht
  obtain ⟨c1, c2, c3, c4⟩ := chg_mem hc h8
  rcases hg with rfl | rfl
  · refine ⟨by simp; omega, fun c hc => ?_⟩
    rcases List.mem_append.1 hc with h | h
    · exact c2 c h
    · exact c1 c h
  · refine ⟨by simp; omega, fun c hc => ?_⟩
    rcases List.mem_append.1 hc with h | h
    · rcases List.mem_append.1 h with h | h
      · exact c2 c h
      · exact c1 c h
    · exact c1 c h
theorem Strm.len {n : Nat} {b : List Nat} (h : Strm n b) : b.length ≤ 801 * n ∧ ∀ c ∈ b, c < 256 := by
  induction h with
  | nil => simp
  | app _ hg ih =>
    obtain ⟨h1, h2⟩ := step_len hg
    refine ⟨by simp; omega, fun c hc => ?_⟩
    rcases List.mem_append.1 hc with h | h
    · exact ih.2 c h
    · exact h2 c h
set_option maxRecDepth 100000 in
set_option maxHeartbeats 32000000 in
theorem stream_ex {l : List Int} {k : Nat} (h : SrcOk l k) : ∃ k' bs n, SrcOk l k' ∧ Strm n bs ∧ n ≤ 13 ∧ FnOk Try.prog 19 [.pt 0 [] 0] [(0, srcB l k)] (.own 1000) [(0, srcB l k'), (1000, blkU bs)] := by
  have htel : ∀ s : Nat × Int, ∃ r : Nat × Tg, SrcOk l s.1 → 0 ≤ s.2 ∧ s.2 < 3 → SrcOk l r.1 ∧ TgOk r.2 ∧ r.2.st = s.2 ∧ DrTg r.2 ∧ FnOk Try.prog 17 [.pt 0 [] 0, .t (.int s.2)] [(0, srcB l s.1)] (tgS r.2 1000) [(0, srcB l r.1), (1000, blkI r.2.vs)] := by
    intro s
    by_cases h1 : SrcOk l s.1 ∧ 0 ≤ s.2 ∧ s.2 < 3
    · obtain ⟨k', t, a1, a2, a3, a4, a5⟩ := telegram_ex2 h1.1 s.2 (by omega)
      exact ⟨(k', t), fun _ _ => ⟨a1, a2, a3, a4, a5⟩⟩
    · exact ⟨(0, tg0), fun a b => absurd ⟨a, b⟩ h1⟩
  obtain ⟨T, hT⟩ := Classical.skolem.1 htel
  obtain ⟨n0, hn0, c0⟩ := n_ex h 14 (by omega) (by omega)
  obtain ⟨n, rfl⟩ : ∃ n : Nat, n0 = (n : Int) := ⟨n0.toNat, by omega⟩
  obtain ⟨F, hF⟩ : ∃ F : Nat × List Nat → Nat × List Nat, ∀ s, F s = sgV l (T (nextK l s.1, nV l s.1 3)).1 (Wire.stuff (insideV (T (nextK l s.1, nV l s.1 3)).2)) s.2 := ⟨fun s => _, fun s => rfl⟩
  have hinv : ∀ j, SrcOk l (iter F j (nextK l k, [])).1 ∧ Strm j (iter F j (nextK l k, [])).2 := iter_inv (C := fun j (s : Nat × List Nat) => SrcOk l s.1 ∧ Strm j s.2) ⟨h.next, .nil⟩ (fun j (s : Nat × List Nat) hs => by
    have h3 := nV_range (l := l) (k := s.1) (n := 3) (by omega)
    obtain ⟨a1, a2, a3, a4, _⟩ := hT (nextK l s.1, nV l s.1 3) hs.1.next h3
    rw [hF]
    obtain ⟨b1, g, hg, b2⟩ := sgV_ok a1 a2 a4 (by rw [a3]; exact h3) s.2
    exact ⟨b1, by rw [b2]; exact .app hs.2 hg⟩)
  obtain ⟨K, A, hK0, hA0, hstep⟩ : ∃ (K : Nat → Nat) (A : Nat → List Nat), K 0 = nextK l k ∧ A 0 = [] ∧ ∀ j, SrcOk l (K j) ∧ Strm j (A j) ∧ (K (j + 1), A (j + 1)) = F (K j, A j) :=
    ⟨fun j => (iter F j (nextK l k, [])).1, fun j => (iter F j (nextK l k, [])).2, rfl, rfl, fun j => ⟨(hinv j).1, (hinv j).2, rfl⟩⟩
  refine ⟨K n, A n, n, (hstep n).1, (hstep n).2.1, by omega, ?_⟩
  clear hinv
  refine FnOk.intro fact_mixed Try.func19 rfl Try.ntmps19 (by rfl) (by simp) ?_
  repeat (first | (refine nf1_sound rfl ?_; simp [go_sem, ↓iteOmega, iteOmega, toNatUp]; (repeat (refine And.intro (by omega) ?_)); try (refine ⟨DrawChk_of (by kernel_rfl), ?_⟩)) | (refine itePos (by omega) ?_; try simp [go_sem, ↓iteOmega, iteOmega, toNatUp]) | (refine iteNeg (by omega) ?_; try simp [go_sem, ↓iteOmega, iteOmega, toNatUp]) | (refine ⟨DrawChk_of (by kernel_rfl), ?_⟩))
  refine CallK.fn (c0) [(0, 0)] [] [] (by kernel_rfl) (by simp [go_sem, ↓iteOmega, iteOmega, toNatUp]) (by simp [go_sem, ↓iteOmega, iteOmega, toNatUp]) (by simp [go_sem, ↓iteOmega, iteOmega, toNatUp]) (Or.inl rfl) ?_
  simp [go_sem, ↓iteOmega, iteOmega, toNatUp]
  repeat (refine And.intro (by omega) ?_)
  try (refine ⟨DrawChk_of (by kernel_rfl), ?_⟩)
  repeat (first | (refine nf1_sound rfl ?_; simp [go_sem, ↓iteOmega, iteOmega, toNatUp]; (repeat (refine And.intro (by omega) ?_)); try (refine ⟨DrawChk_of (by kernel_rfl), ?_⟩)) | (refine itePos (by omega) ?_; try simp [go_sem, ↓iteOmega, iteOmega, toNatUp]) | (refine iteNeg (by omega) ?_; try simp [go_sem, ↓iteOmega, iteOmega, toNatUp]) | (refine ⟨DrawChk_of (by kernel_rfl), ?_⟩))
  refine nf1_sound' _ _ _ ?_; simp only [nf1]
  refine CW.loop (ι := Nat) (fun j => ⟨[(0, .pt 0 [] 0), (3, .own 503), (4, .t (.int ((n : Int) - j)))], [(0, srcB l (K j)), (503, blkU (A j))]⟩) (fun j => j ≤ n) (fun j => n - j) 0 [(0, some 0), (503, none)] (Nat.zero_le _) ?_ ?_
  · simp [go_sem, ↓iteOmega, iteOmega, toNatUp, hK0, hA0]
  intro j hj
  by_cases hjn : j < n
  · obtain ⟨hk, hs, hnx⟩ := hstep j
    have hs2 := (hstep (j + 1)).2.1.len.1
    rw [hF] at hnx
    obtain ⟨Kj, hKj⟩ : ∃ x, K j = x := ⟨_, rfl⟩
    obtain ⟨Aj, hAj⟩ : ∃ x, A j = x := ⟨_, rfl⟩
    obtain ⟨Kn, hKn⟩ : ∃ x, K (j + 1) = x := ⟨_, rfl⟩
    obtain ⟨An, hAn⟩ : ∃ x, A (j + 1) = x := ⟨_, rfl⟩
    rw [hKj, hAj, hKn, hAn] at hnx
    rw [hKj] at hk ⊢
    rw [hAj] at hs ⊢
    rw [hAn] at hs2
    have hsl := hs.len.1
    dsimp only at hnx
    have h3 := nV_range (l := l) (k := Kj) (n := 3) (by omega)
    have c1 := n_fn l Kj 3 hk (by omega)
    obtain ⟨st, hst⟩ : ∃ x, nV l Kj 3 = x := ⟨_, rfl⟩
    rw [hst] at h3 c1 hnx
    obtain ⟨a1, a2, a3, a4, c2⟩ := hT (nextK l Kj, st) hk.next h3
    obtain ⟨k2, hk2⟩ : ∃ x, (T (nextK l Kj, st)).1 = x := ⟨_, rfl⟩
    obtain ⟨t, ht⟩ : ∃ x, (T (nextK l Kj, st)).2 = x := ⟨_, rfl⟩
    rw [hk2] at a1 c2 hnx
    rw [ht] at a2 a3 a4 c2 hnx
    dsimp only at a3 c2
    have hk2' : SrcOk l (nextK l k2) := a1.next
    have ci := rinside_fn t a2
    have hil := inside_len a2
    obtain ⟨f8, fl, fl1⟩ := frame_facts a2
    have hI8 : ∀ c ∈ insideV t, c < 256 := sealV_b8 (putL_b8 (numsL t))
    have cs := rstuff_fn (insideV t) (by omega) hI8
    obtain ⟨f, hf⟩ : ∃ x, Wire.stuff (insideV t) = x := ⟨_, rfl⟩
    rw [hf] at cs f8 fl fl1 hnx
    obtain ⟨I, hI⟩ : ∃ x, insideV t = x := ⟨_, rfl⟩
    rw [hI] at ci cs hil hI8
    have h6 := nV_range (l := l) (k := k2) (n := 6) (by omega)
    have c3 := n_fn l k2 6 a1 (by omega)
    obtain ⟨n6, hn6⟩ : ∃ x, nV l k2 6 = x := ⟨_, rfl⟩
    unfold sgV at hnx
    rw [hn6] at h6 c3 hnx
    have hp := nV_range (l := l) (k := nextK l k2) (n := (f.length : Int)) (by omega)
    have c4 := n_fn l (nextK l k2) (f.length : Int) hk2' (by omega)
    obtain ⟨p0, hp0⟩ : ∃ x, nV l (nextK l k2) (f.length : Int) = x := ⟨_, rfl⟩
    rw [hp0] at hp c4
    obtain ⟨p, rfl⟩ : ∃ p : Nat, p0 = (p : Int) := ⟨p0.toNat, by omega⟩
    have hpl : p < f.length := by omega
    obtain ⟨v, hv, hvm⟩ := pks_nat (pickV_mem (l := l) (k := nextK l (nextK l k2)) (xs := pks) (by simp [pks]))
    obtain ⟨v2, hv2, hvm2⟩ := pks_nat (pickV_mem (l := l) (k := nextK l k2) (xs := pks) (by simp [pks]))
    have hv8 := pk_lt hvm
    have hv28 := pk_lt hvm2
    have c5 := pick_fn hk2'.next pks (by simp [pks]) (by simp [pks])
    have c52 := pick_fn hk2' pks (by simp [pks]) (by simp [pks])
    rw [hv] at c5
    rw [hv2] at c52
    have hw1 : IntKind.u8.wrap (v : Int) = (v : Int) := by rw [u8_wrap]; omega
    have hw2 : IntKind.u8.wrap (v2 : Int) = (v2 : Int) := by rw [u8_wrap]; omega
    unfold frmV at hnx
    rw [hp0, hv, hv2, Int.toNat_natCast, Int.toNat_natCast, Int.toNat_natCast] at hnx
    simp only [pks] at c5 c52
    clear hstep hT hF hvm hvm2 hv hv2 hp0 hn6 hI hf a4 hs hk2 ht
    obtain ⟨t1, t2, t3, t4, t5, vs⟩ := t
    dsimp only at a3 c2 ci
    subst a3
    obtain ⟨fs, hfs⟩ : ∃ x, f.set p v = x := ⟨_, rfl⟩
    obtain ⟨ft, hft⟩ : ∃ x, f.take p = x := ⟨_, rfl⟩
    have hset : (f.map encU).set p (encU v) = fs.map encU := by rw [← hfs, List.map_set]
    have hfsl : fs.length ≤ 400 := by rw [← hfs]; simp; exact fl
    have hftl : ft.length ≤ 400 := by rw [← hft]; simp; omega
    have htk : (f.map encU).take p = ft.map encU := by rw [← hft, List.map_take]
    have hmin : min p f.length = p := by omega
    obtain ⟨c, hfp⟩ := has_get hpl
    rw [hfs, hft] at hnx
    simp only [encU] at hset
    repeat (first | (refine nf1_sound rfl ?_; simp [go_sem, ↓iteOmega, iteOmega, toNatUp]; (repeat (refine And.intro (by omega) ?_)); try (refine ⟨DrawChk_of (by kernel_rfl), ?_⟩)) | (refine itePos (by omega) ?_; try simp [go_sem, ↓iteOmega, iteOmega, toNatUp]) | (refine iteNeg (by omega) ?_; try simp [go_sem, ↓iteOmega, iteOmega, toNatUp]) | (refine ⟨DrawChk_of (by kernel_rfl), ?_⟩))
    refine CallK.fn (c1) [(0, 0)] [] [] (by kernel_rfl) (by simp [go_sem, ↓iteOmega, iteOmega, toNatUp]) (by simp [go_sem, ↓iteOmega, iteOmega, toNatUp]) (by simp [go_sem, ↓iteOmega, iteOmega, toNatUp]) (Or.inl rfl) ?_
    simp [go_sem, ↓iteOmega, iteOmega, toNatUp]
    repeat (refine And.intro (by omega) ?_)
    try (refine ⟨DrawChk_of (by kernel_rfl), ?_⟩)
    refine CallK.fn (c2) [(0, 0), (1000, 608)] [] [] (by kernel_rfl) (by simp [go_sem, ↓iteOmega, iteOmega, toNatUp]) (by simp [go_sem, ↓iteOmega, iteOmega, toNatUp]) (by simp [go_sem, ↓iteOmega, iteOmega, toNatUp]) (Or.inl rfl) ?_
    simp [go_sem, ↓iteOmega, iteOmega, toNatUp]
    repeat (refine And.intro (by omega) ?_)
    try (refine ⟨DrawChk_of (by kernel_rfl), ?_⟩)
    refine CallK.fn (ci) [(1000, 616)] [608] [] (by kernel_rfl) (by simp [go_sem, ↓iteOmega, iteOmega, toNatUp, wkXs]) (by simp [go_sem, ↓iteOmega, iteOmega, toNatUp, wkXs]) (by simp [go_sem, ↓iteOmega, iteOmega, toNatUp, wkXs]) (Or.inr ⟨by simp [go_sem, ↓iteOmega, iteOmega, toNatUp, wkXs], by simp [go_sem, ↓iteOmega, iteOmega, toNatUp, wkXs]⟩) ?_
    simp [go_sem, ↓iteOmega, iteOmega, toNatUp, wkXs]
    repeat (refine And.intro (by omega) ?_)
    try (refine ⟨DrawChk_of (by kernel_rfl), ?_⟩)
    refine CallK.fn (cs) [(1000, 617)] [] [616] (by kernel_rfl) (by simp [go_sem, ↓iteOmega, iteOmega, toNatUp]) (by simp [go_sem, ↓iteOmega, iteOmega, toNatUp]) (by simp [go_sem, ↓iteOmega, iteOmega, toNatUp]) (Or.inl rfl) ?_
    simp [go_sem, ↓iteOmega, iteOmega, toNatUp]
    repeat (refine And.intro (by omega) ?_)
    try (refine ⟨DrawChk_of (by kernel_rfl), ?_⟩)
    repeat (first | (refine nf1_sound rfl ?_; simp [go_sem, ↓iteOmega, iteOmega, toNatUp]; (repeat (refine And.intro (by omega) ?_)); try (refine ⟨DrawChk_of (by kernel_rfl), ?_⟩)) | (refine itePos (by omega) ?_; try simp [go_sem, ↓iteOmega, iteOmega, toNatUp]) | (refine iteNeg (by omega) ?_; try simp [go_sem, ↓iteOmega, iteOmega, toNatUp]) | (refine ⟨DrawChk_of (by kernel_rfl), ?_⟩))
    refine CallK.fn (c3) [(0, 0)] [] [] (by kernel_rfl) (by simp [go_sem, ↓iteOmega, iteOmega, toNatUp]) (by simp [go_sem, ↓iteOmega, iteOmega, toNatUp]) (by simp [go_sem, ↓iteOmega, iteOmega, toNatUp]) (Or.inl rfl) ?_
    simp [go_sem, ↓iteOmega, iteOmega, toNatUp]
    repeat (refine And.intro (by omega) ?_)
    try (refine ⟨DrawChk_of (by kernel_rfl), ?_⟩)
    by_cases h0 : n6 = 0
    · subst h0
      rw [if_pos rfl] at hnx
      dsimp only at hnx
      try simp only [List.append_nil] at hnx
      have h5 := nV_range (l := l) (k := nextK l (nextK l (nextK l k2))) (n := 5) (by omega)
      have c6 := n_fn l (nextK l (nextK l (nextK l k2))) 5 hk2'.next.next (by omega)
      obtain ⟨n5, hn5⟩ : ∃ x, nV l (nextK l (nextK l (nextK l k2))) 5 = x := ⟨_, rfl⟩
      rw [hn5] at h5 c6 hnx
      obtain ⟨e1, e2⟩ := Prod.mk.inj hnx
      repeat (first | (refine nf1_sound rfl ?_; simp [go_sem, ↓iteOmega, iteOmega, toNatUp, hmin]; (repeat (refine And.intro (by omega) ?_)); try (refine ⟨DrawChk_of (by kernel_rfl), ?_⟩)) | (refine itePos (by omega) ?_; try simp [go_sem, ↓iteOmega, iteOmega, toNatUp, hmin]) | (refine iteNeg (by omega) ?_; try simp [go_sem, ↓iteOmega, iteOmega, toNatUp, hmin]) | (refine ⟨DrawChk_of (by kernel_rfl), ?_⟩))
      refine CallK.fn (c4) [(0, 0)] [] [] (by kernel_rfl) (by simp [go_sem, ↓iteOmega, iteOmega, toNatUp]) (by simp [go_sem, ↓iteOmega, iteOmega, toNatUp]) (by simp [go_sem, ↓iteOmega, iteOmega, toNatUp]) (Or.inl rfl) ?_
      simp [go_sem, ↓iteOmega, iteOmega, toNatUp]
      repeat (refine And.intro (by omega) ?_)
      try (refine ⟨DrawChk_of (by kernel_rfl), ?_⟩)
      refine CallK.fn (c5) [(0, 0)] [] [128] (by kernel_rfl) (by simp [go_sem, ↓iteOmega, iteOmega, toNatUp, hw1, hfp, hset]) (by simp [go_sem, ↓iteOmega, iteOmega, toNatUp, hw1, hfp, hset]) (by simp [go_sem, ↓iteOmega, iteOmega, toNatUp, hw1, hfp, hset]) (Or.inl rfl) ?_
      simp [go_sem, ↓iteOmega, iteOmega, toNatUp, hw1, hfp, hset]
      repeat (refine And.intro (by omega) ?_)
      try (refine ⟨DrawChk_of (by kernel_rfl), ?_⟩)
      repeat (first | (refine nf1_sound rfl ?_; simp [go_sem, ↓iteOmega, iteOmega, toNatUp, hw1, hfp, hset]; (repeat (refine And.intro (by omega) ?_)); try (refine ⟨DrawChk_of (by kernel_rfl), ?_⟩)) | (refine itePos (by omega) ?_; try simp [go_sem, ↓iteOmega, iteOmega, toNatUp, hw1, hfp, hset]) | (refine iteNeg (by omega) ?_; try simp [go_sem, ↓iteOmega, iteOmega, toNatUp, hw1, hfp, hset]) | (refine ⟨DrawChk_of (by kernel_rfl), ?_⟩))
      refine CallK.fn (c6) [(0, 0)] [] [] (by kernel_rfl) (by simp [go_sem, ↓iteOmega, iteOmega, toNatUp, hset, hw1]) (by simp [go_sem, ↓iteOmega, iteOmega, toNatUp, hset, hw1]) (by simp [go_sem, ↓iteOmega, iteOmega, toNatUp, hset, hw1]) (Or.inl rfl) ?_
      simp [go_sem, ↓iteOmega, iteOmega, toNatUp, hset, hw1]
      repeat (refine And.intro (by omega) ?_)
      try (refine ⟨DrawChk_of (by kernel_rfl), ?_⟩)
      by_cases hd5 : n5 = 0
      · rw [if_pos hd5] at e2
        try simp only [List.append_nil] at e2
        have e3 := congrArg List.length e2
        simp at e3
        subst hd5
        repeat (first | (refine nf1_sound rfl ?_; simp [go_sem, ↓iteOmega, iteOmega, toNatUp, hset, hw1]; (repeat (refine And.intro (by omega) ?_)); try (refine ⟨DrawChk_of (by kernel_rfl), ?_⟩)) | (refine itePos (by omega) ?_; try simp [go_sem, ↓iteOmega, iteOmega, toNatUp, hset, hw1]) | (refine iteNeg (by omega) ?_; try simp [go_sem, ↓iteOmega, iteOmega, toNatUp, hset, hw1]) | (refine ⟨DrawChk_of (by kernel_rfl), ?_⟩))
        rw [RoundQ_normal]; refine ⟨j + 1, [(0, some 0), (503, some 157)], ?_, ?_, ?_⟩
        · omega
        · omega
        simp [go_sem, ↓iteOmega, iteOmega, toNatUp, hKn, hAn, e1, e2, hset, hw1]
        omega
      · rw [if_neg hd5] at e2
        try simp only [List.append_nil] at e2
        have e3 := congrArg List.length e2
        simp at e3
        repeat (first | (refine nf1_sound rfl ?_; simp [go_sem, ↓iteOmega, iteOmega, toNatUp, hset, hw1, hd5]; (repeat (refine And.intro (by omega) ?_)); try (refine ⟨DrawChk_of (by kernel_rfl), ?_⟩)) | (refine itePos (by omega) ?_; try simp [go_sem, ↓iteOmega, iteOmega, toNatUp, hset, hw1, hd5]) | (refine iteNeg (by omega) ?_; try simp [go_sem, ↓iteOmega, iteOmega, toNatUp, hset, hw1, hd5]) | (refine ⟨DrawChk_of (by kernel_rfl), ?_⟩))
        rw [RoundQ_normal]; refine ⟨j + 1, [(0, some 0), (503, some 151)], ?_, ?_, ?_⟩
        · omega
        · omega
        simp [go_sem, ↓iteOmega, iteOmega, toNatUp, hKn, hAn, e1, e2, hset, hw1]
        omega
    by_cases h1 : n6 = 1
    · subst h1
      rw [if_neg (by omega), if_pos rfl] at hnx
      dsimp only at hnx
      try simp only [List.append_nil] at hnx
      have h5 := nV_range (l := l) (k := nextK l (nextK l k2)) (n := 5) (by omega)
      have c6 := n_fn l (nextK l (nextK l k2)) 5 hk2'.next (by omega)
      obtain ⟨n5, hn5⟩ : ∃ x, nV l (nextK l (nextK l k2)) 5 = x := ⟨_, rfl⟩
      rw [hn5] at h5 c6 hnx
      obtain ⟨e1, e2⟩ := Prod.mk.inj hnx
      repeat (first | (refine nf1_sound rfl ?_; simp [go_sem, ↓iteOmega, iteOmega, toNatUp]; (repeat (refine And.intro (by omega) ?_)); try (refine ⟨DrawChk_of (by kernel_rfl), ?_⟩)) | (refine itePos (by omega) ?_; try simp [go_sem, ↓iteOmega, iteOmega, toNatUp]) | (refine iteNeg (by omega) ?_; try simp [go_sem, ↓iteOmega, iteOmega, toNatUp]) | (refine ⟨DrawChk_of (by kernel_rfl), ?_⟩))
      refine CallK.fn (c4) [(0, 0)] [] [] (by kernel_rfl) (by simp [go_sem, ↓iteOmega, iteOmega, toNatUp]) (by simp [go_sem, ↓iteOmega, iteOmega, toNatUp]) (by simp [go_sem, ↓iteOmega, iteOmega, toNatUp]) (Or.inl rfl) ?_
      simp [go_sem, ↓iteOmega, iteOmega, toNatUp]
      repeat (refine And.intro (by omega) ?_)
      try (refine ⟨DrawChk_of (by kernel_rfl), ?_⟩)
      repeat (first | (refine nf1_sound rfl ?_; simp [go_sem, ↓iteOmega, iteOmega, toNatUp, htk, hmin]; (repeat (refine And.intro (by omega) ?_)); try (refine ⟨DrawChk_of (by kernel_rfl), ?_⟩)) | (refine itePos (by omega) ?_; try simp [go_sem, ↓iteOmega, iteOmega, toNatUp, htk, hmin]) | (refine iteNeg (by omega) ?_; try simp [go_sem, ↓iteOmega, iteOmega, toNatUp, htk, hmin]) | (refine ⟨DrawChk_of (by kernel_rfl), ?_⟩))
      refine CallK.fn (c6) [(0, 0)] [] [] (by kernel_rfl) (by simp [go_sem, ↓iteOmega, iteOmega, toNatUp, htk, hmin]) (by simp [go_sem, ↓iteOmega, iteOmega, toNatUp, htk, hmin]) (by simp [go_sem, ↓iteOmega, iteOmega, toNatUp, htk, hmin]) (Or.inl rfl) ?_
      simp [go_sem, ↓iteOmega, iteOmega, toNatUp, htk, hmin]
      repeat (refine And.intro (by omega) ?_)
      try (refine ⟨DrawChk_of (by kernel_rfl), ?_⟩)
      by_cases hd5 : n5 = 0
      · rw [if_pos hd5] at e2
        try simp only [List.append_nil] at e2
        have e3 := congrArg List.length e2
        simp at e3
        subst hd5
        repeat (first | (refine nf1_sound rfl ?_; simp [go_sem, ↓iteOmega, iteOmega, toNatUp, htk, hmin]; (repeat (refine And.intro (by omega) ?_)); try (refine ⟨DrawChk_of (by kernel_rfl), ?_⟩)) | (refine itePos (by omega) ?_; try simp [go_sem, ↓iteOmega, iteOmega, toNatUp, htk, hmin]) | (refine iteNeg (by omega) ?_; try simp [go_sem, ↓iteOmega, iteOmega, toNatUp, htk, hmin]) | (refine ⟨DrawChk_of (by kernel_rfl), ?_⟩))
        rw [RoundQ_normal]; refine ⟨j + 1, [(0, some 0), (503, some 157)], ?_, ?_, ?_⟩
        · omega
        · omega
        simp [go_sem, ↓iteOmega, iteOmega, toNatUp, hKn, hAn, e1, e2, htk, hmin]
        omega
      · rw [if_neg hd5] at e2
        try simp only [List.append_nil] at e2
        have e3 := congrArg List.length e2
        simp at e3
        repeat (first | (refine nf1_sound rfl ?_; simp [go_sem, ↓iteOmega, iteOmega, toNatUp, htk, hmin, hd5]; (repeat (refine And.intro (by omega) ?_)); try (refine ⟨DrawChk_of (by kernel_rfl), ?_⟩)) | (refine itePos (by omega) ?_; try simp [go_sem, ↓iteOmega, iteOmega, toNatUp, htk, hmin, hd5]) | (refine iteNeg (by omega) ?_; try simp [go_sem, ↓iteOmega, iteOmega, toNatUp, htk, hmin, hd5]) | (refine ⟨DrawChk_of (by kernel_rfl), ?_⟩))
        rw [RoundQ_normal]; refine ⟨j + 1, [(0, some 0), (503, some 151)], ?_, ?_, ?_⟩
        · omega
        · omega
        simp [go_sem, ↓iteOmega, iteOmega, toNatUp, hKn, hAn, e1, e2, htk, hmin]
        omega
    by_cases h2 : n6 = 2
    · subst h2
      rw [if_neg (by omega), if_neg (by omega), if_pos rfl] at hnx
      dsimp only at hnx
      try simp only [List.append_nil] at hnx
      have h5 := nV_range (l := l) (k := nextK l (nextK l k2)) (n := 5) (by omega)
      have c6 := n_fn l (nextK l (nextK l k2)) 5 hk2'.next (by omega)
      obtain ⟨n5, hn5⟩ : ∃ x, nV l (nextK l (nextK l k2)) 5 = x := ⟨_, rfl⟩
      rw [hn5] at h5 c6 hnx
      obtain ⟨e1, e2⟩ := Prod.mk.inj hnx
      repeat (first | (refine nf1_sound rfl ?_; simp [go_sem, ↓iteOmega, iteOmega, toNatUp]; (repeat (refine And.intro (by omega) ?_)); try (refine ⟨DrawChk_of (by kernel_rfl), ?_⟩)) | (refine itePos (by omega) ?_; try simp [go_sem, ↓iteOmega, iteOmega, toNatUp]) | (refine iteNeg (by omega) ?_; try simp [go_sem, ↓iteOmega, iteOmega, toNatUp]) | (refine ⟨DrawChk_of (by kernel_rfl), ?_⟩))
      refine CallK.fn (c52) [(0, 0)] [] [144] (by kernel_rfl) (by simp [go_sem, ↓iteOmega, iteOmega, toNatUp, hw2]) (by simp [go_sem, ↓iteOmega, iteOmega, toNatUp, hw2]) (by simp [go_sem, ↓iteOmega, iteOmega, toNatUp, hw2]) (Or.inl rfl) ?_
      simp [go_sem, ↓iteOmega, iteOmega, toNatUp, hw2]
      repeat (refine And.intro (by omega) ?_)
      try (refine ⟨DrawChk_of (by kernel_rfl), ?_⟩)
      repeat (first | (refine nf1_sound rfl ?_; simp [go_sem, ↓iteOmega, iteOmega, toNatUp, hw2]; (repeat (refine And.intro (by omega) ?_)); try (refine ⟨DrawChk_of (by kernel_rfl), ?_⟩)) | (refine itePos (by omega) ?_; try simp [go_sem, ↓iteOmega, iteOmega, toNatUp, hw2]) | (refine iteNeg (by omega) ?_; try simp [go_sem, ↓iteOmega, iteOmega, toNatUp, hw2]) | (refine ⟨DrawChk_of (by kernel_rfl), ?_⟩))
      refine CallK.fn (c6) [(0, 0)] [] [] (by kernel_rfl) (by simp [go_sem, ↓iteOmega, iteOmega, toNatUp, hw2]) (by simp [go_sem, ↓iteOmega, iteOmega, toNatUp, hw2]) (by simp [go_sem, ↓iteOmega, iteOmega, toNatUp, hw2]) (Or.inl rfl) ?_
      simp [go_sem, ↓iteOmega, iteOmega, toNatUp, hw2]
      repeat (refine And.intro (by omega) ?_)
      try (refine ⟨DrawChk_of (by kernel_rfl), ?_⟩)
      by_cases hd5 : n5 = 0
      · rw [if_pos hd5] at e2
        try simp only [List.append_nil] at e2
        have e3 := congrArg List.length e2
        simp at e3
        subst hd5
        repeat (first | (refine nf1_sound rfl ?_; simp [go_sem, ↓iteOmega, iteOmega, toNatUp, hw2]; (repeat (refine And.intro (by omega) ?_)); try (refine ⟨DrawChk_of (by kernel_rfl), ?_⟩)) | (refine itePos (by omega) ?_; try simp [go_sem, ↓iteOmega, iteOmega, toNatUp, hw2]) | (refine iteNeg (by omega) ?_; try simp [go_sem, ↓iteOmega, iteOmega, toNatUp, hw2]) | (refine ⟨DrawChk_of (by kernel_rfl), ?_⟩))
        rw [RoundQ_normal]; refine ⟨j + 1, [(0, some 0), (503, some 157)], ?_, ?_, ?_⟩
        · omega
        · omega
        simp [go_sem, ↓iteOmega, iteOmega, toNatUp, hKn, hAn, e1, e2, hw2]
        omega
      · rw [if_neg hd5] at e2
        try simp only [List.append_nil] at e2
        have e3 := congrArg List.length e2
        simp at e3
        repeat (first | (refine nf1_sound rfl ?_; simp [go_sem, ↓iteOmega, iteOmega, toNatUp, hw2, hd5]; (repeat (refine And.intro (by omega) ?_)); try (refine ⟨DrawChk_of (by kernel_rfl), ?_⟩)) | (refine itePos (by omega) ?_; try simp [go_sem, ↓iteOmega, iteOmega, toNatUp, hw2, hd5]) | (refine iteNeg (by omega) ?_; try simp [go_sem, ↓iteOmega, iteOmega, toNatUp, hw2, hd5]) | (refine ⟨DrawChk_of (by kernel_rfl), ?_⟩))
        rw [RoundQ_normal]; refine ⟨j + 1, [(0, some 0), (503, some 151)], ?_, ?_, ?_⟩
        · omega
        · omega
        simp [go_sem, ↓iteOmega, iteOmega, toNatUp, hKn, hAn, e1, e2, hw2]
        omega
    rw [if_neg h0, if_neg h1, if_neg h2] at hnx
    dsimp only at hnx
    try simp only [List.append_nil] at hnx
    have h5 := nV_range (l := l) (k := nextK l k2) (n := 5) (by omega)
    have c6 := n_fn l (nextK l k2) 5 hk2' (by omega)
    obtain ⟨n5, hn5⟩ : ∃ x, nV l (nextK l k2) 5 = x := ⟨_, rfl⟩
    rw [hn5] at h5 c6 hnx
    obtain ⟨e1, e2⟩ := Prod.mk.inj hnx
    repeat (first | (refine nf1_sound rfl ?_; simp [go_sem, ↓iteOmega, iteOmega, toNatUp, h0, h1, h2]; (repeat (refine And.intro (by omega) ?_)); try (refine ⟨DrawChk_of (by kernel_rfl), ?_⟩)) | (refine itePos (by omega) ?_; try simp [go_sem, ↓iteOmega, iteOmega, toNatUp, h0, h1, h2]) | (refine iteNeg (by omega) ?_; try simp [go_sem, ↓iteOmega, iteOmega, toNatUp, h0, h1, h2]) | (refine ⟨DrawChk_of (by kernel_rfl), ?_⟩))
    refine CallK.fn (c6) [(0, 0)] [] [] (by kernel_rfl) (by simp [go_sem, ↓iteOmega, iteOmega, toNatUp, h0, h1, h2]) (by simp [go_sem, ↓iteOmega, iteOmega, toNatUp, h0, h1, h2]) (by simp [go_sem, ↓iteOmega, iteOmega, toNatUp, h0, h1, h2]) (Or.inl rfl) ?_
    simp [go_sem, ↓iteOmega, iteOmega, toNatUp, h0, h1, h2]
    repeat (refine And.intro (by omega) ?_)
    try (refine ⟨DrawChk_of (by kernel_rfl), ?_⟩)
    by_cases hd5 : n5 = 0
    · rw [if_pos hd5] at e2
      try simp only [List.append_nil] at e2
      have e3 := congrArg List.length e2
      simp at e3
      subst hd5
      repeat (first | (refine nf1_sound rfl ?_; simp [go_sem, ↓iteOmega, iteOmega, toNatUp, h0, h1, h2]; (repeat (refine And.intro (by omega) ?_)); try (refine ⟨DrawChk_of (by kernel_rfl), ?_⟩)) | (refine itePos (by omega) ?_; try simp [go_sem, ↓iteOmega, iteOmega, toNatUp, h0, h1, h2]) | (refine iteNeg (by omega) ?_; try simp [go_sem, ↓iteOmega, iteOmega, toNatUp, h0, h1, h2]) | (refine ⟨DrawChk_of (by kernel_rfl), ?_⟩))
      rw [RoundQ_normal]; refine ⟨j + 1, [(0, some 0), (503, some 157)], ?_, ?_, ?_⟩
      · omega
      · omega
      simp [go_sem, ↓iteOmega, iteOmega, toNatUp, hKn, hAn, e1, e2, h0, h1, h2]
      omega
    · rw [if_neg hd5] at e2
      try simp only [List.append_nil] at e2
      have e3 := congrArg List.length e2
      simp at e3
      repeat (first | (refine nf1_sound rfl ?_; simp [go_sem, ↓iteOmega, iteOmega, toNatUp, h0, h1, h2, hd5]; (repeat (refine And.intro (by omega) ?_)); try (refine ⟨DrawChk_of (by kernel_rfl), ?_⟩)) | (refine itePos (by omega) ?_; try simp [go_sem, ↓iteOmega, iteOmega, toNatUp, h0, h1, h2, hd5]) | (refine iteNeg (by omega) ?_; try simp [go_sem, ↓iteOmega, iteOmega, toNatUp, h0, h1, h2, hd5]) | (refine ⟨DrawChk_of (by kernel_rfl), ?_⟩))
      rw [RoundQ_normal]; refine ⟨j + 1, [(0, some 0), (503, some 151)], ?_, ?_, ?_⟩
      · omega
      · omega
      simp [go_sem, ↓iteOmega, iteOmega, toNatUp, hKn, hAn, e1, e2, h0, h1, h2]
      omega
  · obtain rfl : j = n := by omega
    repeat (first | (refine nf1_sound rfl ?_; simp [go_sem, ↓iteOmega, iteOmega, toNatUp]; (repeat (refine And.intro (by omega) ?_)); try (refine ⟨DrawChk_of (by kernel_rfl), ?_⟩)) | (refine itePos (by omega) ?_; try simp [go_sem, ↓iteOmega, iteOmega, toNatUp]) | (refine iteNeg (by omega) ?_; try simp [go_sem, ↓iteOmega, iteOmega, toNatUp]) | (refine ⟨DrawChk_of (by kernel_rfl), ?_⟩))
    first | rw [RetQ_ret] | rw [RetQ_normal]
    refine ⟨[(0, some 0), (1000, some 503)], ?_⟩
    simp [go_sem, ↓iteOmega, iteOmega, toNatUp]
end Go.Proofs.Ytopmmodcaoaaeaa
