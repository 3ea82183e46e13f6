/- The law IntakeStations. No condition. -/
import Derived.Test.YtopmmodcaoaaeaaInLate
import Derived.Test.YtopmmodcaoaaeaaTgF
import Derived.Test.YtopmmodcaoaaeaaTgH
namespace Go.Proofs.Ytopmmodcaoaaeaa
open Go.RowKit Sy
set_option linter.unusedVariables false
set_option linter.unusedSimpArgs false
set_option maxRecDepth 100000 in
set_option maxHeartbeats 8000000 in
theorem ralike_fn (l : List Tg) (hl : l.length ≤ 1000000) (hv : ∀ t ∈ l, t.vs.length ≤ 100000000) : FnOk Try.prog 18 [.t (encTgs l), .t (encTgs l)] [] (.t (.bool true)) [] := by
  refine FnOk.intro fact_mixed Try.func18 rfl Try.ntmps18 (by rfl) (by simp) ?_
  repeat (first | (refine nf1_sound rfl ?_; simp [go_sem, ↓IntWalk.iteOmega, IntWalk.iteOmega, IntWalk.toNatUp]; (repeat (refine And.intro (by omega) ?_)); try (refine ⟨DrawChk_of (by kernel_rfl), ?_⟩)) | (refine itePos (by omega) ?_; try simp [go_sem, ↓IntWalk.iteOmega, IntWalk.iteOmega, IntWalk.toNatUp]) | (refine iteNeg (by omega) ?_; try simp [go_sem, ↓IntWalk.iteOmega, IntWalk.iteOmega, IntWalk.toNatUp]) | (refine ⟨DrawChk_of (by kernel_rfl), ?_⟩))
  refine nf1_sound' _ _ _ ?_; simp only [nf1]
  refine CW.loop (ι := Nat) (fun k => ⟨[(0, .t (encTgs l)), (1, .t (encTgs l)), (12, .t (.int l.length)), (13, .t (.int k))], []⟩) (fun k => k ≤ l.length) (fun k => l.length - k) 0 [] (by omega) ?_ ?_
  · simp [go_sem, ↓IntWalk.iteOmega, IntWalk.iteOmega, IntWalk.toNatUp]
  intro k hk
  by_cases hkl : k < l.length
  · obtain ⟨t, ht⟩ := has_get hkl
    have c := rsame_fn t (hv t (mem_get ht))
    repeat (first | (refine nf1_sound rfl ?_; simp [go_sem, ↓IntWalk.iteOmega, IntWalk.iteOmega, IntWalk.toNatUp, ht]; (repeat (refine And.intro (by omega) ?_)); try (refine ⟨DrawChk_of (by kernel_rfl), ?_⟩)) | (refine itePos (by omega) ?_; try simp [go_sem, ↓IntWalk.iteOmega, IntWalk.iteOmega, IntWalk.toNatUp, ht]) | (refine iteNeg (by omega) ?_; try simp [go_sem, ↓IntWalk.iteOmega, IntWalk.iteOmega, IntWalk.toNatUp, ht]) | (refine ⟨DrawChk_of (by kernel_rfl), ?_⟩))
    refine CallK.fn (c) [] [] [] (by kernel_rfl) (by simp [go_sem, ↓IntWalk.iteOmega, IntWalk.iteOmega, IntWalk.toNatUp]) (by simp [go_sem, ↓IntWalk.iteOmega, IntWalk.iteOmega, IntWalk.toNatUp]) (by simp [go_sem, ↓IntWalk.iteOmega, IntWalk.iteOmega, IntWalk.toNatUp]) (Or.inl rfl) ?_
    simp [go_sem, ↓IntWalk.iteOmega, IntWalk.iteOmega, IntWalk.toNatUp]
    repeat (refine And.intro (by omega) ?_)
    try (refine ⟨DrawChk_of (by kernel_rfl), ?_⟩)
    repeat (first | (refine nf1_sound rfl ?_; simp [go_sem, ↓IntWalk.iteOmega, IntWalk.iteOmega, IntWalk.toNatUp]; (repeat (refine And.intro (by omega) ?_)); try (refine ⟨DrawChk_of (by kernel_rfl), ?_⟩)) | (refine itePos (by omega) ?_; try simp [go_sem, ↓IntWalk.iteOmega, IntWalk.iteOmega, IntWalk.toNatUp]) | (refine iteNeg (by omega) ?_; try simp [go_sem, ↓IntWalk.iteOmega, IntWalk.iteOmega, IntWalk.toNatUp]) | (refine ⟨DrawChk_of (by kernel_rfl), ?_⟩))
    rw [RoundQ_normal]; refine ⟨k + 1, [], ?_, ?_, ?_⟩
    · omega
    · omega
    simp [go_sem, ↓IntWalk.iteOmega, IntWalk.iteOmega, IntWalk.toNatUp]
  · obtain rfl : k = l.length := by omega
    repeat (first | (refine nf1_sound rfl ?_; simp [go_sem, ↓IntWalk.iteOmega, IntWalk.iteOmega, IntWalk.toNatUp]; (repeat (refine And.intro (by omega) ?_)); try (refine ⟨DrawChk_of (by kernel_rfl), ?_⟩)) | (refine itePos (by omega) ?_; try simp [go_sem, ↓IntWalk.iteOmega, IntWalk.iteOmega, IntWalk.toNatUp]) | (refine iteNeg (by omega) ?_; try simp [go_sem, ↓IntWalk.iteOmega, IntWalk.iteOmega, IntWalk.toNatUp]) | (refine ⟨DrawChk_of (by kernel_rfl), ?_⟩))
    first | rw [RetQ_ret] | rw [RetQ_normal]
    refine ⟨[], ?_⟩
    simp [go_sem, ↓IntWalk.iteOmega, IntWalk.iteOmega, IntWalk.toNatUp]
theorem lb_mem {t : Int} : ∀ {l : List Int}, Asc l → t ∈ l → l[lb t l]? = some t
  | [], _, h => by simp at h
  | a :: r, ha, hx => by
    unfold lb
    rcases List.mem_cons.1 hx with rfl | hx
    · rw [if_neg (by omega)]; rfl
    · rw [if_pos (asc_lt ha _ hx)]
      simpa using lb_mem (asc_tail ha) hx
theorem asc_nth : ∀ {l : List Int} {i j : Nat} {a b : Int}, Asc l → i < j → l[i]? = some a → l[j]? = some b → a < b
  | [], i, j, a, b, _, _, h, _ => by simp at h
  | x :: l, 0, j + 1, a, b, hs, _, h1, h2 => by
    simp at h1 h2
    subst h1
    exact asc_lt hs _ (List.mem_of_getElem? h2)
  | x :: l, i + 1, j + 1, a, b, hs, h, h1, h2 => asc_nth (i := i) (j := j) (asc_tail hs) (by omega) (by simpa using h1) (by simpa using h2)
theorem asc_inj {l : List Int} {i j : Nat} {a : Int} (hs : Asc l) (h1 : l[i]? = some a) (h2 : l[j]? = some a) : i = j := by
  rcases Nat.lt_trichotomy i j with h | h | h
  · have := asc_nth hs h h1 h2; omega
  · exact h
  · have := asc_nth hs h h2 h1; omega
theorem InOk.uniq {i : In} (h : InOk i) {v w : Wt} (hv : v ∈ i.sts) (hw : w ∈ i.sts) (he : v.st = w.st) : v = w := by
  obtain ⟨a, ha⟩ := List.mem_iff_getElem?.1 hv
  obtain ⟨b, hb⟩ := List.mem_iff_getElem?.1 hw
  have := asc_inj (i := a) (j := b) (a := w.st) h.asc (by rw [List.getElem?_map, ha, ← he]; rfl) (by rw [List.getElem?_map, hb]; rfl)
  subst this
  rw [ha] at hb
  exact Option.some.inj hb
theorem acc_mem {i : In} {x : Tg} (h : InOk i) (hx : TgOk x) (h64 : i.sts.length < 64) : ∃ w0, WtOk w0 i.win ∧ w0.st = x.st ∧ (w0 ∈ i.sts ∨ (∀ w ∈ i.sts, w.st ≠ x.st) ∧ w0 = ⟨x.st, x.ep, 0, []⟩) ∧
    ∃ i', accV i x = (i', (takeV w0 x i.win).2, 0) ∧ i'.win = i.win ∧ i'.tail = i.tail ∧ ∀ w, w ∈ i'.sts ↔ (w = (takeV w0 x i.win).1 ∨ (w ∈ i.sts ∧ w.st ≠ x.st)) := by
  have hwin : 0 ≤ i.win := by have := h.wn; omega
  have new : (∀ w ∈ i.sts, w.st ≠ x.st) → ∃ w0, WtOk w0 i.win ∧ w0.st = x.st ∧ (w0 ∈ i.sts ∨ (∀ w ∈ i.sts, w.st ≠ x.st) ∧ w0 = ⟨x.st, x.ep, 0, []⟩) ∧
      ∃ i', newA i x (lb x.st (i.sts.map (·.st))) = (i', (takeV w0 x i.win).2, 0) ∧ i'.win = i.win ∧ i'.tail = i.tail ∧ ∀ w, w ∈ i'.sts ↔ (w = (takeV w0 x i.win).1 ∨ (w ∈ i.sts ∧ w.st ≠ x.st)) := by
    intro hno
    refine ⟨⟨x.st, x.ep, 0, []⟩, newW_ok hx hwin, rfl, .inr ⟨hno, rfl⟩, ?_⟩
    unfold newA
    rw [if_neg (by omega)]
    refine ⟨_, rfl, rfl, rfl, fun w => ?_⟩
    dsimp only
    rw [List.mem_append, List.mem_cons]
    constructor
    · rintro (hw | hw | hw)
      · exact .inr ⟨List.mem_of_mem_take hw, hno w (List.mem_of_mem_take hw)⟩
      · exact .inl hw
      · exact .inr ⟨List.mem_of_mem_drop hw, hno w (List.mem_of_mem_drop hw)⟩
    · rintro (hw | ⟨hw, _⟩)
      · exact .inr (.inl hw)
      · rw [← List.take_append_drop (lb x.st (i.sts.map (·.st))) i.sts, List.mem_append] at hw
        rcases hw with hw | hw
        · exact .inl hw
        · exact .inr (.inr hw)
  have no : (i.sts.map (·.st))[lb x.st (i.sts.map (·.st))]? ≠ some x.st → ∀ w ∈ i.sts, w.st ≠ x.st := fun hk w hw he =>
    hk (lb_mem h.asc (by rw [← he]; exact List.mem_map.2 ⟨w, hw, rfl⟩))
  unfold accV
  rw [if_pos hx]
  unfold accA
  cases hw : i.sts[lb x.st (i.sts.map (·.st))]? with
  | none => exact new (no (by rw [List.getElem?_map, hw]; simp))
  | some w =>
    dsimp only
    by_cases hs : w.st = x.st
    · rw [if_pos hs]
      refine ⟨w, h.each w (mem_get hw), hs, .inl (mem_get hw), _, rfl, rfl, rfl, fun v => ?_⟩
      dsimp only
      have hpl := (List.getElem?_eq_some_iff.1 hw).1
      constructor
      · intro hv
        obtain ⟨j, hj⟩ := List.mem_iff_getElem?.1 hv
        rw [List.getElem?_set] at hj
        split at hj
        · rename_i e
          subst e
          exact .inl (Option.some.inj hj).symm
        · rename_i hne
          refine .inr ⟨mem_get hj, fun he => hne ?_⟩
          exact asc_inj (a := x.st) h.asc (by rw [List.getElem?_map, hw, ← hs]; rfl) (by rw [List.getElem?_map, hj, ← he]; rfl)
      · rintro (rfl | ⟨hv, hne⟩)
        · exact List.mem_iff_getElem?.2 ⟨_, List.getElem?_set_self hpl⟩
        · obtain ⟨j, hj⟩ := List.mem_iff_getElem?.1 hv
          refine List.mem_iff_getElem?.2 ⟨j, ?_⟩
          rw [List.getElem?_set_ne]
          · exact hj
          · rintro rfl
            rw [hw] at hj
            obtain rfl := Option.some.inj hj
            exact hne hs
    · rw [if_neg hs]
      exact new (no (by rw [List.getElem?_map, hw]; simpa using hs))
theorem endV_len (w : Wt) (o : List Tg) (win : Int) : (endV w o win).2.length ≤ o.length + w.held.length := by
  have h1 := gvL_len w
  unfold endV
  cases hh : (gvW w).held with
  | nil => dsimp only; rw [List.length_append]; omega
  | cons x r =>
    dsimp only
    rw [hh] at h1
    have h2 := gvL_len ⟨w.st, w.ep, x.sq, x :: r⟩
    split
    · simp only [List.length_append] at h1 h2 ⊢
      omega
    · simp only [List.length_append]; omega
theorem takeV_len (w : Wt) (t : Tg) (win : Int) : (takeV w t win).2.length ≤ w.held.length + 1 := by
  unfold takeV
  split
  · simp
  · split
    · unfold putV
      rw [if_neg (by simp)]
      have := endV_len ⟨w.st, t.ep, 0, [t]⟩ w.held win
      simpa using this
    · unfold putV
      split
      · simp
      · have := endV_len ⟨w.st, w.ep, w.nx, w.held.take (lb t.sq (keys w.held)) ++ [t] ++ w.held.drop (lb t.sq (keys w.held))⟩ [] win
        have h2 := ins_len (t := t) (lb_len t.sq w.held)
        dsimp only at this
        rw [h2] at this
        simpa using this
namespace Sta
/-- Stations 0 to 2, nothing of a frame that began. -/
structure GoodS (s : In) (win : Int) : Prop where
  ok : InOk s
  win : s.win = win
  tail : s.tail = []
  few : ∀ w ∈ s.sts, 0 ≤ w.st ∧ w.st ≤ 2
theorem GoodS.len {s : In} {win : Int} (h : GoodS s win) : s.sts.length ≤ 3 := by
  have := Lt.asc_len (L := s.sts.map (·.st)) (a := -1) (b := 2) h.ok.asc fun x hx => by
    obtain ⟨w, hw, rfl⟩ := List.mem_map.1 hx
    have := h.few w hw
    omega
  rw [List.length_map] at this
  omega
theorem GoodS.sized {s : In} {win : Int} (h : GoodS s win) : Sized s := by
  refine ⟨by rw [h.tail]; simp, by have := h.len; omega, by rw [h.tail]; simp, fun w hw => ?_⟩
  obtain ⟨_, _, _, _, _, _, h7, h8⟩ := h.ok.each w hw
  have := h.ok.wx
  exact ⟨by omega, fun t ht => by have := (held_mem h8 t ht).2.1.ln; omega⟩
/-- What both intakes know of station 1. -/
def RelS (s t : In) : Prop := ∀ w : Wt, w.st = 1 → (w ∈ s.sts ↔ w ∈ t.sts)
theorem stepS {s : In} {win : Int} (h : GoodS s win) {x : Tg} (hx : TgOk x) (hst : 0 ≤ x.st ∧ x.st ≤ 2) : ∃ s' o, accV s x = (s', o, 0) ∧ GoodS s' win ∧ o.length ≤ 20 ∧ (∀ y ∈ o, y.st = x.st ∧ TgOk y) ∧
    (∀ t, RelS s t → x.st ≠ 1 → RelS s' t) ∧ (∀ t, GoodS t win → RelS s t → x.st = 1 → ∃ t', accV t x = (t', o, 0) ∧ GoodS t' win ∧ RelS s' t') := by
  have hwin : 0 ≤ s.win := by have := h.ok.wn; omega
  obtain ⟨w0, k1, k2, k3, s', k4, k5, k6, k7⟩ := acc_mem h.ok hx (by have := h.len; omega)
  obtain ⟨m1, m2, m3⟩ := takeV_ok k1 hx k2.symm hwin
  have good : ∀ {i i' : In} (h : GoodS i win) {w0 : Wt} (k2 : w0.st = x.st) (k1 : WtOk w0 i.win), accV i x = (i', (takeV w0 x i.win).2, 0) → i'.win = i.win → i'.tail = i.tail → (∀ w, w ∈ i'.sts ↔ (w = (takeV w0 x i.win).1 ∨ (w ∈ i.sts ∧ w.st ≠ x.st))) → GoodS i' win := by
    intro i i' h w0 k2 k1 k4 k5 k6 k7
    have hwin : 0 ≤ i.win := by have := h.ok.wn; omega
    obtain ⟨m1, m2, m3⟩ := takeV_ok k1 hx k2.symm hwin
    have hok := accV_ok (t := x) h.ok
    rw [k4] at hok
    refine ⟨hok, k5.trans h.win, k6.trans h.tail, fun w hw => ?_⟩
    rcases (k7 w).1 hw with rfl | ⟨hw, _⟩
    · rw [m2, k2]; exact hst
    · exact h.few w hw
  refine ⟨s', (takeV w0 x s.win).2, k4, good h k2 k1 k4 k5 k6 k7, ?_, fun y hy => ⟨(m3 y hy).1.trans k2, (m3 y hy).2⟩, ?_, ?_⟩
  · have := takeV_len w0 x s.win
    have h7 := k1.2.2.2.2.2.2.1
    have := h.ok.wx
    omega
  · intro t hr hx1 w hw
    rw [← hr w hw, k7]
    constructor
    · rintro (rfl | ⟨hw2, _⟩)
      · rw [m2, k2] at hw; exact absurd hw hx1
      · exact hw2
    · intro hw2
      exact .inr ⟨hw2, by rw [hw]; exact fun e => hx1 e.symm⟩
  · intro t ht hr hx1
    obtain ⟨v0, n1, n2, n3, t', n4, n5, n6, n7⟩ := acc_mem ht.ok hx (by have := ht.len; omega)
    have e : v0 = w0 := by
      rcases k3 with k3 | ⟨k3, rfl⟩
      · have hw0 : w0 ∈ t.sts := (hr w0 (k2.trans hx1)).1 k3
        rcases n3 with n3 | ⟨n3, rfl⟩
        · exact ht.ok.uniq n3 hw0 (n2.trans k2.symm)
        · exact absurd k2 (n3 w0 hw0)
      · rcases n3 with n3 | ⟨n3, rfl⟩
        · exact absurd n2 (k3 v0 ((hr v0 (n2.trans hx1)).2 n3))
        · rfl
    subst e
    have ew : t.win = s.win := ht.win.trans h.win.symm
    have gt := good ht n2 n1 n4 n5 n6 n7
    rw [ew] at n4 n7
    refine ⟨t', n4, gt, fun w hw => ?_⟩
    rw [k7, n7]
    constructor
    · rintro (hw2 | ⟨hw2, hne⟩)
      · exact .inl hw2
      · exact .inr ⟨(hr w hw).1 hw2, hne⟩
    · rintro (hw2 | ⟨hw2, hne⟩)
      · exact .inl hw2
      · exact .inr ⟨(hr w hw).2 hw2, hne⟩
end Sta
open Sta
set_option maxRecDepth 100000 in
set_option maxHeartbeats 16000000 in
theorem sta_fn (l : List Int) (cnt : Nat) (hl : l.length ≤ 9223372036854775807) (wl : ∀ z ∈ l, -9223372036854775808 ≤ z ∧ z ≤ 9223372036854775807) (hc : cnt < 256) : FnOk Try.prog 5 [.t (encIs l), .t (.lit (.int .u8 cnt))] [] (.t (.bool true)) [] := by
  have hnl := new_fn l hl
  have hsr := new_ok wl
  obtain ⟨W, hW⟩ : ∃ W, newL2 l = W := ⟨_, rfl⟩
  rw [hW] at hnl hsr
  obtain ⟨win, hwin⟩ : ∃ n : Nat, n = cnt % 5 := ⟨_, rfl⟩
  have hw5 : win < 5 := by omega
  have hmod : (cnt : Int).tmod 5 = (win : Int) := by rw [Int.tmod_eq_emod_of_nonneg (by omega)]; omega
  have hmod2 : (cnt : Int) % 5 = (win : Int) := by omega
  have hwc : IntKind.i64.wrap (cnt : Int) = (cnt : Int) := by rw [IntKind.wrap_i64]; omega
  have cw := inew_fn (win : Int) ⟨win, [], []⟩ 0 (by unfold newV; rw [if_neg (by omega)])
  have ca := inawake_fn
  obtain ⟨v, hv, cv⟩ := n_ex hsr 20 (by omega) (by omega)
  have hsr1 := hsr.next
  obtain ⟨K1, hK1⟩ : ∃ K, nextK W 0 = K := ⟨_, rfl⟩
  rw [hK1] at cv hsr1
  obtain ⟨n, rfl⟩ : ∃ w : Nat, v = (w : Int) := ⟨v.toNat, by omega⟩
  have hi0 : InOk ⟨win, [], []⟩ := inOk_of (by dsimp only; omega) (by dsimp only; omega) (by simp) (by simp) (.inl rfl) (by simp) trivial
  have hg0 : GoodS ⟨win, [], []⟩ win := ⟨hi0, rfl, rfl, by simp⟩
  refine FnOk.intro fact_mixed Try.func5 rfl Try.ntmps5 (by rfl) (by simp) ?_
  repeat (first | (refine nf1_sound rfl ?_; simp [go_sem, ↓IntWalk.iteOmega, IntWalk.iteOmega, IntWalk.toNatUp]; (repeat (refine And.intro (by omega) ?_)); try (refine ⟨DrawChk_of (by kernel_rfl), ?_⟩)) | (refine itePos (by omega) ?_; try simp [go_sem, ↓IntWalk.iteOmega, IntWalk.iteOmega, IntWalk.toNatUp]) | (refine iteNeg (by omega) ?_; try simp [go_sem, ↓IntWalk.iteOmega, IntWalk.iteOmega, IntWalk.toNatUp]) | (refine ⟨DrawChk_of (by kernel_rfl), ?_⟩))
  refine CallK.fn (hnl) [(1000, 605)] [] [] (by kernel_rfl) (by simp [go_sem, ↓IntWalk.iteOmega, IntWalk.iteOmega, IntWalk.toNatUp]) (by simp [go_sem, ↓IntWalk.iteOmega, IntWalk.iteOmega, IntWalk.toNatUp]) (by simp [go_sem, ↓IntWalk.iteOmega, IntWalk.iteOmega, IntWalk.toNatUp]) (Or.inl rfl) ?_
  simp [go_sem, ↓IntWalk.iteOmega, IntWalk.iteOmega, IntWalk.toNatUp]
  repeat (refine And.intro (by omega) ?_)
  try (refine ⟨DrawChk_of (by kernel_rfl), ?_⟩)
  repeat (first | (refine nf1_sound rfl ?_; simp [go_sem, ↓IntWalk.iteOmega, IntWalk.iteOmega, IntWalk.toNatUp, hmod, hmod2, hwc]; (repeat (refine And.intro (by omega) ?_)); try (refine ⟨DrawChk_of (by kernel_rfl), ?_⟩)) | (refine itePos (by omega) ?_; try simp [go_sem, ↓IntWalk.iteOmega, IntWalk.iteOmega, IntWalk.toNatUp, hmod, hmod2, hwc]) | (refine iteNeg (by omega) ?_; try simp [go_sem, ↓IntWalk.iteOmega, IntWalk.iteOmega, IntWalk.toNatUp, hmod, hmod2, hwc]) | (refine ⟨DrawChk_of (by kernel_rfl), ?_⟩))
  refine CallK.fn (cw) [] [] [] (by kernel_rfl) (by simp [go_sem, ↓IntWalk.iteOmega, IntWalk.iteOmega, IntWalk.toNatUp, hmod, hmod2, hwc]) (by simp [go_sem, ↓IntWalk.iteOmega, IntWalk.iteOmega, IntWalk.toNatUp, hmod, hmod2, hwc]) (by simp [go_sem, ↓IntWalk.iteOmega, IntWalk.iteOmega, IntWalk.toNatUp, hmod, hmod2, hwc]) (Or.inl rfl) ?_
  simp [go_sem, ↓IntWalk.iteOmega, IntWalk.iteOmega, IntWalk.toNatUp, hmod, hmod2, hwc]
  repeat (refine And.intro (by omega) ?_)
  try (refine ⟨DrawChk_of (by kernel_rfl), ?_⟩)
  repeat (first | (refine nf1_sound rfl ?_; simp [go_sem, ↓IntWalk.iteOmega, IntWalk.iteOmega, IntWalk.toNatUp, hmod, hmod2, hwc]; (repeat (refine And.intro (by omega) ?_)); try (refine ⟨DrawChk_of (by kernel_rfl), ?_⟩)) | (refine itePos (by omega) ?_; try simp [go_sem, ↓IntWalk.iteOmega, IntWalk.iteOmega, IntWalk.toNatUp, hmod, hmod2, hwc]) | (refine iteNeg (by omega) ?_; try simp [go_sem, ↓IntWalk.iteOmega, IntWalk.iteOmega, IntWalk.toNatUp, hmod, hmod2, hwc]) | (refine ⟨DrawChk_of (by kernel_rfl), ?_⟩))
  refine CallK.fn (cw) [] [] [] (by kernel_rfl) (by simp [go_sem, ↓IntWalk.iteOmega, IntWalk.iteOmega, IntWalk.toNatUp, hmod, hmod2, hwc]) (by simp [go_sem, ↓IntWalk.iteOmega, IntWalk.iteOmega, IntWalk.toNatUp, hmod, hmod2, hwc]) (by simp [go_sem, ↓IntWalk.iteOmega, IntWalk.iteOmega, IntWalk.toNatUp, hmod, hmod2, hwc]) (Or.inl rfl) ?_
  simp [go_sem, ↓IntWalk.iteOmega, IntWalk.iteOmega, IntWalk.toNatUp, hmod, hmod2, hwc]
  repeat (refine And.intro (by omega) ?_)
  try (refine ⟨DrawChk_of (by kernel_rfl), ?_⟩)
  repeat (first | (refine nf1_sound rfl ?_; simp [go_sem, ↓IntWalk.iteOmega, IntWalk.iteOmega, IntWalk.toNatUp]; (repeat (refine And.intro (by omega) ?_)); try (refine ⟨DrawChk_of (by kernel_rfl), ?_⟩)) | (refine itePos (by omega) ?_; try simp [go_sem, ↓IntWalk.iteOmega, IntWalk.iteOmega, IntWalk.toNatUp]) | (refine iteNeg (by omega) ?_; try simp [go_sem, ↓IntWalk.iteOmega, IntWalk.iteOmega, IntWalk.toNatUp]) | (refine ⟨DrawChk_of (by kernel_rfl), ?_⟩))
  refine CallK.fn (cv) [(0, 605)] [] [] (by kernel_rfl) (by simp [go_sem, ↓IntWalk.iteOmega, IntWalk.iteOmega, IntWalk.toNatUp]) (by simp [go_sem, ↓IntWalk.iteOmega, IntWalk.iteOmega, IntWalk.toNatUp]) (by simp [go_sem, ↓IntWalk.iteOmega, IntWalk.iteOmega, IntWalk.toNatUp]) (Or.inl rfl) ?_
  simp [go_sem, ↓IntWalk.iteOmega, IntWalk.iteOmega, IntWalk.toNatUp]
  repeat (refine And.intro (by omega) ?_)
  try (refine ⟨DrawChk_of (by kernel_rfl), ?_⟩)
  repeat (first | (refine nf1_sound rfl ?_; simp [go_sem, ↓IntWalk.iteOmega, IntWalk.iteOmega, IntWalk.toNatUp]; (repeat (refine And.intro (by omega) ?_)); try (refine ⟨DrawChk_of (by kernel_rfl), ?_⟩)) | (refine itePos (by omega) ?_; try simp [go_sem, ↓IntWalk.iteOmega, IntWalk.iteOmega, IntWalk.toNatUp]) | (refine iteNeg (by omega) ?_; try simp [go_sem, ↓IntWalk.iteOmega, IntWalk.iteOmega, IntWalk.toNatUp]) | (refine ⟨DrawChk_of (by kernel_rfl), ?_⟩))
  refine nf1_sound' _ _ _ ?_; simp only [nf1]
  refine CW.loop (ι := Nat × Nat × In × In × List Tg) (fun j => ⟨[(5, .pt 505 [] 0), (6, .pt 506 [] 0), (8, .pt 508 [] 0), (10, .own 510), (11, .own 511), (12, .t (.int ((n : Int) - j.2.1)))], [(505, srcB W j.1), (506, .box 29 (.t (encIn j.2.2.1))), (508, .box 29 (.t (encIn j.2.2.2.1))), (510, blkTgs j.2.2.2.2), (511, blkTgs j.2.2.2.2)]⟩)
    (fun j => SrcOk W j.1 ∧ j.2.1 ≤ n ∧ GoodS j.2.2.1 win ∧ GoodS j.2.2.2.1 win ∧ RelS j.2.2.1 j.2.2.2.1 ∧ j.2.2.2.2.length ≤ 20 * j.2.1 ∧ ∀ t ∈ j.2.2.2.2, TgOk t) (fun j => n - j.2.1) (K1, 0, ⟨win, [], []⟩, ⟨win, [], []⟩, []) [(505, some 605), (506, some 106), (508, some 108), (510, none), (511, none)] ⟨hsr1, Nat.zero_le _, hg0, hg0, fun w _ => Iff.rfl, by simp, by simp⟩ ?_ ?_
  · simp [go_sem, ↓IntWalk.iteOmega, IntWalk.iteOmega, IntWalk.toNatUp]
  rintro ⟨K, d, s, t, acc⟩ ⟨hK, hd, hgs, hgt, hrel, hal, hat⟩
  dsimp only at hK hd hgs hgt hrel hal hat ⊢
  by_cases hdn : d < n
  · obtain ⟨st, hst, c1⟩ := n_ex hK 3 (by omega) (by omega)
    obtain ⟨K2, x, hK2, hx, hxs, hxv, c2⟩ := telegram_ex hK.next st (by omega)
    obtain ⟨s', o, hacc, hgs', hol, hos, hrel1, hrel2⟩ := stepS hgs hx (by omega)
    have c3 := accept_fn s x hgs.sized (by omega) hgs.ok
    rw [hacc] at c3
    obtain ⟨x1, x2, x3, x4, x5, xv⟩ := x
    dsimp only at hxs hxv hos hrel1 hrel2
    subst hxs
    repeat (first | (refine nf1_sound rfl ?_; simp [go_sem, ↓IntWalk.iteOmega, IntWalk.iteOmega, IntWalk.toNatUp]; (repeat (refine And.intro (by omega) ?_)); try (refine ⟨DrawChk_of (by kernel_rfl), ?_⟩)) | (refine itePos (by omega) ?_; try simp [go_sem, ↓IntWalk.iteOmega, IntWalk.iteOmega, IntWalk.toNatUp]) | (refine iteNeg (by omega) ?_; try simp [go_sem, ↓IntWalk.iteOmega, IntWalk.iteOmega, IntWalk.toNatUp]) | (refine ⟨DrawChk_of (by kernel_rfl), ?_⟩))
    refine CallK.fn (c1) [(0, 505)] [] [] (by kernel_rfl) (by simp [go_sem, ↓IntWalk.iteOmega, IntWalk.iteOmega, IntWalk.toNatUp]) (by simp [go_sem, ↓IntWalk.iteOmega, IntWalk.iteOmega, IntWalk.toNatUp]) (by simp [go_sem, ↓IntWalk.iteOmega, IntWalk.iteOmega, IntWalk.toNatUp]) (Or.inl rfl) ?_
    simp [go_sem, ↓IntWalk.iteOmega, IntWalk.iteOmega, IntWalk.toNatUp]
    repeat (refine And.intro (by omega) ?_)
    try (refine ⟨DrawChk_of (by kernel_rfl), ?_⟩)
    refine CallK.fn (c2) [(0, 505), (1000, 653)] [] [] (by kernel_rfl) (by simp [go_sem, ↓IntWalk.iteOmega, IntWalk.iteOmega, IntWalk.toNatUp]) (by simp [go_sem, ↓IntWalk.iteOmega, IntWalk.iteOmega, IntWalk.toNatUp]) (by simp [go_sem, ↓IntWalk.iteOmega, IntWalk.iteOmega, IntWalk.toNatUp]) (Or.inl rfl) ?_
    simp [go_sem, ↓IntWalk.iteOmega, IntWalk.iteOmega, IntWalk.toNatUp]
    repeat (refine And.intro (by omega) ?_)
    try (refine ⟨DrawChk_of (by kernel_rfl), ?_⟩)
    refine nf_sound [11] _ _ _ ?_
    simp (maxSteps := 2000000) [go_sem, ↓IntWalk.iteOmega, IntWalk.iteOmega, IntWalk.toNatUp, go_sem, stops, firstReg]
    refine CW.weak (ρ := [(505, some 505), (506, some 506), (508, some 508), (510, some 510), (511, some 511), (513, some 113)]) (σ' := ⟨[(5, .pt 505 [] 0), (6, .pt 506 [] 0), (8, .pt 508 [] 0), (10, .own 510), (11, .own 511), (12, .t (.int ((n : Int) - d))), (13, .pt 513 [] 0)], [(505, srcB W K2), (506, .box 29 (.t (encIn s))), (508, .box 29 (.t (encIn t))), (510, blkTgs acc), (511, blkTgs acc), (513, .box 38 (.t (.agg [.int x1, .int x2, .int x3, .int x4, .int x5, encIs xv])))]⟩) ?_ ?_
    · simp [go_sem, ↓IntWalk.iteOmega, IntWalk.iteOmega, IntWalk.toNatUp, wkXs]
    repeat (first | (refine nf1_sound rfl ?_; simp [go_sem, ↓IntWalk.iteOmega, IntWalk.iteOmega, IntWalk.toNatUp]; (repeat (refine And.intro (by omega) ?_)); try (refine ⟨DrawChk_of (by kernel_rfl), ?_⟩)) | (refine itePos (by omega) ?_; try simp [go_sem, ↓IntWalk.iteOmega, IntWalk.iteOmega, IntWalk.toNatUp]) | (refine iteNeg (by omega) ?_; try simp [go_sem, ↓IntWalk.iteOmega, IntWalk.iteOmega, IntWalk.toNatUp]) | (refine ⟨DrawChk_of (by kernel_rfl), ?_⟩))
    refine CallK.fn (c3) [] [] [] (by kernel_rfl) (by simp [go_sem, ↓IntWalk.iteOmega, IntWalk.iteOmega, IntWalk.toNatUp]) (by simp [go_sem, ↓IntWalk.iteOmega, IntWalk.iteOmega, IntWalk.toNatUp]) (by simp [go_sem, ↓IntWalk.iteOmega, IntWalk.iteOmega, IntWalk.toNatUp]) (Or.inl rfl) ?_
    simp [go_sem, ↓IntWalk.iteOmega, IntWalk.iteOmega, IntWalk.toNatUp]
    repeat (refine And.intro (by omega) ?_)
    try (refine ⟨DrawChk_of (by kernel_rfl), ?_⟩)
    repeat (first | (refine nf1_sound rfl ?_; simp [go_sem, ↓IntWalk.iteOmega, IntWalk.iteOmega, IntWalk.toNatUp]; (repeat (refine And.intro (by omega) ?_)); try (refine ⟨DrawChk_of (by kernel_rfl), ?_⟩)) | (refine itePos (by omega) ?_; try simp [go_sem, ↓IntWalk.iteOmega, IntWalk.iteOmega, IntWalk.toNatUp]) | (refine iteNeg (by omega) ?_; try simp [go_sem, ↓IntWalk.iteOmega, IntWalk.iteOmega, IntWalk.toNatUp]) | (refine ⟨DrawChk_of (by kernel_rfl), ?_⟩))
    refine nf1_sound' _ _ _ ?_; simp only [nf1]
    refine CW.loop (ι := Nat) (fun j => ⟨[(5, .pt 505 [] 0), (6, .pt 506 [] 0), (8, .pt 508 [] 0), (10, .own 510), (11, .own 511), (12, .t (.int ((n : Int) - d))), (13, .pt 513 [] 0), (64, .t (encTgs o)), (65, .t (.int o.length)), (66, .t (.int j))], [(505, srcB W K2), (506, .box 29 (.t (encIn s'))), (508, .box 29 (.t (encIn t))), (510, blkTgs (if x1 = 1 then acc ++ o.take j else acc)), (511, blkTgs acc), (513, .box 38 (.t (.agg [.int x1, .int x2, .int x3, .int x4, .int x5, encIs xv])))]⟩) (fun j => j ≤ o.length) (fun j => o.length - j) 0 [(505, some 505), (506, some 506), (508, some 508), (510, some 510), (511, some 511), (513, some 513)] (by omega) ?_ ?_
    · simp [go_sem, ↓IntWalk.iteOmega, IntWalk.iteOmega, IntWalk.toNatUp]
    intro j hj
    by_cases hx1 : x1 = 1
    · subst hx1
      simp only [if_true]
      obtain ⟨t', ht1, ht2, ht3⟩ := hrel2 t hgt hrel rfl
      have c4 := accept_fn t ⟨1, x2, x3, x4, x5, xv⟩ hgt.sized (by dsimp only; omega) hgt.ok
      rw [ht1] at c4
      by_cases hjo : j < o.length
      · obtain ⟨y, hy⟩ := has_get hjo
        have hys := (hos y (mem_get hy)).1
        have hsn := take_snoc hy
        obtain ⟨y1, y2, y3, y4, y5, yv⟩ := y
        dsimp only at hys
        subst hys
        have hall : (acc ++ o.take j).length ≤ 500 := by simp; omega
        obtain ⟨Z, hZ⟩ : ∃ Z, acc ++ o.take j = Z := ⟨_, rfl⟩
        have hZ2 : acc ++ o.take (j + 1) = Z ++ [⟨1, y2, y3, y4, y5, yv⟩] := by rw [hsn, ← hZ, List.append_assoc]
        rw [hZ] at hall ⊢
        repeat (first | (refine nf1_sound rfl ?_; simp [go_sem, ↓IntWalk.iteOmega, IntWalk.iteOmega, IntWalk.toNatUp, hy]; (repeat (refine And.intro (by omega) ?_)); try (refine ⟨DrawChk_of (by kernel_rfl), ?_⟩)) | (refine itePos (by omega) ?_; try simp [go_sem, ↓IntWalk.iteOmega, IntWalk.iteOmega, IntWalk.toNatUp, hy]) | (refine iteNeg (by omega) ?_; try simp [go_sem, ↓IntWalk.iteOmega, IntWalk.iteOmega, IntWalk.toNatUp, hy]) | (refine ⟨DrawChk_of (by kernel_rfl), ?_⟩))
        rw [RoundQ_normal]; refine ⟨j + 1, [(505, some 505), (506, some 506), (508, some 508), (510, some 176), (511, some 511), (513, some 513)], ?_, ?_, ?_⟩
        · omega
        · omega
        simp [go_sem, ↓IntWalk.iteOmega, IntWalk.iteOmega, IntWalk.toNatUp]
        rw [← List.map_take, ← List.map_append, hZ2, List.map_append]
        rfl
      · obtain rfl : j = o.length := by omega
        rw [List.take_length]
        have hall : (acc ++ o).length ≤ 500 := by simp; omega
        repeat (first | (refine nf1_sound rfl ?_; simp [go_sem, ↓IntWalk.iteOmega, IntWalk.iteOmega, IntWalk.toNatUp]; (repeat (refine And.intro (by omega) ?_)); try (refine ⟨DrawChk_of (by kernel_rfl), ?_⟩)) | (refine itePos (by omega) ?_; try simp [go_sem, ↓IntWalk.iteOmega, IntWalk.iteOmega, IntWalk.toNatUp]) | (refine iteNeg (by omega) ?_; try simp [go_sem, ↓IntWalk.iteOmega, IntWalk.iteOmega, IntWalk.toNatUp]) | (refine ⟨DrawChk_of (by kernel_rfl), ?_⟩))
        refine CallK.fn (c4) [] [] [] (by kernel_rfl) (by simp [go_sem, ↓IntWalk.iteOmega, IntWalk.iteOmega, IntWalk.toNatUp]) (by simp [go_sem, ↓IntWalk.iteOmega, IntWalk.iteOmega, IntWalk.toNatUp]) (by simp [go_sem, ↓IntWalk.iteOmega, IntWalk.iteOmega, IntWalk.toNatUp]) (Or.inl rfl) ?_
        simp [go_sem, ↓IntWalk.iteOmega, IntWalk.iteOmega, IntWalk.toNatUp]
        repeat (refine And.intro (by omega) ?_)
        try (refine ⟨DrawChk_of (by kernel_rfl), ?_⟩)
        repeat (first | (refine nf1_sound rfl ?_; simp [go_sem, ↓IntWalk.iteOmega, IntWalk.iteOmega, IntWalk.toNatUp]; (repeat (refine And.intro (by omega) ?_)); try (refine ⟨DrawChk_of (by kernel_rfl), ?_⟩)) | (refine itePos (by omega) ?_; try simp [go_sem, ↓IntWalk.iteOmega, IntWalk.iteOmega, IntWalk.toNatUp]) | (refine iteNeg (by omega) ?_; try simp [go_sem, ↓IntWalk.iteOmega, IntWalk.iteOmega, IntWalk.toNatUp]) | (refine ⟨DrawChk_of (by kernel_rfl), ?_⟩))
        rw [RoundQ_normal]; refine ⟨(K2, d + 1, s', t', acc ++ o), [(505, some 505), (506, some 506), (508, some 508), (510, some 510), (511, some 193)], ?_, ?_, ?_⟩
        · refine ⟨hK2, by dsimp only; omega, hgs', ht2, ht3, by simp; omega, fun y hy => ?_⟩
          rcases List.mem_append.1 hy with hy | hy
          · exact hat y hy
          · exact (hos y hy).2
        · dsimp only; omega
        simp [go_sem, ↓IntWalk.iteOmega, IntWalk.iteOmega, IntWalk.toNatUp]
        omega
    · simp only [if_neg hx1]
      by_cases hjo : j < o.length
      · obtain ⟨y, hy⟩ := has_get hjo
        have hys := (hos y (mem_get hy)).1
        obtain ⟨y1, y2, y3, y4, y5, yv⟩ := y
        dsimp only at hys
        subst hys
        repeat (first | (refine nf1_sound rfl ?_; simp [go_sem, ↓IntWalk.iteOmega, IntWalk.iteOmega, IntWalk.toNatUp, hy, hx1]; (repeat (refine And.intro (by omega) ?_)); try (refine ⟨DrawChk_of (by kernel_rfl), ?_⟩)) | (refine itePos (by omega) ?_; try simp [go_sem, ↓IntWalk.iteOmega, IntWalk.iteOmega, IntWalk.toNatUp, hy, hx1]) | (refine iteNeg (by omega) ?_; try simp [go_sem, ↓IntWalk.iteOmega, IntWalk.iteOmega, IntWalk.toNatUp, hy, hx1]) | (refine ⟨DrawChk_of (by kernel_rfl), ?_⟩))
        rw [RoundQ_normal]; refine ⟨j + 1, [(505, some 505), (506, some 506), (508, some 508), (510, some 510), (511, some 511), (513, some 513)], ?_, ?_, ?_⟩
        · omega
        · omega
        simp [go_sem, ↓IntWalk.iteOmega, IntWalk.iteOmega, IntWalk.toNatUp, hx1]
      · obtain rfl : j = o.length := by omega
        repeat (first | (refine nf1_sound rfl ?_; simp [go_sem, ↓IntWalk.iteOmega, IntWalk.iteOmega, IntWalk.toNatUp, hx1]; (repeat (refine And.intro (by omega) ?_)); try (refine ⟨DrawChk_of (by kernel_rfl), ?_⟩)) | (refine itePos (by omega) ?_; try simp [go_sem, ↓IntWalk.iteOmega, IntWalk.iteOmega, IntWalk.toNatUp, hx1]) | (refine iteNeg (by omega) ?_; try simp [go_sem, ↓IntWalk.iteOmega, IntWalk.iteOmega, IntWalk.toNatUp, hx1]) | (refine ⟨DrawChk_of (by kernel_rfl), ?_⟩))
        rw [RoundQ_normal]; refine ⟨(K2, d + 1, s', t, acc), [(505, some 505), (506, some 506), (508, some 508), (510, some 510), (511, some 511)], ?_, ?_, ?_⟩
        · exact ⟨hK2, by dsimp only; omega, hgs', hgt, hrel1 t hrel hx1, by dsimp only; omega, hat⟩
        · dsimp only; omega
        simp [go_sem, ↓IntWalk.iteOmega, IntWalk.iteOmega, IntWalk.toNatUp]
        omega
  · obtain rfl : d = n := by omega
    have cal := ralike_fn acc (by omega) (fun t ht => by have := (hat t ht).ln; omega)
    repeat (first | (refine nf1_sound rfl ?_; simp [go_sem, ↓IntWalk.iteOmega, IntWalk.iteOmega, IntWalk.toNatUp]; (repeat (refine And.intro (by omega) ?_)); try (refine ⟨DrawChk_of (by kernel_rfl), ?_⟩)) | (refine itePos (by omega) ?_; try simp [go_sem, ↓IntWalk.iteOmega, IntWalk.iteOmega, IntWalk.toNatUp]) | (refine iteNeg (by omega) ?_; try simp [go_sem, ↓IntWalk.iteOmega, IntWalk.iteOmega, IntWalk.toNatUp]) | (refine ⟨DrawChk_of (by kernel_rfl), ?_⟩))
    refine CallK.fn (cal) [] [510, 511] [] (by kernel_rfl) (by simp [go_sem, ↓IntWalk.iteOmega, IntWalk.iteOmega, IntWalk.toNatUp]) (by simp [go_sem, ↓IntWalk.iteOmega, IntWalk.iteOmega, IntWalk.toNatUp]) (by simp [go_sem, ↓IntWalk.iteOmega, IntWalk.iteOmega, IntWalk.toNatUp]) (Or.inr ⟨by simp [go_sem, ↓IntWalk.iteOmega, IntWalk.iteOmega, IntWalk.toNatUp], by simp [go_sem, ↓IntWalk.iteOmega, IntWalk.iteOmega, IntWalk.toNatUp]⟩) ?_
    simp [go_sem, ↓IntWalk.iteOmega, IntWalk.iteOmega, IntWalk.toNatUp]
    repeat (refine And.intro (by omega) ?_)
    try (refine ⟨DrawChk_of (by kernel_rfl), ?_⟩)
    refine CallK.fn (ca) [] [] [] (by kernel_rfl) (by simp [go_sem, ↓IntWalk.iteOmega, IntWalk.iteOmega, IntWalk.toNatUp]) (by simp [go_sem, ↓IntWalk.iteOmega, IntWalk.iteOmega, IntWalk.toNatUp]) (by simp [go_sem, ↓IntWalk.iteOmega, IntWalk.iteOmega, IntWalk.toNatUp]) (Or.inl rfl) ?_
    simp [go_sem, ↓IntWalk.iteOmega, IntWalk.iteOmega, IntWalk.toNatUp]
    repeat (refine And.intro (by omega) ?_)
    try (refine ⟨DrawChk_of (by kernel_rfl), ?_⟩)
    repeat (first | (refine nf1_sound rfl ?_; simp [go_sem, ↓IntWalk.iteOmega, IntWalk.iteOmega, IntWalk.toNatUp]; (repeat (refine And.intro (by omega) ?_)); try (refine ⟨DrawChk_of (by kernel_rfl), ?_⟩)) | (refine itePos (by omega) ?_; try simp [go_sem, ↓IntWalk.iteOmega, IntWalk.iteOmega, IntWalk.toNatUp]) | (refine iteNeg (by omega) ?_; try simp [go_sem, ↓IntWalk.iteOmega, IntWalk.iteOmega, IntWalk.toNatUp]) | (refine ⟨DrawChk_of (by kernel_rfl), ?_⟩))
    first | rw [RetQ_ret] | rw [RetQ_normal]
    refine ⟨[], ?_⟩
    simp [go_sem, ↓IntWalk.iteOmega, IntWalk.iteOmega, IntWalk.toNatUp]
theorem sta_all (x0 x1 : T) (h0 : InSh (.sl (.int .i64)) x0) (h1 : InSh (.int .u8) x1) :
    FnOk Try.prog 5 [.t x0, .t x1] [] (.t (.bool true)) [] := by
  obtain ⟨l, rfl, hl, wl⟩ := ints_in h0
  obtain ⟨n, rfl, hw⟩ := insh_int h1
  simp [Lit.wf, IntKind.min, IntKind.max, IntKind.signed, IntKind.bits] at hw
  obtain ⟨m, rfl⟩ : ∃ m : Nat, n = (m : Int) := ⟨n.toNat, by omega⟩
  exact sta_fn l m hl wl (by omega)
end Go.Proofs.Ytopmmodcaoaaeaa
