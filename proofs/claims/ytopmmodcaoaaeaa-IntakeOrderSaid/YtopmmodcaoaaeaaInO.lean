/- The law IntakeOrder: the telegrams of each station are given out in order. No condition. -/
import Derived.Test.YtopmmodcaoaaeaaInJ
import Derived.Test.YtopmmodcaoaaeaaInS
import Derived.Test.YtopmmodcaoaaeaaKArg
namespace Go.Proofs.Ytopmmodcaoaaeaa
open Go.RowKit Sy
open Go.IntWalk (iteOmega toNatUp)
set_option linter.unusedVariables false
set_option linter.unusedSimpArgs false
/-- What Accept does, said by membership; or it is full. -/
theorem acc_mem2 {i : In} {x : Tg} (h : InOk i) (hx : TgOk x) : accV i x = (i, [], 4) ∨ ∃ w0, WtOk w0 i.win ∧ w0.st = x.st ∧ (w0 ∈ i.sts ∨ (∀ w ∈ i.sts, w.st ≠ x.st) ∧ w0 = ⟨x.st, x.ep, 0, []⟩) ∧
    ∃ i', accV i x = (i', (takeV w0 x i.win).2, 0) ∧ i'.win = i.win ∧ i'.tail = i.tail ∧ ∀ w, w ∈ i'.sts ↔ (w = (takeV w0 x i.win).1 ∨ (w ∈ i.sts ∧ w.st ≠ x.st)) := by
  by_cases h64 : i.sts.length < 64
  · exact .inr (acc_mem h hx h64)
  have h64 : i.sts.length = 64 := by have := h.sl; omega
  have hwin : 0 ≤ i.win := by have := h.wn; omega
  have new : ∀ p, newA i x p = (i, [], 4) := fun p => by unfold newA; rw [if_pos h64]
  have no : (i.sts.map (·.st))[lb x.st (i.sts.map (·.st))]? ≠ some x.st → ∀ w ∈ i.sts, w.st ≠ x.st := fun hk w hw he =>
    hk (lb_mem h.asc (by rw [← he]; exact List.mem_map.2 ⟨w, hw, rfl⟩))
  unfold accV
  rw [if_pos hx]
  unfold accA
  cases hw : i.sts[lb x.st (i.sts.map (·.st))]? with
  | none => exact .inl (new _)
  | some w =>
    dsimp only
    by_cases hs : w.st = x.st
    · rw [if_pos hs]
      refine .inr ⟨w, h.each w (mem_get hw), hs, .inl (mem_get hw), _, rfl, rfl, rfl, fun v => ?_⟩
      dsimp only
      have hpl := (List.getElem?_eq_some_iff.1 hw).1
      constructor
      · intro hv
        obtain ⟨j, hj⟩ := List.mem_iff_getElem?.1 hv
        rw [List.getElem?_set] at hj
        split at hj
        · rename_i e
          subst e
          exact .inl (Option.some.inj hj).symm
        · rename_i hne
          refine .inr ⟨mem_get hj, fun he => hne ?_⟩
          exact asc_inj (a := x.st) h.asc (by rw [List.getElem?_map, hw, ← hs]; rfl) (by rw [List.getElem?_map, hj, ← he]; rfl)
      · rintro (rfl | ⟨hv, hne⟩)
        · exact List.mem_iff_getElem?.2 ⟨_, List.getElem?_set_self hpl⟩
        · obtain ⟨j, hj⟩ := List.mem_iff_getElem?.1 hv
          refine List.mem_iff_getElem?.2 ⟨j, ?_⟩
          rw [List.getElem?_set_ne]
          · exact hj
          · rintro rfl
            rw [hw] at hj
            obtain rfl := Option.some.inj hj
            exact hne hs
    · rw [if_neg hs]
      exact .inl (new _)
/-- One comes before the other, of one station. -/
def ltT (a b : Tg) : Prop := a.ep < b.ep ∨ a.ep = b.ep ∧ a.sq < b.sq
def blW (y : Tg) (w : Wt) : Prop := y.ep < w.ep ∨ y.ep = w.ep ∧ y.sq < w.nx
def geW (w : Wt) (y : Tg) : Prop := w.ep < y.ep ∨ w.ep = y.ep ∧ w.nx ≤ y.sq
theorem held_pw {st ep : Int} : ∀ {la : Int} {l : List Tg}, heldOk st ep la l → l.Pairwise ltT
  | _, [], _ => List.Pairwise.nil
  | la, t :: r, h => by
    rw [held_cons] at h
    obtain ⟨h1, h2, h3, h4, h5⟩ := h
    refine List.Pairwise.cons (fun y hy => ?_) (held_pw h5)
    have := held_mem h5 y hy
    exact .inr ⟨by rw [h3, this.2.2.2], this.1⟩
theorem gv_ord {w : Wt} {la : Int} (h : heldOk w.st w.ep la w.held) : (gvL w).Pairwise ltT ∧ ∀ y ∈ gvL w, y.ep = w.ep ∧ w.nx ≤ y.sq ∧ y.sq < (gvW w).nx := by
  refine ⟨List.Pairwise.sublist (List.take_sublist _ _) (held_pw h), fun y hy => ?_⟩
  unfold gvL at hy
  refine ⟨(held_mem h y (List.mem_of_mem_take hy)).2.2.2, ?_⟩
  obtain ⟨j, hj⟩ := List.mem_iff_getElem?.1 hy
  rw [List.getElem?_take] at hj
  split at hj
  · rename_i hlt
    obtain ⟨t, h1, h2⟩ := giveN_lt w.nx w.held hlt
    rw [h1] at hj
    obtain rfl := Option.some.inj hj
    unfold gvW
    dsimp only
    omega
  · cases hj
/-- What is given out after a telegram was put in lies behind what was, and ahead of what may come. -/
theorem endV_ord {w : Wt} {o : List Tg} {win : Int} (h6 : w.nx ≤ 2147483649) (h8 : heldOk w.st w.ep (w.nx - 1) w.held) :
    ∃ g, (endV w o win).2 = o ++ g ∧ g.Pairwise ltT ∧ (endV w o win).1.ep = w.ep ∧ w.nx ≤ (endV w o win).1.nx ∧ ∀ y ∈ g, y.ep = w.ep ∧ w.nx ≤ y.sq ∧ y.sq < (endV w o win).1.nx := by
  obtain ⟨a1, a2⟩ := gv_ord h8
  obtain ⟨g1, _⟩ := held_give h8 h6
  have base : w.nx ≤ (gvW w).nx := by unfold gvW; dsimp only; omega
  unfold endV
  cases hh : (gvW w).held with
  | nil => exact ⟨_, rfl, a1, rfl, base, a2⟩
  | cons x r =>
    dsimp only
    have hd : w.held.drop (giveN w.nx w.held) = x :: r := hh
    rw [hd] at g1
    by_cases hl : win < (r.length + 1 : Nat)
    · rw [if_pos hl]
      have g1' := g1
      rw [held_cons] at g1
      obtain ⟨b1, b2⟩ := gv_ord (w := ⟨w.st, w.ep, x.sq, x :: r⟩) g1'
      have hx : (gvW w).nx < x.sq := g1.2.2.2.1
      have hb : x.sq ≤ (gvW ⟨w.st, w.ep, x.sq, x :: r⟩).nx := by unfold gvW; dsimp only; omega
      refine ⟨gvL w ++ gvL ⟨w.st, w.ep, x.sq, x :: r⟩, by rw [List.append_assoc], List.pairwise_append.2 ⟨a1, b1, fun y hy z hz => ?_⟩, rfl, by dsimp only; omega, fun y hy => ?_⟩
      · have h1 := a2 y hy
        have h2 := b2 z hz
        dsimp only at h2
        exact .inr ⟨by rw [h1.1, h2.1], by omega⟩
      · rcases List.mem_append.1 hy with hy | hy
        · have h1 := a2 y hy
          exact ⟨h1.1, h1.2.1, by dsimp only; omega⟩
        · have h2 := b2 y hy
          dsimp only at h2
          exact ⟨h2.1, by omega, by dsimp only; exact h2.2.2⟩
    · rw [if_neg hl]
      exact ⟨_, rfl, a1, rfl, base, a2⟩
theorem takeV_ord {w : Wt} {t : Tg} {win : Int} (hw : WtOk w win) (ht : TgOk t) (hs : t.st = w.st) :
    (takeV w t win).2.Pairwise ltT ∧ (∀ y, blW y w → blW y (takeV w t win).1) ∧ ∀ y ∈ (takeV w t win).2, geW w y ∧ blW y (takeV w t win).1 := by
  obtain ⟨h1, h2, h3, h4, h5, h6, h7, h8⟩ := hw
  have hm := held_mem h8
  have hsq := ht.sq
  unfold takeV
  by_cases c1 : t.ep < w.ep ∨ t.ep = w.ep ∧ t.sq < w.nx
  · rw [if_pos c1]; exact ⟨List.Pairwise.nil, fun _ h => h, by simp⟩
  rw [if_neg c1]
  by_cases c2 : w.ep < t.ep
  · rw [if_pos c2]
    unfold putV
    rw [if_neg (by simp)]
    have e0 : heldOk w.st t.ep (0 - 1) [t] := by rw [held_cons]; exact ⟨ht, hs, rfl, by omega, trivial⟩
    obtain ⟨g, k1, k2, k3, k4, k5⟩ := endV_ord (w := ⟨w.st, t.ep, 0, [t]⟩) (o := w.held) (win := win) (by simp) e0
    have e1 : (⟨w.st, t.ep, 0, ([] : List Tg).take (lb t.sq (keys [])) ++ [t] ++ ([] : List Tg).drop (lb t.sq (keys []))⟩ : Wt) = ⟨w.st, t.ep, 0, [t]⟩ := by simp
    dsimp only at k3 k4 k5 ⊢
    rw [e1, k1]
    refine ⟨List.pairwise_append.2 ⟨held_pw h8, k2, fun y hy z hz => ?_⟩, fun y hy => ?_, fun y hy => ?_⟩
    · have e2 := (hm y hy).2.2.2
      have e3 := (k5 z hz).1
      exact .inl (by omega)
    · left
      rw [k3]
      rcases hy with hy | hy <;> omega
    · rcases List.mem_append.1 hy with hy | hy
      · have e2 := hm y hy
        exact ⟨.inr ⟨e2.2.2.2.symm, by omega⟩, .inl (by rw [k3, e2.2.2.2]; exact c2)⟩
      · have e3 := k5 y hy
        exact ⟨.inl (by omega), .inr ⟨by rw [k3]; exact e3.1, e3.2.2⟩⟩
  · rw [if_neg c2]
    have c3 : t.ep = w.ep := by omega
    unfold putV
    by_cases c4 : ∃ x, w.held[lb t.sq (keys w.held)]? = some x ∧ x.sq = t.sq
    · rw [if_pos c4]; exact ⟨List.Pairwise.nil, fun _ h => h, by simp⟩
    · rw [if_neg c4]
      have hins := held_ins ht hs c3 (la := w.nx - 1) (held_weak (by omega) h8) (by omega) (fun x hx he => c4 ⟨x, hx, he⟩)
      obtain ⟨g, k1, k2, k3, k4, k5⟩ := endV_ord (w := ⟨w.st, w.ep, w.nx, w.held.take (lb t.sq (keys w.held)) ++ [t] ++ w.held.drop (lb t.sq (keys w.held))⟩) (o := []) (win := win) (by dsimp only; omega) (by simpa using hins)
      dsimp only at k3 k4 k5
      rw [k1, List.nil_append]
      refine ⟨k2, fun y hy => ?_, fun y hy => ?_⟩
      · rcases hy with hy | hy
        · exact .inl (by rw [k3]; exact hy)
        · exact .inr ⟨by rw [k3]; exact hy.1, by omega⟩
      · have e3 := k5 y hy
        exact ⟨.inr ⟨e3.1.symm, e3.2.1⟩, .inr ⟨by rw [k3]; exact e3.1, e3.2.2⟩⟩
/-- What was given out is in order, and ahead of what may come. -/
structure OrdI (s : In) (out : List Tg) : Prop where
  ok : InOk s
  pw : out.Pairwise fun a b => a.st = b.st → ltT a b
  bl : ∀ y ∈ out, ∃ w ∈ s.sts, w.st = y.st ∧ blW y w
theorem OrdI.step {s : In} {out : List Tg} (h : OrdI s out) {t : Tg} (ht : TgOk t) : OrdI (accV s t).1 (out ++ (accV s t).2.1) := by
  have hwin : 0 ≤ s.win := by have := h.ok.wn; omega
  have hok := accV_ok (t := t) h.ok
  rcases acc_mem2 h.ok ht with h4 | ⟨w0, k1, k2, k3, i', k4, k5, k6, k7⟩
  · rw [h4]
    simpa using h
  · rw [k4] at hok ⊢
    dsimp only at hok ⊢
    obtain ⟨m1, m2, m3⟩ := takeV_ok k1 ht k2.symm hwin
    obtain ⟨n1, n2, n3⟩ := takeV_ord (win := s.win) k1 ht k2.symm
    refine ⟨hok, List.pairwise_append.2 ⟨h.pw, List.Pairwise.imp (S := fun a b => a.st = b.st → ltT a b) (fun h _ => h) n1, fun y hy z hz he => ?_⟩, fun y hy => ?_⟩
    · obtain ⟨w, hw, hws, hwb⟩ := h.bl y hy
      have e1 := (m3 z hz).1
      have e2 := (n3 z hz).1
      have e3 : w = w0 := by
        rcases k3 with k3 | ⟨k3, _⟩
        · exact h.ok.uniq hw k3 (by rw [hws, he, e1])
        · exact absurd (hws.trans (he.trans (e1.trans k2))) (k3 w hw)
      subst e3
      unfold blW at hwb
      unfold geW at e2
      unfold ltT
      omega
    · rcases List.mem_append.1 hy with hy | hy
      · obtain ⟨w, hw, hws, hwb⟩ := h.bl y hy
        by_cases e : w.st = t.st
        · have e3 : w = w0 := by
            rcases k3 with k3 | ⟨k3, _⟩
            · exact h.ok.uniq hw k3 (by rw [e, k2])
            · exact absurd e (k3 w hw)
          subst e3
          exact ⟨_, (k7 _).2 (.inl rfl), by rw [m2, hws], n2 y hwb⟩
        · exact ⟨w, (k7 w).2 (.inr ⟨hw, e⟩), hws, hwb⟩
      · exact ⟨_, (k7 _).2 (.inl rfl), by rw [m2, (m3 y hy).1], (n3 y hy).2⟩
theorem OrdI.fold : ∀ (fs : List (List Nat)) {s : In × List Tg}, (∀ f ∈ fs, ∀ c ∈ f, c < 256) → OrdI s.1 s.2 → OrdI (fs.foldl stepF s).1 (fs.foldl stepF s).2
  | [], _, _, h => h
  | f :: r, s, h8, h => by
    rw [List.foldl_cons]
    refine OrdI.fold r (fun g hg => h8 g (List.mem_cons_of_mem _ hg)) ?_
    unfold stepF
    split
    · rename_i he
      have hd : decV f = ((decV f).1, 0) := by rw [← he]
      exact h.step (dec_back (h8 f (List.mem_cons_self ..)) hd).1
    · exact h
theorem OrdI.at {s : In} {out : List Tg} (h : OrdI s out) {k i : Nat} {a b : Tg} (hki : k < i) (ha : out[k]? = some a) (hb : out[i]? = some b) (hs : a.st = b.st) : befV a b = true := by
  have := List.pairwise_iff_getElem.1 h.pw k i (List.getElem?_eq_some_iff.1 ha).1 (List.getElem?_eq_some_iff.1 hb).1 hki
  rw [(List.getElem?_eq_some_iff.1 ha).2, (List.getElem?_eq_some_iff.1 hb).2] at this
  exact decide_eq_true ⟨hs, this hs⟩
set_option maxRecDepth 100000 in
set_option maxHeartbeats 16000000 in
theorem order_fn (l : List Int) (cnt : Nat) (hl : l.length ≤ 9223372036854775807) (wl : ∀ z ∈ l, -9223372036854775808 ≤ z ∧ z ≤ 9223372036854775807) (hc : cnt < 256) : FnOk Try.prog 8 [.t (encIs l), .t (.lit (.int .u8 cnt))] [] (.t (.bool true)) [] := by
  have hnl := new_fn l hl
  have hsr := new_ok wl
  obtain ⟨W, hW⟩ : ∃ W, newL2 l = W := ⟨_, rfl⟩
  rw [hW] at hnl hsr
  obtain ⟨win, hwin⟩ : ∃ n : Nat, n = cnt % 5 := ⟨_, rfl⟩
  have hw5 : win < 5 := by omega
  have hmod : (cnt : Int).tmod 5 = (win : Int) := by rw [Int.tmod_eq_emod_of_nonneg (by omega)]; omega
  have hmod2 : (cnt : Int) % 5 = (win : Int) := by omega
  have hwc : IntKind.i64.wrap (cnt : Int) = (cnt : Int) := by rw [IntKind.wrap_i64]; omega
  have cw := inew_fn (win : Int) ⟨win, [], []⟩ 0 (by unfold newV; rw [if_neg (by omega)])
  have ca := inawake_fn
  obtain ⟨K1, b1, n1, hk1, hb1, hn1, c1⟩ := stream_ex hsr
  obtain ⟨K2, b2, n2, hk2, hb2, hn2, c2⟩ := stream_ex hk1
  have l1 := hb1.len
  have l2 := hb2.len
  have hi0 : InOk ⟨win, [], []⟩ := inOk_of (by dsimp only; omega) (by dsimp only; omega) (by simp) (by simp) (.inl rfl) (by simp) trivial
  have hs0 : Sized ⟨win, [], []⟩ := ⟨by simp, by simp, by simp, by simp⟩
  obtain ⟨B, hB⟩ : ∃ B, b1 ++ b2 = B := ⟨_, rfl⟩
  have hBl : B.length ≤ 30000 := by rw [← hB]; simp; omega
  have hB8 : ∀ c ∈ B, c < 256 := fun c hc => by
    rw [← hB] at hc
    rcases List.mem_append.1 hc with h | h
    · exact l1.2 c h
    · exact l2.2 c h
  have cf := feed_fn ⟨win, [], []⟩ B hs0 (by omega) hB8 hi0
  have hord : OrdI (foldF ⟨win, [], []⟩ (frV B)).1 (foldF ⟨win, [], []⟩ (frV B)).2 := OrdI.fold (frV B) (fun f hf c hc => hB8 c ((frV_mem hf).2 c hc)) ⟨hi0, List.Pairwise.nil, by simp⟩
  have hlen : (foldF ⟨win, [], []⟩ (frV B)).2.length ≤ 17 * 30001 := by
    obtain ⟨_, g, _, _, _, _, hg, hok⟩ := feed_ex ⟨win, [], []⟩ hi0 (frV B)
    rw [hg]
    have := (hok (frV B).length).2
    have := frV_len B
    omega
  have hfv : feedV ⟨win, [], []⟩ B = (⟨(foldF ⟨win, [], []⟩ (frV B)).1.win, cutT (tlV B), (foldF ⟨win, [], []⟩ (frV B)).1.sts⟩, (foldF ⟨win, [], []⟩ (frV B)).2) := rfl
  rw [hfv] at cf
  have hat := fun (k i : Nat) (a b : Tg) => hord.at (k := k) (i := i) (a := a) (b := b)
  obtain ⟨out, hout⟩ : ∃ o, (foldF ⟨win, [], []⟩ (frV B)).2 = o := ⟨_, rfl⟩
  obtain ⟨E, hE⟩ : ∃ E : In, (⟨(foldF ⟨win, [], []⟩ (frV B)).1.win, cutT (tlV B), (foldF ⟨win, [], []⟩ (frV B)).1.sts⟩ : In) = E := ⟨_, rfl⟩
  rw [hout] at cf hat hlen
  rw [hE] at cf
  have happ : b1.map encU ++ b2.map encU = B.map encU := by rw [← hB, List.map_append]
  have l22 := l2.1
  have l11 := l1.1
  clear hout hE hfv hord hB hb1 hb2 hB8 l1 l2
  obtain ⟨e1, e2, e3⟩ := E
  refine FnOk.intro fact_mixed Try.func8 rfl Try.ntmps8 (by rfl) (by simp) ?_
  repeat (first | (refine nf1_sound rfl ?_; simp [go_sem, ↓iteOmega, iteOmega, toNatUp]; (repeat (refine And.intro (by omega) ?_)); try (refine ⟨DrawChk_of (by kernel_rfl), ?_⟩)) | (refine itePos (by omega) ?_; try simp [go_sem, ↓iteOmega, iteOmega, toNatUp]) | (refine iteNeg (by omega) ?_; try simp [go_sem, ↓iteOmega, iteOmega, toNatUp]) | (refine ⟨DrawChk_of (by kernel_rfl), ?_⟩))
  refine CallK.fn (hnl) [(1000, 605)] [] [] (by kernel_rfl) (by simp [go_sem, ↓iteOmega, iteOmega, toNatUp]) (by simp [go_sem, ↓iteOmega, iteOmega, toNatUp]) (by simp [go_sem, ↓iteOmega, iteOmega, toNatUp]) (Or.inl rfl) ?_
  simp [go_sem, ↓iteOmega, iteOmega, toNatUp]
  repeat (refine And.intro (by omega) ?_)
  try (refine ⟨DrawChk_of (by kernel_rfl), ?_⟩)
  repeat (first | (refine nf1_sound rfl ?_; simp [go_sem, ↓iteOmega, iteOmega, toNatUp, hmod, hmod2, hwc]; (repeat (refine And.intro (by omega) ?_)); try (refine ⟨DrawChk_of (by kernel_rfl), ?_⟩)) | (refine itePos (by omega) ?_; try simp [go_sem, ↓iteOmega, iteOmega, toNatUp, hmod, hmod2, hwc]) | (refine iteNeg (by omega) ?_; try simp [go_sem, ↓iteOmega, iteOmega, toNatUp, hmod, hmod2, hwc]) | (refine ⟨DrawChk_of (by kernel_rfl), ?_⟩))
  refine CallK.fn (cw) [] [] [] (by kernel_rfl) (by simp [go_sem, ↓iteOmega, iteOmega, toNatUp, hmod, hmod2, hwc]) (by simp [go_sem, ↓iteOmega, iteOmega, toNatUp, hmod, hmod2, hwc]) (by simp [go_sem, ↓iteOmega, iteOmega, toNatUp, hmod, hmod2, hwc]) (Or.inl rfl) ?_
  simp [go_sem, ↓iteOmega, iteOmega, toNatUp, hmod, hmod2, hwc]
  repeat (refine And.intro (by omega) ?_)
  try (refine ⟨DrawChk_of (by kernel_rfl), ?_⟩)
  repeat (first | (refine nf1_sound rfl ?_; simp [go_sem, ↓iteOmega, iteOmega, toNatUp, hmod, hmod2, hwc]; (repeat (refine And.intro (by omega) ?_)); try (refine ⟨DrawChk_of (by kernel_rfl), ?_⟩)) | (refine itePos (by omega) ?_; try simp [go_sem, ↓iteOmega, iteOmega, toNatUp, hmod, hmod2, hwc]) | (refine iteNeg (by omega) ?_; try simp [go_sem, ↓iteOmega, iteOmega, toNatUp, hmod, hmod2, hwc]) | (refine ⟨DrawChk_of (by kernel_rfl), ?_⟩))
  refine CallK.fn (c1) [(0, 605), (1000, 625)] [] [] (by kernel_rfl) (by simp [go_sem, ↓iteOmega, iteOmega, toNatUp]) (by simp [go_sem, ↓iteOmega, iteOmega, toNatUp]) (by simp [go_sem, ↓iteOmega, iteOmega, toNatUp]) (Or.inl rfl) ?_
  simp [go_sem, ↓iteOmega, iteOmega, toNatUp]
  repeat (refine And.intro (by omega) ?_)
  try (refine ⟨DrawChk_of (by kernel_rfl), ?_⟩)
  refine CallK.fn (c2) [(0, 605), (1000, 627)] [] [] (by kernel_rfl) (by simp [go_sem, ↓iteOmega, iteOmega, toNatUp, happ]) (by simp [go_sem, ↓iteOmega, iteOmega, toNatUp, happ]) (by simp [go_sem, ↓iteOmega, iteOmega, toNatUp, happ]) (Or.inl rfl) ?_
  simp [go_sem, ↓iteOmega, iteOmega, toNatUp, happ]
  repeat (refine And.intro (by omega) ?_)
  try (refine ⟨DrawChk_of (by kernel_rfl), ?_⟩)
  refine CallK.fn (cf) [] [] [128] (by kernel_rfl) (by simp [go_sem, ↓iteOmega, iteOmega, toNatUp]) (by simp [go_sem, ↓iteOmega, iteOmega, toNatUp]) (by simp [go_sem, ↓iteOmega, iteOmega, toNatUp]) (Or.inl rfl) ?_
  simp [go_sem, ↓iteOmega, iteOmega, toNatUp]
  repeat (refine And.intro (by omega) ?_)
  try (refine ⟨DrawChk_of (by kernel_rfl), ?_⟩)
  repeat (first | (refine nf1_sound rfl ?_; simp [go_sem, ↓iteOmega, iteOmega, toNatUp]; (repeat (refine And.intro (by omega) ?_)); try (refine ⟨DrawChk_of (by kernel_rfl), ?_⟩)) | (refine itePos (by omega) ?_; try simp [go_sem, ↓iteOmega, iteOmega, toNatUp]) | (refine iteNeg (by omega) ?_; try simp [go_sem, ↓iteOmega, iteOmega, toNatUp]) | (refine ⟨DrawChk_of (by kernel_rfl), ?_⟩))
  refine nf1_sound' _ _ _ ?_; simp only [nf1]
  refine CW.loop (ι := Nat) (fun i => ⟨[(9, .t (encTgs out)), (40, .t (.int out.length)), (41, .t (.int i))], []⟩) (fun i => i ≤ out.length) (fun i => out.length - i) 0 [] (Nat.zero_le _) ?_ ?_
  · simp [go_sem, ↓iteOmega, iteOmega, toNatUp]
  intro i hi
  by_cases hio : i < out.length
  · obtain ⟨b, hb⟩ := has_get hio
    repeat (first | (refine nf1_sound rfl ?_; simp [go_sem, ↓iteOmega, iteOmega, toNatUp]; (repeat (refine And.intro (by omega) ?_)); try (refine ⟨DrawChk_of (by kernel_rfl), ?_⟩)) | (refine itePos (by omega) ?_; try simp [go_sem, ↓iteOmega, iteOmega, toNatUp]) | (refine iteNeg (by omega) ?_; try simp [go_sem, ↓iteOmega, iteOmega, toNatUp]) | (refine ⟨DrawChk_of (by kernel_rfl), ?_⟩))
    refine nf1_sound' _ _ _ ?_; simp only [nf1]
    refine CW.loop (ι := Nat) (fun k => ⟨[(9, .t (encTgs out)), (40, .t (.int out.length)), (41, .t (.int i)), (11, .t (.int i)), (12, .t (.int k))], []⟩) (fun k => k ≤ i) (fun k => i - k) 0 [] (Nat.zero_le _) ?_ ?_
    · simp [go_sem, ↓iteOmega, iteOmega, toNatUp]
    intro k hk
    by_cases hki : k < i
    · obtain ⟨a, ha⟩ := has_get (show k < out.length by omega)
      have cb := fun hs => rbefore_fn a b true (hat k i a b hki ha hb hs)
      obtain ⟨a1, a2, a3, a4, a5, av⟩ := a
      obtain ⟨b1, b2, b3, b4, b5, bv⟩ := b
      dsimp only at cb
      by_cases hs : a1 = b1
      · have cb := cb hs
        subst hs
        repeat (first | (refine nf1_sound rfl ?_; simp [go_sem, ↓iteOmega, iteOmega, toNatUp, ha, hb]; (repeat (refine And.intro (by omega) ?_)); try (refine ⟨DrawChk_of (by kernel_rfl), ?_⟩)) | (refine itePos (by omega) ?_; try simp [go_sem, ↓iteOmega, iteOmega, toNatUp, ha, hb]) | (refine iteNeg (by omega) ?_; try simp [go_sem, ↓iteOmega, iteOmega, toNatUp, ha, hb]) | (refine ⟨DrawChk_of (by kernel_rfl), ?_⟩))
        refine CallK.fn (cb) [] [] [] (by kernel_rfl) (by simp [go_sem, ↓iteOmega, iteOmega, toNatUp]) (by simp [go_sem, ↓iteOmega, iteOmega, toNatUp]) (by simp [go_sem, ↓iteOmega, iteOmega, toNatUp]) (Or.inl rfl) ?_
        simp [go_sem, ↓iteOmega, iteOmega, toNatUp]
        repeat (refine And.intro (by omega) ?_)
        try (refine ⟨DrawChk_of (by kernel_rfl), ?_⟩)
        repeat (first | (refine nf1_sound rfl ?_; simp [go_sem, ↓iteOmega, iteOmega, toNatUp]; (repeat (refine And.intro (by omega) ?_)); try (refine ⟨DrawChk_of (by kernel_rfl), ?_⟩)) | (refine itePos (by omega) ?_; try simp [go_sem, ↓iteOmega, iteOmega, toNatUp]) | (refine iteNeg (by omega) ?_; try simp [go_sem, ↓iteOmega, iteOmega, toNatUp]) | (refine ⟨DrawChk_of (by kernel_rfl), ?_⟩))
        rw [RoundQ_normal]; refine ⟨k + 1, [], ?_, ?_, ?_⟩
        · omega
        · omega
        simp [go_sem, ↓iteOmega, iteOmega, toNatUp]
      · repeat (first | (refine nf1_sound rfl ?_; simp [go_sem, ↓iteOmega, iteOmega, toNatUp, ha, hb, hs]; (repeat (refine And.intro (by omega) ?_)); try (refine ⟨DrawChk_of (by kernel_rfl), ?_⟩)) | (refine itePos (by omega) ?_; try simp [go_sem, ↓iteOmega, iteOmega, toNatUp, ha, hb, hs]) | (refine iteNeg (by omega) ?_; try simp [go_sem, ↓iteOmega, iteOmega, toNatUp, ha, hb, hs]) | (refine ⟨DrawChk_of (by kernel_rfl), ?_⟩))
        rw [RoundQ_normal]; refine ⟨k + 1, [], ?_, ?_, ?_⟩
        · omega
        · omega
        simp [go_sem, ↓iteOmega, iteOmega, toNatUp]
    · obtain rfl : k = i := by omega
      repeat (first | (refine nf1_sound rfl ?_; simp [go_sem, ↓iteOmega, iteOmega, toNatUp]; (repeat (refine And.intro (by omega) ?_)); try (refine ⟨DrawChk_of (by kernel_rfl), ?_⟩)) | (refine itePos (by omega) ?_; try simp [go_sem, ↓iteOmega, iteOmega, toNatUp]) | (refine iteNeg (by omega) ?_; try simp [go_sem, ↓iteOmega, iteOmega, toNatUp]) | (refine ⟨DrawChk_of (by kernel_rfl), ?_⟩))
      rw [RoundQ_normal]; refine ⟨k + 1, [], ?_, ?_, ?_⟩
      · omega
      · omega
      simp [go_sem, ↓iteOmega, iteOmega, toNatUp]
  · obtain rfl : i = out.length := by omega
    repeat (first | (refine nf1_sound rfl ?_; simp [go_sem, ↓iteOmega, iteOmega, toNatUp]; (repeat (refine And.intro (by omega) ?_)); try (refine ⟨DrawChk_of (by kernel_rfl), ?_⟩)) | (refine itePos (by omega) ?_; try simp [go_sem, ↓iteOmega, iteOmega, toNatUp]) | (refine iteNeg (by omega) ?_; try simp [go_sem, ↓iteOmega, iteOmega, toNatUp]) | (refine ⟨DrawChk_of (by kernel_rfl), ?_⟩))
    refine CallK.fn (ca) [] [] [] (by kernel_rfl) (by simp [go_sem, ↓iteOmega, iteOmega, toNatUp]) (by simp [go_sem, ↓iteOmega, iteOmega, toNatUp]) (by simp [go_sem, ↓iteOmega, iteOmega, toNatUp]) (Or.inl rfl) ?_
    simp [go_sem, ↓iteOmega, iteOmega, toNatUp]
    repeat (refine And.intro (by omega) ?_)
    try (refine ⟨DrawChk_of (by kernel_rfl), ?_⟩)
    repeat (first | (refine nf1_sound rfl ?_; simp [go_sem, ↓iteOmega, iteOmega, toNatUp]; (repeat (refine And.intro (by omega) ?_)); try (refine ⟨DrawChk_of (by kernel_rfl), ?_⟩)) | (refine itePos (by omega) ?_; try simp [go_sem, ↓iteOmega, iteOmega, toNatUp]) | (refine iteNeg (by omega) ?_; try simp [go_sem, ↓iteOmega, iteOmega, toNatUp]) | (refine ⟨DrawChk_of (by kernel_rfl), ?_⟩))
    first | rw [RetQ_ret] | rw [RetQ_normal]
    refine ⟨[], ?_⟩
    simp [go_sem, ↓iteOmega, iteOmega, toNatUp]
theorem order_all (x0 x1 : T) (h0 : InSh (.sl (.int .i64)) x0) (h1 : InSh (.int .u8) x1) :
    FnOk Try.prog 8 [.t x0, .t x1] [] (.t (.bool true)) [] := by
  obtain ⟨l, rfl, hl, wl⟩ := ints_in h0
  obtain ⟨n, rfl, hw⟩ := insh_int h1
  simp [Lit.wf, IntKind.min, IntKind.max, IntKind.signed, IntKind.bits] at hw
  obtain ⟨m, rfl⟩ : ∃ m : Nat, n = (m : Int) := ⟨n.toNat, by omega⟩
  exact order_fn l m hl wl (by omega)
end Go.Proofs.Ytopmmodcaoaaeaa
