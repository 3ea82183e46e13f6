/- The law IntakeDamage: bytes outside of frames change nothing. No condition. -/
import Derived.Test.YtopmmodcaoaaeaaInK
import Derived.Test.YtopmmodcaoaaeaaWArg
import Derived.Test.YtopmmodcaoaaeaaKArg
namespace Go.Proofs.Ytopmmodcaoaaeaa
open Go.RowKit Sy
open Go.IntWalk (iteOmega toNatUp)
set_option linter.unusedVariables false
set_option linter.unusedSimpArgs false
theorem scan_frame (x : List Nat) : scanO none (Wire.stuff x) = [Wire.stuff x] ∧ scanS none (Wire.stuff x) = none := by
  have hp := scan_plain (Wire.body x) [126] (fun c hc => Wire.body_inner hc)
  have e : Wire.stuff x = 126 :: (Wire.body x ++ [124]) := rfl
  rw [e, scanO_cons, scanS_cons, if_pos rfl, if_pos rfl, (scan_app _ _ _).1, (scan_app _ _ _).2, hp.1, hp.2, scanO_cons, scanS_cons]
  simp [scanO, scanS]
theorem scan_noise : ∀ r : List Nat, (∀ c ∈ r, c ≠ 126) → scanO none r = [] ∧ scanS none r = none
  | [], _ => ⟨rfl, rfl⟩
  | c :: r, h => by
    have ih := scan_noise r (fun x hx => h x (List.mem_cons_of_mem _ hx))
    have hc := h c (List.mem_cons_self ..)
    rw [scanO_cons, scanS_cons, if_neg hc, if_neg hc]
    split
    · exact ih
    · exact ih
/-- The two streams give the same frames. -/
structure DmI (i : Nat) (a b : List Nat) : Prop where
  o : scanO none a = scanO none b
  sa : scanS none a = none
  sb : scanS none b = none
  la : a.length ≤ 400 * i
  lb : b.length ≤ 400 * i + 200
  a8 : ∀ c ∈ a, c < 256
  b8 : ∀ c ∈ b, c < 256
theorem DmI.frame {i : Nat} {a b : List Nat} (h : DmI i a b) {t : Tg} (ht : TgOk t) : DmI (i + 1) (a ++ Wire.stuff (insideV t)) (b ++ Wire.stuff (insideV t)) := by
  obtain ⟨h8, hl, _⟩ := frame_facts ht
  obtain ⟨f1, f2⟩ := scan_frame (insideV t)
  have h1 := h.la
  have h2 := h.lb
  have mem : ∀ {x : List Nat}, (∀ c ∈ x, c < 256) → ∀ c ∈ x ++ Wire.stuff (insideV t), c < 256 := fun hx c hc => by
    rcases List.mem_append.1 hc with h | h
    · exact hx c h
    · exact h8 c h
  exact ⟨by rw [(scan_app _ _ _).1, (scan_app _ _ _).1, h.sa, h.sb, h.o], by rw [(scan_app _ _ _).2, h.sa, f2], by rw [(scan_app _ _ _).2, h.sb, f2], by rw [List.length_append]; omega, by rw [List.length_append]; omega, mem h.a8, mem h.b8⟩
theorem feed_same {s : In} (h : s.tail = []) {a b : List Nat} (ho : scanO none a = scanO none b) (hs : scanS none a = scanS none b) : feedV s a = feedV s b := by
  rw [feedV_eq, feedV_eq, h, List.nil_append, List.nil_append, ho, hs]
/-- The noise, but for what begins a frame. -/
def nz (l : List Nat) : List Nat := l.filter fun c => c ≠ 126
theorem nz_snoc {l : List Nat} {k c : Nat} (h : l[k]? = some c) : nz (l.take (k + 1)) = if c = 126 then nz (l.take k) else nz (l.take k) ++ [c] := by
  unfold nz
  rw [take_snoc h, List.filter_append]
  by_cases h1 : c = 126
  · simp [h1]
  · simp [h1]
theorem nz_len (l : List Nat) (k : Nat) : (nz (l.take k)).length ≤ l.length := by
  unfold nz
  exact Nat.le_trans (List.length_filter_le _ _) (by simp; omega)
theorem DmI.noise {i : Nat} {a b : List Nat} (h : DmI i a b) (hb : b.length ≤ 400 * i) {n : List Nat} (hn : n.length ≤ 200) (h8 : ∀ c ∈ n, c < 256) : DmI i a (b ++ nz n) := by
  have hm : ∀ c ∈ nz n, c ∈ n ∧ c ≠ 126 := fun c hc => by simpa [nz] using hc
  obtain ⟨n1, n2⟩ := scan_noise (nz n) (fun c hc => (hm c hc).2)
  have hl : (nz n).length ≤ n.length := List.length_filter_le _ _
  refine ⟨by rw [(scan_app _ _ _).1, h.sb, n1, List.append_nil, h.o], h.sa, by rw [(scan_app _ _ _).2, h.sb, n2], h.la, by rw [List.length_append]; omega, h.a8, fun c hc => ?_⟩
  rcases List.mem_append.1 hc with hc | hc
  · exact h.b8 c hc
  · exact h8 c (hm c hc).1
set_option maxRecDepth 100000 in
set_option maxHeartbeats 16000000 in
theorem inDamage_fn (l : List Int) (noise : List Nat) (cnt : Nat) (hl : l.length ≤ 9223372036854775807) (wl : ∀ z ∈ l, -9223372036854775808 ≤ z ∧ z ≤ 9223372036854775807) (hnl : noise.length ≤ 9223372036854775807) (hn8 : ∀ c ∈ noise, c < 256) (hc : cnt < 256) : FnOk Try.prog 9 [.t (encIs l), .t (encUs noise), .t (.lit (.int .u8 cnt))] [] (.t (.bool true)) [] := by
  have ca := inawake_fn
  by_cases hn : 200 < noise.length
  · refine FnOk.intro fact_mixed Try.func9 rfl Try.ntmps9 (by rfl) (by simp) ?_
    repeat (first | (refine nf1_sound rfl ?_; simp [go_sem, ↓iteOmega, iteOmega, toNatUp]; (repeat (refine And.intro (by omega) ?_)); try (refine ⟨DrawChk_of (by kernel_rfl), ?_⟩)) | (refine itePos (by omega) ?_; try simp [go_sem, ↓iteOmega, iteOmega, toNatUp]) | (refine iteNeg (by omega) ?_; try simp [go_sem, ↓iteOmega, iteOmega, toNatUp]) | (refine ⟨DrawChk_of (by kernel_rfl), ?_⟩))
    refine CallK.fn (ca) [] [] [] (by kernel_rfl) (by simp [go_sem, ↓iteOmega, iteOmega, toNatUp]) (by simp [go_sem, ↓iteOmega, iteOmega, toNatUp]) (by simp [go_sem, ↓iteOmega, iteOmega, toNatUp]) (Or.inl rfl) ?_
    simp [go_sem, ↓iteOmega, iteOmega, toNatUp]
    repeat (refine And.intro (by omega) ?_)
    try (refine ⟨DrawChk_of (by kernel_rfl), ?_⟩)
    repeat (first | (refine nf1_sound rfl ?_; simp [go_sem, ↓iteOmega, iteOmega, toNatUp]; (repeat (refine And.intro (by omega) ?_)); try (refine ⟨DrawChk_of (by kernel_rfl), ?_⟩)) | (refine itePos (by omega) ?_; try simp [go_sem, ↓iteOmega, iteOmega, toNatUp]) | (refine iteNeg (by omega) ?_; try simp [go_sem, ↓iteOmega, iteOmega, toNatUp]) | (refine ⟨DrawChk_of (by kernel_rfl), ?_⟩))
    first | rw [RetQ_ret] | rw [RetQ_normal]
    refine ⟨[], ?_⟩
    simp [go_sem, ↓iteOmega, iteOmega, toNatUp]
  have cl := new_fn l hl
  have hsr := new_ok wl
  obtain ⟨W, hW⟩ : ∃ W, newL2 l = W := ⟨_, rfl⟩
  rw [hW] at cl hsr
  obtain ⟨k, hk⟩ : ∃ n : Nat, n = cnt % 6 := ⟨_, rfl⟩
  have hk6 : k < 6 := by omega
  have hmod : (cnt : Int).tmod 6 = (k : Int) := by rw [Int.tmod_eq_emod_of_nonneg (by omega)]; omega
  have hmod2 : (cnt : Int) % 6 = (k : Int) := by omega
  have hwc : IntKind.i64.wrap (cnt : Int) = (cnt : Int) := by rw [IntKind.wrap_i64]; omega
  have cw := inew_fn 3 ⟨3, [], []⟩ 0 (by unfold newV; rw [if_neg (by omega)])
  have hi0 : InOk ⟨3, [], []⟩ := inOk_of (by dsimp only; omega) (by dsimp only; omega) (by simp) (by simp) (.inl rfl) (by simp) trivial
  refine FnOk.intro fact_mixed Try.func9 rfl Try.ntmps9 (by rfl) (by simp) ?_
  repeat (first | (refine nf1_sound rfl ?_; simp [go_sem, ↓iteOmega, iteOmega, toNatUp]; (repeat (refine And.intro (by omega) ?_)); try (refine ⟨DrawChk_of (by kernel_rfl), ?_⟩)) | (refine itePos (by omega) ?_; try simp [go_sem, ↓iteOmega, iteOmega, toNatUp]) | (refine iteNeg (by omega) ?_; try simp [go_sem, ↓iteOmega, iteOmega, toNatUp]) | (refine ⟨DrawChk_of (by kernel_rfl), ?_⟩))
  refine CallK.fn (cl) [(1000, 605)] [] [] (by kernel_rfl) (by simp [go_sem, ↓iteOmega, iteOmega, toNatUp]) (by simp [go_sem, ↓iteOmega, iteOmega, toNatUp]) (by simp [go_sem, ↓iteOmega, iteOmega, toNatUp]) (Or.inl rfl) ?_
  simp [go_sem, ↓iteOmega, iteOmega, toNatUp]
  repeat (refine And.intro (by omega) ?_)
  try (refine ⟨DrawChk_of (by kernel_rfl), ?_⟩)
  repeat (first | (refine nf1_sound rfl ?_; simp [go_sem, ↓iteOmega, iteOmega, toNatUp, hmod, hmod2, hwc]; (repeat (refine And.intro (by omega) ?_)); try (refine ⟨DrawChk_of (by kernel_rfl), ?_⟩)) | (refine itePos (by omega) ?_; try simp [go_sem, ↓iteOmega, iteOmega, toNatUp, hmod, hmod2, hwc]) | (refine iteNeg (by omega) ?_; try simp [go_sem, ↓iteOmega, iteOmega, toNatUp, hmod, hmod2, hwc]) | (refine ⟨DrawChk_of (by kernel_rfl), ?_⟩))
  refine nf1_sound' _ _ _ ?_; simp only [nf1]
  refine CW.loop (ι := Nat × Nat × List Nat × List Nat) (fun j => ⟨[(1, .t (encUs noise)), (7, .pt 507 [] 0), (8, .own 508), (9, .own 509), (10, .t (.int k)), (11, .t (.int j.2.1))], [(507, srcB W j.1), (508, blkU j.2.2.1), (509, blkU j.2.2.2)]⟩) (fun j => SrcOk W j.1 ∧ j.2.1 ≤ 5 ∧ DmI j.2.1 j.2.2.1 j.2.2.2 ∧ (j.2.1 ≤ k → j.2.2.2.length ≤ 400 * j.2.1)) (fun j => 5 - j.2.1) (0, 0, [], []) [(507, some 605), (508, none), (509, none)] ⟨hsr, Nat.zero_le _, ⟨rfl, rfl, rfl, by simp, by simp, by simp, by simp⟩, by simp⟩ ?_ ?_
  · simp [go_sem, ↓iteOmega, iteOmega, toNatUp]
  rintro ⟨K, i, a, b⟩ ⟨hK, hi5, hd, hbk⟩
  dsimp only at hK hi5 hd hbk ⊢
  have hal := hd.la
  have hbl := hd.lb
  by_cases hi : i < 5
  · obtain ⟨st, hst, c1⟩ := n_ex hK 3 (by omega) (by omega)
    obtain ⟨K2, t, hK2, ht, hts, _, c2⟩ := telegram_ex2 hK.next st (by omega)
    have ci := rinside_fn t ht
    have hil := inside_len ht
    obtain ⟨f8, fl, _⟩ := frame_facts ht
    have hI8 : ∀ c ∈ insideV t, c < 256 := sealV_b8 (putL_b8 (numsL t))
    have cs := rstuff_fn (insideV t) (by omega) hI8
    by_cases hik : i = k
    · subst hik
      have hdn := (hd.noise (hbk (Nat.le_refl _)) (by omega) hn8).frame ht
      have hnl2 := nz_len noise noise.length
      obtain ⟨f, hf⟩ : ∃ x, Wire.stuff (insideV t) = x := ⟨_, rfl⟩
      rw [hf] at cs f8 fl hdn
      obtain ⟨I, hI⟩ : ∃ x, insideV t = x := ⟨_, rfl⟩
      rw [hI] at ci cs hil hI8
      rw [← List.take_length (l := noise)] at hdn
      obtain ⟨Z, hZ⟩ : ∃ Z : Nat → List Nat, ∀ q, Z q = nz (noise.take q) := ⟨fun q => nz (noise.take q), fun q => rfl⟩
      have hZ0 : Z 0 = [] := by rw [hZ]; rfl
      have hZl : ∀ q, (Z q).length ≤ 200 := fun q => by rw [hZ]; have := nz_len noise q; omega
      have hZs : ∀ q c, noise[q]? = some c → Z (q + 1) = if c = 126 then Z q else Z q ++ [c] := fun q c hq => by rw [hZ, hZ]; exact nz_snoc hq
      rw [← hZ] at hdn
      clear hZ hnl2 hf hI
      obtain ⟨t1, t2, t3, t4, t5, vs⟩ := t
      dsimp only at hts
      subst hts
      repeat (first | (refine nf1_sound rfl ?_; simp [go_sem, ↓iteOmega, iteOmega, toNatUp]; (repeat (refine And.intro (by omega) ?_)); try (refine ⟨DrawChk_of (by kernel_rfl), ?_⟩)) | (refine itePos (by omega) ?_; try simp [go_sem, ↓iteOmega, iteOmega, toNatUp]) | (refine iteNeg (by omega) ?_; try simp [go_sem, ↓iteOmega, iteOmega, toNatUp]) | (refine ⟨DrawChk_of (by kernel_rfl), ?_⟩))
      refine nf1_sound' _ _ _ ?_; simp only [nf1]
      refine CW.loop (ι := Nat) (fun q => ⟨[(1, .t (encUs noise)), (7, .pt 507 [] 0), (8, .own 508), (9, .own 509), (10, .t (.int i)), (11, .t (.int i)), (39, .t (encUs noise)), (40, .t (.int noise.length)), (41, .t (.int q))], [(507, srcB W K), (508, blkU a), (509, blkU (b ++ Z q))]⟩) (fun q => q ≤ noise.length) (fun q => noise.length - q) 0 [(507, some 507), (508, some 508), (509, some 509)] (Nat.zero_le _) ?_ ?_
      · simp [go_sem, ↓iteOmega, iteOmega, toNatUp, hZ0]
      intro q hq
      by_cases hql : q < noise.length
      · obtain ⟨c, hqc⟩ := has_get hql
        have hc8 := hn8 c (mem_get hqc)
        have hs := hZs q c hqc
        have hzl := hZl q
        have hwc2 : IntKind.i64.wrap (c : Int) = (c : Int) := by rw [IntKind.wrap_i64]; omega
        obtain ⟨Y, hY⟩ : ∃ Y, Z q = Y := ⟨_, rfl⟩
        rw [hY] at hs hzl ⊢
        by_cases h126 : c = 126
        · rw [if_pos h126] at hs
          subst h126
          repeat (first | (refine nf1_sound rfl ?_; simp [go_sem, ↓iteOmega, iteOmega, toNatUp, hqc]; (repeat (refine And.intro (by omega) ?_)); try (refine ⟨DrawChk_of (by kernel_rfl), ?_⟩)) | (refine itePos (by omega) ?_; try simp [go_sem, ↓iteOmega, iteOmega, toNatUp, hqc]) | (refine iteNeg (by omega) ?_; try simp [go_sem, ↓iteOmega, iteOmega, toNatUp, hqc]) | (refine ⟨DrawChk_of (by kernel_rfl), ?_⟩))
          rw [RoundQ_normal]; refine ⟨q + 1, [(507, some 507), (508, some 508), (509, some 509)], ?_, ?_, ?_⟩
          · omega
          · omega
          simp [go_sem, ↓iteOmega, iteOmega, toNatUp, hs]
        · rw [if_neg h126] at hs
          have h126' : ¬ (c : Int) = 126 := by omega
          repeat (first | (refine nf1_sound rfl ?_; simp [go_sem, ↓iteOmega, iteOmega, toNatUp, hqc, hwc2, h126, h126']; (repeat (refine And.intro (by omega) ?_)); try (refine ⟨DrawChk_of (by kernel_rfl), ?_⟩)) | (refine itePos (by omega) ?_; try simp [go_sem, ↓iteOmega, iteOmega, toNatUp, hqc, hwc2, h126, h126']) | (refine iteNeg (by omega) ?_; try simp [go_sem, ↓iteOmega, iteOmega, toNatUp, hqc, hwc2, h126, h126']) | (refine ⟨DrawChk_of (by kernel_rfl), ?_⟩))
          rw [RoundQ_normal]; refine ⟨q + 1, [(507, some 507), (508, some 508), (509, some 151)], ?_, ?_, ?_⟩
          · omega
          · omega
          simp [go_sem, ↓iteOmega, iteOmega, toNatUp, hs]
      · obtain rfl : q = noise.length := by omega
        have hzl := hZl noise.length
        obtain ⟨Y, hY⟩ : ∃ Y, Z noise.length = Y := ⟨_, rfl⟩
        rw [hY] at hdn hzl ⊢
        repeat (first | (refine nf1_sound rfl ?_; simp [go_sem, ↓iteOmega, iteOmega, toNatUp]; (repeat (refine And.intro (by omega) ?_)); try (refine ⟨DrawChk_of (by kernel_rfl), ?_⟩)) | (refine itePos (by omega) ?_; try simp [go_sem, ↓iteOmega, iteOmega, toNatUp]) | (refine iteNeg (by omega) ?_; try simp [go_sem, ↓iteOmega, iteOmega, toNatUp]) | (refine ⟨DrawChk_of (by kernel_rfl), ?_⟩))
        refine CallK.fn (c1) [(0, 507)] [] [] (by kernel_rfl) (by simp [go_sem, ↓iteOmega, iteOmega, toNatUp]) (by simp [go_sem, ↓iteOmega, iteOmega, toNatUp]) (by simp [go_sem, ↓iteOmega, iteOmega, toNatUp]) (Or.inl rfl) ?_
        simp [go_sem, ↓iteOmega, iteOmega, toNatUp]
        repeat (refine And.intro (by omega) ?_)
        try (refine ⟨DrawChk_of (by kernel_rfl), ?_⟩)
        refine CallK.fn (c2) [(0, 507), (1000, 608)] [] [] (by kernel_rfl) (by simp [go_sem, ↓iteOmega, iteOmega, toNatUp]) (by simp [go_sem, ↓iteOmega, iteOmega, toNatUp]) (by simp [go_sem, ↓iteOmega, iteOmega, toNatUp]) (Or.inl rfl) ?_
        simp [go_sem, ↓iteOmega, iteOmega, toNatUp]
        repeat (refine And.intro (by omega) ?_)
        try (refine ⟨DrawChk_of (by kernel_rfl), ?_⟩)
        refine CallK.fn (ci) [(1000, 616)] [608] [] (by kernel_rfl) (by simp [go_sem, ↓iteOmega, iteOmega, toNatUp, wkXs]) (by simp [go_sem, ↓iteOmega, iteOmega, toNatUp, wkXs]) (by simp [go_sem, ↓iteOmega, iteOmega, toNatUp, wkXs]) (Or.inr ⟨by simp [go_sem, ↓iteOmega, iteOmega, toNatUp, wkXs], by simp [go_sem, ↓iteOmega, iteOmega, toNatUp, wkXs]⟩) ?_
        simp [go_sem, ↓iteOmega, iteOmega, toNatUp, wkXs]
        repeat (refine And.intro (by omega) ?_)
        try (refine ⟨DrawChk_of (by kernel_rfl), ?_⟩)
        refine CallK.fn (cs) [(1000, 617)] [] [616] (by kernel_rfl) (by simp [go_sem, ↓iteOmega, iteOmega, toNatUp]) (by simp [go_sem, ↓iteOmega, iteOmega, toNatUp]) (by simp [go_sem, ↓iteOmega, iteOmega, toNatUp]) (Or.inl rfl) ?_
        simp [go_sem, ↓iteOmega, iteOmega, toNatUp]
        repeat (refine And.intro (by omega) ?_)
        try (refine ⟨DrawChk_of (by kernel_rfl), ?_⟩)
        repeat (first | (refine nf1_sound rfl ?_; simp [go_sem, ↓iteOmega, iteOmega, toNatUp]; (repeat (refine And.intro (by omega) ?_)); try (refine ⟨DrawChk_of (by kernel_rfl), ?_⟩)) | (refine itePos (by omega) ?_; try simp [go_sem, ↓iteOmega, iteOmega, toNatUp]) | (refine iteNeg (by omega) ?_; try simp [go_sem, ↓iteOmega, iteOmega, toNatUp]) | (refine ⟨DrawChk_of (by kernel_rfl), ?_⟩))
        rw [RoundQ_normal]; refine ⟨(K2, i + 1, a ++ f, b ++ Y ++ f), [(507, some 507), (508, some 161), (509, some 164)], ?_, ?_, ?_⟩
        · exact ⟨hK2, by dsimp only; omega, hdn, fun h => by dsimp only at h; omega⟩
        · dsimp only; omega
        simp [go_sem, ↓iteOmega, iteOmega, toNatUp]
    · have hdn := hd.frame ht
      obtain ⟨f, hf⟩ : ∃ x, Wire.stuff (insideV t) = x := ⟨_, rfl⟩
      rw [hf] at cs f8 fl hdn
      obtain ⟨I, hI⟩ : ∃ x, insideV t = x := ⟨_, rfl⟩
      rw [hI] at ci cs hil hI8
      clear hf hI
      obtain ⟨t1, t2, t3, t4, t5, vs⟩ := t
      dsimp only at hts
      subst hts
      have hik' : ¬ (i : Int) = (k : Int) := by omega
      repeat (first | (refine nf1_sound rfl ?_; simp [go_sem, ↓iteOmega, iteOmega, toNatUp, hik, hik']; (repeat (refine And.intro (by omega) ?_)); try (refine ⟨DrawChk_of (by kernel_rfl), ?_⟩)) | (refine itePos (by omega) ?_; try simp [go_sem, ↓iteOmega, iteOmega, toNatUp, hik, hik']) | (refine iteNeg (by omega) ?_; try simp [go_sem, ↓iteOmega, iteOmega, toNatUp, hik, hik']) | (refine ⟨DrawChk_of (by kernel_rfl), ?_⟩))
      refine CallK.fn (c1) [(0, 507)] [] [] (by kernel_rfl) (by simp [go_sem, ↓iteOmega, iteOmega, toNatUp]) (by simp [go_sem, ↓iteOmega, iteOmega, toNatUp]) (by simp [go_sem, ↓iteOmega, iteOmega, toNatUp]) (Or.inl rfl) ?_
      simp [go_sem, ↓iteOmega, iteOmega, toNatUp]
      repeat (refine And.intro (by omega) ?_)
      try (refine ⟨DrawChk_of (by kernel_rfl), ?_⟩)
      refine CallK.fn (c2) [(0, 507), (1000, 608)] [] [] (by kernel_rfl) (by simp [go_sem, ↓iteOmega, iteOmega, toNatUp]) (by simp [go_sem, ↓iteOmega, iteOmega, toNatUp]) (by simp [go_sem, ↓iteOmega, iteOmega, toNatUp]) (Or.inl rfl) ?_
      simp [go_sem, ↓iteOmega, iteOmega, toNatUp]
      repeat (refine And.intro (by omega) ?_)
      try (refine ⟨DrawChk_of (by kernel_rfl), ?_⟩)
      refine CallK.fn (ci) [(1000, 616)] [608] [] (by kernel_rfl) (by simp [go_sem, ↓iteOmega, iteOmega, toNatUp, wkXs]) (by simp [go_sem, ↓iteOmega, iteOmega, toNatUp, wkXs]) (by simp [go_sem, ↓iteOmega, iteOmega, toNatUp, wkXs]) (Or.inr ⟨by simp [go_sem, ↓iteOmega, iteOmega, toNatUp, wkXs], by simp [go_sem, ↓iteOmega, iteOmega, toNatUp, wkXs]⟩) ?_
      simp [go_sem, ↓iteOmega, iteOmega, toNatUp, wkXs]
      repeat (refine And.intro (by omega) ?_)
      try (refine ⟨DrawChk_of (by kernel_rfl), ?_⟩)
      refine CallK.fn (cs) [(1000, 617)] [] [616] (by kernel_rfl) (by simp [go_sem, ↓iteOmega, iteOmega, toNatUp]) (by simp [go_sem, ↓iteOmega, iteOmega, toNatUp]) (by simp [go_sem, ↓iteOmega, iteOmega, toNatUp]) (Or.inl rfl) ?_
      simp [go_sem, ↓iteOmega, iteOmega, toNatUp]
      repeat (refine And.intro (by omega) ?_)
      try (refine ⟨DrawChk_of (by kernel_rfl), ?_⟩)
      repeat (first | (refine nf1_sound rfl ?_; simp [go_sem, ↓iteOmega, iteOmega, toNatUp]; (repeat (refine And.intro (by omega) ?_)); try (refine ⟨DrawChk_of (by kernel_rfl), ?_⟩)) | (refine itePos (by omega) ?_; try simp [go_sem, ↓iteOmega, iteOmega, toNatUp]) | (refine iteNeg (by omega) ?_; try simp [go_sem, ↓iteOmega, iteOmega, toNatUp]) | (refine ⟨DrawChk_of (by kernel_rfl), ?_⟩))
      rw [RoundQ_normal]; refine ⟨(K2, i + 1, a ++ f, b ++ f), [(507, some 507), (508, some 161), (509, some 164)], ?_, ?_, ?_⟩
      · exact ⟨hK2, by dsimp only; omega, hdn, fun h => by dsimp only at h ⊢; have := hbk (by omega); rw [List.length_append]; omega⟩
      · dsimp only; omega
      simp [go_sem, ↓iteOmega, iteOmega, toNatUp]
  · obtain rfl : i = 5 := by omega
    have hs := feed_same (s := ⟨3, [], []⟩) rfl hd.o (hd.sa.trans hd.sb.symm)
    have cf1 := feed_fn ⟨3, [], []⟩ a (hi0.sized (by simp)) (by omega) hd.a8 hi0
    have cf2 := feed_fn ⟨3, [], []⟩ b (hi0.sized (by simp)) (by omega) hd.b8 hi0
    have csame := (feedV_ok hi0 a).same
    have hlen := feedV_len hi0 a
    have htg := feedV_tgs hi0 (by simp) hd.a8
    rw [← hs] at cf2
    obtain ⟨o, ho⟩ : ∃ o, (feedV ⟨3, [], []⟩ a).2 = o := ⟨_, rfl⟩
    obtain ⟨E, hE⟩ : ∃ E, (feedV ⟨3, [], []⟩ a).1 = E := ⟨_, rfl⟩
    rw [ho] at cf1 cf2 hlen htg
    rw [hE] at cf1 cf2 csame
    have hol : o.length ≤ 100000 := by simp at hlen; omega
    have cal := ralike_fn o (by omega) (fun t ht => by have := (htg t ht).ln; omega)
    clear hs ho hE htg hd hlen
    obtain ⟨e1, e2, e3⟩ := E
    repeat (first | (refine nf1_sound rfl ?_; simp [go_sem, ↓iteOmega, iteOmega, toNatUp]; (repeat (refine And.intro (by omega) ?_)); try (refine ⟨DrawChk_of (by kernel_rfl), ?_⟩)) | (refine itePos (by omega) ?_; try simp [go_sem, ↓iteOmega, iteOmega, toNatUp]) | (refine iteNeg (by omega) ?_; try simp [go_sem, ↓iteOmega, iteOmega, toNatUp]) | (refine ⟨DrawChk_of (by kernel_rfl), ?_⟩))
    refine CallK.fn (cw) [] [] [] (by kernel_rfl) (by simp [go_sem, ↓iteOmega, iteOmega, toNatUp]) (by simp [go_sem, ↓iteOmega, iteOmega, toNatUp]) (by simp [go_sem, ↓iteOmega, iteOmega, toNatUp]) (Or.inl rfl) ?_
    simp [go_sem, ↓iteOmega, iteOmega, toNatUp]
    repeat (refine And.intro (by omega) ?_)
    try (refine ⟨DrawChk_of (by kernel_rfl), ?_⟩)
    repeat (first | (refine nf1_sound rfl ?_; simp [go_sem, ↓iteOmega, iteOmega, toNatUp]; (repeat (refine And.intro (by omega) ?_)); try (refine ⟨DrawChk_of (by kernel_rfl), ?_⟩)) | (refine itePos (by omega) ?_; try simp [go_sem, ↓iteOmega, iteOmega, toNatUp]) | (refine iteNeg (by omega) ?_; try simp [go_sem, ↓iteOmega, iteOmega, toNatUp]) | (refine ⟨DrawChk_of (by kernel_rfl), ?_⟩))
    refine CallK.fn (cf1) [] [] [508] (by kernel_rfl) (by simp [go_sem, ↓iteOmega, iteOmega, toNatUp]) (by simp [go_sem, ↓iteOmega, iteOmega, toNatUp]) (by simp [go_sem, ↓iteOmega, iteOmega, toNatUp]) (Or.inl rfl) ?_
    simp [go_sem, ↓iteOmega, iteOmega, toNatUp]
    repeat (refine And.intro (by omega) ?_)
    try (refine ⟨DrawChk_of (by kernel_rfl), ?_⟩)
    repeat (first | (refine nf1_sound rfl ?_; simp [go_sem, ↓iteOmega, iteOmega, toNatUp]; (repeat (refine And.intro (by omega) ?_)); try (refine ⟨DrawChk_of (by kernel_rfl), ?_⟩)) | (refine itePos (by omega) ?_; try simp [go_sem, ↓iteOmega, iteOmega, toNatUp]) | (refine iteNeg (by omega) ?_; try simp [go_sem, ↓iteOmega, iteOmega, toNatUp]) | (refine ⟨DrawChk_of (by kernel_rfl), ?_⟩))
    refine CallK.fn (cf2) [] [] [509] (by kernel_rfl) (by simp [go_sem, ↓iteOmega, iteOmega, toNatUp]) (by simp [go_sem, ↓iteOmega, iteOmega, toNatUp]) (by simp [go_sem, ↓iteOmega, iteOmega, toNatUp]) (Or.inl rfl) ?_
    simp [go_sem, ↓iteOmega, iteOmega, toNatUp]
    repeat (refine And.intro (by omega) ?_)
    try (refine ⟨DrawChk_of (by kernel_rfl), ?_⟩)
    repeat (first | (refine nf1_sound rfl ?_; simp [go_sem, ↓iteOmega, iteOmega, toNatUp]; (repeat (refine And.intro (by omega) ?_)); try (refine ⟨DrawChk_of (by kernel_rfl), ?_⟩)) | (refine itePos (by omega) ?_; try simp [go_sem, ↓iteOmega, iteOmega, toNatUp]) | (refine iteNeg (by omega) ?_; try simp [go_sem, ↓iteOmega, iteOmega, toNatUp]) | (refine ⟨DrawChk_of (by kernel_rfl), ?_⟩))
    refine CallK.fn (csame) [] [] [] (by kernel_rfl) (by simp [go_sem, ↓iteOmega, iteOmega, toNatUp]) (by simp [go_sem, ↓iteOmega, iteOmega, toNatUp]) (by simp [go_sem, ↓iteOmega, iteOmega, toNatUp]) (Or.inl rfl) ?_
    simp [go_sem, ↓iteOmega, iteOmega, toNatUp]
    repeat (refine And.intro (by omega) ?_)
    try (refine ⟨DrawChk_of (by kernel_rfl), ?_⟩)
    refine CallK.fn (cal) [] [] [] (by kernel_rfl) (by simp [go_sem, ↓iteOmega, iteOmega, toNatUp]) (by simp [go_sem, ↓iteOmega, iteOmega, toNatUp]) (by simp [go_sem, ↓iteOmega, iteOmega, toNatUp]) (Or.inl rfl) ?_
    simp [go_sem, ↓iteOmega, iteOmega, toNatUp]
    repeat (refine And.intro (by omega) ?_)
    try (refine ⟨DrawChk_of (by kernel_rfl), ?_⟩)
    refine CallK.fn (ca) [] [] [] (by kernel_rfl) (by simp [go_sem, ↓iteOmega, iteOmega, toNatUp]) (by simp [go_sem, ↓iteOmega, iteOmega, toNatUp]) (by simp [go_sem, ↓iteOmega, iteOmega, toNatUp]) (Or.inl rfl) ?_
    simp [go_sem, ↓iteOmega, iteOmega, toNatUp]
    repeat (refine And.intro (by omega) ?_)
    try (refine ⟨DrawChk_of (by kernel_rfl), ?_⟩)
    repeat (first | (refine nf1_sound rfl ?_; simp [go_sem, ↓iteOmega, iteOmega, toNatUp]; (repeat (refine And.intro (by omega) ?_)); try (refine ⟨DrawChk_of (by kernel_rfl), ?_⟩)) | (refine itePos (by omega) ?_; try simp [go_sem, ↓iteOmega, iteOmega, toNatUp]) | (refine iteNeg (by omega) ?_; try simp [go_sem, ↓iteOmega, iteOmega, toNatUp]) | (refine ⟨DrawChk_of (by kernel_rfl), ?_⟩))
    first | rw [RetQ_ret] | rw [RetQ_normal]
    refine ⟨[], ?_⟩
    simp [go_sem, ↓iteOmega, iteOmega, toNatUp]
theorem inDamage_all (x0 x1 x2 : T) (h0 : InSh (.sl (.int .i64)) x0) (h1 : InSh (.sl (.int .u8)) x1) (h2 : InSh (.int .u8) x2) :
    FnOk Try.prog 9 [.t x0, .t x1, .t x2] [] (.t (.bool true)) [] := by
  obtain ⟨l, rfl, hl, wl⟩ := ints_in h0
  obtain ⟨b, rfl, hb, wb⟩ := bytes_in h1
  obtain ⟨n, rfl, hw⟩ := insh_int h2
  simp [Lit.wf, IntKind.min, IntKind.max, IntKind.signed, IntKind.bits] at hw
  obtain ⟨m, rfl⟩ : ∃ m : Nat, n = (m : Int) := ⟨n.toNat, by omega⟩
  exact inDamage_fn l b m hl wl hb wb (by omega)
end Go.Proofs.Ytopmmodcaoaaeaa
