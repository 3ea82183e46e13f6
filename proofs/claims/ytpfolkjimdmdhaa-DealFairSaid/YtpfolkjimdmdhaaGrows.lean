/- The law DealGrows: what it computes. No condition. -/
import Derived.Test.YtpfolkjimdmdhaaDlW
import Derived.Test.YtpfolkjimdmdhaaKArg
namespace Go.Proofs.Ytpfolkjimdmdhaa
open Go.RowKit Sy Dl
set_option linter.unusedVariables false
set_option linter.unusedSimpArgs false
theorem counts_ok {r : List Int} (h : Rates r) (k : Nat) (hk : (k : Int) ≤ tot r) : countsV r k = (cs r k, 0) := by
  unfold countsV
  rw [if_pos (chk_of h (by omega) hk), Int.toNat_natCast]
theorem u16_in {x : T} (h : InSh (.int .u16) x) : ∃ n : Nat, x = .lit (.int .u16 (n : Int)) ∧ n < 65536 := by
  obtain ⟨z, rfl, hw⟩ := insh_int h
  have h1 := wf_u16 hw
  exact ⟨z.toNat, by rw [show ((z.toNat : Nat) : Int) = z by omega], by omega⟩
theorem u8_in {x : T} (h : InSh (.int .u8) x) : ∃ n : Nat, x = .lit (.int .u8 (n : Int)) ∧ n < 256 := by
  obtain ⟨z, rfl, hw⟩ := insh_int h
  have h1 := wf_u8 hw
  exact ⟨z.toNat, by rw [show ((z.toNat : Nat) : Int) = z by omega], by omega⟩
set_option maxRecDepth 100000 in
set_option maxHeartbeats 8000000 in
theorem grows_fn (l : List Int) (li kk : Nat) (hl : l.length ≤ 9223372036854775807) (wf : ∀ z ∈ l, -9223372036854775808 ≤ z ∧ z ≤ 9223372036854775807) (hli : li < 65536) (hkk : kk < 256) :
    FnOk Try.prog 8 [.t (encIs l), .t (.lit (.int .u16 (li : Int))), .t (.lit (.int .u8 (kk : Int)))] [] (.t (.bool true)) [] := by
  obtain ⟨k', r, _, hr, cr⟩ := rates_ex (new_ok wf)
  have hlen := hr.len
  have htt := hr.tt
  have hpos := hr.rates.pos
  obtain ⟨n, hn⟩ : ∃ n : Nat, (li : Int) % (tot r + 1) = (n : Int) := ⟨((li : Int) % (tot r + 1)).toNat, by have := Int.emod_nonneg (li : Int) (show tot r + 1 ≠ 0 by omega); omega⟩
  have hn2 : (n : Int) ≤ tot r := by have := Int.emod_lt_of_pos (li : Int) (show 0 < tot r + 1 by omega); omega
  obtain ⟨d, hd⟩ : ∃ d : Nat, (kk : Int) % 5 = (d : Int) := ⟨kk % 5, by omega⟩
  obtain ⟨f, hf⟩ : ∃ f : Nat, (kk : Int) % 7 = (f : Int) := ⟨kk % 7, by omega⟩
  have hd5 : d < 5 := by omega
  have hf7 : f < 7 := by omega
  obtain ⟨m, hm⟩ : ∃ m : Nat, min (tot r) ((n : Int) + 1 + d) = (m : Int) := ⟨(min (tot r) ((n : Int) + 1 + d)).toNat, by omega⟩
  have hm2 : (m : Int) ≤ tot r := by omega
  have hnm : n ≤ m := by omega
  have hff : (0 : Int) < 1 + f := by omega
  have c1 := counts_fn r n (by omega) _ _ (counts_ok hr.rates n hn2)
  have c2 := counts_fn r m (by omega) _ _ (counts_ok hr.rates m hm2)
  have hmore : ∀ x ∈ r.map (fun x => x * (1 + (f : Int))), 0 ≤ x ∧ x ≤ 1000 := by
    intro x hx
    obtain ⟨y, hy, rfl⟩ := List.mem_map.1 hx
    have := hr.each y hy
    have h2 := mul_bd this.1 this.2 (show (0 : Int) ≤ 1 + f by omega) (show (1 : Int) + f ≤ 7 by omega)
    omega
  have hrm : Rates (r.map fun x => x * (1 + (f : Int))) := ⟨by rw [List.length_map]; omega, hmore, by rw [tot_scale]; exact Int.mul_pos hpos hff⟩
  have htm : (n : Int) ≤ tot (r.map fun x => x * (1 + (f : Int))) := by
    rw [tot_scale]
    have := Int.mul_le_mul_of_nonneg_left (show (1 : Int) ≤ 1 + f by omega) (show 0 ≤ tot r by omega)
    omega
  have c3 := counts_fn _ n (by rw [List.length_map]; omega) _ _ (counts_ok hrm n htm)
  rw [cs_scale hff] at c3
  obtain ⟨Y, y0, ys, yl, yn⟩ : ∃ Y : Nat → List Int, Y 0 = [] ∧ (∀ i x, r[i]? = some x → Y (i + 1) = Y i ++ [x * (1 + (f : Int))]) ∧ (∀ i, i ≤ r.length → (Y i).length = i) ∧ Y r.length = r.map fun x => x * (1 + (f : Int)) :=
    ⟨fun i => (r.take i).map fun x => x * (1 + (f : Int)), by simp, fun i x h => by simp only; rw [take_snoc h, List.map_append]; rfl, fun i h => by rw [List.length_map, List.length_take]; omega, by simp⟩
  rw [← yn] at c3
  have hcl1 := cs_len r n
  have hcl2 := cs_len r m
  have hmono : ∀ i, rt (cs r n) i ≤ rt (cs r m) i := fun i => by
    have := (cs_mono r n i (m - n)).1
    rw [show n + (m - n) = m by omega] at this
    exact this
  obtain ⟨C1, hC1⟩ : ∃ C, cs r n = C := ⟨_, rfl⟩
  obtain ⟨C2, hC2⟩ : ∃ C, cs r m = C := ⟨_, rfl⟩
  rw [hC1] at c1 c3 hcl1 hmono
  rw [hC2] at c2 hcl2 hmono
  have ci := ints_fn C1 C1 (by omega) true (decide_eq_true rfl)
  obtain ⟨v, hv⟩ : ∃ v, tot r = v := ⟨_, rfl⟩
  rw [hv] at cr hn hn2 hm hm2 htt hpos
  have hbnd : ∀ (i : Nat) (x : Int), r[i]? = some x → 0 ≤ x * (1 + (f : Int)) ∧ x * (1 + (f : Int)) ≤ 1000 := fun i x h => hmore _ (List.mem_map.2 ⟨x, mem_get h, rfl⟩)
  have hwf : ∀ (i : Nat) (x : Int), r[i]? = some x → 0 ≤ x ∧ x ≤ 39 := fun i x h => hr.each x (mem_get h)
  refine FnOk.intro fact_mixed Try.func8 rfl Try.ntmps8 (by rfl) (by simp) ?_
  repeat (first | (refine nf1_sound rfl ?_; simp [go_sem, ↓IntWalk.iteOmega, IntWalk.iteOmega, IntWalk.toNatUp]; (repeat (refine And.intro (by omega) ?_)); try (refine ⟨DrawChk_of (by kernel_rfl), ?_⟩)) | (refine itePos (by omega) ?_; try simp [go_sem, ↓IntWalk.iteOmega, IntWalk.iteOmega, IntWalk.toNatUp]) | (refine iteNeg (by omega) ?_; try simp [go_sem, ↓IntWalk.iteOmega, IntWalk.iteOmega, IntWalk.toNatUp]) | (refine ⟨DrawChk_of (by kernel_rfl), ?_⟩))
  refine CallK.fn (new_fn l hl) [(1000, 609)] [] [] (by kernel_rfl) (by simp [go_sem, ↓IntWalk.iteOmega, IntWalk.iteOmega, IntWalk.toNatUp]) (by simp [go_sem, ↓IntWalk.iteOmega, IntWalk.iteOmega, IntWalk.toNatUp]) (by simp [go_sem, ↓IntWalk.iteOmega, IntWalk.iteOmega, IntWalk.toNatUp]) (Or.inl rfl) ?_
  simp [go_sem, ↓IntWalk.iteOmega, IntWalk.iteOmega, IntWalk.toNatUp]
  repeat (refine And.intro (by omega) ?_)
  try (refine ⟨DrawChk_of (by kernel_rfl), ?_⟩)
  refine CallK.fn (cr) [(0, 609), (1000, 610)] [] [] (by kernel_rfl) (by simp [go_sem, ↓IntWalk.iteOmega, IntWalk.iteOmega, IntWalk.toNatUp]) (by simp [go_sem, ↓IntWalk.iteOmega, IntWalk.iteOmega, IntWalk.toNatUp]) (by simp [go_sem, ↓IntWalk.iteOmega, IntWalk.iteOmega, IntWalk.toNatUp]) (Or.inl rfl) ?_
  simp [go_sem, ↓IntWalk.iteOmega, IntWalk.iteOmega, IntWalk.toNatUp]
  repeat (refine And.intro (by omega) ?_)
  try (refine ⟨DrawChk_of (by kernel_rfl), ?_⟩)
  repeat (first | (refine nf1_sound rfl ?_; simp [go_sem, ↓IntWalk.iteOmega, IntWalk.iteOmega, IntWalk.toNatUp, hn]; (repeat (refine And.intro (by omega) ?_)); try (refine ⟨DrawChk_of (by kernel_rfl), ?_⟩)) | (refine itePos (by omega) ?_; try simp [go_sem, ↓IntWalk.iteOmega, IntWalk.iteOmega, IntWalk.toNatUp, hn]) | (refine iteNeg (by omega) ?_; try simp [go_sem, ↓IntWalk.iteOmega, IntWalk.iteOmega, IntWalk.toNatUp, hn]) | (refine ⟨DrawChk_of (by kernel_rfl), ?_⟩))
  refine CallK.fn (c1) [(1000, 611)] [610] [] (by kernel_rfl) (by simp [go_sem, ↓IntWalk.iteOmega, IntWalk.iteOmega, IntWalk.toNatUp, hn]) (by simp [go_sem, ↓IntWalk.iteOmega, IntWalk.iteOmega, IntWalk.toNatUp, hn]) (by simp [go_sem, ↓IntWalk.iteOmega, IntWalk.iteOmega, IntWalk.toNatUp, hn]) (Or.inr ⟨by simp [go_sem, ↓IntWalk.iteOmega, IntWalk.iteOmega, IntWalk.toNatUp, hn], by simp [go_sem, ↓IntWalk.iteOmega, IntWalk.iteOmega, IntWalk.toNatUp, hn]⟩) ?_
  simp [go_sem, ↓IntWalk.iteOmega, IntWalk.iteOmega, IntWalk.toNatUp, hn]
  repeat (refine And.intro (by omega) ?_)
  try (refine ⟨DrawChk_of (by kernel_rfl), ?_⟩)
  repeat (first | (refine nf1_sound rfl ?_; simp [go_sem, ↓IntWalk.iteOmega, IntWalk.iteOmega, IntWalk.toNatUp, hn, hd, hm]; (repeat (refine And.intro (by omega) ?_)); try (refine ⟨DrawChk_of (by kernel_rfl), ?_⟩)) | (refine itePos (by omega) ?_; try simp [go_sem, ↓IntWalk.iteOmega, IntWalk.iteOmega, IntWalk.toNatUp, hn, hd, hm]) | (refine iteNeg (by omega) ?_; try simp [go_sem, ↓IntWalk.iteOmega, IntWalk.iteOmega, IntWalk.toNatUp, hn, hd, hm]) | (refine ⟨DrawChk_of (by kernel_rfl), ?_⟩))
  refine CallK.fn (c2) [(1000, 612)] [610] [] (by kernel_rfl) (by simp [go_sem, ↓IntWalk.iteOmega, IntWalk.iteOmega, IntWalk.toNatUp, hd, hm]) (by simp [go_sem, ↓IntWalk.iteOmega, IntWalk.iteOmega, IntWalk.toNatUp, hd, hm]) (by simp [go_sem, ↓IntWalk.iteOmega, IntWalk.iteOmega, IntWalk.toNatUp, hd, hm]) (Or.inr ⟨by simp [go_sem, ↓IntWalk.iteOmega, IntWalk.iteOmega, IntWalk.toNatUp, hd, hm], by simp [go_sem, ↓IntWalk.iteOmega, IntWalk.iteOmega, IntWalk.toNatUp, hd, hm]⟩) ?_
  simp [go_sem, ↓IntWalk.iteOmega, IntWalk.iteOmega, IntWalk.toNatUp, hd, hm]
  repeat (refine And.intro (by omega) ?_)
  try (refine ⟨DrawChk_of (by kernel_rfl), ?_⟩)
  repeat (first | (refine nf1_sound rfl ?_; simp [go_sem, ↓IntWalk.iteOmega, IntWalk.iteOmega, IntWalk.toNatUp]; (repeat (refine And.intro (by omega) ?_)); try (refine ⟨DrawChk_of (by kernel_rfl), ?_⟩)) | (refine itePos (by omega) ?_; try simp [go_sem, ↓IntWalk.iteOmega, IntWalk.iteOmega, IntWalk.toNatUp]) | (refine iteNeg (by omega) ?_; try simp [go_sem, ↓IntWalk.iteOmega, IntWalk.iteOmega, IntWalk.toNatUp]) | (refine ⟨DrawChk_of (by kernel_rfl), ?_⟩))
  refine nf1_sound' _ _ _ ?_; simp only [nf1]
  refine CW.loop (ι := Nat) (fun i => ⟨[(2, .t (.lit (.int .u8 (kk : Int)))), (7, .own 610), (9, .t (.int n)), (10, .own 611), (11, .t (.int 0)), (12, .own 612), (13, .t (.int 0)), (14, .own 614), (50, .t (.int r.length)), (51, .t (.int i))], [(610, blkI r), (611, blkI C1), (612, blkI C2), (614, blkI (Y i))]⟩) (fun i => i ≤ r.length) (fun i => r.length - i) 0 [(610, some 610), (611, some 611), (612, some 612), (614, none)] (by omega) ?_ ?_
  · simp [go_sem, ↓IntWalk.iteOmega, IntWalk.iteOmega, IntWalk.toNatUp, y0]
  intro i hi
  have hyl := yl i hi
  by_cases hb : i < r.length
  · obtain ⟨x, hx⟩ := has_get hb
    have hs := ys i x hx
    have hb1 := hbnd i x hx
    have hb2 := hwf i x hx
    obtain ⟨p, hp⟩ : ∃ p, x * (1 + (f : Int)) = p := ⟨_, rfl⟩
    rw [hp] at hs hb1
    obtain ⟨V, hV⟩ : ∃ V, Y i = V := ⟨_, rfl⟩
    rw [hV] at hs hyl ⊢
    repeat (first | (refine nf1_sound rfl ?_; simp [go_sem, ↓IntWalk.iteOmega, IntWalk.iteOmega, IntWalk.toNatUp, hx, hf, hp]; (repeat (refine And.intro (by omega) ?_)); try (refine ⟨DrawChk_of (by kernel_rfl), ?_⟩)) | (refine itePos (by omega) ?_; try simp [go_sem, ↓IntWalk.iteOmega, IntWalk.iteOmega, IntWalk.toNatUp, hx, hf, hp]) | (refine iteNeg (by omega) ?_; try simp [go_sem, ↓IntWalk.iteOmega, IntWalk.iteOmega, IntWalk.toNatUp, hx, hf, hp]) | (refine ⟨DrawChk_of (by kernel_rfl), ?_⟩))
    rw [RoundQ_normal]; refine ⟨i + 1, [(610, some 610), (611, some 611), (612, some 612), (614, some 165)], ?_, ?_, ?_⟩
    · omega
    · omega
    simp [go_sem, ↓IntWalk.iteOmega, IntWalk.iteOmega, IntWalk.toNatUp, hs]
  obtain rfl : i = r.length := by omega
  obtain ⟨V, hV⟩ : ∃ V, Y r.length = V := ⟨_, rfl⟩
  rw [hV] at c3 hyl ⊢
  have hC12 : C1.length = C2.length := by omega
  repeat (first | (refine nf1_sound rfl ?_; simp [go_sem, ↓IntWalk.iteOmega, IntWalk.iteOmega, IntWalk.toNatUp]; (repeat (refine And.intro (by omega) ?_)); try (refine ⟨DrawChk_of (by kernel_rfl), ?_⟩)) | (refine itePos (by omega) ?_; try simp [go_sem, ↓IntWalk.iteOmega, IntWalk.iteOmega, IntWalk.toNatUp]) | (refine iteNeg (by omega) ?_; try simp [go_sem, ↓IntWalk.iteOmega, IntWalk.iteOmega, IntWalk.toNatUp]) | (refine ⟨DrawChk_of (by kernel_rfl), ?_⟩))
  refine CallK.fn (c3) [(1000, 616)] [614] [] (by kernel_rfl) (by simp [go_sem, ↓IntWalk.iteOmega, IntWalk.iteOmega, IntWalk.toNatUp]) (by simp [go_sem, ↓IntWalk.iteOmega, IntWalk.iteOmega, IntWalk.toNatUp]) (by simp [go_sem, ↓IntWalk.iteOmega, IntWalk.iteOmega, IntWalk.toNatUp]) (Or.inr ⟨by simp [go_sem, ↓IntWalk.iteOmega, IntWalk.iteOmega, IntWalk.toNatUp], by simp [go_sem, ↓IntWalk.iteOmega, IntWalk.iteOmega, IntWalk.toNatUp]⟩) ?_
  simp [go_sem, ↓IntWalk.iteOmega, IntWalk.iteOmega, IntWalk.toNatUp]
  repeat (refine And.intro (by omega) ?_)
  try (refine ⟨DrawChk_of (by kernel_rfl), ?_⟩)
  repeat (first | (refine nf1_sound rfl ?_; simp [go_sem, ↓IntWalk.iteOmega, IntWalk.iteOmega, IntWalk.toNatUp]; (repeat (refine And.intro (by omega) ?_)); try (refine ⟨DrawChk_of (by kernel_rfl), ?_⟩)) | (refine itePos (by omega) ?_; try simp [go_sem, ↓IntWalk.iteOmega, IntWalk.iteOmega, IntWalk.toNatUp]) | (refine iteNeg (by omega) ?_; try simp [go_sem, ↓IntWalk.iteOmega, IntWalk.iteOmega, IntWalk.toNatUp]) | (refine ⟨DrawChk_of (by kernel_rfl), ?_⟩))
  refine CallK.fn (ci) [] [611, 616] [] (by kernel_rfl) (by simp [go_sem, ↓IntWalk.iteOmega, IntWalk.iteOmega, IntWalk.toNatUp, hC12]) (by simp [go_sem, ↓IntWalk.iteOmega, IntWalk.iteOmega, IntWalk.toNatUp, hC12]) (by simp [go_sem, ↓IntWalk.iteOmega, IntWalk.iteOmega, IntWalk.toNatUp, hC12]) (Or.inr ⟨by simp [go_sem, ↓IntWalk.iteOmega, IntWalk.iteOmega, IntWalk.toNatUp, hC12], by simp [go_sem, ↓IntWalk.iteOmega, IntWalk.iteOmega, IntWalk.toNatUp, hC12]⟩) ?_
  simp [go_sem, ↓IntWalk.iteOmega, IntWalk.iteOmega, IntWalk.toNatUp, hC12]
  repeat (refine And.intro (by omega) ?_)
  try (refine ⟨DrawChk_of (by kernel_rfl), ?_⟩)
  repeat (first | (refine nf1_sound rfl ?_; simp [go_sem, ↓IntWalk.iteOmega, IntWalk.iteOmega, IntWalk.toNatUp, hC12]; (repeat (refine And.intro (by omega) ?_)); try (refine ⟨DrawChk_of (by kernel_rfl), ?_⟩)) | (refine itePos (by omega) ?_; try simp [go_sem, ↓IntWalk.iteOmega, IntWalk.iteOmega, IntWalk.toNatUp, hC12]) | (refine iteNeg (by omega) ?_; try simp [go_sem, ↓IntWalk.iteOmega, IntWalk.iteOmega, IntWalk.toNatUp, hC12]) | (refine ⟨DrawChk_of (by kernel_rfl), ?_⟩))
  refine nf1_sound' _ _ _ ?_; simp only [nf1]
  refine CW.loop (ι := Nat) (fun i => ⟨[(10, .own 611), (12, .own 612), (97, .t (.int C2.length)), (98, .t (.int i))], [(611, blkI C1), (612, blkI C2)]⟩) (fun i => i ≤ C2.length) (fun i => C2.length - i) 0 [(611, some 611), (612, some 612)] (by omega) ?_ ?_
  · simp [go_sem, ↓IntWalk.iteOmega, IntWalk.iteOmega, IntWalk.toNatUp, hC12]
  intro i hi
  by_cases hb : i < C2.length
  · have g1 := get_rt (r := C1) (i := i) (by omega)
    have g2 := get_rt (r := C2) (i := i) hb
    have hm3 := hmono i
    obtain ⟨u1, hu1⟩ : ∃ u, rt C1 i = u := ⟨_, rfl⟩
    obtain ⟨u2, hu2⟩ : ∃ u, rt C2 i = u := ⟨_, rfl⟩
    rw [hu1] at g1 hm3
    rw [hu2] at g2 hm3
    repeat (first | (refine nf1_sound rfl ?_; simp [go_sem, ↓IntWalk.iteOmega, IntWalk.iteOmega, IntWalk.toNatUp, g1, g2]; (repeat (refine And.intro (by omega) ?_)); try (refine ⟨DrawChk_of (by kernel_rfl), ?_⟩)) | (refine itePos (by omega) ?_; try simp [go_sem, ↓IntWalk.iteOmega, IntWalk.iteOmega, IntWalk.toNatUp, g1, g2]) | (refine iteNeg (by omega) ?_; try simp [go_sem, ↓IntWalk.iteOmega, IntWalk.iteOmega, IntWalk.toNatUp, g1, g2]) | (refine ⟨DrawChk_of (by kernel_rfl), ?_⟩))
    rw [RoundQ_normal]; refine ⟨i + 1, [(611, some 611), (612, some 612)], ?_, ?_, ?_⟩
    · omega
    · omega
    simp [go_sem, ↓IntWalk.iteOmega, IntWalk.iteOmega, IntWalk.toNatUp]
  obtain rfl : i = C2.length := by omega
  repeat (first | (refine nf1_sound rfl ?_; simp [go_sem, ↓IntWalk.iteOmega, IntWalk.iteOmega, IntWalk.toNatUp]; (repeat (refine And.intro (by omega) ?_)); try (refine ⟨DrawChk_of (by kernel_rfl), ?_⟩)) | (refine itePos (by omega) ?_; try simp [go_sem, ↓IntWalk.iteOmega, IntWalk.iteOmega, IntWalk.toNatUp]) | (refine iteNeg (by omega) ?_; try simp [go_sem, ↓IntWalk.iteOmega, IntWalk.iteOmega, IntWalk.toNatUp]) | (refine ⟨DrawChk_of (by kernel_rfl), ?_⟩))
  refine CallK.fn (awake_fn) [] [] [] (by kernel_rfl) (by simp [go_sem, ↓IntWalk.iteOmega, IntWalk.iteOmega, IntWalk.toNatUp]) (by simp [go_sem, ↓IntWalk.iteOmega, IntWalk.iteOmega, IntWalk.toNatUp]) (by simp [go_sem, ↓IntWalk.iteOmega, IntWalk.iteOmega, IntWalk.toNatUp]) (Or.inl rfl) ?_
  simp [go_sem, ↓IntWalk.iteOmega, IntWalk.iteOmega, IntWalk.toNatUp]
  repeat (refine And.intro (by omega) ?_)
  try (refine ⟨DrawChk_of (by kernel_rfl), ?_⟩)
  repeat (first | (refine nf1_sound rfl ?_; simp [go_sem, ↓IntWalk.iteOmega, IntWalk.iteOmega, IntWalk.toNatUp]; (repeat (refine And.intro (by omega) ?_)); try (refine ⟨DrawChk_of (by kernel_rfl), ?_⟩)) | (refine itePos (by omega) ?_; try simp [go_sem, ↓IntWalk.iteOmega, IntWalk.iteOmega, IntWalk.toNatUp]) | (refine iteNeg (by omega) ?_; try simp [go_sem, ↓IntWalk.iteOmega, IntWalk.iteOmega, IntWalk.toNatUp]) | (refine ⟨DrawChk_of (by kernel_rfl), ?_⟩))
  first | rw [RetQ_ret] | rw [RetQ_normal]
  refine ⟨[], ?_⟩
  simp [go_sem, ↓IntWalk.iteOmega, IntWalk.iteOmega, IntWalk.toNatUp]
theorem grows_all (x0 x1 x2 : T) (h0 : InSh (.sl (.int .i64)) x0) (h1 : InSh (.int .u16) x1) (h2 : InSh (.int .u8) x2) : FnOk Try.prog 8 [.t x0, .t x1, .t x2] [] (.t (.bool true)) [] := by
  obtain ⟨l, rfl, hl, wf⟩ := ints_in h0
  obtain ⟨a, rfl, ha⟩ := u16_in h1
  obtain ⟨b, rfl, hb⟩ := u8_in h2
  exact grows_fn l a b hl wf ha hb
end Go.Proofs.Ytpfolkjimdmdhaa
