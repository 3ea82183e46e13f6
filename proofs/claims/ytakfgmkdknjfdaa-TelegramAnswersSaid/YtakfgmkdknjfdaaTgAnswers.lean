/- The law TelegramAnswers. No condition. -/
import Derived.Test.YtakfgmkdknjfdaaTgS
import Derived.Test.YtakfgmkdknjfdaaTgM
import Derived.Test.YtakfgmkdknjfdaaTgW
import Derived.Test.YtakfgmkdknjfdaaKArg
namespace Go.Proofs.Ytakfgmkdknjfdaa
open Go.RowKit Sy
set_option linter.unusedVariables false
set_option linter.unusedSimpArgs false
attribute [local go_sem ↓] frzK
def FrOk (x : List Nat) : Prop := x.length ≤ 1000000 ∧ ∀ c ∈ x, c < 256
theorem stuff_fr {bs : List Nat} (h : bs.length ≤ 400000) (h8 : ∀ c ∈ bs, c < 256) : FrOk (Wire.stuff bs) := by
  refine ⟨?_, Wire.stuff_lt h8⟩
  rw [Wire.stuff_length]
  have := (Wire.body_length bs).2
  omega
theorem seal_len (bs : List Nat) : (sealV bs).length = bs.length + 4 := by unfold sealV; simp
theorem take_fr {bs : List Nat} (h : FrOk bs) (n : Nat) : FrOk (bs.take n) := ⟨by rw [List.length_take]; have := h.1; omega, fun c hc => h.2 c (List.mem_of_mem_take hc)⟩
theorem nums_ex {l : List Int} {k : Nat} (h : SrcOk l k) :
    ∃ (K : Nat → Nat) (x : Nat → Int) (B : Nat → List Nat), K 0 = k ∧ B 0 = [] ∧ ∀ j, SrcOk l (K j) ∧ (-9223372036854775808 ≤ x j ∧ x j ≤ 9223372036854775807) ∧ B (j + 1) = B j ++ putZ (x j) ∧ (B j).length ≤ 10 * j ∧ (∀ c ∈ B j, c < 256) ∧
      FnOk Try.prog 25 [.pt 0 [] 0, .t (encIs [0, 1, 2, 5, -1, 300, 2199023255552, -9223372036854775808])] [(0, srcB l (K j))] (.t (.int (x j))) [(0, srcB l (K (j + 1)))] := by
  obtain ⟨K, V, x, K0, V0, hj⟩ := draws_ex h [0, 1, 2, 5, -1, 300, 2199023255552, -9223372036854775808] (by simp) (by simp)
  have hV : ∀ j, ∀ v ∈ V j, i64 v := fun j v hv => by
    have := (hj j).2.2.2.2.1 v hv
    simp only [List.mem_cons, List.not_mem_nil, or_false] at this
    unfold i64
    omega
  refine ⟨K, x, fun j => putL (V j), K0, by dsimp only; rw [V0]; rfl, fun j => ⟨(hj j).2.2.1, ?_, ?_, ?_, putL_b8 _, (hj j).2.2.2.2.2⟩⟩
  · have := hV (j + 1) (x j) (by rw [(hj j).2.1]; simp)
    exact this
  · dsimp only
    rw [(hj j).2.1]
    unfold putL
    rw [List.flatMap_append]
    simp
  · have := putL_len (hV j)
    rw [(hj j).2.2.2.1] at this
    exact this
theorem shl_one {s : Int} (h0 : 0 ≤ s) (h1 : s < 8) : ∃ m : Nat, 1 ≤ m ∧ m < 256 ∧ ∀ K : Value → Prop, binV .shl (.int .u8 1) (.int .i64 s) K = K (.int .u8 (m : Int)) := by
  have hc : s = 0 ∨ s = 1 ∨ s = 2 ∨ s = 3 ∨ s = 4 ∨ s = 5 ∨ s = 6 ∨ s = 7 := by omega
  rcases hc with rfl | rfl | rfl | rfl | rfl | rfl | rfl | rfl
  · exact ⟨1, by omega, by omega, fun K => rfl⟩
  · exact ⟨2, by omega, by omega, fun K => rfl⟩
  · exact ⟨4, by omega, by omega, fun K => rfl⟩
  · exact ⟨8, by omega, by omega, fun K => rfl⟩
  · exact ⟨16, by omega, by omega, fun K => rfl⟩
  · exact ⟨32, by omega, by omega, fun K => rfl⟩
  · exact ⟨64, by omega, by omega, fun K => rfl⟩
  · exact ⟨128, by omega, by omega, fun K => rfl⟩
theorem enc_fr {t : Tg} {x : List Nat} {e : Int} (h : encV t = (x, e)) : ∀ c ∈ x, c < 256 := by
  unfold encV at h
  split at h
  · rw [← (Prod.mk.inj h).1]
    exact Wire.stuff_lt (sealV_b8 (putL_b8 (numsL t)))
  · rw [← (Prod.mk.inj h).1]; simp
theorem dec_len2 {b : List Nat} {t : Tg} {e : Int} (h : decV b = (t, e)) : t.vs.length ≤ 16 := by
  have h0 : tg0.vs.length ≤ 16 := by simp [tg0]
  unfold decV at h
  split at h
  · rw [← (Prod.mk.inj h).1]; exact h0
  · split at h
    · rw [← (Prod.mk.inj h).1]; exact h0
    · split at h
      · rw [← (Prod.mk.inj h).1]; exact h0
      · split at h
        · rw [← (Prod.mk.inj h).1]; exact h0
        · split at h
          · rename_i hf
            rw [← (Prod.mk.inj h).1]
            obtain ⟨n, h1, h2, h3, h4, h5⟩ := all_ok hf
            unfold fieldsV
            rw [if_pos ⟨fun i hi => h3 i (by have := List.mem_range.1 hi; omega), by omega, fun i hi => h3 (6 + i) (by have := List.mem_range.1 hi; omega)⟩]
            exact h5.ln
          · rw [← (Prod.mk.inj h).1]; exact h0
set_option maxRecDepth 100000 in
set_option maxHeartbeats 32000000 in
theorem answers_fn (raw other : Tg) (b : List Nat) (l : List Int) (hraw : raw.vs.length ≤ 9223372036854775807) (hoth : other.vs.length ≤ 9223372036854775807) (hb : b.length ≤ 9223372036854775807) (h8 : ∀ c ∈ b, c < 256)
    (hl : l.length ≤ 9223372036854775807) (wl : ∀ z ∈ l, -9223372036854775808 ≤ z ∧ z ≤ 9223372036854775807) :
    FnOk Try.prog 6 [.t (encTg raw), .t (encTg other), .t (encUs b), .t (encIs l)] [] (.t (.bool true)) [] := by
  by_cases hr60 : 60 < raw.vs.length
  · obtain ⟨r1, r2, r3, r4, r5, rv⟩ := raw
    dsimp only at hraw hr60
    refine FnOk.intro fact_mixed Try.func6 rfl Try.ntmps6 (by rfl) (by simp) ?_
    repeat (first | (refine nf1_sound rfl ?_; simp [go_sem, ↓IntWalk.iteOmega, IntWalk.iteOmega, IntWalk.toNatUp]; (repeat (refine And.intro (by omega) ?_)); try (refine ⟨DrawChk_of (by kernel_rfl), ?_⟩)) | (refine itePos (by omega) ?_; try simp [go_sem, ↓IntWalk.iteOmega, IntWalk.iteOmega, IntWalk.toNatUp]) | (refine iteNeg (by omega) ?_; try simp [go_sem, ↓IntWalk.iteOmega, IntWalk.iteOmega, IntWalk.toNatUp]) | (refine ⟨DrawChk_of (by kernel_rfl), ?_⟩))
    refine CallK.fn (awake_fn) [] [] [] (by kernel_rfl) (by simp [go_sem, ↓IntWalk.iteOmega, IntWalk.iteOmega, IntWalk.toNatUp]) (by simp [go_sem, ↓IntWalk.iteOmega, IntWalk.iteOmega, IntWalk.toNatUp]) (by simp [go_sem, ↓IntWalk.iteOmega, IntWalk.iteOmega, IntWalk.toNatUp]) (Or.inl rfl) ?_
    simp [go_sem, ↓IntWalk.iteOmega, IntWalk.iteOmega, IntWalk.toNatUp]
    repeat (refine And.intro (by omega) ?_)
    try (refine ⟨DrawChk_of (by kernel_rfl), ?_⟩)
    repeat (first | (refine nf1_sound rfl ?_; simp [go_sem, ↓IntWalk.iteOmega, IntWalk.iteOmega, IntWalk.toNatUp]; (repeat (refine And.intro (by omega) ?_)); try (refine ⟨DrawChk_of (by kernel_rfl), ?_⟩)) | (refine itePos (by omega) ?_; try simp [go_sem, ↓IntWalk.iteOmega, IntWalk.iteOmega, IntWalk.toNatUp]) | (refine iteNeg (by omega) ?_; try simp [go_sem, ↓IntWalk.iteOmega, IntWalk.iteOmega, IntWalk.toNatUp]) | (refine ⟨DrawChk_of (by kernel_rfl), ?_⟩))
    first | rw [RetQ_ret] | rw [RetQ_normal]
    refine ⟨[], ?_⟩
    simp [go_sem, ↓IntWalk.iteOmega, IntWalk.iteOmega, IntWalk.toNatUp]
  by_cases ho60 : 60 < other.vs.length
  · obtain ⟨r1, r2, r3, r4, r5, rv⟩ := raw
    obtain ⟨o1, o2, o3, o4, o5, ov⟩ := other
    dsimp only at hraw hr60 hoth ho60
    refine FnOk.intro fact_mixed Try.func6 rfl Try.ntmps6 (by rfl) (by simp) ?_
    repeat (first | (refine nf1_sound rfl ?_; simp [go_sem, ↓IntWalk.iteOmega, IntWalk.iteOmega, IntWalk.toNatUp]; (repeat (refine And.intro (by omega) ?_)); try (refine ⟨DrawChk_of (by kernel_rfl), ?_⟩)) | (refine itePos (by omega) ?_; try simp [go_sem, ↓IntWalk.iteOmega, IntWalk.iteOmega, IntWalk.toNatUp]) | (refine iteNeg (by omega) ?_; try simp [go_sem, ↓IntWalk.iteOmega, IntWalk.iteOmega, IntWalk.toNatUp]) | (refine ⟨DrawChk_of (by kernel_rfl), ?_⟩))
    refine CallK.fn (awake_fn) [] [] [] (by kernel_rfl) (by simp [go_sem, ↓IntWalk.iteOmega, IntWalk.iteOmega, IntWalk.toNatUp]) (by simp [go_sem, ↓IntWalk.iteOmega, IntWalk.iteOmega, IntWalk.toNatUp]) (by simp [go_sem, ↓IntWalk.iteOmega, IntWalk.iteOmega, IntWalk.toNatUp]) (Or.inl rfl) ?_
    simp [go_sem, ↓IntWalk.iteOmega, IntWalk.iteOmega, IntWalk.toNatUp]
    repeat (refine And.intro (by omega) ?_)
    try (refine ⟨DrawChk_of (by kernel_rfl), ?_⟩)
    repeat (first | (refine nf1_sound rfl ?_; simp [go_sem, ↓IntWalk.iteOmega, IntWalk.iteOmega, IntWalk.toNatUp]; (repeat (refine And.intro (by omega) ?_)); try (refine ⟨DrawChk_of (by kernel_rfl), ?_⟩)) | (refine itePos (by omega) ?_; try simp [go_sem, ↓IntWalk.iteOmega, IntWalk.iteOmega, IntWalk.toNatUp]) | (refine iteNeg (by omega) ?_; try simp [go_sem, ↓IntWalk.iteOmega, IntWalk.iteOmega, IntWalk.toNatUp]) | (refine ⟨DrawChk_of (by kernel_rfl), ?_⟩))
    first | rw [RetQ_ret] | rw [RetQ_normal]
    refine ⟨[], ?_⟩
    simp [go_sem, ↓IntWalk.iteOmega, IntWalk.iteOmega, IntWalk.toNatUp]
  by_cases hb5 : 500 < b.length
  · obtain ⟨r1, r2, r3, r4, r5, rv⟩ := raw
    obtain ⟨o1, o2, o3, o4, o5, ov⟩ := other
    dsimp only at hraw hr60 hoth ho60
    refine FnOk.intro fact_mixed Try.func6 rfl Try.ntmps6 (by rfl) (by simp) ?_
    repeat (first | (refine nf1_sound rfl ?_; simp [go_sem, ↓IntWalk.iteOmega, IntWalk.iteOmega, IntWalk.toNatUp]; (repeat (refine And.intro (by omega) ?_)); try (refine ⟨DrawChk_of (by kernel_rfl), ?_⟩)) | (refine itePos (by omega) ?_; try simp [go_sem, ↓IntWalk.iteOmega, IntWalk.iteOmega, IntWalk.toNatUp]) | (refine iteNeg (by omega) ?_; try simp [go_sem, ↓IntWalk.iteOmega, IntWalk.iteOmega, IntWalk.toNatUp]) | (refine ⟨DrawChk_of (by kernel_rfl), ?_⟩))
    refine CallK.fn (awake_fn) [] [] [] (by kernel_rfl) (by simp [go_sem, ↓IntWalk.iteOmega, IntWalk.iteOmega, IntWalk.toNatUp]) (by simp [go_sem, ↓IntWalk.iteOmega, IntWalk.iteOmega, IntWalk.toNatUp]) (by simp [go_sem, ↓IntWalk.iteOmega, IntWalk.iteOmega, IntWalk.toNatUp]) (Or.inl rfl) ?_
    simp [go_sem, ↓IntWalk.iteOmega, IntWalk.iteOmega, IntWalk.toNatUp]
    repeat (refine And.intro (by omega) ?_)
    try (refine ⟨DrawChk_of (by kernel_rfl), ?_⟩)
    repeat (first | (refine nf1_sound rfl ?_; simp [go_sem, ↓IntWalk.iteOmega, IntWalk.iteOmega, IntWalk.toNatUp]; (repeat (refine And.intro (by omega) ?_)); try (refine ⟨DrawChk_of (by kernel_rfl), ?_⟩)) | (refine itePos (by omega) ?_; try simp [go_sem, ↓IntWalk.iteOmega, IntWalk.iteOmega, IntWalk.toNatUp]) | (refine iteNeg (by omega) ?_; try simp [go_sem, ↓IntWalk.iteOmega, IntWalk.iteOmega, IntWalk.toNatUp]) | (refine ⟨DrawChk_of (by kernel_rfl), ?_⟩))
    first | rw [RetQ_ret] | rw [RetQ_normal]
    refine ⟨[], ?_⟩
    simp [go_sem, ↓IntWalk.iteOmega, IntWalk.iteOmega, IntWalk.toNatUp]
  have hnl := new_fn l hl
  obtain ⟨k1, t, hk1, ht17, cs⟩ := some_ex (new_ok wl)
  obtain ⟨L, hL⟩ : ∃ L, newL2 l = L := ⟨_, rfl⟩
  rw [hL] at hnl cs hk1
  obtain ⟨xs, hxs⟩ : ∃ xs : List Tg, [raw, other, t] = xs := ⟨_, rfl⟩
  have hx3 : xs.length = 3 := by rw [← hxs]; rfl
  have hxl : ∀ x ∈ xs, x.vs.length ≤ 60 := by
    rw [← hxs]
    intro x hx
    simp only [List.mem_cons, List.not_mem_nil, or_false] at hx
    rcases hx with rfl | rfl | rfl <;> omega
  have hxm : xs.map encTg = [encTg raw, encTg other, encTg t] := by rw [← hxs]; rfl
  simp only [encTg] at hxm
  have cg := telegram_ex hk1 3 (by omega)
  obtain ⟨k2, g, hk2, gok, _, g3, cg⟩ := cg
  have ci := rinside_fn g gok
  have hI8 : ∀ c ∈ insideV g, c < 256 := sealV_b8 (putL_b8 (numsL g))
  have hIl := inside_len gok
  have hI4 : 6 ≤ (insideV g).length := by
    unfold insideV
    rw [seal_len]
    have h1 : 2 ≤ (putL (numsL g)).length := by
      unfold putL numsL
      simp only [List.flatMap_append, List.flatMap_cons, List.length_append]
      have a1 : 1 ≤ (putZ g.st).length := Wire.put_pos _
      have a2 : 1 ≤ (putZ g.ep).length := Wire.put_pos _
      omega
    omega
  obtain ⟨I, hI⟩ : ∃ I, insideV g = I := ⟨_, rfl⟩
  rw [hI] at ci hI8 hIl hI4
  obtain ⟨n, hn, cn⟩ := n_ex hk2 12 (by omega) (by omega)
  obtain ⟨K, x, B, K0, B0, hj⟩ := nums_ex hk2.next
  obtain ⟨m, rfl⟩ : ∃ m : Nat, n = (m : Int) := ⟨n.toNat, by omega⟩
  have cf := rstuff_fn I (by omega) hI8
  have hFr := stuff_fr (bs := I) (by omega) hI8
  have hFl : (Wire.stuff I).length = (Wire.body I).length + 2 := Wire.stuff_length I
  obtain ⟨F, hF⟩ : ∃ F, Wire.stuff I = F := ⟨_, rfl⟩
  rw [hF] at cf hFr hFl
  obtain ⟨hFr1, hFr2⟩ := hFr
  obtain ⟨hKm, _, _, hBm, hB8, _⟩ := hj m
  obtain ⟨q1, hq1, cq1⟩ := n_ex hKm F.length (by omega) (by omega)
  obtain ⟨q2, hq2, cq2⟩ := n_ex hKm.next 8 (by omega) (by omega)
  obtain ⟨s, hs1, hs8, hsh⟩ := shl_one hq2.1 hq2.2
  obtain ⟨i1, rfl⟩ : ∃ m : Nat, q1 = (m : Int) := ⟨q1.toNat, by omega⟩
  obtain ⟨c, hc⟩ := has_get (show i1 < F.length by omega)
  have hc8 := hFr2 c (mem_get hc)
  have hxor := u8_xor_nat c s hc8 hs8
  have hd8 : c ^^^ s < 256 := Nat.xor_lt_two_pow (n := 8) hc8 hs8
  obtain ⟨d, hd⟩ : ∃ d, c ^^^ s = d := ⟨_, rfl⟩
  rw [hd] at hxor hd8
  have hCs : (F.map encU).set i1 (encU d) = (F.set i1 d).map encU := by rw [List.map_set]
  simp only [encU] at hCs
  have hC8 : ∀ z ∈ F.set i1 d, z < 256 := fun z hz => by
    rcases List.mem_or_eq_of_mem_set hz with h | h
    · exact hFr2 z h
    · rw [h]; exact hd8
  have hCl : (F.set i1 d).length = F.length := List.length_set
  obtain ⟨C, hC⟩ : ∃ C, F.set i1 d = C := ⟨_, rfl⟩
  rw [hC] at hCs hC8 hCl
  obtain ⟨q3, hq3, cq3⟩ := n_ex hKm.next.next F.length (by omega) (by omega)
  obtain ⟨i3, rfl⟩ : ∃ m : Nat, q3 = (m : Int) := ⟨q3.toNat, by omega⟩
  have hT3 : List.take i3 (F.map encU) = (F.take i3).map encU := by rw [List.map_take]
  have hT3f := take_fr (bs := F) ⟨hFr1, hFr2⟩ i3
  have hT3l : (F.take i3).length = i3 := by rw [List.length_take]; omega
  obtain ⟨F3, hF3⟩ : ∃ z, F.take i3 = z := ⟨_, rfl⟩
  rw [hF3] at hT3 hT3f hT3l
  have e1 := rstuff_fn b (by omega) h8
  have f1 := stuff_fr (bs := b) (by omega) h8
  have e2 := rsealed_fn b (by omega) h8
  have s2 := sealV_b8 h8
  have e3 := rstuff_fn (sealV b) (by rw [seal_len]; omega) s2
  have f3 := stuff_fr (bs := sealV b) (by rw [seal_len]; omega) s2
  have e4 := rsealed_fn (B m) (by omega) hB8
  have s4 := sealV_b8 hB8
  have e5 := rstuff_fn (sealV (B m)) (by rw [seal_len]; omega) s4
  have f5 := stuff_fr (bs := sealV (B m)) (by rw [seal_len]; omega) s4
  obtain ⟨q6, hq6, cq6⟩ := n_ex hKm.next.next.next 2 (by omega) (by omega)
  obtain ⟨i6, rfl⟩ : ∃ m : Nat, q6 = (m : Int) := ⟨q6.toNat, by omega⟩
  have hT6 : List.take (I.length - 4 - i6) (I.map encU) = (I.take (I.length - 4 - i6)).map encU := by rw [List.map_take]
  have hT6l : (I.take (I.length - 4 - i6)).length = I.length - 4 - i6 := by rw [List.length_take]; omega
  have hT68 : ∀ z ∈ I.take (I.length - 4 - i6), z < 256 := fun z hz => hI8 z (List.mem_of_mem_take hz)
  have hTn : ((I.length : Int) - 4 - (i6 : Int)).toNat = I.length - 4 - i6 := by omega
  obtain ⟨I6, hI6⟩ : ∃ z, I.take (I.length - 4 - i6) = z := ⟨_, rfl⟩
  rw [hI6] at hT6 hT6l hT68
  have e6 := rsealed_fn I6 (by omega) hT68
  have s6 := sealV_b8 hT68
  have e7 := rstuff_fn (sealV I6) (by rw [seal_len]; omega) s6
  have f7 := stuff_fr (bs := sealV I6) (by rw [seal_len]; omega) s6
  have z8 : ∀ z ∈ List.replicate 399 0, z < 256 := fun z hz => by rw [List.eq_of_mem_replicate hz]; omega
  have e8 := rstuff_fn (List.replicate 399 0) (by simp) z8
  have f8 := stuff_fr (bs := List.replicate 399 0) (by simp) z8
  have hZ : (List.replicate 399 0).map encU = List.replicate 399 (T.lit (.int .u8 0)) := by rw [List.map_replicate]; rfl
  obtain ⟨Z, hZ0⟩ : ∃ Z, List.replicate 399 0 = Z := ⟨_, rfl⟩
  rw [hZ0] at e8 f8 hZ
  have hZl : Z.length = 399 := by rw [← hZ0]; simp
  have hZr := hZ.symm
  obtain ⟨S1, hS1⟩ : ∃ z, Wire.stuff b = z := ⟨_, rfl⟩
  obtain ⟨S2, hS2⟩ : ∃ z, sealV b = z := ⟨_, rfl⟩
  rw [hS1] at e1 f1
  rw [hS2] at e2 e3 f3
  obtain ⟨S3, hS3⟩ : ∃ z, Wire.stuff S2 = z := ⟨_, rfl⟩
  rw [hS3] at e3 f3
  obtain ⟨S4, hS4⟩ : ∃ z, sealV (B m) = z := ⟨_, rfl⟩
  rw [hS4] at e4 e5 f5
  obtain ⟨S5, hS5⟩ : ∃ z, Wire.stuff S4 = z := ⟨_, rfl⟩
  rw [hS5] at e5 f5
  obtain ⟨S6, hS6⟩ : ∃ z, sealV I6 = z := ⟨_, rfl⟩
  rw [hS6] at e6 e7 f7
  obtain ⟨S7, hS7⟩ : ∃ z, Wire.stuff S6 = z := ⟨_, rfl⟩
  rw [hS7] at e7 f7
  obtain ⟨S8, hS8⟩ : ∃ z, Wire.stuff Z = z := ⟨_, rfl⟩
  rw [hS8] at e8 f8
  obtain ⟨ys, hys⟩ : ∃ ys : List (List Nat), [b, F, C, F3, S1, S3, S5, S7, S8] = ys := ⟨_, rfl⟩
  have hy9 : ys.length = 9 := by rw [← hys]; rfl
  have hyf : ∀ y ∈ ys, FrOk y := by
    rw [← hys]
    intro y hy
    simp only [List.mem_cons, List.not_mem_nil, or_false] at hy
    rcases hy with rfl | rfl | rfl | rfl | rfl | rfl | rfl | rfl | rfl
    · exact ⟨by omega, h8⟩
    · exact ⟨hFr1, hFr2⟩
    · exact ⟨by omega, hC8⟩
    · exact hT3f
    · exact f1
    · exact f3
    · exact f5
    · exact f7
    · exact f8
  have hym : ys.map encUs = [encUs b, encUs F, encUs C, encUs F3, encUs S1, encUs S3, encUs S5, encUs S7, encUs S8] := by rw [← hys]; rfl
  simp only [encUs] at hym
  clear hL hI hF hd hC hF3 hI6 hZ0 hS1 hS2 hS3 hS4 hS5 hS6 hS7 hS8 f1 f3 f5 f7 f8 s2 s4 s6 z8 hC8 hFl hT3f hT68 hys hxs hKm gok hk1 hk2
  obtain ⟨r1, r2, r3, r4, r5, rv⟩ := raw
  obtain ⟨o1, o2, o3, o4, o5, ov⟩ := other
  obtain ⟨t1, t2, t3, t4, t5, tv⟩ := t
  obtain ⟨g1, g2, g3', g4, g5, gv⟩ := g
  dsimp only at hraw hr60 hoth ho60 ht17 g3 hxm
  refine FnOk.intro fact_mixed Try.func6 rfl Try.ntmps6 (by rfl) (by simp) ?_
  repeat (first | (refine nf1_sound rfl ?_; simp [go_sem, ↓IntWalk.iteOmega, IntWalk.iteOmega, IntWalk.toNatUp]; (repeat (refine And.intro (by omega) ?_)); try (refine ⟨DrawChk_of (by kernel_rfl), ?_⟩)) | (refine itePos (by omega) ?_; try simp [go_sem, ↓IntWalk.iteOmega, IntWalk.iteOmega, IntWalk.toNatUp]) | (refine iteNeg (by omega) ?_; try simp [go_sem, ↓IntWalk.iteOmega, IntWalk.iteOmega, IntWalk.toNatUp]) | (refine ⟨DrawChk_of (by kernel_rfl), ?_⟩))
  refine CallK.fn (hnl) [(1000, 646)] [] [] (by kernel_rfl) (by simp [go_sem, ↓IntWalk.iteOmega, IntWalk.iteOmega, IntWalk.toNatUp]) (by simp [go_sem, ↓IntWalk.iteOmega, IntWalk.iteOmega, IntWalk.toNatUp]) (by simp [go_sem, ↓IntWalk.iteOmega, IntWalk.iteOmega, IntWalk.toNatUp]) (Or.inl rfl) ?_
  simp [go_sem, ↓IntWalk.iteOmega, IntWalk.iteOmega, IntWalk.toNatUp]
  repeat (refine And.intro (by omega) ?_)
  try (refine ⟨DrawChk_of (by kernel_rfl), ?_⟩)
  repeat (first | (refine nf1_sound rfl ?_; simp [go_sem, ↓IntWalk.iteOmega, IntWalk.iteOmega, IntWalk.toNatUp]; (repeat (refine And.intro (by omega) ?_)); try (refine ⟨DrawChk_of (by kernel_rfl), ?_⟩)) | (refine itePos (by omega) ?_; try simp [go_sem, ↓IntWalk.iteOmega, IntWalk.iteOmega, IntWalk.toNatUp]) | (refine iteNeg (by omega) ?_; try simp [go_sem, ↓IntWalk.iteOmega, IntWalk.iteOmega, IntWalk.toNatUp]) | (refine ⟨DrawChk_of (by kernel_rfl), ?_⟩))
  refine CallK.fn (cs) [(0, 646), (1000, 648)] [] [] (by kernel_rfl) (by simp [go_sem, ↓IntWalk.iteOmega, IntWalk.iteOmega, IntWalk.toNatUp]) (by simp [go_sem, ↓IntWalk.iteOmega, IntWalk.iteOmega, IntWalk.toNatUp]) (by simp [go_sem, ↓IntWalk.iteOmega, IntWalk.iteOmega, IntWalk.toNatUp]) (Or.inl rfl) ?_
  simp [go_sem, ↓IntWalk.iteOmega, IntWalk.iteOmega, IntWalk.toNatUp]
  repeat (refine And.intro (by omega) ?_)
  try (refine ⟨DrawChk_of (by kernel_rfl), ?_⟩)
  refine CW.weak (ρ := [(504, some 104), (505, some 105), (509, some 646), (510, some 110)]) (σ' := ⟨[(2, .t (encUs b)), (4, .pt 504 [] 0), (5, .pt 505 [] 0), (9, .pt 509 [] 0), (10, .pt 510 [] 0)], [(504, .box 26 (.t (encTg ⟨r1, r2, r3, r4, r5, rv⟩))), (505, .box 26 (.t (encTg ⟨o1, o2, o3, o4, o5, ov⟩))), (509, srcB L k1), (510, .box 26 (.t (encTg ⟨t1, t2, t3, t4, t5, tv⟩)))]⟩) ?_ ?_
  · simp [go_sem, ↓IntWalk.iteOmega, IntWalk.iteOmega, IntWalk.toNatUp]
  repeat (first | (refine nf1_sound rfl ?_; simp [go_sem, ↓IntWalk.iteOmega, IntWalk.iteOmega, IntWalk.toNatUp]; (repeat (refine And.intro (by omega) ?_)); try (refine ⟨DrawChk_of (by kernel_rfl), ?_⟩)) | (refine itePos (by omega) ?_; try simp [go_sem, ↓IntWalk.iteOmega, IntWalk.iteOmega, IntWalk.toNatUp]) | (refine iteNeg (by omega) ?_; try simp [go_sem, ↓IntWalk.iteOmega, IntWalk.iteOmega, IntWalk.toNatUp]) | (refine ⟨DrawChk_of (by kernel_rfl), ?_⟩))
  refine nf1_sound' _ _ _ ?_; simp only [nf1]
  refine CW.loop (ι := Nat) (fun j => ⟨[(2, .t (encUs b)), (4, .pt 504 [] 0), (9, .pt 509 [] 0), (10, .pt 510 [] 0), (52, .t (.sl 6 (xs.map encTg))), (53, .t (.int 3)), (54, .t (.int j))], [(504, .box 26 (.t (encTg ⟨r1, r2, r3, r4, r5, rv⟩))), (509, srcB L k1), (510, .box 26 (.t (encTg ⟨t1, t2, t3, t4, t5, tv⟩)))]⟩) (fun j => j ≤ 3) (fun j => 3 - j) 0 [(504, some 504), (509, some 509), (510, some 510)] (by omega) ?_ ?_
  · simp [go_sem, ↓IntWalk.iteOmega, IntWalk.iteOmega, IntWalk.toNatUp, hxm]
  intro j hj3
  by_cases hjl : j < 3
  · obtain ⟨⟨x1, x2, x3, x4, x5, xv⟩, hx⟩ := has_get (show j < xs.length by omega)
    have hxlen := hxl _ (mem_get hx)
    dsimp only at hxlen
    obtain ⟨a, e, hae⟩ : ∃ a e, encV ⟨x1, x2, x3, x4, x5, xv⟩ = (a, e) := ⟨_, _, rfl⟩
    have d1 := encode_fn _ (by dsimp only; omega) a e hae
    have d2 := rencode_fn _ (by dsimp only; omega) a e hae
    have a8 := enc_fr hae
    have hbe := str_beq a8 a8
    rw [decide_eq_true rfl] at hbe
    obtain ⟨v, hv⟩ : ∃ v, decide (TgOk ⟨x1, x2, x3, x4, x5, xv⟩) = v := ⟨_, rfl⟩
    have d3 := valid_fn _ (by dsimp only; omega) v hv
    have d4 := rvalid_fn _ (by dsimp only; omega) v hv
    obtain ⟨p, hp⟩ : ∃ v, befV ⟨x1, x2, x3, x4, x5, xv⟩ ⟨t1, t2, t3, t4, t5, tv⟩ = v := ⟨_, rfl⟩
    have d5 := before_fn _ _ p hp
    have d6 := rbefore_fn _ _ p hp
    obtain ⟨q, hq⟩ : ∃ v, befV ⟨r1, r2, r3, r4, r5, rv⟩ ⟨x1, x2, x3, x4, x5, xv⟩ = v := ⟨_, rfl⟩
    have d7 := before_fn _ _ q hq
    have d8 := rbefore_fn _ _ q hq
    clear hae hv hp hq
    repeat (first | (refine nf1_sound rfl ?_; simp [go_sem, ↓IntWalk.iteOmega, IntWalk.iteOmega, IntWalk.toNatUp, hx]; (repeat (refine And.intro (by omega) ?_)); try (refine ⟨DrawChk_of (by kernel_rfl), ?_⟩)) | (refine itePos (by omega) ?_; try simp [go_sem, ↓IntWalk.iteOmega, IntWalk.iteOmega, IntWalk.toNatUp, hx]) | (refine iteNeg (by omega) ?_; try simp [go_sem, ↓IntWalk.iteOmega, IntWalk.iteOmega, IntWalk.toNatUp, hx]) | (refine ⟨DrawChk_of (by kernel_rfl), ?_⟩))
    refine CallK.fn (d1) [(1000, 660)] [] [] (by kernel_rfl) (by simp [go_sem, ↓IntWalk.iteOmega, IntWalk.iteOmega, IntWalk.toNatUp]) (by simp [go_sem, ↓IntWalk.iteOmega, IntWalk.iteOmega, IntWalk.toNatUp]) (by simp [go_sem, ↓IntWalk.iteOmega, IntWalk.iteOmega, IntWalk.toNatUp]) (Or.inl rfl) ?_
    simp [go_sem, ↓IntWalk.iteOmega, IntWalk.iteOmega, IntWalk.toNatUp]
    repeat (refine And.intro (by omega) ?_)
    try (refine ⟨DrawChk_of (by kernel_rfl), ?_⟩)
    repeat (first | (refine nf1_sound rfl ?_; simp [go_sem, ↓IntWalk.iteOmega, IntWalk.iteOmega, IntWalk.toNatUp]; (repeat (refine And.intro (by omega) ?_)); try (refine ⟨DrawChk_of (by kernel_rfl), ?_⟩)) | (refine itePos (by omega) ?_; try simp [go_sem, ↓IntWalk.iteOmega, IntWalk.iteOmega, IntWalk.toNatUp]) | (refine iteNeg (by omega) ?_; try simp [go_sem, ↓IntWalk.iteOmega, IntWalk.iteOmega, IntWalk.toNatUp]) | (refine ⟨DrawChk_of (by kernel_rfl), ?_⟩))
    refine CallK.fn (d2) [(1000, 665)] [] [] (by kernel_rfl) (by simp [go_sem, ↓IntWalk.iteOmega, IntWalk.iteOmega, IntWalk.toNatUp]) (by simp [go_sem, ↓IntWalk.iteOmega, IntWalk.iteOmega, IntWalk.toNatUp]) (by simp [go_sem, ↓IntWalk.iteOmega, IntWalk.iteOmega, IntWalk.toNatUp]) (Or.inl rfl) ?_
    simp [go_sem, ↓IntWalk.iteOmega, IntWalk.iteOmega, IntWalk.toNatUp]
    repeat (refine And.intro (by omega) ?_)
    try (refine ⟨DrawChk_of (by kernel_rfl), ?_⟩)
    repeat (first | (refine nf1_sound rfl ?_; simp [go_sem, ↓IntWalk.iteOmega, IntWalk.iteOmega, IntWalk.toNatUp]; (repeat (refine And.intro (by omega) ?_)); try (refine ⟨DrawChk_of (by kernel_rfl), ?_⟩)) | (refine itePos (by omega) ?_; try simp [go_sem, ↓IntWalk.iteOmega, IntWalk.iteOmega, IntWalk.toNatUp]) | (refine iteNeg (by omega) ?_; try simp [go_sem, ↓IntWalk.iteOmega, IntWalk.iteOmega, IntWalk.toNatUp]) | (refine ⟨DrawChk_of (by kernel_rfl), ?_⟩))
    refine CallK.fn (d3) [] [] [] (by kernel_rfl) (by simp [go_sem, ↓IntWalk.iteOmega, IntWalk.iteOmega, IntWalk.toNatUp]) (by simp [go_sem, ↓IntWalk.iteOmega, IntWalk.iteOmega, IntWalk.toNatUp]) (by simp [go_sem, ↓IntWalk.iteOmega, IntWalk.iteOmega, IntWalk.toNatUp]) (Or.inl rfl) ?_
    simp [go_sem, ↓IntWalk.iteOmega, IntWalk.iteOmega, IntWalk.toNatUp]
    repeat (refine And.intro (by omega) ?_)
    try (refine ⟨DrawChk_of (by kernel_rfl), ?_⟩)
    refine CallK.fn (d4) [] [] [] (by kernel_rfl) (by simp [go_sem, ↓IntWalk.iteOmega, IntWalk.iteOmega, IntWalk.toNatUp, hbe]) (by simp [go_sem, ↓IntWalk.iteOmega, IntWalk.iteOmega, IntWalk.toNatUp, hbe]) (by simp [go_sem, ↓IntWalk.iteOmega, IntWalk.iteOmega, IntWalk.toNatUp, hbe]) (Or.inl rfl) ?_
    simp [go_sem, ↓IntWalk.iteOmega, IntWalk.iteOmega, IntWalk.toNatUp, hbe]
    repeat (refine And.intro (by omega) ?_)
    try (refine ⟨DrawChk_of (by kernel_rfl), ?_⟩)
    refine CallK.fn (d5) [] [] [] (by kernel_rfl) (by simp [go_sem, ↓IntWalk.iteOmega, IntWalk.iteOmega, IntWalk.toNatUp]) (by simp [go_sem, ↓IntWalk.iteOmega, IntWalk.iteOmega, IntWalk.toNatUp]) (by simp [go_sem, ↓IntWalk.iteOmega, IntWalk.iteOmega, IntWalk.toNatUp]) (Or.inl rfl) ?_
    simp [go_sem, ↓IntWalk.iteOmega, IntWalk.iteOmega, IntWalk.toNatUp]
    repeat (refine And.intro (by omega) ?_)
    try (refine ⟨DrawChk_of (by kernel_rfl), ?_⟩)
    refine CallK.fn (d6) [] [] [] (by kernel_rfl) (by simp [go_sem, ↓IntWalk.iteOmega, IntWalk.iteOmega, IntWalk.toNatUp]) (by simp [go_sem, ↓IntWalk.iteOmega, IntWalk.iteOmega, IntWalk.toNatUp]) (by simp [go_sem, ↓IntWalk.iteOmega, IntWalk.iteOmega, IntWalk.toNatUp]) (Or.inl rfl) ?_
    simp [go_sem, ↓IntWalk.iteOmega, IntWalk.iteOmega, IntWalk.toNatUp]
    repeat (refine And.intro (by omega) ?_)
    try (refine ⟨DrawChk_of (by kernel_rfl), ?_⟩)
    refine CallK.fn (d7) [] [] [] (by kernel_rfl) (by simp [go_sem, ↓IntWalk.iteOmega, IntWalk.iteOmega, IntWalk.toNatUp]) (by simp [go_sem, ↓IntWalk.iteOmega, IntWalk.iteOmega, IntWalk.toNatUp]) (by simp [go_sem, ↓IntWalk.iteOmega, IntWalk.iteOmega, IntWalk.toNatUp]) (Or.inl rfl) ?_
    simp [go_sem, ↓IntWalk.iteOmega, IntWalk.iteOmega, IntWalk.toNatUp]
    repeat (refine And.intro (by omega) ?_)
    try (refine ⟨DrawChk_of (by kernel_rfl), ?_⟩)
    refine CallK.fn (d8) [] [] [] (by kernel_rfl) (by simp [go_sem, ↓IntWalk.iteOmega, IntWalk.iteOmega, IntWalk.toNatUp]) (by simp [go_sem, ↓IntWalk.iteOmega, IntWalk.iteOmega, IntWalk.toNatUp]) (by simp [go_sem, ↓IntWalk.iteOmega, IntWalk.iteOmega, IntWalk.toNatUp]) (Or.inl rfl) ?_
    simp [go_sem, ↓IntWalk.iteOmega, IntWalk.iteOmega, IntWalk.toNatUp]
    repeat (refine And.intro (by omega) ?_)
    try (refine ⟨DrawChk_of (by kernel_rfl), ?_⟩)
    repeat (first | (refine nf1_sound rfl ?_; simp [go_sem, ↓IntWalk.iteOmega, IntWalk.iteOmega, IntWalk.toNatUp]; (repeat (refine And.intro (by omega) ?_)); try (refine ⟨DrawChk_of (by kernel_rfl), ?_⟩)) | (refine itePos (by omega) ?_; try simp [go_sem, ↓IntWalk.iteOmega, IntWalk.iteOmega, IntWalk.toNatUp]) | (refine iteNeg (by omega) ?_; try simp [go_sem, ↓IntWalk.iteOmega, IntWalk.iteOmega, IntWalk.toNatUp]) | (refine ⟨DrawChk_of (by kernel_rfl), ?_⟩))
    rw [RoundQ_normal]; refine ⟨j + 1, [(504, some 504), (509, some 509), (510, some 510)], ?_, ?_, ?_⟩
    · omega
    · omega
    simp [go_sem, ↓IntWalk.iteOmega, IntWalk.iteOmega, IntWalk.toNatUp]
  · obtain rfl : j = 3 := by omega
    repeat (first | (refine nf1_sound rfl ?_; simp [go_sem, ↓IntWalk.iteOmega, IntWalk.iteOmega, IntWalk.toNatUp]; (repeat (refine And.intro (by omega) ?_)); try (refine ⟨DrawChk_of (by kernel_rfl), ?_⟩)) | (refine itePos (by omega) ?_; try simp [go_sem, ↓IntWalk.iteOmega, IntWalk.iteOmega, IntWalk.toNatUp]) | (refine iteNeg (by omega) ?_; try simp [go_sem, ↓IntWalk.iteOmega, IntWalk.iteOmega, IntWalk.toNatUp]) | (refine ⟨DrawChk_of (by kernel_rfl), ?_⟩))
    refine CallK.fn (cg) [(0, 509), (1000, 705)] [] [] (by kernel_rfl) (by simp [go_sem, ↓IntWalk.iteOmega, IntWalk.iteOmega, IntWalk.toNatUp]) (by simp [go_sem, ↓IntWalk.iteOmega, IntWalk.iteOmega, IntWalk.toNatUp]) (by simp [go_sem, ↓IntWalk.iteOmega, IntWalk.iteOmega, IntWalk.toNatUp]) (Or.inl rfl) ?_
    simp [go_sem, ↓IntWalk.iteOmega, IntWalk.iteOmega, IntWalk.toNatUp]
    repeat (refine And.intro (by omega) ?_)
    try (refine ⟨DrawChk_of (by kernel_rfl), ?_⟩)
    repeat (first | (refine nf1_sound rfl ?_; simp [go_sem, ↓IntWalk.iteOmega, IntWalk.iteOmega, IntWalk.toNatUp]; (repeat (refine And.intro (by omega) ?_)); try (refine ⟨DrawChk_of (by kernel_rfl), ?_⟩)) | (refine itePos (by omega) ?_; try simp [go_sem, ↓IntWalk.iteOmega, IntWalk.iteOmega, IntWalk.toNatUp]) | (refine iteNeg (by omega) ?_; try simp [go_sem, ↓IntWalk.iteOmega, IntWalk.iteOmega, IntWalk.toNatUp]) | (refine ⟨DrawChk_of (by kernel_rfl), ?_⟩))
    refine CallK.fn (ci) [(1000, 707)] [705] [] (by kernel_rfl) (by simp [go_sem, ↓IntWalk.iteOmega, IntWalk.iteOmega, IntWalk.toNatUp]) (by simp [go_sem, ↓IntWalk.iteOmega, IntWalk.iteOmega, IntWalk.toNatUp]) (by simp [go_sem, ↓IntWalk.iteOmega, IntWalk.iteOmega, IntWalk.toNatUp]) (Or.inr ⟨by simp [go_sem, ↓IntWalk.iteOmega, IntWalk.iteOmega, IntWalk.toNatUp], by simp [go_sem, ↓IntWalk.iteOmega, IntWalk.iteOmega, IntWalk.toNatUp]⟩) ?_
    simp [go_sem, ↓IntWalk.iteOmega, IntWalk.iteOmega, IntWalk.toNatUp]
    repeat (refine And.intro (by omega) ?_)
    try (refine ⟨DrawChk_of (by kernel_rfl), ?_⟩)
    repeat (first | (refine nf1_sound rfl ?_; simp [go_sem, ↓IntWalk.iteOmega, IntWalk.iteOmega, IntWalk.toNatUp]; (repeat (refine And.intro (by omega) ?_)); try (refine ⟨DrawChk_of (by kernel_rfl), ?_⟩)) | (refine itePos (by omega) ?_; try simp [go_sem, ↓IntWalk.iteOmega, IntWalk.iteOmega, IntWalk.toNatUp]) | (refine iteNeg (by omega) ?_; try simp [go_sem, ↓IntWalk.iteOmega, IntWalk.iteOmega, IntWalk.toNatUp]) | (refine ⟨DrawChk_of (by kernel_rfl), ?_⟩))
    refine CallK.fn (cn) [(0, 509)] [] [] (by kernel_rfl) (by simp [go_sem, ↓IntWalk.iteOmega, IntWalk.iteOmega, IntWalk.toNatUp]) (by simp [go_sem, ↓IntWalk.iteOmega, IntWalk.iteOmega, IntWalk.toNatUp]) (by simp [go_sem, ↓IntWalk.iteOmega, IntWalk.iteOmega, IntWalk.toNatUp]) (Or.inl rfl) ?_
    simp [go_sem, ↓IntWalk.iteOmega, IntWalk.iteOmega, IntWalk.toNatUp]
    repeat (refine And.intro (by omega) ?_)
    try (refine ⟨DrawChk_of (by kernel_rfl), ?_⟩)
    repeat (first | (refine nf1_sound rfl ?_; simp [go_sem, ↓IntWalk.iteOmega, IntWalk.iteOmega, IntWalk.toNatUp]; (repeat (refine And.intro (by omega) ?_)); try (refine ⟨DrawChk_of (by kernel_rfl), ?_⟩)) | (refine itePos (by omega) ?_; try simp [go_sem, ↓IntWalk.iteOmega, IntWalk.iteOmega, IntWalk.toNatUp]) | (refine iteNeg (by omega) ?_; try simp [go_sem, ↓IntWalk.iteOmega, IntWalk.iteOmega, IntWalk.toNatUp]) | (refine ⟨DrawChk_of (by kernel_rfl), ?_⟩))
    refine nf1_sound' _ _ _ ?_; simp only [nf1]
    refine CW.loop (ι := Nat) (fun j => ⟨[(2, .t (encUs b)), (9, .pt 509 [] 0), (18, .t (encUs I)), (19, .own 519), (20, .t (.int ((m : Int) - j)))], [(509, srcB L (K j)), (519, blkU (B j))]⟩) (fun j => j ≤ m) (fun j => m - j) 0 [(509, some 509), (519, none)] (by omega) ?_ ?_
    · simp [go_sem, ↓IntWalk.iteOmega, IntWalk.iteOmega, IntWalk.toNatUp, K0, B0]
    intro j hjm
    obtain ⟨h1, h2, h3, h4, h5, ce⟩ := hj j
    by_cases hjl : j < m
    · have cp := rput_fn (B j) (x j) (by omega) h2.1 h2.2
      rw [← h3] at cp
      repeat (first | (refine nf1_sound rfl ?_; simp [go_sem, ↓IntWalk.iteOmega, IntWalk.iteOmega, IntWalk.toNatUp]; (repeat (refine And.intro (by omega) ?_)); try (refine ⟨DrawChk_of (by kernel_rfl), ?_⟩)) | (refine itePos (by omega) ?_; try simp [go_sem, ↓IntWalk.iteOmega, IntWalk.iteOmega, IntWalk.toNatUp]) | (refine iteNeg (by omega) ?_; try simp [go_sem, ↓IntWalk.iteOmega, IntWalk.iteOmega, IntWalk.toNatUp]) | (refine ⟨DrawChk_of (by kernel_rfl), ?_⟩))
      refine CallK.fn (ce) [(0, 509)] [] [216] (by kernel_rfl) (by simp [go_sem, ↓IntWalk.iteOmega, IntWalk.iteOmega, IntWalk.toNatUp]) (by simp [go_sem, ↓IntWalk.iteOmega, IntWalk.iteOmega, IntWalk.toNatUp]) (by simp [go_sem, ↓IntWalk.iteOmega, IntWalk.iteOmega, IntWalk.toNatUp]) (Or.inl rfl) ?_
      simp [go_sem, ↓IntWalk.iteOmega, IntWalk.iteOmega, IntWalk.toNatUp]
      repeat (refine And.intro (by omega) ?_)
      try (refine ⟨DrawChk_of (by kernel_rfl), ?_⟩)
      refine CallK.fn (cp) [(1000, 718)] [519] [] (by kernel_rfl) (by simp [go_sem, ↓IntWalk.iteOmega, IntWalk.iteOmega, IntWalk.toNatUp]) (by simp [go_sem, ↓IntWalk.iteOmega, IntWalk.iteOmega, IntWalk.toNatUp]) (by simp [go_sem, ↓IntWalk.iteOmega, IntWalk.iteOmega, IntWalk.toNatUp]) (Or.inr ⟨by simp [go_sem, ↓IntWalk.iteOmega, IntWalk.iteOmega, IntWalk.toNatUp], by simp [go_sem, ↓IntWalk.iteOmega, IntWalk.iteOmega, IntWalk.toNatUp]⟩) ?_
      simp [go_sem, ↓IntWalk.iteOmega, IntWalk.iteOmega, IntWalk.toNatUp]
      repeat (refine And.intro (by omega) ?_)
      try (refine ⟨DrawChk_of (by kernel_rfl), ?_⟩)
      repeat (first | (refine nf1_sound rfl ?_; simp [go_sem, ↓IntWalk.iteOmega, IntWalk.iteOmega, IntWalk.toNatUp]; (repeat (refine And.intro (by omega) ?_)); try (refine ⟨DrawChk_of (by kernel_rfl), ?_⟩)) | (refine itePos (by omega) ?_; try simp [go_sem, ↓IntWalk.iteOmega, IntWalk.iteOmega, IntWalk.toNatUp]) | (refine iteNeg (by omega) ?_; try simp [go_sem, ↓IntWalk.iteOmega, IntWalk.iteOmega, IntWalk.toNatUp]) | (refine ⟨DrawChk_of (by kernel_rfl), ?_⟩))
      rw [RoundQ_normal]; refine ⟨j + 1, [(509, some 509), (519, some 718)], ?_, ?_, ?_⟩
      · omega
      · omega
      simp [go_sem, ↓IntWalk.iteOmega, IntWalk.iteOmega, IntWalk.toNatUp]
      try omega
    · obtain rfl : j = m := by omega
      repeat (first | (refine nf1_sound rfl ?_; simp [go_sem, ↓IntWalk.iteOmega, IntWalk.iteOmega, IntWalk.toNatUp]; (repeat (refine And.intro (by omega) ?_)); try (refine ⟨DrawChk_of (by kernel_rfl), ?_⟩)) | (refine itePos (by omega) ?_; try simp [go_sem, ↓IntWalk.iteOmega, IntWalk.iteOmega, IntWalk.toNatUp]) | (refine iteNeg (by omega) ?_; try simp [go_sem, ↓IntWalk.iteOmega, IntWalk.iteOmega, IntWalk.toNatUp]) | (refine ⟨DrawChk_of (by kernel_rfl), ?_⟩))
      refine CallK.fn (cf) [(1000, 720)] [] [] (by kernel_rfl) (by simp [go_sem, ↓IntWalk.iteOmega, IntWalk.iteOmega, IntWalk.toNatUp]) (by simp [go_sem, ↓IntWalk.iteOmega, IntWalk.iteOmega, IntWalk.toNatUp]) (by simp [go_sem, ↓IntWalk.iteOmega, IntWalk.iteOmega, IntWalk.toNatUp]) (Or.inl rfl) ?_
      simp [go_sem, ↓IntWalk.iteOmega, IntWalk.iteOmega, IntWalk.toNatUp]
      repeat (refine And.intro (by omega) ?_)
      try (refine ⟨DrawChk_of (by kernel_rfl), ?_⟩)
      refine CW.weak (ρ := [(509, some 509)]) (σ' := ⟨[(2, .t (encUs b)), (9, .pt 509 [] 0), (18, .t (encUs I)), (19, .t (encUs (B j))), (21, .t (encUs F))], [(509, srcB L (K j))]⟩) ?_ ?_
      · simp [go_sem, ↓IntWalk.iteOmega, IntWalk.iteOmega, IntWalk.toNatUp]
      have hFt : List.take F.length (F.map encU) = F.map encU := List.take_of_length_le (by simp)
      repeat (first | (refine nf1_sound rfl ?_; simp [go_sem, ↓IntWalk.iteOmega, IntWalk.iteOmega, IntWalk.toNatUp, hFt]; (repeat (refine And.intro (by omega) ?_)); try (refine ⟨DrawChk_of (by kernel_rfl), ?_⟩)) | (refine itePos (by omega) ?_; try simp [go_sem, ↓IntWalk.iteOmega, IntWalk.iteOmega, IntWalk.toNatUp, hFt]) | (refine iteNeg (by omega) ?_; try simp [go_sem, ↓IntWalk.iteOmega, IntWalk.iteOmega, IntWalk.toNatUp, hFt]) | (refine ⟨DrawChk_of (by kernel_rfl), ?_⟩))
      refine CallK.fn (cq1) [(0, 509)] [] [] (by kernel_rfl) (by simp [go_sem, ↓IntWalk.iteOmega, IntWalk.iteOmega, IntWalk.toNatUp, hFt, hc, hxor, hCs, ↓hsh]) (by simp [go_sem, ↓IntWalk.iteOmega, IntWalk.iteOmega, IntWalk.toNatUp, hFt, hc, hxor, hCs, ↓hsh]) (by simp [go_sem, ↓IntWalk.iteOmega, IntWalk.iteOmega, IntWalk.toNatUp, hFt, hc, hxor, hCs, ↓hsh]) (Or.inl rfl) ?_
      simp [go_sem, ↓IntWalk.iteOmega, IntWalk.iteOmega, IntWalk.toNatUp, hFt, hc, hxor, hCs, ↓hsh]
      repeat (refine And.intro (by omega) ?_)
      try (refine ⟨DrawChk_of (by kernel_rfl), ?_⟩)
      refine CallK.fn (cq2) [(0, 509)] [] [] (by kernel_rfl) (by simp [go_sem, ↓IntWalk.iteOmega, IntWalk.iteOmega, IntWalk.toNatUp, hFt, hc, hxor, hCs, ↓hsh]) (by simp [go_sem, ↓IntWalk.iteOmega, IntWalk.iteOmega, IntWalk.toNatUp, hFt, hc, hxor, hCs, ↓hsh]) (by simp [go_sem, ↓IntWalk.iteOmega, IntWalk.iteOmega, IntWalk.toNatUp, hFt, hc, hxor, hCs, ↓hsh]) (Or.inl rfl) ?_
      simp [go_sem, ↓IntWalk.iteOmega, IntWalk.iteOmega, IntWalk.toNatUp, hFt, hc, hxor, hCs, ↓hsh]
      repeat (refine And.intro (by omega) ?_)
      try (refine ⟨DrawChk_of (by kernel_rfl), ?_⟩)
      refine CW.weak (ρ := [(509, some 509)]) (σ' := ⟨[(2, .t (encUs b)), (9, .pt 509 [] 0), (18, .t (encUs I)), (19, .t (encUs (B j))), (21, .t (encUs F)), (22, .t (encUs C))], [(509, srcB L (nextK L (nextK L (K j))))]⟩) ?_ ?_
      · simp [go_sem, ↓IntWalk.iteOmega, IntWalk.iteOmega, IntWalk.toNatUp]
      repeat (first | (refine nf1_sound rfl ?_; simp [go_sem, ↓IntWalk.iteOmega, IntWalk.iteOmega, IntWalk.toNatUp, hT3]; (repeat (refine And.intro (by omega) ?_)); try (refine ⟨DrawChk_of (by kernel_rfl), ?_⟩)) | (refine itePos (by omega) ?_; try simp [go_sem, ↓IntWalk.iteOmega, IntWalk.iteOmega, IntWalk.toNatUp, hT3]) | (refine iteNeg (by omega) ?_; try simp [go_sem, ↓IntWalk.iteOmega, IntWalk.iteOmega, IntWalk.toNatUp, hT3]) | (refine ⟨DrawChk_of (by kernel_rfl), ?_⟩))
      refine CallK.fn (cq3) [(0, 509)] [] [] (by kernel_rfl) (by simp [go_sem, ↓IntWalk.iteOmega, IntWalk.iteOmega, IntWalk.toNatUp, hT3]) (by simp [go_sem, ↓IntWalk.iteOmega, IntWalk.iteOmega, IntWalk.toNatUp, hT3]) (by simp [go_sem, ↓IntWalk.iteOmega, IntWalk.iteOmega, IntWalk.toNatUp, hT3]) (Or.inl rfl) ?_
      simp [go_sem, ↓IntWalk.iteOmega, IntWalk.iteOmega, IntWalk.toNatUp, hT3]
      repeat (refine And.intro (by omega) ?_)
      try (refine ⟨DrawChk_of (by kernel_rfl), ?_⟩)
      refine CallK.fn (e1) [(1000, 746)] [] [] (by kernel_rfl) (by simp [go_sem, ↓IntWalk.iteOmega, IntWalk.iteOmega, IntWalk.toNatUp]) (by simp [go_sem, ↓IntWalk.iteOmega, IntWalk.iteOmega, IntWalk.toNatUp]) (by simp [go_sem, ↓IntWalk.iteOmega, IntWalk.iteOmega, IntWalk.toNatUp]) (Or.inl rfl) ?_
      simp [go_sem, ↓IntWalk.iteOmega, IntWalk.iteOmega, IntWalk.toNatUp]
      repeat (refine And.intro (by omega) ?_)
      try (refine ⟨DrawChk_of (by kernel_rfl), ?_⟩)
      refine CallK.fn (e2) [(1000, 748)] [] [] (by kernel_rfl) (by simp [go_sem, ↓IntWalk.iteOmega, IntWalk.iteOmega, IntWalk.toNatUp]) (by simp [go_sem, ↓IntWalk.iteOmega, IntWalk.iteOmega, IntWalk.toNatUp]) (by simp [go_sem, ↓IntWalk.iteOmega, IntWalk.iteOmega, IntWalk.toNatUp]) (Or.inl rfl) ?_
      simp [go_sem, ↓IntWalk.iteOmega, IntWalk.iteOmega, IntWalk.toNatUp]
      repeat (refine And.intro (by omega) ?_)
      try (refine ⟨DrawChk_of (by kernel_rfl), ?_⟩)
      refine CallK.fn (e3) [(1000, 749)] [748] [] (by kernel_rfl) (by simp [go_sem, ↓IntWalk.iteOmega, IntWalk.iteOmega, IntWalk.toNatUp]) (by simp [go_sem, ↓IntWalk.iteOmega, IntWalk.iteOmega, IntWalk.toNatUp]) (by simp [go_sem, ↓IntWalk.iteOmega, IntWalk.iteOmega, IntWalk.toNatUp]) (Or.inr ⟨by simp [go_sem, ↓IntWalk.iteOmega, IntWalk.iteOmega, IntWalk.toNatUp], by simp [go_sem, ↓IntWalk.iteOmega, IntWalk.iteOmega, IntWalk.toNatUp]⟩) ?_
      simp [go_sem, ↓IntWalk.iteOmega, IntWalk.iteOmega, IntWalk.toNatUp]
      repeat (refine And.intro (by omega) ?_)
      try (refine ⟨DrawChk_of (by kernel_rfl), ?_⟩)
      refine CallK.fn (e4) [(1000, 751)] [] [] (by kernel_rfl) (by simp [go_sem, ↓IntWalk.iteOmega, IntWalk.iteOmega, IntWalk.toNatUp]) (by simp [go_sem, ↓IntWalk.iteOmega, IntWalk.iteOmega, IntWalk.toNatUp]) (by simp [go_sem, ↓IntWalk.iteOmega, IntWalk.iteOmega, IntWalk.toNatUp]) (Or.inl rfl) ?_
      simp [go_sem, ↓IntWalk.iteOmega, IntWalk.iteOmega, IntWalk.toNatUp]
      repeat (refine And.intro (by omega) ?_)
      try (refine ⟨DrawChk_of (by kernel_rfl), ?_⟩)
      refine CallK.fn (e5) [(1000, 752)] [751] [] (by kernel_rfl) (by simp [go_sem, ↓IntWalk.iteOmega, IntWalk.iteOmega, IntWalk.toNatUp]) (by simp [go_sem, ↓IntWalk.iteOmega, IntWalk.iteOmega, IntWalk.toNatUp]) (by simp [go_sem, ↓IntWalk.iteOmega, IntWalk.iteOmega, IntWalk.toNatUp]) (Or.inr ⟨by simp [go_sem, ↓IntWalk.iteOmega, IntWalk.iteOmega, IntWalk.toNatUp], by simp [go_sem, ↓IntWalk.iteOmega, IntWalk.iteOmega, IntWalk.toNatUp]⟩) ?_
      simp [go_sem, ↓IntWalk.iteOmega, IntWalk.iteOmega, IntWalk.toNatUp]
      repeat (refine And.intro (by omega) ?_)
      try (refine ⟨DrawChk_of (by kernel_rfl), ?_⟩)
      refine CallK.fn (cq6) [(0, 509)] [] [] (by kernel_rfl) (by simp [go_sem, ↓IntWalk.iteOmega, IntWalk.iteOmega, IntWalk.toNatUp, hTn, hT6]) (by simp [go_sem, ↓IntWalk.iteOmega, IntWalk.iteOmega, IntWalk.toNatUp, hTn, hT6]) (by simp [go_sem, ↓IntWalk.iteOmega, IntWalk.iteOmega, IntWalk.toNatUp, hTn, hT6]) (Or.inl rfl) ?_
      simp [go_sem, ↓IntWalk.iteOmega, IntWalk.iteOmega, IntWalk.toNatUp, hTn, hT6]
      repeat (refine And.intro (by omega) ?_)
      try (refine ⟨DrawChk_of (by kernel_rfl), ?_⟩)
      refine CallK.fn (e6) [(1000, 761)] [] [] (by kernel_rfl) (by simp [go_sem, ↓IntWalk.iteOmega, IntWalk.iteOmega, IntWalk.toNatUp, hTn, hT6]) (by simp [go_sem, ↓IntWalk.iteOmega, IntWalk.iteOmega, IntWalk.toNatUp, hTn, hT6]) (by simp [go_sem, ↓IntWalk.iteOmega, IntWalk.iteOmega, IntWalk.toNatUp, hTn, hT6]) (Or.inl rfl) ?_
      simp [go_sem, ↓IntWalk.iteOmega, IntWalk.iteOmega, IntWalk.toNatUp, hTn, hT6]
      repeat (refine And.intro (by omega) ?_)
      try (refine ⟨DrawChk_of (by kernel_rfl), ?_⟩)
      refine CallK.fn (e7) [(1000, 762)] [761] [] (by kernel_rfl) (by simp [go_sem, ↓IntWalk.iteOmega, IntWalk.iteOmega, IntWalk.toNatUp, hZr]) (by simp [go_sem, ↓IntWalk.iteOmega, IntWalk.iteOmega, IntWalk.toNatUp, hZr]) (by simp [go_sem, ↓IntWalk.iteOmega, IntWalk.iteOmega, IntWalk.toNatUp, hZr]) (Or.inr ⟨by simp [go_sem, ↓IntWalk.iteOmega, IntWalk.iteOmega, IntWalk.toNatUp, hZr], by simp [go_sem, ↓IntWalk.iteOmega, IntWalk.iteOmega, IntWalk.toNatUp, hZr]⟩) ?_
      simp [go_sem, ↓IntWalk.iteOmega, IntWalk.iteOmega, IntWalk.toNatUp, hZr]
      repeat (refine And.intro (by omega) ?_)
      try (refine ⟨DrawChk_of (by kernel_rfl), ?_⟩)
      refine CallK.fn (e8) [(1000, 764)] [263] [] (by kernel_rfl) (by simp [go_sem, ↓IntWalk.iteOmega, IntWalk.iteOmega, IntWalk.toNatUp]) (by simp [go_sem, ↓IntWalk.iteOmega, IntWalk.iteOmega, IntWalk.toNatUp]) (by simp [go_sem, ↓IntWalk.iteOmega, IntWalk.iteOmega, IntWalk.toNatUp]) (Or.inr ⟨by simp [go_sem, ↓IntWalk.iteOmega, IntWalk.iteOmega, IntWalk.toNatUp], by simp [go_sem, ↓IntWalk.iteOmega, IntWalk.iteOmega, IntWalk.toNatUp]⟩) ?_
      simp [go_sem, ↓IntWalk.iteOmega, IntWalk.iteOmega, IntWalk.toNatUp]
      repeat (refine And.intro (by omega) ?_)
      try (refine ⟨DrawChk_of (by kernel_rfl), ?_⟩)
      repeat (first | (refine nf1_sound rfl ?_; simp [go_sem, ↓IntWalk.iteOmega, IntWalk.iteOmega, IntWalk.toNatUp]; (repeat (refine And.intro (by omega) ?_)); try (refine ⟨DrawChk_of (by kernel_rfl), ?_⟩)) | (refine itePos (by omega) ?_; try simp [go_sem, ↓IntWalk.iteOmega, IntWalk.iteOmega, IntWalk.toNatUp]) | (refine iteNeg (by omega) ?_; try simp [go_sem, ↓IntWalk.iteOmega, IntWalk.iteOmega, IntWalk.toNatUp]) | (refine ⟨DrawChk_of (by kernel_rfl), ?_⟩))
      refine nf1_sound' _ _ _ ?_; simp only [nf1]
      refine CW.loop (ι := Nat) (fun i => ⟨[(165, .t (.sl 1 (ys.map encUs))), (166, .t (.int 9)), (167, .t (.int i))], []⟩) (fun i => i ≤ 9) (fun i => 9 - i) 0 [] (by omega) ?_ ?_
      · simp [go_sem, ↓IntWalk.iteOmega, IntWalk.iteOmega, IntWalk.toNatUp, hym]
      intro i hi9
      by_cases hil : i < 9
      · obtain ⟨y, hy⟩ := has_get (show i < ys.length by omega)
        have hyok := hyf y (mem_get hy)
        obtain ⟨u, e, hue⟩ : ∃ u e, decV y = (u, e) := ⟨_, _, rfl⟩
        have d1 := decode_fn y hyok.1 hyok.2 u e hue
        have d2 := rdecode_fn y hyok.1 hyok.2 u e hue
        have d3 := rsame_fn u (by have := dec_len2 hue; omega)
        clear hue hyok
        obtain ⟨u1, u2, u3, u4, u5, uv⟩ := u
        repeat (first | (refine nf1_sound rfl ?_; simp [go_sem, ↓IntWalk.iteOmega, IntWalk.iteOmega, IntWalk.toNatUp, hy]; (repeat (refine And.intro (by omega) ?_)); try (refine ⟨DrawChk_of (by kernel_rfl), ?_⟩)) | (refine itePos (by omega) ?_; try simp [go_sem, ↓IntWalk.iteOmega, IntWalk.iteOmega, IntWalk.toNatUp, hy]) | (refine iteNeg (by omega) ?_; try simp [go_sem, ↓IntWalk.iteOmega, IntWalk.iteOmega, IntWalk.toNatUp, hy]) | (refine ⟨DrawChk_of (by kernel_rfl), ?_⟩))
        refine CallK.fn (d1) [(1000, 773)] [] [] (by kernel_rfl) (by simp [go_sem, ↓IntWalk.iteOmega, IntWalk.iteOmega, IntWalk.toNatUp]) (by simp [go_sem, ↓IntWalk.iteOmega, IntWalk.iteOmega, IntWalk.toNatUp]) (by simp [go_sem, ↓IntWalk.iteOmega, IntWalk.iteOmega, IntWalk.toNatUp]) (Or.inl rfl) ?_
        simp [go_sem, ↓IntWalk.iteOmega, IntWalk.iteOmega, IntWalk.toNatUp]
        repeat (refine And.intro (by omega) ?_)
        try (refine ⟨DrawChk_of (by kernel_rfl), ?_⟩)
        repeat (first | (refine nf1_sound rfl ?_; simp [go_sem, ↓IntWalk.iteOmega, IntWalk.iteOmega, IntWalk.toNatUp]; (repeat (refine And.intro (by omega) ?_)); try (refine ⟨DrawChk_of (by kernel_rfl), ?_⟩)) | (refine itePos (by omega) ?_; try simp [go_sem, ↓IntWalk.iteOmega, IntWalk.iteOmega, IntWalk.toNatUp]) | (refine iteNeg (by omega) ?_; try simp [go_sem, ↓IntWalk.iteOmega, IntWalk.iteOmega, IntWalk.toNatUp]) | (refine ⟨DrawChk_of (by kernel_rfl), ?_⟩))
        refine CallK.fn (d2) [] [] [] (by kernel_rfl) (by simp [go_sem, ↓IntWalk.iteOmega, IntWalk.iteOmega, IntWalk.toNatUp]) (by simp [go_sem, ↓IntWalk.iteOmega, IntWalk.iteOmega, IntWalk.toNatUp]) (by simp [go_sem, ↓IntWalk.iteOmega, IntWalk.iteOmega, IntWalk.toNatUp]) (Or.inl rfl) ?_
        simp [go_sem, ↓IntWalk.iteOmega, IntWalk.iteOmega, IntWalk.toNatUp]
        repeat (refine And.intro (by omega) ?_)
        try (refine ⟨DrawChk_of (by kernel_rfl), ?_⟩)
        repeat (first | (refine nf1_sound rfl ?_; simp [go_sem, ↓IntWalk.iteOmega, IntWalk.iteOmega, IntWalk.toNatUp]; (repeat (refine And.intro (by omega) ?_)); try (refine ⟨DrawChk_of (by kernel_rfl), ?_⟩)) | (refine itePos (by omega) ?_; try simp [go_sem, ↓IntWalk.iteOmega, IntWalk.iteOmega, IntWalk.toNatUp]) | (refine iteNeg (by omega) ?_; try simp [go_sem, ↓IntWalk.iteOmega, IntWalk.iteOmega, IntWalk.toNatUp]) | (refine ⟨DrawChk_of (by kernel_rfl), ?_⟩))
        refine CallK.fn (d3) [] [773] [] (by kernel_rfl) (by simp [go_sem, ↓IntWalk.iteOmega, IntWalk.iteOmega, IntWalk.toNatUp]) (by simp [go_sem, ↓IntWalk.iteOmega, IntWalk.iteOmega, IntWalk.toNatUp]) (by simp [go_sem, ↓IntWalk.iteOmega, IntWalk.iteOmega, IntWalk.toNatUp]) (Or.inr ⟨by simp [go_sem, ↓IntWalk.iteOmega, IntWalk.iteOmega, IntWalk.toNatUp], by simp [go_sem, ↓IntWalk.iteOmega, IntWalk.iteOmega, IntWalk.toNatUp]⟩) ?_
        simp [go_sem, ↓IntWalk.iteOmega, IntWalk.iteOmega, IntWalk.toNatUp]
        repeat (refine And.intro (by omega) ?_)
        try (refine ⟨DrawChk_of (by kernel_rfl), ?_⟩)
        repeat (first | (refine nf1_sound rfl ?_; simp [go_sem, ↓IntWalk.iteOmega, IntWalk.iteOmega, IntWalk.toNatUp]; (repeat (refine And.intro (by omega) ?_)); try (refine ⟨DrawChk_of (by kernel_rfl), ?_⟩)) | (refine itePos (by omega) ?_; try simp [go_sem, ↓IntWalk.iteOmega, IntWalk.iteOmega, IntWalk.toNatUp]) | (refine iteNeg (by omega) ?_; try simp [go_sem, ↓IntWalk.iteOmega, IntWalk.iteOmega, IntWalk.toNatUp]) | (refine ⟨DrawChk_of (by kernel_rfl), ?_⟩))
        rw [RoundQ_normal]; refine ⟨i + 1, [], ?_, ?_, ?_⟩
        · omega
        · omega
        simp [go_sem, ↓IntWalk.iteOmega, IntWalk.iteOmega, IntWalk.toNatUp]
      · obtain rfl : i = 9 := by omega
        repeat (first | (refine nf1_sound rfl ?_; simp [go_sem, ↓IntWalk.iteOmega, IntWalk.iteOmega, IntWalk.toNatUp]; (repeat (refine And.intro (by omega) ?_)); try (refine ⟨DrawChk_of (by kernel_rfl), ?_⟩)) | (refine itePos (by omega) ?_; try simp [go_sem, ↓IntWalk.iteOmega, IntWalk.iteOmega, IntWalk.toNatUp]) | (refine iteNeg (by omega) ?_; try simp [go_sem, ↓IntWalk.iteOmega, IntWalk.iteOmega, IntWalk.toNatUp]) | (refine ⟨DrawChk_of (by kernel_rfl), ?_⟩))
        refine CallK.fn (awake_fn) [] [] [] (by kernel_rfl) (by simp [go_sem, ↓IntWalk.iteOmega, IntWalk.iteOmega, IntWalk.toNatUp]) (by simp [go_sem, ↓IntWalk.iteOmega, IntWalk.iteOmega, IntWalk.toNatUp]) (by simp [go_sem, ↓IntWalk.iteOmega, IntWalk.iteOmega, IntWalk.toNatUp]) (Or.inl rfl) ?_
        simp [go_sem, ↓IntWalk.iteOmega, IntWalk.iteOmega, IntWalk.toNatUp]
        repeat (refine And.intro (by omega) ?_)
        try (refine ⟨DrawChk_of (by kernel_rfl), ?_⟩)
        repeat (first | (refine nf1_sound rfl ?_; simp [go_sem, ↓IntWalk.iteOmega, IntWalk.iteOmega, IntWalk.toNatUp]; (repeat (refine And.intro (by omega) ?_)); try (refine ⟨DrawChk_of (by kernel_rfl), ?_⟩)) | (refine itePos (by omega) ?_; try simp [go_sem, ↓IntWalk.iteOmega, IntWalk.iteOmega, IntWalk.toNatUp]) | (refine iteNeg (by omega) ?_; try simp [go_sem, ↓IntWalk.iteOmega, IntWalk.iteOmega, IntWalk.toNatUp]) | (refine ⟨DrawChk_of (by kernel_rfl), ?_⟩))
        first | rw [RetQ_ret] | rw [RetQ_normal]
        refine ⟨[], ?_⟩
        simp [go_sem, ↓IntWalk.iteOmega, IntWalk.iteOmega, IntWalk.toNatUp]
theorem tg_in {x : T} (h : InSh (.st [.int .i64, .int .i64, .int .i64, .int .i64, .int .i64, .sl (.int .i64)]) x) : ∃ t, x = encTg t ∧ t.vs.length ≤ 9223372036854775807 := by
  obtain ⟨xs, rfl, h⟩ := insh_st h
  obtain ⟨y1, ys, rfl, h1, h⟩ := inshs_cons h
  obtain ⟨y2, ys, rfl, h2, h⟩ := inshs_cons h
  obtain ⟨y3, ys, rfl, h3, h⟩ := inshs_cons h
  obtain ⟨y4, ys, rfl, h4, h⟩ := inshs_cons h
  obtain ⟨y5, ys, rfl, h5, h⟩ := inshs_cons h
  obtain ⟨y6, ys, rfl, h6, h⟩ := inshs_cons h
  obtain rfl := inshs_nil h
  obtain ⟨a1, rfl, _⟩ := int_in h1
  obtain ⟨a2, rfl, _⟩ := int_in h2
  obtain ⟨a3, rfl, _⟩ := int_in h3
  obtain ⟨a4, rfl, _⟩ := int_in h4
  obtain ⟨a5, rfl, _⟩ := int_in h5
  obtain ⟨l, rfl, hl, _⟩ := ints_in h6
  exact ⟨⟨a1, a2, a3, a4, a5, l⟩, rfl, hl⟩
theorem bytes_in2 {x : T} (h : InSh (.sl (.int .u8)) x) : ∃ l, x = encUs l ∧ l.length ≤ 9223372036854775807 ∧ ∀ z ∈ l, z < 256 := by
  obtain ⟨xs, rfl, hl, hx⟩ := insh_sl h
  obtain ⟨l, rfl, hq⟩ := insh_list (en := encU) (Q := fun z => z < 256) (fun y hy => by
    obtain ⟨n, rfl, hw⟩ := insh_int hy
    simp [Lit.wf, IntKind.min, IntKind.max, IntKind.signed, IntKind.bits] at hw
    obtain ⟨m, rfl⟩ : ∃ m : Nat, n = (m : Int) := ⟨n.toNat, by omega⟩
    exact ⟨m, rfl, by omega⟩) xs hx
  exact ⟨l, rfl, by rw [List.length_map] at hl; exact len_max hl, hq⟩
theorem answers_all (x0 x1 x2 x3 : T) (h0 : InSh (.st [.int .i64, .int .i64, .int .i64, .int .i64, .int .i64, .sl (.int .i64)]) x0) (h1 : InSh (.st [.int .i64, .int .i64, .int .i64, .int .i64, .int .i64, .sl (.int .i64)]) x1) (h2 : InSh (.sl (.int .u8)) x2) (h3 : InSh (.sl (.int .i64)) x3) :
    FnOk Try.prog 6 [.t x0, .t x1, .t x2, .t x3] [] (.t (.bool true)) [] := by
  obtain ⟨r, rfl, hr⟩ := tg_in h0
  obtain ⟨o, rfl, ho⟩ := tg_in h1
  obtain ⟨b, rfl, hb, h8⟩ := bytes_in2 h2
  obtain ⟨l, rfl, hl, wl⟩ := ints_in h3
  exact answers_fn r o b l hr ho hb h8 hl wl
end Go.Proofs.Ytakfgmkdknjfdaa
