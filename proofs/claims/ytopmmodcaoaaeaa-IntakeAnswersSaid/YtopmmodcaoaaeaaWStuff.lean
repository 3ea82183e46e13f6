/- Stuff and Unstuff as contracts. No condition. -/
import Derived.Test.YtopmmodcaoaaeaaWPut
import Derived.Test.YtopmmodcaoaaeaaWirePlain
namespace Go.Proofs.Ytopmmodcaoaaeaa
open Go.RowKit Sy
open Go.IntWalk renaming iteOmega → iO, toNatUp → tN
set_option linter.unusedVariables false
set_option linter.unusedSimpArgs false
set_option maxRecDepth 100000 in
theorem special_fn (c : Nat) (b : Bool) (hb : Wire.spec c = b) : FnOk Try.prog 87 [.t (.lit (.int .u8 c))] [] (.t (.bool b)) [] := by
  by_cases h1 : c = 126
  · have : Wire.spec c = true := Wire.spec_iff.2 (by omega)
    rw [this] at hb
    subst hb
    refine FnOk.intro fact_mixed Try.func87 rfl Try.ntmps87 (by rfl) (by simp) ?_
    repeat (first | (refine nf1_sound rfl ?_; simp [go_sem, ↓iO, iO, tN]; (repeat (refine anI ?_)); try (refine ⟨dcK, ?_⟩)) | ((first | refine itePos (by omega) ?_ | refine iteNeg (by omega) ?_); try simp [go_sem, ↓iO, iO, tN]) | (refine ⟨dcK, ?_⟩))
    first | rw [RetQ_ret] | rw [RetQ_normal]
    refine ⟨[], ?_⟩
    simp [go_sem, ↓iO, iO, tN]
  · by_cases h2 : c = 124
    · have : Wire.spec c = true := Wire.spec_iff.2 (by omega)
      rw [this] at hb
      subst hb
      refine FnOk.intro fact_mixed Try.func87 rfl Try.ntmps87 (by rfl) (by simp) ?_
      repeat (first | (refine nf1_sound rfl ?_; simp [go_sem, ↓iO, iO, tN]; (repeat (refine anI ?_)); try (refine ⟨dcK, ?_⟩)) | ((first | refine itePos (by omega) ?_ | refine iteNeg (by omega) ?_); try simp [go_sem, ↓iO, iO, tN]) | (refine ⟨dcK, ?_⟩))
      first | rw [RetQ_ret] | rw [RetQ_normal]
      refine ⟨[], ?_⟩
      simp [go_sem, ↓iO, iO, tN]
    · by_cases h3 : c = 125
      · have : Wire.spec c = true := Wire.spec_iff.2 (by omega)
        rw [this] at hb
        subst hb
        refine FnOk.intro fact_mixed Try.func87 rfl Try.ntmps87 (by rfl) (by simp) ?_
        repeat (first | (refine nf1_sound rfl ?_; simp [go_sem, ↓iO, iO, tN]; (repeat (refine anI ?_)); try (refine ⟨dcK, ?_⟩)) | ((first | refine itePos (by omega) ?_ | refine iteNeg (by omega) ?_); try simp [go_sem, ↓iO, iO, tN]) | (refine ⟨dcK, ?_⟩))
        first | rw [RetQ_ret] | rw [RetQ_normal]
        refine ⟨[], ?_⟩
        simp [go_sem, ↓iO, iO, tN]
        try omega
      · have : Wire.spec c = false := by
          cases hs : Wire.spec c
          · rfl
          · have := Wire.spec_iff.1 hs; omega
        rw [this] at hb
        subst hb
        refine FnOk.intro fact_mixed Try.func87 rfl Try.ntmps87 (by rfl) (by simp) ?_
        repeat (first | (refine nf1_sound rfl ?_; simp [go_sem, ↓iO, iO, tN]; (repeat (refine anI ?_)); try (refine ⟨dcK, ?_⟩)) | ((first | refine itePos (by omega) ?_ | refine iteNeg (by omega) ?_); try simp [go_sem, ↓iO, iO, tN]) | (refine ⟨dcK, ?_⟩))
        first | rw [RetQ_ret] | rw [RetQ_normal]
        refine ⟨[], ?_⟩
        simp [go_sem, ↓iO, iO, tN]
        try omega
theorem xor_32 {c : Nat} (h : c < 256) : bits BinOp.xor IntKind.u8 (c : Int) 32 = ((c ^^^ 32 : Nat) : Int) := u8_xor_nat c 32 h (by omega)
theorem body_ex (bs : List Nat) : ∃ Y : Nat → List Nat, Y 0 = [126] ∧ (∀ k c, bs[k]? = some c → Y (k + 1) = Y k ++ Wire.esc c) ∧ Y bs.length ++ [124] = Wire.stuff bs ∧ ∀ k, (Y k).length ≤ 2 * k + 1 :=
  ⟨fun k => 126 :: Wire.body (bs.take k), by simp [Wire.body], fun k c h => by dsimp only; rw [Wire.body_take h]; rfl, by simp [Wire.stuff], fun k => by
    have := (Wire.body_length (bs.take k)).2
    simp only [List.length_cons, List.length_take] at *
    omega⟩
theorem inside_eq {bs : List Nat} (h : 2 ≤ bs.length) : (bs.take (bs.length - 1)).drop 1 = Wire.inside bs := by
  unfold Wire.inside
  rw [List.drop_take]
  congr 1
set_option maxRecDepth 100000 in
set_option maxHeartbeats 8000000 in
theorem unstuff_fn (bs : List Nat) (hb : bs.length ≤ 1000000) (h8 : ∀ c ∈ bs, c < 256) (x : List Nat) (e : Int) (hr : Wire.unstuff bs = (x, e)) : FnOk Try.prog 66 [.t (encUs bs)] [] (.tup [.own 1000, .t (.int e)]) [(1000, blkU x)] := by
  unfold Wire.unstuff at hr
  by_cases h2 : bs.length < 2
  · rw [if_pos h2] at hr
    obtain ⟨rfl, rfl⟩ := Prod.mk.inj hr
    refine FnOk.intro fact_mixed Try.func66 rfl Try.ntmps66 (by rfl) (by simp) ?_
    repeat (first | (refine nf1_sound rfl ?_; simp [go_sem, ↓iO, iO, tN]; (repeat (refine anI ?_)); try (refine ⟨dcK, ?_⟩)) | ((first | refine itePos (by omega) ?_ | refine iteNeg (by omega) ?_); try simp [go_sem, ↓iO, iO, tN]) | (refine ⟨dcK, ?_⟩))
    first | rw [RetQ_ret] | rw [RetQ_normal]
    refine ⟨[(1000, none)], ?_⟩
    simp [go_sem, ↓iO, iO, tN]
  · rw [if_neg h2] at hr
    obtain ⟨c0, hc0⟩ := has_get (show 0 < bs.length by omega)
    obtain ⟨c1, hc1⟩ := has_get (show bs.length - 1 < bs.length by omega)
    have q0 := h8 c0 (mem_get hc0)
    have q1 := h8 c1 (mem_get hc1)
    rw [hc0, hc1] at hr
    by_cases h126 : c0 = 126
    · by_cases h124 : c1 = 124
      · rw [if_pos ⟨by rw [h126], by rw [h124]⟩] at hr
        have hi8 : ∀ c ∈ Wire.inside bs, c < 256 := fun c hc => h8 c (by unfold Wire.inside at hc; exact List.mem_of_mem_drop (List.mem_of_mem_take hc))
        have hil : (Wire.inside bs).length = bs.length - 2 := by unfold Wire.inside; rw [List.length_take, List.length_drop]; omega
        have hie := inside_eq (bs := bs) (by omega)
        have hm : ((bs.map encU).take (bs.length - 1)).drop 1 = (Wire.inside bs).map encU := by rw [← List.map_take, ← List.map_drop, hie]
        obtain ⟨I, hI⟩ : ∃ I, Wire.inside bs = I := ⟨_, rfl⟩
        obtain ⟨U, hU⟩ : ∃ U, Wire.usteps I ([], false) = U := ⟨_, rfl⟩
        rw [hI] at hr hi8 hil hm
        rw [hU] at hr
        refine FnOk.intro fact_mixed Try.func66 rfl Try.ntmps66 (by rfl) (by simp) ?_
        repeat (first | (refine nf1_sound rfl ?_; simp [go_sem, ↓iO, iO, tN, hc0, hc1, hm]; (repeat (refine anI ?_)); try (refine ⟨dcK, ?_⟩)) | ((first | refine itePos (by omega) ?_ | refine iteNeg (by omega) ?_); try simp [go_sem, ↓iO, iO, tN, hc0, hc1, hm]) | (refine ⟨dcK, ?_⟩))
        refine nf1_sound' _ _ _ ?_; simp only [nf1]
        refine CW.loop (ι := Nat × List Nat × Bool) (fun p => ⟨[(5, .own 505), (6, .t (.bool p.2.2)), (28, .t (encUs I)), (29, .t (.int I.length)), (30, .t (.int p.1))], [(505, blkU p.2.1)]⟩) (fun p => p.1 ≤ I.length ∧ p.2.1.length ≤ p.1 ∧ Wire.usteps (I.drop p.1) (p.2.1, p.2.2) = U) (fun p => I.length - p.1) (0, [], false) [(505, none)] ⟨by simp, by simp, by simpa using hU⟩ ?_ ?_
        · simp [go_sem, ↓iO, iO, tN]
        rintro ⟨k, out, esc⟩ ⟨hk, hol, hu⟩
        dsimp only at hk hol hu ⊢
        by_cases hkl : k < I.length
        · obtain ⟨c, hc⟩ := has_get hkl
          have hc8 := hi8 c (mem_get hc)
          have hx := xor_32 hc8
          rw [drop_get hc] at hu
          simp only [Wire.usteps] at hu
          cases esc with
          | true =>
            cases hsp : Wire.spec (c ^^^ 32) with
            | true =>
              have hus : Wire.ustep (out, true) c = some (out ++ [c ^^^ 32], false) := by simp [Wire.ustep, hsp]
              rw [hus] at hu
              dsimp only at hu
              repeat (first | (refine nf1_sound rfl ?_; simp [go_sem, ↓iO, iO, tN, hc, hx]; (repeat (refine anI ?_)); try (refine ⟨dcK, ?_⟩)) | ((first | refine itePos (by omega) ?_ | refine iteNeg (by omega) ?_); try simp [go_sem, ↓iO, iO, tN, hc, hx]) | (refine ⟨dcK, ?_⟩))
              refine CallK.fn (special_fn (c ^^^ 32) true hsp) [] [] [] (by kernel_rfl) ?_ ?_ ?_ (Or.inl rfl) ?_ <;> simp [go_sem, ↓iO, iO, tN, hx]
              repeat (refine anI ?_)
              try (refine ⟨dcK, ?_⟩)
              repeat (first | (refine nf1_sound rfl ?_; simp [go_sem, ↓iO, iO, tN, hx]; (repeat (refine anI ?_)); try (refine ⟨dcK, ?_⟩)) | ((first | refine itePos (by omega) ?_ | refine iteNeg (by omega) ?_); try simp [go_sem, ↓iO, iO, tN, hx]) | (refine ⟨dcK, ?_⟩))
              rw [RoundQ_normal]; refine ⟨(k + 1, out ++ [c ^^^ 32], false), [(505, some 162)], ?_, ?_, ?_⟩
              · exact ⟨by dsimp only; omega, by simp; omega, hu⟩
              · dsimp only
                omega
              simp [go_sem, ↓iO, iO, tN, hx]
            | false =>
              have hus : Wire.ustep (out, true) c = none := by simp [Wire.ustep, hsp]
              rw [hus] at hu
              subst hu
              obtain ⟨rfl, rfl⟩ : [] = x ∧ 3 = e := by simpa [Wire.ures] using hr
              repeat (first | (refine nf1_sound rfl ?_; simp [go_sem, ↓iO, iO, tN, hc, hx]; (repeat (refine anI ?_)); try (refine ⟨dcK, ?_⟩)) | ((first | refine itePos (by omega) ?_ | refine iteNeg (by omega) ?_); try simp [go_sem, ↓iO, iO, tN, hc, hx]) | (refine ⟨dcK, ?_⟩))
              refine CallK.fn (special_fn (c ^^^ 32) false hsp) [] [] [] (by kernel_rfl) ?_ ?_ ?_ (Or.inl rfl) ?_ <;> simp [go_sem, ↓iO, iO, tN, hx]
              repeat (refine anI ?_)
              try (refine ⟨dcK, ?_⟩)
              repeat (first | (refine nf1_sound rfl ?_; simp [go_sem, ↓iO, iO, tN, hx]; (repeat (refine anI ?_)); try (refine ⟨dcK, ?_⟩)) | ((first | refine itePos (by omega) ?_ | refine iteNeg (by omega) ?_); try simp [go_sem, ↓iO, iO, tN, hx]) | (refine ⟨dcK, ?_⟩))
              first | rw [RetQ_ret] | rw [RetQ_normal]
              refine ⟨[(1000, none)], ?_⟩
              simp [go_sem, ↓iO, iO, tN]
          | false =>
            by_cases k1 : c = 126
            · have hus : Wire.ustep (out, false) c = none := by simp [Wire.ustep, k1]
              rw [hus] at hu
              subst hu
              obtain ⟨rfl, rfl⟩ : [] = x ∧ 3 = e := by simpa [Wire.ures] using hr
              repeat (first | (refine nf1_sound rfl ?_; simp [go_sem, ↓iO, iO, tN, hc]; (repeat (refine anI ?_)); try (refine ⟨dcK, ?_⟩)) | ((first | refine itePos (by omega) ?_ | refine iteNeg (by omega) ?_); try simp [go_sem, ↓iO, iO, tN, hc]) | (refine ⟨dcK, ?_⟩))
              first | rw [RetQ_ret] | rw [RetQ_normal]
              refine ⟨[(1000, none)], ?_⟩
              simp [go_sem, ↓iO, iO, tN]
            · by_cases k2 : c = 124
              · have hus : Wire.ustep (out, false) c = none := by simp [Wire.ustep, k2]
                rw [hus] at hu
                subst hu
                obtain ⟨rfl, rfl⟩ : [] = x ∧ 3 = e := by simpa [Wire.ures] using hr
                repeat (first | (refine nf1_sound rfl ?_; simp [go_sem, ↓iO, iO, tN, hc]; (repeat (refine anI ?_)); try (refine ⟨dcK, ?_⟩)) | ((first | refine itePos (by omega) ?_ | refine iteNeg (by omega) ?_); try simp [go_sem, ↓iO, iO, tN, hc]) | (refine ⟨dcK, ?_⟩))
                first | rw [RetQ_ret] | rw [RetQ_normal]
                refine ⟨[(1000, none)], ?_⟩
                simp [go_sem, ↓iO, iO, tN]
              · by_cases k3 : c = 125
                · have hus : Wire.ustep (out, false) c = some (out, true) := by simp [Wire.ustep, k3]
                  rw [hus] at hu
                  dsimp only at hu
                  repeat (first | (refine nf1_sound rfl ?_; simp [go_sem, ↓iO, iO, tN, hc]; (repeat (refine anI ?_)); try (refine ⟨dcK, ?_⟩)) | ((first | refine itePos (by omega) ?_ | refine iteNeg (by omega) ?_); try simp [go_sem, ↓iO, iO, tN, hc]) | (refine ⟨dcK, ?_⟩))
                  rw [RoundQ_normal]; refine ⟨(k + 1, out, true), [(505, some 505)], ?_, ?_, ?_⟩
                  · exact ⟨by dsimp only; omega, by dsimp only; omega, hu⟩
                  · dsimp only
                    omega
                  simp [go_sem, ↓iO, iO, tN]
                · have hus : Wire.ustep (out, false) c = some (out ++ [c], false) := by simp [Wire.ustep, k1, k2, k3]
                  rw [hus] at hu
                  dsimp only at hu
                  repeat (first | (refine nf1_sound rfl ?_; simp [go_sem, ↓iO, iO, tN, hc]; (repeat (refine anI ?_)); try (refine ⟨dcK, ?_⟩)) | ((first | refine itePos (by omega) ?_ | refine iteNeg (by omega) ?_); try simp [go_sem, ↓iO, iO, tN, hc]) | (refine ⟨dcK, ?_⟩))
                  rw [RoundQ_normal]; refine ⟨(k + 1, out ++ [c], false), [(505, some 137)], ?_, ?_, ?_⟩
                  · exact ⟨by dsimp only; omega, by simp; omega, hu⟩
                  · dsimp only
                    omega
                  simp [go_sem, ↓iO, iO, tN]
        · obtain rfl : k = I.length := by omega
          rw [List.drop_length] at hu
          simp only [Wire.usteps] at hu
          subst hu
          cases esc with
          | true =>
            obtain ⟨rfl, rfl⟩ : [] = x ∧ 3 = e := by simpa [Wire.ures] using hr
            repeat (first | (refine nf1_sound rfl ?_; simp [go_sem, ↓iO, iO, tN]; (repeat (refine anI ?_)); try (refine ⟨dcK, ?_⟩)) | ((first | refine itePos (by omega) ?_ | refine iteNeg (by omega) ?_); try simp [go_sem, ↓iO, iO, tN]) | (refine ⟨dcK, ?_⟩))
            first | rw [RetQ_ret] | rw [RetQ_normal]
            refine ⟨[(1000, none)], ?_⟩
            simp [go_sem, ↓iO, iO, tN]
          | false =>
            obtain ⟨rfl, rfl⟩ : out = x ∧ 0 = e := by simpa [Wire.ures] using hr
            repeat (first | (refine nf1_sound rfl ?_; simp [go_sem, ↓iO, iO, tN]; (repeat (refine anI ?_)); try (refine ⟨dcK, ?_⟩)) | ((first | refine itePos (by omega) ?_ | refine iteNeg (by omega) ?_); try simp [go_sem, ↓iO, iO, tN]) | (refine ⟨dcK, ?_⟩))
            first | rw [RetQ_ret] | rw [RetQ_normal]
            refine ⟨[(1000, some 505)], ?_⟩
            simp [go_sem, ↓iO, iO, tN]
      · rw [if_neg (fun h => h124 (by simpa using h.2))] at hr
        obtain ⟨rfl, rfl⟩ := Prod.mk.inj hr
        refine FnOk.intro fact_mixed Try.func66 rfl Try.ntmps66 (by rfl) (by simp) ?_
        repeat (first | (refine nf1_sound rfl ?_; simp [go_sem, ↓iO, iO, tN, hc0, hc1]; (repeat (refine anI ?_)); try (refine ⟨dcK, ?_⟩)) | ((first | refine itePos (by omega) ?_ | refine iteNeg (by omega) ?_); try simp [go_sem, ↓iO, iO, tN, hc0, hc1]) | (refine ⟨dcK, ?_⟩))
        first | rw [RetQ_ret] | rw [RetQ_normal]
        refine ⟨[(1000, none)], ?_⟩
        simp [go_sem, ↓iO, iO, tN]
    · rw [if_neg (fun h => h126 (by simpa using h.1))] at hr
      obtain ⟨rfl, rfl⟩ := Prod.mk.inj hr
      refine FnOk.intro fact_mixed Try.func66 rfl Try.ntmps66 (by rfl) (by simp) ?_
      repeat (first | (refine nf1_sound rfl ?_; simp [go_sem, ↓iO, iO, tN, hc0, hc1]; (repeat (refine anI ?_)); try (refine ⟨dcK, ?_⟩)) | ((first | refine itePos (by omega) ?_ | refine iteNeg (by omega) ?_); try simp [go_sem, ↓iO, iO, tN, hc0, hc1]) | (refine ⟨dcK, ?_⟩))
      first | rw [RetQ_ret] | rw [RetQ_normal]
      refine ⟨[(1000, none)], ?_⟩
      simp [go_sem, ↓iO, iO, tN]
end Go.Proofs.Ytopmmodcaoaaeaa
