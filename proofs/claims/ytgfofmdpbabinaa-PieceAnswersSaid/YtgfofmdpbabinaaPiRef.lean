/- The reference of chapter 14 for any pieces: Valid, Volume, Merge, At, Batch, Shift, Push. No condition. -/
import Derived.Test.YtgfofmdpbabinaaPiVol
import Derived.Test.YtgfofmdpbabinaaPiSplit
namespace Go.Proofs.Ytgfofmdpbabinaa
open Go.RowKit Sy
set_option linter.unusedVariables false
set_option linter.unusedSimpArgs false
set_option maxRecDepth 100000 in
set_option maxHeartbeats 8000000 in
theorem rvalid_fn (l : List (Int × Int)) (hl : l.length ≤ 1000000) (b : Bool) (hv : Pc.valid l = b) : FnOk Try.prog 26 [.t (encPs l)] [] (.t (.bool b)) [] := by
  refine FnOk.intro fact_mixed Try.func26 rfl Try.ntmps26 (by rfl) (by simp) ?_
  by_cases h2 : l.length ≤ 200
  · repeat (first | (refine nf1_sound rfl ?_; simp [go_sem, ↓IntWalk.iteOmega, IntWalk.iteOmega, IntWalk.toNatUp]; (repeat (refine And.intro (by omega) ?_)); try (refine ⟨DrawChk_of (by kernel_rfl), ?_⟩)) | (refine itePos (by omega) ?_; try simp [go_sem, ↓IntWalk.iteOmega, IntWalk.iteOmega, IntWalk.toNatUp]) | (refine iteNeg (by omega) ?_; try simp [go_sem, ↓IntWalk.iteOmega, IntWalk.iteOmega, IntWalk.toNatUp]) | (refine ⟨DrawChk_of (by kernel_rfl), ?_⟩))
    refine nf1_sound' _ _ _ ?_; simp only [nf1]
    refine CW.loop (ι := Nat) (fun k => ⟨[(0, .t (encPs l)), (3, .t (.int (Pc.vol (l.take k)))), (9, .t (encPs l)), (10, .t (.int l.length)), (11, .t (.int k))], []⟩) (fun k => k ≤ l.length ∧ ∀ i, i < k → Pc.OkAt l i) (fun k => l.length - k) 0 [] ⟨by omega, fun i hi => absurd hi (by omega)⟩ ?_ ?_
    · simp [go_sem, ↓IntWalk.iteOmega, IntWalk.iteOmega, IntWalk.toNatUp, Pc.vol]
    rintro k ⟨hk, ho⟩
    have hvs := (ok_take h2 ho).vol
    by_cases hb : k < l.length
    · obtain ⟨p, hp⟩ := has_get hb
      have hsn := Pc.vol_snoc hp
      obtain ⟨V, hV⟩ : ∃ V, Pc.vol (l.take k) = V := ⟨_, rfl⟩
      rw [hV] at hvs hsn ⊢
      obtain ⟨p1, p2⟩ := p
      dsimp only at hsn
      have bad : ¬ ((0 ≤ p1 ∧ p1 < 1000) ∧ 1 ≤ p2 ∧ p2 ≤ 1000000) → b = false := fun h => by
        rw [← hv]; exact Pc.valid_f fun hh => h (by have := (hh.ok k hb _ hp).1; dsimp only at this; omega)
      by_cases h1 : 0 ≤ p1 ∧ p1 < 1000
      · have c1 := proper_fn' p1 true (decide_eq_true h1)
        by_cases h3 : 1 ≤ p2
        · by_cases h4 : p2 ≤ 1000000
          · rcases k with _ | j
            · have hok : Pc.OkAt l 0 := fun x hx => by
                rw [hp] at hx; obtain rfl := Option.some.inj hx
                exact ⟨by dsimp only; omega, fun _ h0 => by omega⟩
              repeat (first | (refine nf1_sound rfl ?_; simp [go_sem, ↓IntWalk.iteOmega, IntWalk.iteOmega, IntWalk.toNatUp, hp]; (repeat (refine And.intro (by omega) ?_)); try (refine ⟨DrawChk_of (by kernel_rfl), ?_⟩)) | (refine itePos (by omega) ?_; try simp [go_sem, ↓IntWalk.iteOmega, IntWalk.iteOmega, IntWalk.toNatUp, hp]) | (refine iteNeg (by omega) ?_; try simp [go_sem, ↓IntWalk.iteOmega, IntWalk.iteOmega, IntWalk.toNatUp, hp]) | (refine ⟨DrawChk_of (by kernel_rfl), ?_⟩))
              refine CallK.fn (c1) [] [] [] (by kernel_rfl) (by simp [go_sem, ↓IntWalk.iteOmega, IntWalk.iteOmega, IntWalk.toNatUp, hp]) (by simp [go_sem, ↓IntWalk.iteOmega, IntWalk.iteOmega, IntWalk.toNatUp, hp]) (by simp [go_sem, ↓IntWalk.iteOmega, IntWalk.iteOmega, IntWalk.toNatUp, hp]) (Or.inl rfl) ?_
              simp [go_sem, ↓IntWalk.iteOmega, IntWalk.iteOmega, IntWalk.toNatUp, hp]
              repeat (refine And.intro (by omega) ?_)
              try (refine ⟨DrawChk_of (by kernel_rfl), ?_⟩)
              repeat (first | (refine nf1_sound rfl ?_; simp [go_sem, ↓IntWalk.iteOmega, IntWalk.iteOmega, IntWalk.toNatUp, hp]; (repeat (refine And.intro (by omega) ?_)); try (refine ⟨DrawChk_of (by kernel_rfl), ?_⟩)) | (refine itePos (by omega) ?_; try simp [go_sem, ↓IntWalk.iteOmega, IntWalk.iteOmega, IntWalk.toNatUp, hp]) | (refine iteNeg (by omega) ?_; try simp [go_sem, ↓IntWalk.iteOmega, IntWalk.iteOmega, IntWalk.toNatUp, hp]) | (refine ⟨DrawChk_of (by kernel_rfl), ?_⟩))
              rw [RoundQ_normal]; refine ⟨1, [], ?_, ?_, ?_⟩
              · exact ⟨by omega, ok_snoc ho hok⟩
              · omega
              simp [go_sem, ↓IntWalk.iteOmega, IntWalk.iteOmega, IntWalk.toNatUp, hsn]
            · obtain ⟨q, hq⟩ := has_get (show j < l.length by omega)
              obtain ⟨q1, q2⟩ := q
              by_cases he : p1 = q1
              · have hn : b = false := by
                  rw [← hv]; exact Pc.valid_f fun h => (h.ok (j + 1) hb _ hp).2 _ (by omega) hq he.symm
                subst hn
                repeat (first | (refine nf1_sound rfl ?_; simp [go_sem, ↓IntWalk.iteOmega, IntWalk.iteOmega, IntWalk.toNatUp, hp, hq]; (repeat (refine And.intro (by omega) ?_)); try (refine ⟨DrawChk_of (by kernel_rfl), ?_⟩)) | (refine itePos (by omega) ?_; try simp [go_sem, ↓IntWalk.iteOmega, IntWalk.iteOmega, IntWalk.toNatUp, hp, hq]) | (refine iteNeg (by omega) ?_; try simp [go_sem, ↓IntWalk.iteOmega, IntWalk.iteOmega, IntWalk.toNatUp, hp, hq]) | (refine ⟨DrawChk_of (by kernel_rfl), ?_⟩))
                refine CallK.fn (c1) [] [] [] (by kernel_rfl) (by simp [go_sem, ↓IntWalk.iteOmega, IntWalk.iteOmega, IntWalk.toNatUp, hp, hq]) (by simp [go_sem, ↓IntWalk.iteOmega, IntWalk.iteOmega, IntWalk.toNatUp, hp, hq]) (by simp [go_sem, ↓IntWalk.iteOmega, IntWalk.iteOmega, IntWalk.toNatUp, hp, hq]) (Or.inl rfl) ?_
                simp [go_sem, ↓IntWalk.iteOmega, IntWalk.iteOmega, IntWalk.toNatUp, hp, hq]
                repeat (refine And.intro (by omega) ?_)
                try (refine ⟨DrawChk_of (by kernel_rfl), ?_⟩)
                repeat (first | (refine nf1_sound rfl ?_; simp [go_sem, ↓IntWalk.iteOmega, IntWalk.iteOmega, IntWalk.toNatUp, hp, hq]; (repeat (refine And.intro (by omega) ?_)); try (refine ⟨DrawChk_of (by kernel_rfl), ?_⟩)) | (refine itePos (by omega) ?_; try simp [go_sem, ↓IntWalk.iteOmega, IntWalk.iteOmega, IntWalk.toNatUp, hp, hq]) | (refine iteNeg (by omega) ?_; try simp [go_sem, ↓IntWalk.iteOmega, IntWalk.iteOmega, IntWalk.toNatUp, hp, hq]) | (refine ⟨DrawChk_of (by kernel_rfl), ?_⟩))
                first | rw [RetQ_ret] | rw [RetQ_normal]
                refine ⟨[], ?_⟩
                simp [go_sem, ↓IntWalk.iteOmega, IntWalk.iteOmega, IntWalk.toNatUp]
              · have hok : Pc.OkAt l (j + 1) := fun x hx => by
                  rw [hp] at hx; obtain rfl := Option.some.inj hx
                  refine ⟨by dsimp only; omega, fun y _ hy => ?_⟩
                  rw [Nat.add_sub_cancel, hq] at hy; obtain rfl := Option.some.inj hy
                  exact fun h => he h.symm
                repeat (first | (refine nf1_sound rfl ?_; simp [go_sem, ↓IntWalk.iteOmega, IntWalk.iteOmega, IntWalk.toNatUp, hp, hq]; (repeat (refine And.intro (by omega) ?_)); try (refine ⟨DrawChk_of (by kernel_rfl), ?_⟩)) | (refine itePos (by omega) ?_; try simp [go_sem, ↓IntWalk.iteOmega, IntWalk.iteOmega, IntWalk.toNatUp, hp, hq]) | (refine iteNeg (by omega) ?_; try simp [go_sem, ↓IntWalk.iteOmega, IntWalk.iteOmega, IntWalk.toNatUp, hp, hq]) | (refine ⟨DrawChk_of (by kernel_rfl), ?_⟩))
                refine CallK.fn (c1) [] [] [] (by kernel_rfl) (by simp [go_sem, ↓IntWalk.iteOmega, IntWalk.iteOmega, IntWalk.toNatUp, hp, hq]) (by simp [go_sem, ↓IntWalk.iteOmega, IntWalk.iteOmega, IntWalk.toNatUp, hp, hq]) (by simp [go_sem, ↓IntWalk.iteOmega, IntWalk.iteOmega, IntWalk.toNatUp, hp, hq]) (Or.inl rfl) ?_
                simp [go_sem, ↓IntWalk.iteOmega, IntWalk.iteOmega, IntWalk.toNatUp, hp, hq]
                repeat (refine And.intro (by omega) ?_)
                try (refine ⟨DrawChk_of (by kernel_rfl), ?_⟩)
                repeat (first | (refine nf1_sound rfl ?_; simp [go_sem, ↓IntWalk.iteOmega, IntWalk.iteOmega, IntWalk.toNatUp, hp, hq]; (repeat (refine And.intro (by omega) ?_)); try (refine ⟨DrawChk_of (by kernel_rfl), ?_⟩)) | (refine itePos (by omega) ?_; try simp [go_sem, ↓IntWalk.iteOmega, IntWalk.iteOmega, IntWalk.toNatUp, hp, hq]) | (refine iteNeg (by omega) ?_; try simp [go_sem, ↓IntWalk.iteOmega, IntWalk.iteOmega, IntWalk.toNatUp, hp, hq]) | (refine ⟨DrawChk_of (by kernel_rfl), ?_⟩))
                rw [RoundQ_normal]; refine ⟨j + 1 + 1, [], ?_, ?_, ?_⟩
                · exact ⟨by omega, ok_snoc ho hok⟩
                · omega
                simp [go_sem, ↓IntWalk.iteOmega, IntWalk.iteOmega, IntWalk.toNatUp, hsn]
          · obtain rfl := bad (by omega)
            repeat (first | (refine nf1_sound rfl ?_; simp [go_sem, ↓IntWalk.iteOmega, IntWalk.iteOmega, IntWalk.toNatUp, hp]; (repeat (refine And.intro (by omega) ?_)); try (refine ⟨DrawChk_of (by kernel_rfl), ?_⟩)) | (refine itePos (by omega) ?_; try simp [go_sem, ↓IntWalk.iteOmega, IntWalk.iteOmega, IntWalk.toNatUp, hp]) | (refine iteNeg (by omega) ?_; try simp [go_sem, ↓IntWalk.iteOmega, IntWalk.iteOmega, IntWalk.toNatUp, hp]) | (refine ⟨DrawChk_of (by kernel_rfl), ?_⟩))
            refine CallK.fn (c1) [] [] [] (by kernel_rfl) (by simp [go_sem, ↓IntWalk.iteOmega, IntWalk.iteOmega, IntWalk.toNatUp, hp]) (by simp [go_sem, ↓IntWalk.iteOmega, IntWalk.iteOmega, IntWalk.toNatUp, hp]) (by simp [go_sem, ↓IntWalk.iteOmega, IntWalk.iteOmega, IntWalk.toNatUp, hp]) (Or.inl rfl) ?_
            simp [go_sem, ↓IntWalk.iteOmega, IntWalk.iteOmega, IntWalk.toNatUp, hp]
            repeat (refine And.intro (by omega) ?_)
            try (refine ⟨DrawChk_of (by kernel_rfl), ?_⟩)
            repeat (first | (refine nf1_sound rfl ?_; simp [go_sem, ↓IntWalk.iteOmega, IntWalk.iteOmega, IntWalk.toNatUp, hp]; (repeat (refine And.intro (by omega) ?_)); try (refine ⟨DrawChk_of (by kernel_rfl), ?_⟩)) | (refine itePos (by omega) ?_; try simp [go_sem, ↓IntWalk.iteOmega, IntWalk.iteOmega, IntWalk.toNatUp, hp]) | (refine iteNeg (by omega) ?_; try simp [go_sem, ↓IntWalk.iteOmega, IntWalk.iteOmega, IntWalk.toNatUp, hp]) | (refine ⟨DrawChk_of (by kernel_rfl), ?_⟩))
            first | rw [RetQ_ret] | rw [RetQ_normal]
            refine ⟨[], ?_⟩
            simp [go_sem, ↓IntWalk.iteOmega, IntWalk.iteOmega, IntWalk.toNatUp]
        · obtain rfl := bad (by omega)
          repeat (first | (refine nf1_sound rfl ?_; simp [go_sem, ↓IntWalk.iteOmega, IntWalk.iteOmega, IntWalk.toNatUp, hp]; (repeat (refine And.intro (by omega) ?_)); try (refine ⟨DrawChk_of (by kernel_rfl), ?_⟩)) | (refine itePos (by omega) ?_; try simp [go_sem, ↓IntWalk.iteOmega, IntWalk.iteOmega, IntWalk.toNatUp, hp]) | (refine iteNeg (by omega) ?_; try simp [go_sem, ↓IntWalk.iteOmega, IntWalk.iteOmega, IntWalk.toNatUp, hp]) | (refine ⟨DrawChk_of (by kernel_rfl), ?_⟩))
          refine CallK.fn (c1) [] [] [] (by kernel_rfl) (by simp [go_sem, ↓IntWalk.iteOmega, IntWalk.iteOmega, IntWalk.toNatUp, hp]) (by simp [go_sem, ↓IntWalk.iteOmega, IntWalk.iteOmega, IntWalk.toNatUp, hp]) (by simp [go_sem, ↓IntWalk.iteOmega, IntWalk.iteOmega, IntWalk.toNatUp, hp]) (Or.inl rfl) ?_
          simp [go_sem, ↓IntWalk.iteOmega, IntWalk.iteOmega, IntWalk.toNatUp, hp]
          repeat (refine And.intro (by omega) ?_)
          try (refine ⟨DrawChk_of (by kernel_rfl), ?_⟩)
          repeat (first | (refine nf1_sound rfl ?_; simp [go_sem, ↓IntWalk.iteOmega, IntWalk.iteOmega, IntWalk.toNatUp, hp]; (repeat (refine And.intro (by omega) ?_)); try (refine ⟨DrawChk_of (by kernel_rfl), ?_⟩)) | (refine itePos (by omega) ?_; try simp [go_sem, ↓IntWalk.iteOmega, IntWalk.iteOmega, IntWalk.toNatUp, hp]) | (refine iteNeg (by omega) ?_; try simp [go_sem, ↓IntWalk.iteOmega, IntWalk.iteOmega, IntWalk.toNatUp, hp]) | (refine ⟨DrawChk_of (by kernel_rfl), ?_⟩))
          first | rw [RetQ_ret] | rw [RetQ_normal]
          refine ⟨[], ?_⟩
          simp [go_sem, ↓IntWalk.iteOmega, IntWalk.iteOmega, IntWalk.toNatUp]
      · have c1 := proper_fn' p1 false (decide_eq_false h1)
        obtain rfl := bad (fun h => h1 h.1)
        repeat (first | (refine nf1_sound rfl ?_; simp [go_sem, ↓IntWalk.iteOmega, IntWalk.iteOmega, IntWalk.toNatUp, hp]; (repeat (refine And.intro (by omega) ?_)); try (refine ⟨DrawChk_of (by kernel_rfl), ?_⟩)) | (refine itePos (by omega) ?_; try simp [go_sem, ↓IntWalk.iteOmega, IntWalk.iteOmega, IntWalk.toNatUp, hp]) | (refine iteNeg (by omega) ?_; try simp [go_sem, ↓IntWalk.iteOmega, IntWalk.iteOmega, IntWalk.toNatUp, hp]) | (refine ⟨DrawChk_of (by kernel_rfl), ?_⟩))
        refine CallK.fn (c1) [] [] [] (by kernel_rfl) (by simp [go_sem, ↓IntWalk.iteOmega, IntWalk.iteOmega, IntWalk.toNatUp, hp]) (by simp [go_sem, ↓IntWalk.iteOmega, IntWalk.iteOmega, IntWalk.toNatUp, hp]) (by simp [go_sem, ↓IntWalk.iteOmega, IntWalk.iteOmega, IntWalk.toNatUp, hp]) (Or.inl rfl) ?_
        simp [go_sem, ↓IntWalk.iteOmega, IntWalk.iteOmega, IntWalk.toNatUp, hp]
        repeat (refine And.intro (by omega) ?_)
        try (refine ⟨DrawChk_of (by kernel_rfl), ?_⟩)
        repeat (first | (refine nf1_sound rfl ?_; simp [go_sem, ↓IntWalk.iteOmega, IntWalk.iteOmega, IntWalk.toNatUp, hp]; (repeat (refine And.intro (by omega) ?_)); try (refine ⟨DrawChk_of (by kernel_rfl), ?_⟩)) | (refine itePos (by omega) ?_; try simp [go_sem, ↓IntWalk.iteOmega, IntWalk.iteOmega, IntWalk.toNatUp, hp]) | (refine iteNeg (by omega) ?_; try simp [go_sem, ↓IntWalk.iteOmega, IntWalk.iteOmega, IntWalk.toNatUp, hp]) | (refine ⟨DrawChk_of (by kernel_rfl), ?_⟩))
        first | rw [RetQ_ret] | rw [RetQ_normal]
        refine ⟨[], ?_⟩
        simp [go_sem, ↓IntWalk.iteOmega, IntWalk.iteOmega, IntWalk.toNatUp]
    · obtain rfl : k = l.length := by omega
      rw [List.take_length] at hvs ⊢
      by_cases h : Pc.vol l ≤ 1000000
      · rw [Pc.valid_t ⟨h2, ho, h⟩] at hv
        subst hv
        repeat (first | (refine nf1_sound rfl ?_; simp [go_sem, ↓IntWalk.iteOmega, IntWalk.iteOmega, IntWalk.toNatUp]; (repeat (refine And.intro (by omega) ?_)); try (refine ⟨DrawChk_of (by kernel_rfl), ?_⟩)) | (refine itePos (by omega) ?_; try simp [go_sem, ↓IntWalk.iteOmega, IntWalk.iteOmega, IntWalk.toNatUp]) | (refine iteNeg (by omega) ?_; try simp [go_sem, ↓IntWalk.iteOmega, IntWalk.iteOmega, IntWalk.toNatUp]) | (refine ⟨DrawChk_of (by kernel_rfl), ?_⟩))
        first | rw [RetQ_ret] | rw [RetQ_normal]
        refine ⟨[], ?_⟩
        simp [go_sem, ↓IntWalk.iteOmega, IntWalk.iteOmega, IntWalk.toNatUp]
        exact h
      · rw [Pc.valid_f fun hh => h hh.vol] at hv
        subst hv
        repeat (first | (refine nf1_sound rfl ?_; simp [go_sem, ↓IntWalk.iteOmega, IntWalk.iteOmega, IntWalk.toNatUp]; (repeat (refine And.intro (by omega) ?_)); try (refine ⟨DrawChk_of (by kernel_rfl), ?_⟩)) | (refine itePos (by omega) ?_; try simp [go_sem, ↓IntWalk.iteOmega, IntWalk.iteOmega, IntWalk.toNatUp]) | (refine iteNeg (by omega) ?_; try simp [go_sem, ↓IntWalk.iteOmega, IntWalk.iteOmega, IntWalk.toNatUp]) | (refine ⟨DrawChk_of (by kernel_rfl), ?_⟩))
        first | rw [RetQ_ret] | rw [RetQ_normal]
        refine ⟨[], ?_⟩
        simp [go_sem, ↓IntWalk.iteOmega, IntWalk.iteOmega, IntWalk.toNatUp]
        try omega
  · rw [Pc.valid_f fun h => h2 h.len] at hv
    subst hv
    repeat (first | (refine nf1_sound rfl ?_; simp [go_sem, ↓IntWalk.iteOmega, IntWalk.iteOmega, IntWalk.toNatUp]; (repeat (refine And.intro (by omega) ?_)); try (refine ⟨DrawChk_of (by kernel_rfl), ?_⟩)) | (refine itePos (by omega) ?_; try simp [go_sem, ↓IntWalk.iteOmega, IntWalk.iteOmega, IntWalk.toNatUp]) | (refine iteNeg (by omega) ?_; try simp [go_sem, ↓IntWalk.iteOmega, IntWalk.iteOmega, IntWalk.toNatUp]) | (refine ⟨DrawChk_of (by kernel_rfl), ?_⟩))
    first | rw [RetQ_ret] | rw [RetQ_normal]
    refine ⟨[], ?_⟩
    simp [go_sem, ↓IntWalk.iteOmega, IntWalk.iteOmega, IntWalk.toNatUp]
/-- The volume of a fill, 0 if it is none. -/
noncomputable def volV (l : List (Int × Int)) : Int := if Pc.valid l = true then Pc.vol l else 0
noncomputable def atV (l : List (Int × Int)) (x : Int) : Int := if Pc.valid l = true ∧ 0 ≤ x then Pc.atIn l x else -1
noncomputable def batV (l : List (Int × Int)) (b : Int) : Int := if Pc.valid l = true then Pc.of_ l b else 0
theorem nvalid {l : List (Int × Int)} (h : ¬ Pc.valid l = true) : Pc.valid l = false := by cases hv : Pc.valid l <;> simp_all
set_option maxRecDepth 100000 in
theorem volume_any (l : List (Int × Int)) (hl : l.length ≤ 1000000) (v : Int) (hv : volV l = v) : FnOk Try.prog 22 [.t (encPs l)] [] (.t (.int v)) [] := by
  unfold volV at hv
  by_cases h : Pc.valid l = true
  · rw [if_pos h] at hv
    subst hv
    exact volume_fn l (Pc.valid_iff.1 h)
  · rw [if_neg h] at hv
    subst hv
    refine FnOk.intro fact_mixed Try.func22 rfl Try.ntmps22 (by rfl) (by simp) ?_
    repeat (first | (refine nf1_sound rfl ?_; simp [go_sem, ↓IntWalk.iteOmega, IntWalk.iteOmega, IntWalk.toNatUp]; (repeat (refine And.intro (by omega) ?_)); try (refine ⟨DrawChk_of (by kernel_rfl), ?_⟩)) | (refine itePos (by omega) ?_; try simp [go_sem, ↓IntWalk.iteOmega, IntWalk.iteOmega, IntWalk.toNatUp]) | (refine iteNeg (by omega) ?_; try simp [go_sem, ↓IntWalk.iteOmega, IntWalk.iteOmega, IntWalk.toNatUp]) | (refine ⟨DrawChk_of (by kernel_rfl), ?_⟩))
    refine CallK.fn (valid_fn' l hl false (nvalid h)) [] [] [] (by kernel_rfl) (by simp [go_sem, ↓IntWalk.iteOmega, IntWalk.iteOmega, IntWalk.toNatUp]) (by simp [go_sem, ↓IntWalk.iteOmega, IntWalk.iteOmega, IntWalk.toNatUp]) (by simp [go_sem, ↓IntWalk.iteOmega, IntWalk.iteOmega, IntWalk.toNatUp]) (Or.inl rfl) ?_
    simp [go_sem, ↓IntWalk.iteOmega, IntWalk.iteOmega, IntWalk.toNatUp]
    repeat (refine And.intro (by omega) ?_)
    try (refine ⟨DrawChk_of (by kernel_rfl), ?_⟩)
    repeat (first | (refine nf1_sound rfl ?_; simp [go_sem, ↓IntWalk.iteOmega, IntWalk.iteOmega, IntWalk.toNatUp]; (repeat (refine And.intro (by omega) ?_)); try (refine ⟨DrawChk_of (by kernel_rfl), ?_⟩)) | (refine itePos (by omega) ?_; try simp [go_sem, ↓IntWalk.iteOmega, IntWalk.iteOmega, IntWalk.toNatUp]) | (refine iteNeg (by omega) ?_; try simp [go_sem, ↓IntWalk.iteOmega, IntWalk.iteOmega, IntWalk.toNatUp]) | (refine ⟨DrawChk_of (by kernel_rfl), ?_⟩))
    first | rw [RetQ_ret] | rw [RetQ_normal]
    refine ⟨[], ?_⟩
    simp [go_sem, ↓IntWalk.iteOmega, IntWalk.iteOmega, IntWalk.toNatUp]
set_option maxRecDepth 100000 in
theorem rvolume_fn (l : List (Int × Int)) (hl : l.length ≤ 1000000) (v : Int) (hv : volV l = v) : FnOk Try.prog 27 [.t (encPs l)] [] (.t (.int v)) [] := by
  unfold volV at hv
  by_cases h : Pc.valid l = true
  · rw [if_pos h] at hv
    subst hv
    refine FnOk.intro fact_mixed Try.func27 rfl Try.ntmps27 (by rfl) (by simp) ?_
    repeat (first | (refine nf1_sound rfl ?_; simp [go_sem, ↓IntWalk.iteOmega, IntWalk.iteOmega, IntWalk.toNatUp]; (repeat (refine And.intro (by omega) ?_)); try (refine ⟨DrawChk_of (by kernel_rfl), ?_⟩)) | (refine itePos (by omega) ?_; try simp [go_sem, ↓IntWalk.iteOmega, IntWalk.iteOmega, IntWalk.toNatUp]) | (refine iteNeg (by omega) ?_; try simp [go_sem, ↓IntWalk.iteOmega, IntWalk.iteOmega, IntWalk.toNatUp]) | (refine ⟨DrawChk_of (by kernel_rfl), ?_⟩))
    refine CallK.fn (rvalid_fn l hl true h) [] [] [] (by kernel_rfl) (by simp [go_sem, ↓IntWalk.iteOmega, IntWalk.iteOmega, IntWalk.toNatUp]) (by simp [go_sem, ↓IntWalk.iteOmega, IntWalk.iteOmega, IntWalk.toNatUp]) (by simp [go_sem, ↓IntWalk.iteOmega, IntWalk.iteOmega, IntWalk.toNatUp]) (Or.inl rfl) ?_
    simp [go_sem, ↓IntWalk.iteOmega, IntWalk.iteOmega, IntWalk.toNatUp]
    repeat (refine And.intro (by omega) ?_)
    try (refine ⟨DrawChk_of (by kernel_rfl), ?_⟩)
    repeat (first | (refine nf1_sound rfl ?_; simp [go_sem, ↓IntWalk.iteOmega, IntWalk.iteOmega, IntWalk.toNatUp]; (repeat (refine And.intro (by omega) ?_)); try (refine ⟨DrawChk_of (by kernel_rfl), ?_⟩)) | (refine itePos (by omega) ?_; try simp [go_sem, ↓IntWalk.iteOmega, IntWalk.iteOmega, IntWalk.toNatUp]) | (refine iteNeg (by omega) ?_; try simp [go_sem, ↓IntWalk.iteOmega, IntWalk.iteOmega, IntWalk.toNatUp]) | (refine ⟨DrawChk_of (by kernel_rfl), ?_⟩))
    refine CallK.fn (sum_fn l (Pc.valid_iff.1 h).sane) [] [] [] (by kernel_rfl) (by simp [go_sem, ↓IntWalk.iteOmega, IntWalk.iteOmega, IntWalk.toNatUp]) (by simp [go_sem, ↓IntWalk.iteOmega, IntWalk.iteOmega, IntWalk.toNatUp]) (by simp [go_sem, ↓IntWalk.iteOmega, IntWalk.iteOmega, IntWalk.toNatUp]) (Or.inl rfl) ?_
    simp [go_sem, ↓IntWalk.iteOmega, IntWalk.iteOmega, IntWalk.toNatUp]
    repeat (refine And.intro (by omega) ?_)
    try (refine ⟨DrawChk_of (by kernel_rfl), ?_⟩)
    repeat (first | (refine nf1_sound rfl ?_; simp [go_sem, ↓IntWalk.iteOmega, IntWalk.iteOmega, IntWalk.toNatUp]; (repeat (refine And.intro (by omega) ?_)); try (refine ⟨DrawChk_of (by kernel_rfl), ?_⟩)) | (refine itePos (by omega) ?_; try simp [go_sem, ↓IntWalk.iteOmega, IntWalk.iteOmega, IntWalk.toNatUp]) | (refine iteNeg (by omega) ?_; try simp [go_sem, ↓IntWalk.iteOmega, IntWalk.iteOmega, IntWalk.toNatUp]) | (refine ⟨DrawChk_of (by kernel_rfl), ?_⟩))
    first | rw [RetQ_ret] | rw [RetQ_normal]
    refine ⟨[], ?_⟩
    simp [go_sem, ↓IntWalk.iteOmega, IntWalk.iteOmega, IntWalk.toNatUp]
  · rw [if_neg h] at hv
    subst hv
    refine FnOk.intro fact_mixed Try.func27 rfl Try.ntmps27 (by rfl) (by simp) ?_
    repeat (first | (refine nf1_sound rfl ?_; simp [go_sem, ↓IntWalk.iteOmega, IntWalk.iteOmega, IntWalk.toNatUp]; (repeat (refine And.intro (by omega) ?_)); try (refine ⟨DrawChk_of (by kernel_rfl), ?_⟩)) | (refine itePos (by omega) ?_; try simp [go_sem, ↓IntWalk.iteOmega, IntWalk.iteOmega, IntWalk.toNatUp]) | (refine iteNeg (by omega) ?_; try simp [go_sem, ↓IntWalk.iteOmega, IntWalk.iteOmega, IntWalk.toNatUp]) | (refine ⟨DrawChk_of (by kernel_rfl), ?_⟩))
    refine CallK.fn (rvalid_fn l hl false (nvalid h)) [] [] [] (by kernel_rfl) (by simp [go_sem, ↓IntWalk.iteOmega, IntWalk.iteOmega, IntWalk.toNatUp]) (by simp [go_sem, ↓IntWalk.iteOmega, IntWalk.iteOmega, IntWalk.toNatUp]) (by simp [go_sem, ↓IntWalk.iteOmega, IntWalk.iteOmega, IntWalk.toNatUp]) (Or.inl rfl) ?_
    simp [go_sem, ↓IntWalk.iteOmega, IntWalk.iteOmega, IntWalk.toNatUp]
    repeat (refine And.intro (by omega) ?_)
    try (refine ⟨DrawChk_of (by kernel_rfl), ?_⟩)
    repeat (first | (refine nf1_sound rfl ?_; simp [go_sem, ↓IntWalk.iteOmega, IntWalk.iteOmega, IntWalk.toNatUp]; (repeat (refine And.intro (by omega) ?_)); try (refine ⟨DrawChk_of (by kernel_rfl), ?_⟩)) | (refine itePos (by omega) ?_; try simp [go_sem, ↓IntWalk.iteOmega, IntWalk.iteOmega, IntWalk.toNatUp]) | (refine iteNeg (by omega) ?_; try simp [go_sem, ↓IntWalk.iteOmega, IntWalk.iteOmega, IntWalk.toNatUp]) | (refine ⟨DrawChk_of (by kernel_rfl), ?_⟩))
    first | rw [RetQ_ret] | rw [RetQ_normal]
    refine ⟨[], ?_⟩
    simp [go_sem, ↓IntWalk.iteOmega, IntWalk.iteOmega, IntWalk.toNatUp]
set_option maxRecDepth 100000 in
theorem batch_any (l : List (Int × Int)) (b : Int) (hl : l.length ≤ 1000000) (v : Int) (hv : batV l b = v) : FnOk Try.prog 23 [.t (encPs l), .t (.int b)] [] (.t (.int v)) [] := by
  unfold batV at hv
  by_cases h : Pc.valid l = true
  · rw [if_pos h] at hv
    subst hv
    exact batch_fn l b (Pc.valid_iff.1 h)
  · rw [if_neg h] at hv
    subst hv
    refine FnOk.intro fact_mixed Try.func23 rfl Try.ntmps23 (by rfl) (by simp) ?_
    repeat (first | (refine nf1_sound rfl ?_; simp [go_sem, ↓IntWalk.iteOmega, IntWalk.iteOmega, IntWalk.toNatUp]; (repeat (refine And.intro (by omega) ?_)); try (refine ⟨DrawChk_of (by kernel_rfl), ?_⟩)) | (refine itePos (by omega) ?_; try simp [go_sem, ↓IntWalk.iteOmega, IntWalk.iteOmega, IntWalk.toNatUp]) | (refine iteNeg (by omega) ?_; try simp [go_sem, ↓IntWalk.iteOmega, IntWalk.iteOmega, IntWalk.toNatUp]) | (refine ⟨DrawChk_of (by kernel_rfl), ?_⟩))
    refine CallK.fn (valid_fn' l hl false (nvalid h)) [] [] [] (by kernel_rfl) (by simp [go_sem, ↓IntWalk.iteOmega, IntWalk.iteOmega, IntWalk.toNatUp]) (by simp [go_sem, ↓IntWalk.iteOmega, IntWalk.iteOmega, IntWalk.toNatUp]) (by simp [go_sem, ↓IntWalk.iteOmega, IntWalk.iteOmega, IntWalk.toNatUp]) (Or.inl rfl) ?_
    simp [go_sem, ↓IntWalk.iteOmega, IntWalk.iteOmega, IntWalk.toNatUp]
    repeat (refine And.intro (by omega) ?_)
    try (refine ⟨DrawChk_of (by kernel_rfl), ?_⟩)
    repeat (first | (refine nf1_sound rfl ?_; simp [go_sem, ↓IntWalk.iteOmega, IntWalk.iteOmega, IntWalk.toNatUp]; (repeat (refine And.intro (by omega) ?_)); try (refine ⟨DrawChk_of (by kernel_rfl), ?_⟩)) | (refine itePos (by omega) ?_; try simp [go_sem, ↓IntWalk.iteOmega, IntWalk.iteOmega, IntWalk.toNatUp]) | (refine iteNeg (by omega) ?_; try simp [go_sem, ↓IntWalk.iteOmega, IntWalk.iteOmega, IntWalk.toNatUp]) | (refine ⟨DrawChk_of (by kernel_rfl), ?_⟩))
    first | rw [RetQ_ret] | rw [RetQ_normal]
    refine ⟨[], ?_⟩
    simp [go_sem, ↓IntWalk.iteOmega, IntWalk.iteOmega, IntWalk.toNatUp]
set_option maxRecDepth 100000 in
theorem rbatch_fn (l : List (Int × Int)) (b : Int) (hl : l.length ≤ 1000000) (v : Int) (hv : batV l b = v) : FnOk Try.prog 30 [.t (encPs l), .t (.int b)] [] (.t (.int v)) [] := by
  unfold batV at hv
  by_cases h : Pc.valid l = true
  · rw [if_pos h] at hv
    subst hv
    refine FnOk.intro fact_mixed Try.func30 rfl Try.ntmps30 (by rfl) (by simp) ?_
    repeat (first | (refine nf1_sound rfl ?_; simp [go_sem, ↓IntWalk.iteOmega, IntWalk.iteOmega, IntWalk.toNatUp]; (repeat (refine And.intro (by omega) ?_)); try (refine ⟨DrawChk_of (by kernel_rfl), ?_⟩)) | (refine itePos (by omega) ?_; try simp [go_sem, ↓IntWalk.iteOmega, IntWalk.iteOmega, IntWalk.toNatUp]) | (refine iteNeg (by omega) ?_; try simp [go_sem, ↓IntWalk.iteOmega, IntWalk.iteOmega, IntWalk.toNatUp]) | (refine ⟨DrawChk_of (by kernel_rfl), ?_⟩))
    refine CallK.fn (rvalid_fn l hl true h) [] [] [] (by kernel_rfl) (by simp [go_sem, ↓IntWalk.iteOmega, IntWalk.iteOmega, IntWalk.toNatUp]) (by simp [go_sem, ↓IntWalk.iteOmega, IntWalk.iteOmega, IntWalk.toNatUp]) (by simp [go_sem, ↓IntWalk.iteOmega, IntWalk.iteOmega, IntWalk.toNatUp]) (Or.inl rfl) ?_
    simp [go_sem, ↓IntWalk.iteOmega, IntWalk.iteOmega, IntWalk.toNatUp]
    repeat (refine And.intro (by omega) ?_)
    try (refine ⟨DrawChk_of (by kernel_rfl), ?_⟩)
    repeat (first | (refine nf1_sound rfl ?_; simp [go_sem, ↓IntWalk.iteOmega, IntWalk.iteOmega, IntWalk.toNatUp]; (repeat (refine And.intro (by omega) ?_)); try (refine ⟨DrawChk_of (by kernel_rfl), ?_⟩)) | (refine itePos (by omega) ?_; try simp [go_sem, ↓IntWalk.iteOmega, IntWalk.iteOmega, IntWalk.toNatUp]) | (refine iteNeg (by omega) ?_; try simp [go_sem, ↓IntWalk.iteOmega, IntWalk.iteOmega, IntWalk.toNatUp]) | (refine ⟨DrawChk_of (by kernel_rfl), ?_⟩))
    refine CallK.fn (of_fn l b (Pc.valid_iff.1 h).sane) [] [] [] (by kernel_rfl) (by simp [go_sem, ↓IntWalk.iteOmega, IntWalk.iteOmega, IntWalk.toNatUp]) (by simp [go_sem, ↓IntWalk.iteOmega, IntWalk.iteOmega, IntWalk.toNatUp]) (by simp [go_sem, ↓IntWalk.iteOmega, IntWalk.iteOmega, IntWalk.toNatUp]) (Or.inl rfl) ?_
    simp [go_sem, ↓IntWalk.iteOmega, IntWalk.iteOmega, IntWalk.toNatUp]
    repeat (refine And.intro (by omega) ?_)
    try (refine ⟨DrawChk_of (by kernel_rfl), ?_⟩)
    repeat (first | (refine nf1_sound rfl ?_; simp [go_sem, ↓IntWalk.iteOmega, IntWalk.iteOmega, IntWalk.toNatUp]; (repeat (refine And.intro (by omega) ?_)); try (refine ⟨DrawChk_of (by kernel_rfl), ?_⟩)) | (refine itePos (by omega) ?_; try simp [go_sem, ↓IntWalk.iteOmega, IntWalk.iteOmega, IntWalk.toNatUp]) | (refine iteNeg (by omega) ?_; try simp [go_sem, ↓IntWalk.iteOmega, IntWalk.iteOmega, IntWalk.toNatUp]) | (refine ⟨DrawChk_of (by kernel_rfl), ?_⟩))
    first | rw [RetQ_ret] | rw [RetQ_normal]
    refine ⟨[], ?_⟩
    simp [go_sem, ↓IntWalk.iteOmega, IntWalk.iteOmega, IntWalk.toNatUp]
  · rw [if_neg h] at hv
    subst hv
    refine FnOk.intro fact_mixed Try.func30 rfl Try.ntmps30 (by rfl) (by simp) ?_
    repeat (first | (refine nf1_sound rfl ?_; simp [go_sem, ↓IntWalk.iteOmega, IntWalk.iteOmega, IntWalk.toNatUp]; (repeat (refine And.intro (by omega) ?_)); try (refine ⟨DrawChk_of (by kernel_rfl), ?_⟩)) | (refine itePos (by omega) ?_; try simp [go_sem, ↓IntWalk.iteOmega, IntWalk.iteOmega, IntWalk.toNatUp]) | (refine iteNeg (by omega) ?_; try simp [go_sem, ↓IntWalk.iteOmega, IntWalk.iteOmega, IntWalk.toNatUp]) | (refine ⟨DrawChk_of (by kernel_rfl), ?_⟩))
    refine CallK.fn (rvalid_fn l hl false (nvalid h)) [] [] [] (by kernel_rfl) (by simp [go_sem, ↓IntWalk.iteOmega, IntWalk.iteOmega, IntWalk.toNatUp]) (by simp [go_sem, ↓IntWalk.iteOmega, IntWalk.iteOmega, IntWalk.toNatUp]) (by simp [go_sem, ↓IntWalk.iteOmega, IntWalk.iteOmega, IntWalk.toNatUp]) (Or.inl rfl) ?_
    simp [go_sem, ↓IntWalk.iteOmega, IntWalk.iteOmega, IntWalk.toNatUp]
    repeat (refine And.intro (by omega) ?_)
    try (refine ⟨DrawChk_of (by kernel_rfl), ?_⟩)
    repeat (first | (refine nf1_sound rfl ?_; simp [go_sem, ↓IntWalk.iteOmega, IntWalk.iteOmega, IntWalk.toNatUp]; (repeat (refine And.intro (by omega) ?_)); try (refine ⟨DrawChk_of (by kernel_rfl), ?_⟩)) | (refine itePos (by omega) ?_; try simp [go_sem, ↓IntWalk.iteOmega, IntWalk.iteOmega, IntWalk.toNatUp]) | (refine iteNeg (by omega) ?_; try simp [go_sem, ↓IntWalk.iteOmega, IntWalk.iteOmega, IntWalk.toNatUp]) | (refine ⟨DrawChk_of (by kernel_rfl), ?_⟩))
    first | rw [RetQ_ret] | rw [RetQ_normal]
    refine ⟨[], ?_⟩
    simp [go_sem, ↓IntWalk.iteOmega, IntWalk.iteOmega, IntWalk.toNatUp]
set_option maxRecDepth 100000 in
set_option maxHeartbeats 4000000 in
theorem at_any (l : List (Int × Int)) (x : Int) (hl : l.length ≤ 1000000) (hx : x ≤ 9223372036854775807) (v : Int) (hv : atV l x = v) : FnOk Try.prog 24 [.t (encPs l), .t (.int x)] [] (.t (.int v)) [] := by
  unfold atV at hv
  by_cases h : Pc.valid l = true
  · have hvd := Pc.valid_iff.1 h
    have hlen := hvd.len
    by_cases h0 : 0 ≤ x
    · rw [if_pos ⟨h, h0⟩] at hv
      refine FnOk.intro fact_mixed Try.func24 rfl Try.ntmps24 (by rfl) (by simp) ?_
      repeat (first | (refine nf1_sound rfl ?_; simp [go_sem, ↓IntWalk.iteOmega, IntWalk.iteOmega, IntWalk.toNatUp]; (repeat (refine And.intro (by omega) ?_)); try (refine ⟨DrawChk_of (by kernel_rfl), ?_⟩)) | (refine itePos (by omega) ?_; try simp [go_sem, ↓IntWalk.iteOmega, IntWalk.iteOmega, IntWalk.toNatUp]) | (refine iteNeg (by omega) ?_; try simp [go_sem, ↓IntWalk.iteOmega, IntWalk.iteOmega, IntWalk.toNatUp]) | (refine ⟨DrawChk_of (by kernel_rfl), ?_⟩))
      refine CallK.fn (valid_fn' l hl true h) [] [] [] (by kernel_rfl) (by simp [go_sem, ↓IntWalk.iteOmega, IntWalk.iteOmega, IntWalk.toNatUp]) (by simp [go_sem, ↓IntWalk.iteOmega, IntWalk.iteOmega, IntWalk.toNatUp]) (by simp [go_sem, ↓IntWalk.iteOmega, IntWalk.iteOmega, IntWalk.toNatUp]) (Or.inl rfl) ?_
      simp [go_sem, ↓IntWalk.iteOmega, IntWalk.iteOmega, IntWalk.toNatUp]
      repeat (refine And.intro (by omega) ?_)
      try (refine ⟨DrawChk_of (by kernel_rfl), ?_⟩)
      repeat (first | (refine nf1_sound rfl ?_; simp [go_sem, ↓IntWalk.iteOmega, IntWalk.iteOmega, IntWalk.toNatUp]; (repeat (refine And.intro (by omega) ?_)); try (refine ⟨DrawChk_of (by kernel_rfl), ?_⟩)) | (refine itePos (by omega) ?_; try simp [go_sem, ↓IntWalk.iteOmega, IntWalk.iteOmega, IntWalk.toNatUp]) | (refine iteNeg (by omega) ?_; try simp [go_sem, ↓IntWalk.iteOmega, IntWalk.iteOmega, IntWalk.toNatUp]) | (refine ⟨DrawChk_of (by kernel_rfl), ?_⟩))
      refine nf1_sound' _ _ _ ?_; simp only [nf1]
      refine CW.loop (ι := Nat × Int) (fun j => ⟨[(1, .t (.int j.2)), (14, .t (encPs l)), (15, .t (.int l.length)), (16, .t (.int j.1))], []⟩) (fun j => j.1 ≤ l.length ∧ 0 ≤ j.2 ∧ j.2 ≤ x ∧ Pc.atIn (l.drop j.1) j.2 = v) (fun j => l.length - j.1) (0, x) [] ⟨by simp, h0, by simp, by simpa using hv⟩ ?_ ?_
      · simp [go_sem, ↓IntWalk.iteOmega, IntWalk.iteOmega, IntWalk.toNatUp]
      rintro ⟨k, z⟩ ⟨hk, hz0, hz, he⟩
      simp only at *
      by_cases hb : k < l.length
      · obtain ⟨p, hp⟩ := has_get hb
        have hpv := hvd.sane.each p (mem_get hp)
        rw [drop_get hp] at he
        rw [at_cons] at he
        by_cases hlt : z < p.2
        · rw [if_pos hlt] at he
          repeat (first | (refine nf1_sound rfl ?_; simp [go_sem, ↓IntWalk.iteOmega, IntWalk.iteOmega, IntWalk.toNatUp, hp]; (repeat (refine And.intro (by omega) ?_)); try (refine ⟨DrawChk_of (by kernel_rfl), ?_⟩)) | (refine itePos (by omega) ?_; try simp [go_sem, ↓IntWalk.iteOmega, IntWalk.iteOmega, IntWalk.toNatUp, hp]) | (refine iteNeg (by omega) ?_; try simp [go_sem, ↓IntWalk.iteOmega, IntWalk.iteOmega, IntWalk.toNatUp, hp]) | (refine ⟨DrawChk_of (by kernel_rfl), ?_⟩))
          first | rw [RetQ_ret] | rw [RetQ_normal]
          refine ⟨[], ?_⟩
          simp [go_sem, ↓IntWalk.iteOmega, IntWalk.iteOmega, IntWalk.toNatUp, ← he]
        · rw [if_neg hlt] at he
          repeat (first | (refine nf1_sound rfl ?_; simp [go_sem, ↓IntWalk.iteOmega, IntWalk.iteOmega, IntWalk.toNatUp, hp]; (repeat (refine And.intro (by omega) ?_)); try (refine ⟨DrawChk_of (by kernel_rfl), ?_⟩)) | (refine itePos (by omega) ?_; try simp [go_sem, ↓IntWalk.iteOmega, IntWalk.iteOmega, IntWalk.toNatUp, hp]) | (refine iteNeg (by omega) ?_; try simp [go_sem, ↓IntWalk.iteOmega, IntWalk.iteOmega, IntWalk.toNatUp, hp]) | (refine ⟨DrawChk_of (by kernel_rfl), ?_⟩))
          rw [RoundQ_normal]; refine ⟨(k + 1, z - p.2), [], ?_, ?_, ?_⟩
          · exact ⟨by omega, by omega, by omega, he⟩
          · omega
          simp [go_sem, ↓IntWalk.iteOmega, IntWalk.iteOmega, IntWalk.toNatUp]
      · obtain rfl : k = l.length := by omega
        rw [List.drop_length] at he
        rw [at_nil] at he
        repeat (first | (refine nf1_sound rfl ?_; simp [go_sem, ↓IntWalk.iteOmega, IntWalk.iteOmega, IntWalk.toNatUp]; (repeat (refine And.intro (by omega) ?_)); try (refine ⟨DrawChk_of (by kernel_rfl), ?_⟩)) | (refine itePos (by omega) ?_; try simp [go_sem, ↓IntWalk.iteOmega, IntWalk.iteOmega, IntWalk.toNatUp]) | (refine iteNeg (by omega) ?_; try simp [go_sem, ↓IntWalk.iteOmega, IntWalk.iteOmega, IntWalk.toNatUp]) | (refine ⟨DrawChk_of (by kernel_rfl), ?_⟩))
        first | rw [RetQ_ret] | rw [RetQ_normal]
        refine ⟨[], ?_⟩
        simp [go_sem, ↓IntWalk.iteOmega, IntWalk.iteOmega, IntWalk.toNatUp, ← he]
    · rw [if_neg (fun h => h0 h.2)] at hv
      subst hv
      refine FnOk.intro fact_mixed Try.func24 rfl Try.ntmps24 (by rfl) (by simp) ?_
      repeat (first | (refine nf1_sound rfl ?_; simp [go_sem, ↓IntWalk.iteOmega, IntWalk.iteOmega, IntWalk.toNatUp]; (repeat (refine And.intro (by omega) ?_)); try (refine ⟨DrawChk_of (by kernel_rfl), ?_⟩)) | (refine itePos (by omega) ?_; try simp [go_sem, ↓IntWalk.iteOmega, IntWalk.iteOmega, IntWalk.toNatUp]) | (refine iteNeg (by omega) ?_; try simp [go_sem, ↓IntWalk.iteOmega, IntWalk.iteOmega, IntWalk.toNatUp]) | (refine ⟨DrawChk_of (by kernel_rfl), ?_⟩))
      refine CallK.fn (valid_fn' l hl true h) [] [] [] (by kernel_rfl) (by simp [go_sem, ↓IntWalk.iteOmega, IntWalk.iteOmega, IntWalk.toNatUp]) (by simp [go_sem, ↓IntWalk.iteOmega, IntWalk.iteOmega, IntWalk.toNatUp]) (by simp [go_sem, ↓IntWalk.iteOmega, IntWalk.iteOmega, IntWalk.toNatUp]) (Or.inl rfl) ?_
      simp [go_sem, ↓IntWalk.iteOmega, IntWalk.iteOmega, IntWalk.toNatUp]
      repeat (refine And.intro (by omega) ?_)
      try (refine ⟨DrawChk_of (by kernel_rfl), ?_⟩)
      repeat (first | (refine nf1_sound rfl ?_; simp [go_sem, ↓IntWalk.iteOmega, IntWalk.iteOmega, IntWalk.toNatUp]; (repeat (refine And.intro (by omega) ?_)); try (refine ⟨DrawChk_of (by kernel_rfl), ?_⟩)) | (refine itePos (by omega) ?_; try simp [go_sem, ↓IntWalk.iteOmega, IntWalk.iteOmega, IntWalk.toNatUp]) | (refine iteNeg (by omega) ?_; try simp [go_sem, ↓IntWalk.iteOmega, IntWalk.iteOmega, IntWalk.toNatUp]) | (refine ⟨DrawChk_of (by kernel_rfl), ?_⟩))
      first | rw [RetQ_ret] | rw [RetQ_normal]
      refine ⟨[], ?_⟩
      simp [go_sem, ↓IntWalk.iteOmega, IntWalk.iteOmega, IntWalk.toNatUp]
  · rw [if_neg (fun hh => h hh.1)] at hv
    subst hv
    refine FnOk.intro fact_mixed Try.func24 rfl Try.ntmps24 (by rfl) (by simp) ?_
    repeat (first | (refine nf1_sound rfl ?_; simp [go_sem, ↓IntWalk.iteOmega, IntWalk.iteOmega, IntWalk.toNatUp]; (repeat (refine And.intro (by omega) ?_)); try (refine ⟨DrawChk_of (by kernel_rfl), ?_⟩)) | (refine itePos (by omega) ?_; try simp [go_sem, ↓IntWalk.iteOmega, IntWalk.iteOmega, IntWalk.toNatUp]) | (refine iteNeg (by omega) ?_; try simp [go_sem, ↓IntWalk.iteOmega, IntWalk.iteOmega, IntWalk.toNatUp]) | (refine ⟨DrawChk_of (by kernel_rfl), ?_⟩))
    refine CallK.fn (valid_fn' l hl false (nvalid h)) [] [] [] (by kernel_rfl) (by simp [go_sem, ↓IntWalk.iteOmega, IntWalk.iteOmega, IntWalk.toNatUp]) (by simp [go_sem, ↓IntWalk.iteOmega, IntWalk.iteOmega, IntWalk.toNatUp]) (by simp [go_sem, ↓IntWalk.iteOmega, IntWalk.iteOmega, IntWalk.toNatUp]) (Or.inl rfl) ?_
    simp [go_sem, ↓IntWalk.iteOmega, IntWalk.iteOmega, IntWalk.toNatUp]
    repeat (refine And.intro (by omega) ?_)
    try (refine ⟨DrawChk_of (by kernel_rfl), ?_⟩)
    repeat (first | (refine nf1_sound rfl ?_; simp [go_sem, ↓IntWalk.iteOmega, IntWalk.iteOmega, IntWalk.toNatUp]; (repeat (refine And.intro (by omega) ?_)); try (refine ⟨DrawChk_of (by kernel_rfl), ?_⟩)) | (refine itePos (by omega) ?_; try simp [go_sem, ↓IntWalk.iteOmega, IntWalk.iteOmega, IntWalk.toNatUp]) | (refine iteNeg (by omega) ?_; try simp [go_sem, ↓IntWalk.iteOmega, IntWalk.iteOmega, IntWalk.toNatUp]) | (refine ⟨DrawChk_of (by kernel_rfl), ?_⟩))
    first | rw [RetQ_ret] | rw [RetQ_normal]
    refine ⟨[], ?_⟩
    simp [go_sem, ↓IntWalk.iteOmega, IntWalk.iteOmega, IntWalk.toNatUp]
set_option maxRecDepth 100000 in
set_option maxHeartbeats 4000000 in
theorem rat_fn (l : List (Int × Int)) (x : Int) (hl : l.length ≤ 1000000) (hx : x ≤ 9223372036854775807) (v : Int) (hv : atV l x = v) : FnOk Try.prog 29 [.t (encPs l), .t (.int x)] [] (.t (.int v)) [] := by
  unfold atV at hv
  by_cases h : Pc.valid l = true
  · have hvd := Pc.valid_iff.1 h
    have hlen := hvd.len
    by_cases h0 : 0 ≤ x
    · rw [if_pos ⟨h, h0⟩] at hv
      refine FnOk.intro fact_mixed Try.func29 rfl Try.ntmps29 (by rfl) (by simp) ?_
      repeat (first | (refine nf1_sound rfl ?_; simp [go_sem, ↓IntWalk.iteOmega, IntWalk.iteOmega, IntWalk.toNatUp]; (repeat (refine And.intro (by omega) ?_)); try (refine ⟨DrawChk_of (by kernel_rfl), ?_⟩)) | (refine itePos (by omega) ?_; try simp [go_sem, ↓IntWalk.iteOmega, IntWalk.iteOmega, IntWalk.toNatUp]) | (refine iteNeg (by omega) ?_; try simp [go_sem, ↓IntWalk.iteOmega, IntWalk.iteOmega, IntWalk.toNatUp]) | (refine ⟨DrawChk_of (by kernel_rfl), ?_⟩))
      refine CallK.fn (rvalid_fn l hl true h) [] [] [] (by kernel_rfl) (by simp [go_sem, ↓IntWalk.iteOmega, IntWalk.iteOmega, IntWalk.toNatUp]) (by simp [go_sem, ↓IntWalk.iteOmega, IntWalk.iteOmega, IntWalk.toNatUp]) (by simp [go_sem, ↓IntWalk.iteOmega, IntWalk.iteOmega, IntWalk.toNatUp]) (Or.inl rfl) ?_
      simp [go_sem, ↓IntWalk.iteOmega, IntWalk.iteOmega, IntWalk.toNatUp]
      repeat (refine And.intro (by omega) ?_)
      try (refine ⟨DrawChk_of (by kernel_rfl), ?_⟩)
      repeat (first | (refine nf1_sound rfl ?_; simp [go_sem, ↓IntWalk.iteOmega, IntWalk.iteOmega, IntWalk.toNatUp]; (repeat (refine And.intro (by omega) ?_)); try (refine ⟨DrawChk_of (by kernel_rfl), ?_⟩)) | (refine itePos (by omega) ?_; try simp [go_sem, ↓IntWalk.iteOmega, IntWalk.iteOmega, IntWalk.toNatUp]) | (refine iteNeg (by omega) ?_; try simp [go_sem, ↓IntWalk.iteOmega, IntWalk.iteOmega, IntWalk.toNatUp]) | (refine ⟨DrawChk_of (by kernel_rfl), ?_⟩))
      refine nf1_sound' _ _ _ ?_; simp only [nf1]
      refine CW.loop (ι := Nat × Int) (fun j => ⟨[(1, .t (.int j.2)), (14, .t (encPs l)), (15, .t (.int l.length)), (16, .t (.int j.1))], []⟩) (fun j => j.1 ≤ l.length ∧ 0 ≤ j.2 ∧ j.2 ≤ x ∧ Pc.atIn (l.drop j.1) j.2 = v) (fun j => l.length - j.1) (0, x) [] ⟨by simp, h0, by simp, by simpa using hv⟩ ?_ ?_
      · simp [go_sem, ↓IntWalk.iteOmega, IntWalk.iteOmega, IntWalk.toNatUp]
      rintro ⟨k, z⟩ ⟨hk, hz0, hz, he⟩
      simp only at *
      by_cases hb : k < l.length
      · obtain ⟨p, hp⟩ := has_get hb
        have hpv := hvd.sane.each p (mem_get hp)
        rw [drop_get hp] at he
        rw [at_cons] at he
        by_cases hlt : z < p.2
        · rw [if_pos hlt] at he
          repeat (first | (refine nf1_sound rfl ?_; simp [go_sem, ↓IntWalk.iteOmega, IntWalk.iteOmega, IntWalk.toNatUp, hp]; (repeat (refine And.intro (by omega) ?_)); try (refine ⟨DrawChk_of (by kernel_rfl), ?_⟩)) | (refine itePos (by omega) ?_; try simp [go_sem, ↓IntWalk.iteOmega, IntWalk.iteOmega, IntWalk.toNatUp, hp]) | (refine iteNeg (by omega) ?_; try simp [go_sem, ↓IntWalk.iteOmega, IntWalk.iteOmega, IntWalk.toNatUp, hp]) | (refine ⟨DrawChk_of (by kernel_rfl), ?_⟩))
          first | rw [RetQ_ret] | rw [RetQ_normal]
          refine ⟨[], ?_⟩
          simp [go_sem, ↓IntWalk.iteOmega, IntWalk.iteOmega, IntWalk.toNatUp, ← he]
        · rw [if_neg hlt] at he
          repeat (first | (refine nf1_sound rfl ?_; simp [go_sem, ↓IntWalk.iteOmega, IntWalk.iteOmega, IntWalk.toNatUp, hp]; (repeat (refine And.intro (by omega) ?_)); try (refine ⟨DrawChk_of (by kernel_rfl), ?_⟩)) | (refine itePos (by omega) ?_; try simp [go_sem, ↓IntWalk.iteOmega, IntWalk.iteOmega, IntWalk.toNatUp, hp]) | (refine iteNeg (by omega) ?_; try simp [go_sem, ↓IntWalk.iteOmega, IntWalk.iteOmega, IntWalk.toNatUp, hp]) | (refine ⟨DrawChk_of (by kernel_rfl), ?_⟩))
          rw [RoundQ_normal]; refine ⟨(k + 1, z - p.2), [], ?_, ?_, ?_⟩
          · exact ⟨by omega, by omega, by omega, he⟩
          · omega
          simp [go_sem, ↓IntWalk.iteOmega, IntWalk.iteOmega, IntWalk.toNatUp]
      · obtain rfl : k = l.length := by omega
        rw [List.drop_length] at he
        rw [at_nil] at he
        repeat (first | (refine nf1_sound rfl ?_; simp [go_sem, ↓IntWalk.iteOmega, IntWalk.iteOmega, IntWalk.toNatUp]; (repeat (refine And.intro (by omega) ?_)); try (refine ⟨DrawChk_of (by kernel_rfl), ?_⟩)) | (refine itePos (by omega) ?_; try simp [go_sem, ↓IntWalk.iteOmega, IntWalk.iteOmega, IntWalk.toNatUp]) | (refine iteNeg (by omega) ?_; try simp [go_sem, ↓IntWalk.iteOmega, IntWalk.iteOmega, IntWalk.toNatUp]) | (refine ⟨DrawChk_of (by kernel_rfl), ?_⟩))
        first | rw [RetQ_ret] | rw [RetQ_normal]
        refine ⟨[], ?_⟩
        simp [go_sem, ↓IntWalk.iteOmega, IntWalk.iteOmega, IntWalk.toNatUp, ← he]
    · rw [if_neg (fun h => h0 h.2)] at hv
      subst hv
      refine FnOk.intro fact_mixed Try.func29 rfl Try.ntmps29 (by rfl) (by simp) ?_
      repeat (first | (refine nf1_sound rfl ?_; simp [go_sem, ↓IntWalk.iteOmega, IntWalk.iteOmega, IntWalk.toNatUp]; (repeat (refine And.intro (by omega) ?_)); try (refine ⟨DrawChk_of (by kernel_rfl), ?_⟩)) | (refine itePos (by omega) ?_; try simp [go_sem, ↓IntWalk.iteOmega, IntWalk.iteOmega, IntWalk.toNatUp]) | (refine iteNeg (by omega) ?_; try simp [go_sem, ↓IntWalk.iteOmega, IntWalk.iteOmega, IntWalk.toNatUp]) | (refine ⟨DrawChk_of (by kernel_rfl), ?_⟩))
      refine CallK.fn (rvalid_fn l hl true h) [] [] [] (by kernel_rfl) (by simp [go_sem, ↓IntWalk.iteOmega, IntWalk.iteOmega, IntWalk.toNatUp]) (by simp [go_sem, ↓IntWalk.iteOmega, IntWalk.iteOmega, IntWalk.toNatUp]) (by simp [go_sem, ↓IntWalk.iteOmega, IntWalk.iteOmega, IntWalk.toNatUp]) (Or.inl rfl) ?_
      simp [go_sem, ↓IntWalk.iteOmega, IntWalk.iteOmega, IntWalk.toNatUp]
      repeat (refine And.intro (by omega) ?_)
      try (refine ⟨DrawChk_of (by kernel_rfl), ?_⟩)
      repeat (first | (refine nf1_sound rfl ?_; simp [go_sem, ↓IntWalk.iteOmega, IntWalk.iteOmega, IntWalk.toNatUp]; (repeat (refine And.intro (by omega) ?_)); try (refine ⟨DrawChk_of (by kernel_rfl), ?_⟩)) | (refine itePos (by omega) ?_; try simp [go_sem, ↓IntWalk.iteOmega, IntWalk.iteOmega, IntWalk.toNatUp]) | (refine iteNeg (by omega) ?_; try simp [go_sem, ↓IntWalk.iteOmega, IntWalk.iteOmega, IntWalk.toNatUp]) | (refine ⟨DrawChk_of (by kernel_rfl), ?_⟩))
      first | rw [RetQ_ret] | rw [RetQ_normal]
      refine ⟨[], ?_⟩
      simp [go_sem, ↓IntWalk.iteOmega, IntWalk.iteOmega, IntWalk.toNatUp]
  · rw [if_neg (fun hh => h hh.1)] at hv
    subst hv
    refine FnOk.intro fact_mixed Try.func29 rfl Try.ntmps29 (by rfl) (by simp) ?_
    repeat (first | (refine nf1_sound rfl ?_; simp [go_sem, ↓IntWalk.iteOmega, IntWalk.iteOmega, IntWalk.toNatUp]; (repeat (refine And.intro (by omega) ?_)); try (refine ⟨DrawChk_of (by kernel_rfl), ?_⟩)) | (refine itePos (by omega) ?_; try simp [go_sem, ↓IntWalk.iteOmega, IntWalk.iteOmega, IntWalk.toNatUp]) | (refine iteNeg (by omega) ?_; try simp [go_sem, ↓IntWalk.iteOmega, IntWalk.iteOmega, IntWalk.toNatUp]) | (refine ⟨DrawChk_of (by kernel_rfl), ?_⟩))
    refine CallK.fn (rvalid_fn l hl false (nvalid h)) [] [] [] (by kernel_rfl) (by simp [go_sem, ↓IntWalk.iteOmega, IntWalk.iteOmega, IntWalk.toNatUp]) (by simp [go_sem, ↓IntWalk.iteOmega, IntWalk.iteOmega, IntWalk.toNatUp]) (by simp [go_sem, ↓IntWalk.iteOmega, IntWalk.iteOmega, IntWalk.toNatUp]) (Or.inl rfl) ?_
    simp [go_sem, ↓IntWalk.iteOmega, IntWalk.iteOmega, IntWalk.toNatUp]
    repeat (refine And.intro (by omega) ?_)
    try (refine ⟨DrawChk_of (by kernel_rfl), ?_⟩)
    repeat (first | (refine nf1_sound rfl ?_; simp [go_sem, ↓IntWalk.iteOmega, IntWalk.iteOmega, IntWalk.toNatUp]; (repeat (refine And.intro (by omega) ?_)); try (refine ⟨DrawChk_of (by kernel_rfl), ?_⟩)) | (refine itePos (by omega) ?_; try simp [go_sem, ↓IntWalk.iteOmega, IntWalk.iteOmega, IntWalk.toNatUp]) | (refine iteNeg (by omega) ?_; try simp [go_sem, ↓IntWalk.iteOmega, IntWalk.iteOmega, IntWalk.toNatUp]) | (refine ⟨DrawChk_of (by kernel_rfl), ?_⟩))
    first | rw [RetQ_ret] | rw [RetQ_normal]
    refine ⟨[], ?_⟩
    simp [go_sem, ↓IntWalk.iteOmega, IntWalk.iteOmega, IntWalk.toNatUp]
set_option maxRecDepth 100000 in
set_option maxHeartbeats 4000000 in
theorem rshift_fn (f g : List (Int × Int)) (back : Bool) (hf : Pc.Vd f) (hg : Pc.Vd g) (x y : List (Int × Int)) (hxy : Pc.shift f g back = (x, y)) : FnOk Try.prog 45 [.t (encPs f), .t (encPs g), .t (.bool back)] []
    (.tup [.own 1000, .own 1001]) [(1000, blkP x), (1001, blkP y)] := by
  have hvf := hf.sane.vol
  have hvg := hg.sane.vol
  have hlf := hf.len
  have hlg := hg.len
  have s1 := sane_app hf hg
  have s2 := sane_app hg hf
  cases back with
  | true =>
    have hsh : Pc.shift f g true = (Pc.join (Pc.tails (f ++ g) (Pc.vol g)), Pc.join (Pc.heads (f ++ g) (Pc.vol g))) := rfl
    rw [hsh] at hxy
    obtain ⟨rfl, rfl⟩ := Prod.mk.inj hxy
    have c1 := sum_fn g hg.sane
    have c2 := split_fn (f ++ g) (Pc.vol g) s1 hvg.1 (by omega)
    refine FnOk.intro fact_mixed Try.func45 rfl Try.ntmps45 (by rfl) (by simp) ?_
    repeat (first | (refine nf1_sound rfl ?_; simp [go_sem, ↓IntWalk.iteOmega, IntWalk.iteOmega, IntWalk.toNatUp]; (repeat (refine And.intro (by omega) ?_)); try (refine ⟨DrawChk_of (by kernel_rfl), ?_⟩)) | (refine itePos (by omega) ?_; try simp [go_sem, ↓IntWalk.iteOmega, IntWalk.iteOmega, IntWalk.toNatUp]) | (refine iteNeg (by omega) ?_; try simp [go_sem, ↓IntWalk.iteOmega, IntWalk.iteOmega, IntWalk.toNatUp]) | (refine ⟨DrawChk_of (by kernel_rfl), ?_⟩))
    refine CallK.fn (c1) [] [] [] (by kernel_rfl) (by simp [go_sem, ↓IntWalk.iteOmega, IntWalk.iteOmega, IntWalk.toNatUp]) (by simp [go_sem, ↓IntWalk.iteOmega, IntWalk.iteOmega, IntWalk.toNatUp]) (by simp [go_sem, ↓IntWalk.iteOmega, IntWalk.iteOmega, IntWalk.toNatUp]) (Or.inl rfl) ?_
    simp [go_sem, ↓IntWalk.iteOmega, IntWalk.iteOmega, IntWalk.toNatUp]
    repeat (refine And.intro (by omega) ?_)
    try (refine ⟨DrawChk_of (by kernel_rfl), ?_⟩)
    refine CallK.fn (c2) [(1000, 600), (1001, 601)] [116] [] (by kernel_rfl) (by simp [go_sem, ↓IntWalk.iteOmega, IntWalk.iteOmega, IntWalk.toNatUp]) (by simp [go_sem, ↓IntWalk.iteOmega, IntWalk.iteOmega, IntWalk.toNatUp]) (by simp [go_sem, ↓IntWalk.iteOmega, IntWalk.iteOmega, IntWalk.toNatUp]) (Or.inr ⟨by simp [go_sem, ↓IntWalk.iteOmega, IntWalk.iteOmega, IntWalk.toNatUp], by simp [go_sem, ↓IntWalk.iteOmega, IntWalk.iteOmega, IntWalk.toNatUp]⟩) ?_
    simp [go_sem, ↓IntWalk.iteOmega, IntWalk.iteOmega, IntWalk.toNatUp]
    repeat (refine And.intro (by omega) ?_)
    try (refine ⟨DrawChk_of (by kernel_rfl), ?_⟩)
    repeat (first | (refine nf1_sound rfl ?_; simp [go_sem, ↓IntWalk.iteOmega, IntWalk.iteOmega, IntWalk.toNatUp]; (repeat (refine And.intro (by omega) ?_)); try (refine ⟨DrawChk_of (by kernel_rfl), ?_⟩)) | (refine itePos (by omega) ?_; try simp [go_sem, ↓IntWalk.iteOmega, IntWalk.iteOmega, IntWalk.toNatUp]) | (refine iteNeg (by omega) ?_; try simp [go_sem, ↓IntWalk.iteOmega, IntWalk.iteOmega, IntWalk.toNatUp]) | (refine ⟨DrawChk_of (by kernel_rfl), ?_⟩))
    first | rw [RetQ_ret] | rw [RetQ_normal]
    refine ⟨[(1000, some 601), (1001, some 600)], ?_⟩
    simp [go_sem, ↓IntWalk.iteOmega, IntWalk.iteOmega, IntWalk.toNatUp]
  | false =>
    have hsh : Pc.shift f g false = (Pc.join (Pc.heads (g ++ f) (Pc.vol f)), Pc.join (Pc.tails (g ++ f) (Pc.vol f))) := rfl
    rw [hsh] at hxy
    obtain ⟨rfl, rfl⟩ := Prod.mk.inj hxy
    have c1 := sum_fn f hf.sane
    have c2 := split_fn (g ++ f) (Pc.vol f) s2 hvf.1 (by omega)
    refine FnOk.intro fact_mixed Try.func45 rfl Try.ntmps45 (by rfl) (by simp) ?_
    repeat (first | (refine nf1_sound rfl ?_; simp [go_sem, ↓IntWalk.iteOmega, IntWalk.iteOmega, IntWalk.toNatUp]; (repeat (refine And.intro (by omega) ?_)); try (refine ⟨DrawChk_of (by kernel_rfl), ?_⟩)) | (refine itePos (by omega) ?_; try simp [go_sem, ↓IntWalk.iteOmega, IntWalk.iteOmega, IntWalk.toNatUp]) | (refine iteNeg (by omega) ?_; try simp [go_sem, ↓IntWalk.iteOmega, IntWalk.iteOmega, IntWalk.toNatUp]) | (refine ⟨DrawChk_of (by kernel_rfl), ?_⟩))
    refine CallK.fn (c1) [] [] [] (by kernel_rfl) (by simp [go_sem, ↓IntWalk.iteOmega, IntWalk.iteOmega, IntWalk.toNatUp]) (by simp [go_sem, ↓IntWalk.iteOmega, IntWalk.iteOmega, IntWalk.toNatUp]) (by simp [go_sem, ↓IntWalk.iteOmega, IntWalk.iteOmega, IntWalk.toNatUp]) (Or.inl rfl) ?_
    simp [go_sem, ↓IntWalk.iteOmega, IntWalk.iteOmega, IntWalk.toNatUp]
    repeat (refine And.intro (by omega) ?_)
    try (refine ⟨DrawChk_of (by kernel_rfl), ?_⟩)
    refine CallK.fn (c2) [(1000, 600), (1001, 601)] [128] [] (by kernel_rfl) (by simp [go_sem, ↓IntWalk.iteOmega, IntWalk.iteOmega, IntWalk.toNatUp]) (by simp [go_sem, ↓IntWalk.iteOmega, IntWalk.iteOmega, IntWalk.toNatUp]) (by simp [go_sem, ↓IntWalk.iteOmega, IntWalk.iteOmega, IntWalk.toNatUp]) (Or.inr ⟨by simp [go_sem, ↓IntWalk.iteOmega, IntWalk.iteOmega, IntWalk.toNatUp], by simp [go_sem, ↓IntWalk.iteOmega, IntWalk.iteOmega, IntWalk.toNatUp]⟩) ?_
    simp [go_sem, ↓IntWalk.iteOmega, IntWalk.iteOmega, IntWalk.toNatUp]
    repeat (refine And.intro (by omega) ?_)
    try (refine ⟨DrawChk_of (by kernel_rfl), ?_⟩)
    repeat (first | (refine nf1_sound rfl ?_; simp [go_sem, ↓IntWalk.iteOmega, IntWalk.iteOmega, IntWalk.toNatUp]; (repeat (refine And.intro (by omega) ?_)); try (refine ⟨DrawChk_of (by kernel_rfl), ?_⟩)) | (refine itePos (by omega) ?_; try simp [go_sem, ↓IntWalk.iteOmega, IntWalk.iteOmega, IntWalk.toNatUp]) | (refine iteNeg (by omega) ?_; try simp [go_sem, ↓IntWalk.iteOmega, IntWalk.iteOmega, IntWalk.toNatUp]) | (refine ⟨DrawChk_of (by kernel_rfl), ?_⟩))
    first | rw [RetQ_ret] | rw [RetQ_normal]
    refine ⟨[(1000, some 600), (1001, some 601)], ?_⟩
    simp [go_sem, ↓IntWalk.iteOmega, IntWalk.iteOmega, IntWalk.toNatUp]
set_option maxRecDepth 100000 in
set_option maxHeartbeats 4000000 in
theorem rpush_fn (f g : List (Int × Int)) (back : Bool) (hf : f.length ≤ 1000000) (hg : g.length ≤ 1000000) (x y : List (Int × Int)) (e : Int) (hr : Pc.push f g back = (x, y, e)) : FnOk Try.prog 31 [.t (encPs f), .t (encPs g), .t (.bool back)] []
    (.tup [.own 1000, .own 1001, .t (.int e)]) [(1000, blkP x), (1001, blkP y)] := by
  by_cases vf : Pc.valid f = true
  · by_cases vg : Pc.valid g = true
    · obtain ⟨u, v, hsh⟩ : ∃ u v, Pc.shift f g back = (u, v) := ⟨_, _, rfl⟩
      have cs := rshift_fn f g back (Pc.valid_iff.1 vf) (Pc.valid_iff.1 vg) u v hsh
      by_cases hA : u.length ≤ 200
      · by_cases hB : v.length ≤ 200
        · rw [push_ok vf vg (by rw [hsh]; exact ⟨hA, hB⟩), hsh] at hr
          simp only [Prod.mk.injEq] at hr
          obtain ⟨rfl, rfl, rfl⟩ := hr
          refine FnOk.intro fact_mixed Try.func31 rfl Try.ntmps31 (by rfl) (by simp) ?_
          repeat (first | (refine nf1_sound rfl ?_; simp [go_sem, ↓IntWalk.iteOmega, IntWalk.iteOmega, IntWalk.toNatUp]; (repeat (refine And.intro (by omega) ?_)); try (refine ⟨DrawChk_of (by kernel_rfl), ?_⟩)) | (refine itePos (by omega) ?_; try simp [go_sem, ↓IntWalk.iteOmega, IntWalk.iteOmega, IntWalk.toNatUp]) | (refine iteNeg (by omega) ?_; try simp [go_sem, ↓IntWalk.iteOmega, IntWalk.iteOmega, IntWalk.toNatUp]) | (refine ⟨DrawChk_of (by kernel_rfl), ?_⟩))
          refine CallK.fn (rvalid_fn f hf true vf) [] [] [] (by kernel_rfl) (by simp [go_sem, ↓IntWalk.iteOmega, IntWalk.iteOmega, IntWalk.toNatUp]) (by simp [go_sem, ↓IntWalk.iteOmega, IntWalk.iteOmega, IntWalk.toNatUp]) (by simp [go_sem, ↓IntWalk.iteOmega, IntWalk.iteOmega, IntWalk.toNatUp]) (Or.inl rfl) ?_
          simp [go_sem, ↓IntWalk.iteOmega, IntWalk.iteOmega, IntWalk.toNatUp]
          repeat (refine And.intro (by omega) ?_)
          try (refine ⟨DrawChk_of (by kernel_rfl), ?_⟩)
          refine CallK.fn (rvalid_fn g hg true vg) [] [] [] (by kernel_rfl) (by simp [go_sem, ↓IntWalk.iteOmega, IntWalk.iteOmega, IntWalk.toNatUp]) (by simp [go_sem, ↓IntWalk.iteOmega, IntWalk.iteOmega, IntWalk.toNatUp]) (by simp [go_sem, ↓IntWalk.iteOmega, IntWalk.iteOmega, IntWalk.toNatUp]) (Or.inl rfl) ?_
          simp [go_sem, ↓IntWalk.iteOmega, IntWalk.iteOmega, IntWalk.toNatUp]
          repeat (refine And.intro (by omega) ?_)
          try (refine ⟨DrawChk_of (by kernel_rfl), ?_⟩)
          repeat (first | (refine nf1_sound rfl ?_; simp [go_sem, ↓IntWalk.iteOmega, IntWalk.iteOmega, IntWalk.toNatUp]; (repeat (refine And.intro (by omega) ?_)); try (refine ⟨DrawChk_of (by kernel_rfl), ?_⟩)) | (refine itePos (by omega) ?_; try simp [go_sem, ↓IntWalk.iteOmega, IntWalk.iteOmega, IntWalk.toNatUp]) | (refine iteNeg (by omega) ?_; try simp [go_sem, ↓IntWalk.iteOmega, IntWalk.iteOmega, IntWalk.toNatUp]) | (refine ⟨DrawChk_of (by kernel_rfl), ?_⟩))
          refine CallK.fn (cs) [(1000, 600), (1001, 601)] [] [] (by kernel_rfl) (by simp [go_sem, ↓IntWalk.iteOmega, IntWalk.iteOmega, IntWalk.toNatUp]) (by simp [go_sem, ↓IntWalk.iteOmega, IntWalk.iteOmega, IntWalk.toNatUp]) (by simp [go_sem, ↓IntWalk.iteOmega, IntWalk.iteOmega, IntWalk.toNatUp]) (Or.inl rfl) ?_
          simp [go_sem, ↓IntWalk.iteOmega, IntWalk.iteOmega, IntWalk.toNatUp]
          repeat (refine And.intro (by omega) ?_)
          try (refine ⟨DrawChk_of (by kernel_rfl), ?_⟩)
          repeat (first | (refine nf1_sound rfl ?_; simp [go_sem, ↓IntWalk.iteOmega, IntWalk.iteOmega, IntWalk.toNatUp]; (repeat (refine And.intro (by omega) ?_)); try (refine ⟨DrawChk_of (by kernel_rfl), ?_⟩)) | (refine itePos (by omega) ?_; try simp [go_sem, ↓IntWalk.iteOmega, IntWalk.iteOmega, IntWalk.toNatUp]) | (refine iteNeg (by omega) ?_; try simp [go_sem, ↓IntWalk.iteOmega, IntWalk.iteOmega, IntWalk.toNatUp]) | (refine ⟨DrawChk_of (by kernel_rfl), ?_⟩))
          first | rw [RetQ_ret] | rw [RetQ_normal]
          refine ⟨[(1000, some 600), (1001, some 601)], ?_⟩
          simp [go_sem, ↓IntWalk.iteOmega, IntWalk.iteOmega, IntWalk.toNatUp]
        · rw [push_long vf vg (by rw [hsh]; exact fun h => hB h.2)] at hr
          simp only [Prod.mk.injEq] at hr
          obtain ⟨rfl, rfl, rfl⟩ := hr
          refine FnOk.intro fact_mixed Try.func31 rfl Try.ntmps31 (by rfl) (by simp) ?_
          repeat (first | (refine nf1_sound rfl ?_; simp [go_sem, ↓IntWalk.iteOmega, IntWalk.iteOmega, IntWalk.toNatUp]; (repeat (refine And.intro (by omega) ?_)); try (refine ⟨DrawChk_of (by kernel_rfl), ?_⟩)) | (refine itePos (by omega) ?_; try simp [go_sem, ↓IntWalk.iteOmega, IntWalk.iteOmega, IntWalk.toNatUp]) | (refine iteNeg (by omega) ?_; try simp [go_sem, ↓IntWalk.iteOmega, IntWalk.iteOmega, IntWalk.toNatUp]) | (refine ⟨DrawChk_of (by kernel_rfl), ?_⟩))
          refine CallK.fn (rvalid_fn f hf true vf) [] [] [] (by kernel_rfl) (by simp [go_sem, ↓IntWalk.iteOmega, IntWalk.iteOmega, IntWalk.toNatUp]) (by simp [go_sem, ↓IntWalk.iteOmega, IntWalk.iteOmega, IntWalk.toNatUp]) (by simp [go_sem, ↓IntWalk.iteOmega, IntWalk.iteOmega, IntWalk.toNatUp]) (Or.inl rfl) ?_
          simp [go_sem, ↓IntWalk.iteOmega, IntWalk.iteOmega, IntWalk.toNatUp]
          repeat (refine And.intro (by omega) ?_)
          try (refine ⟨DrawChk_of (by kernel_rfl), ?_⟩)
          refine CallK.fn (rvalid_fn g hg true vg) [] [] [] (by kernel_rfl) (by simp [go_sem, ↓IntWalk.iteOmega, IntWalk.iteOmega, IntWalk.toNatUp]) (by simp [go_sem, ↓IntWalk.iteOmega, IntWalk.iteOmega, IntWalk.toNatUp]) (by simp [go_sem, ↓IntWalk.iteOmega, IntWalk.iteOmega, IntWalk.toNatUp]) (Or.inl rfl) ?_
          simp [go_sem, ↓IntWalk.iteOmega, IntWalk.iteOmega, IntWalk.toNatUp]
          repeat (refine And.intro (by omega) ?_)
          try (refine ⟨DrawChk_of (by kernel_rfl), ?_⟩)
          repeat (first | (refine nf1_sound rfl ?_; simp [go_sem, ↓IntWalk.iteOmega, IntWalk.iteOmega, IntWalk.toNatUp]; (repeat (refine And.intro (by omega) ?_)); try (refine ⟨DrawChk_of (by kernel_rfl), ?_⟩)) | (refine itePos (by omega) ?_; try simp [go_sem, ↓IntWalk.iteOmega, IntWalk.iteOmega, IntWalk.toNatUp]) | (refine iteNeg (by omega) ?_; try simp [go_sem, ↓IntWalk.iteOmega, IntWalk.iteOmega, IntWalk.toNatUp]) | (refine ⟨DrawChk_of (by kernel_rfl), ?_⟩))
          refine CallK.fn (cs) [(1000, 600), (1001, 601)] [] [] (by kernel_rfl) (by simp [go_sem, ↓IntWalk.iteOmega, IntWalk.iteOmega, IntWalk.toNatUp]) (by simp [go_sem, ↓IntWalk.iteOmega, IntWalk.iteOmega, IntWalk.toNatUp]) (by simp [go_sem, ↓IntWalk.iteOmega, IntWalk.iteOmega, IntWalk.toNatUp]) (Or.inl rfl) ?_
          simp [go_sem, ↓IntWalk.iteOmega, IntWalk.iteOmega, IntWalk.toNatUp]
          repeat (refine And.intro (by omega) ?_)
          try (refine ⟨DrawChk_of (by kernel_rfl), ?_⟩)
          repeat (first | (refine nf1_sound rfl ?_; simp [go_sem, ↓IntWalk.iteOmega, IntWalk.iteOmega, IntWalk.toNatUp]; (repeat (refine And.intro (by omega) ?_)); try (refine ⟨DrawChk_of (by kernel_rfl), ?_⟩)) | (refine itePos (by omega) ?_; try simp [go_sem, ↓IntWalk.iteOmega, IntWalk.iteOmega, IntWalk.toNatUp]) | (refine iteNeg (by omega) ?_; try simp [go_sem, ↓IntWalk.iteOmega, IntWalk.iteOmega, IntWalk.toNatUp]) | (refine ⟨DrawChk_of (by kernel_rfl), ?_⟩))
          first | rw [RetQ_ret] | rw [RetQ_normal]
          refine ⟨[(1000, none), (1001, none)], ?_⟩
          simp [go_sem, ↓IntWalk.iteOmega, IntWalk.iteOmega, IntWalk.toNatUp]
      · rw [push_long vf vg (by rw [hsh]; exact fun h => hA h.1)] at hr
        simp only [Prod.mk.injEq] at hr
        obtain ⟨rfl, rfl, rfl⟩ := hr
        refine FnOk.intro fact_mixed Try.func31 rfl Try.ntmps31 (by rfl) (by simp) ?_
        repeat (first | (refine nf1_sound rfl ?_; simp [go_sem, ↓IntWalk.iteOmega, IntWalk.iteOmega, IntWalk.toNatUp]; (repeat (refine And.intro (by omega) ?_)); try (refine ⟨DrawChk_of (by kernel_rfl), ?_⟩)) | (refine itePos (by omega) ?_; try simp [go_sem, ↓IntWalk.iteOmega, IntWalk.iteOmega, IntWalk.toNatUp]) | (refine iteNeg (by omega) ?_; try simp [go_sem, ↓IntWalk.iteOmega, IntWalk.iteOmega, IntWalk.toNatUp]) | (refine ⟨DrawChk_of (by kernel_rfl), ?_⟩))
        refine CallK.fn (rvalid_fn f hf true vf) [] [] [] (by kernel_rfl) (by simp [go_sem, ↓IntWalk.iteOmega, IntWalk.iteOmega, IntWalk.toNatUp]) (by simp [go_sem, ↓IntWalk.iteOmega, IntWalk.iteOmega, IntWalk.toNatUp]) (by simp [go_sem, ↓IntWalk.iteOmega, IntWalk.iteOmega, IntWalk.toNatUp]) (Or.inl rfl) ?_
        simp [go_sem, ↓IntWalk.iteOmega, IntWalk.iteOmega, IntWalk.toNatUp]
        repeat (refine And.intro (by omega) ?_)
        try (refine ⟨DrawChk_of (by kernel_rfl), ?_⟩)
        refine CallK.fn (rvalid_fn g hg true vg) [] [] [] (by kernel_rfl) (by simp [go_sem, ↓IntWalk.iteOmega, IntWalk.iteOmega, IntWalk.toNatUp]) (by simp [go_sem, ↓IntWalk.iteOmega, IntWalk.iteOmega, IntWalk.toNatUp]) (by simp [go_sem, ↓IntWalk.iteOmega, IntWalk.iteOmega, IntWalk.toNatUp]) (Or.inl rfl) ?_
        simp [go_sem, ↓IntWalk.iteOmega, IntWalk.iteOmega, IntWalk.toNatUp]
        repeat (refine And.intro (by omega) ?_)
        try (refine ⟨DrawChk_of (by kernel_rfl), ?_⟩)
        repeat (first | (refine nf1_sound rfl ?_; simp [go_sem, ↓IntWalk.iteOmega, IntWalk.iteOmega, IntWalk.toNatUp]; (repeat (refine And.intro (by omega) ?_)); try (refine ⟨DrawChk_of (by kernel_rfl), ?_⟩)) | (refine itePos (by omega) ?_; try simp [go_sem, ↓IntWalk.iteOmega, IntWalk.iteOmega, IntWalk.toNatUp]) | (refine iteNeg (by omega) ?_; try simp [go_sem, ↓IntWalk.iteOmega, IntWalk.iteOmega, IntWalk.toNatUp]) | (refine ⟨DrawChk_of (by kernel_rfl), ?_⟩))
        refine CallK.fn (cs) [(1000, 600), (1001, 601)] [] [] (by kernel_rfl) (by simp [go_sem, ↓IntWalk.iteOmega, IntWalk.iteOmega, IntWalk.toNatUp]) (by simp [go_sem, ↓IntWalk.iteOmega, IntWalk.iteOmega, IntWalk.toNatUp]) (by simp [go_sem, ↓IntWalk.iteOmega, IntWalk.iteOmega, IntWalk.toNatUp]) (Or.inl rfl) ?_
        simp [go_sem, ↓IntWalk.iteOmega, IntWalk.iteOmega, IntWalk.toNatUp]
        repeat (refine And.intro (by omega) ?_)
        try (refine ⟨DrawChk_of (by kernel_rfl), ?_⟩)
        repeat (first | (refine nf1_sound rfl ?_; simp [go_sem, ↓IntWalk.iteOmega, IntWalk.iteOmega, IntWalk.toNatUp]; (repeat (refine And.intro (by omega) ?_)); try (refine ⟨DrawChk_of (by kernel_rfl), ?_⟩)) | (refine itePos (by omega) ?_; try simp [go_sem, ↓IntWalk.iteOmega, IntWalk.iteOmega, IntWalk.toNatUp]) | (refine iteNeg (by omega) ?_; try simp [go_sem, ↓IntWalk.iteOmega, IntWalk.iteOmega, IntWalk.toNatUp]) | (refine ⟨DrawChk_of (by kernel_rfl), ?_⟩))
        first | rw [RetQ_ret] | rw [RetQ_normal]
        refine ⟨[(1000, none), (1001, none)], ?_⟩
        simp [go_sem, ↓IntWalk.iteOmega, IntWalk.iteOmega, IntWalk.toNatUp]
    · rw [push_bad (fun h => vg h.2)] at hr
      simp only [Prod.mk.injEq] at hr
      obtain ⟨rfl, rfl, rfl⟩ := hr
      refine FnOk.intro fact_mixed Try.func31 rfl Try.ntmps31 (by rfl) (by simp) ?_
      repeat (first | (refine nf1_sound rfl ?_; simp [go_sem, ↓IntWalk.iteOmega, IntWalk.iteOmega, IntWalk.toNatUp]; (repeat (refine And.intro (by omega) ?_)); try (refine ⟨DrawChk_of (by kernel_rfl), ?_⟩)) | (refine itePos (by omega) ?_; try simp [go_sem, ↓IntWalk.iteOmega, IntWalk.iteOmega, IntWalk.toNatUp]) | (refine iteNeg (by omega) ?_; try simp [go_sem, ↓IntWalk.iteOmega, IntWalk.iteOmega, IntWalk.toNatUp]) | (refine ⟨DrawChk_of (by kernel_rfl), ?_⟩))
      refine CallK.fn (rvalid_fn f hf true vf) [] [] [] (by kernel_rfl) (by simp [go_sem, ↓IntWalk.iteOmega, IntWalk.iteOmega, IntWalk.toNatUp]) (by simp [go_sem, ↓IntWalk.iteOmega, IntWalk.iteOmega, IntWalk.toNatUp]) (by simp [go_sem, ↓IntWalk.iteOmega, IntWalk.iteOmega, IntWalk.toNatUp]) (Or.inl rfl) ?_
      simp [go_sem, ↓IntWalk.iteOmega, IntWalk.iteOmega, IntWalk.toNatUp]
      repeat (refine And.intro (by omega) ?_)
      try (refine ⟨DrawChk_of (by kernel_rfl), ?_⟩)
      refine CallK.fn (rvalid_fn g hg false (nvalid vg)) [] [] [] (by kernel_rfl) (by simp [go_sem, ↓IntWalk.iteOmega, IntWalk.iteOmega, IntWalk.toNatUp]) (by simp [go_sem, ↓IntWalk.iteOmega, IntWalk.iteOmega, IntWalk.toNatUp]) (by simp [go_sem, ↓IntWalk.iteOmega, IntWalk.iteOmega, IntWalk.toNatUp]) (Or.inl rfl) ?_
      simp [go_sem, ↓IntWalk.iteOmega, IntWalk.iteOmega, IntWalk.toNatUp]
      repeat (refine And.intro (by omega) ?_)
      try (refine ⟨DrawChk_of (by kernel_rfl), ?_⟩)
      repeat (first | (refine nf1_sound rfl ?_; simp [go_sem, ↓IntWalk.iteOmega, IntWalk.iteOmega, IntWalk.toNatUp]; (repeat (refine And.intro (by omega) ?_)); try (refine ⟨DrawChk_of (by kernel_rfl), ?_⟩)) | (refine itePos (by omega) ?_; try simp [go_sem, ↓IntWalk.iteOmega, IntWalk.iteOmega, IntWalk.toNatUp]) | (refine iteNeg (by omega) ?_; try simp [go_sem, ↓IntWalk.iteOmega, IntWalk.iteOmega, IntWalk.toNatUp]) | (refine ⟨DrawChk_of (by kernel_rfl), ?_⟩))
      first | rw [RetQ_ret] | rw [RetQ_normal]
      refine ⟨[(1000, none), (1001, none)], ?_⟩
      simp [go_sem, ↓IntWalk.iteOmega, IntWalk.iteOmega, IntWalk.toNatUp]
  · rw [push_bad (fun h => vf h.1)] at hr
    simp only [Prod.mk.injEq] at hr
    obtain ⟨rfl, rfl, rfl⟩ := hr
    refine FnOk.intro fact_mixed Try.func31 rfl Try.ntmps31 (by rfl) (by simp) ?_
    repeat (first | (refine nf1_sound rfl ?_; simp [go_sem, ↓IntWalk.iteOmega, IntWalk.iteOmega, IntWalk.toNatUp]; (repeat (refine And.intro (by omega) ?_)); try (refine ⟨DrawChk_of (by kernel_rfl), ?_⟩)) | (refine itePos (by omega) ?_; try simp [go_sem, ↓IntWalk.iteOmega, IntWalk.iteOmega, IntWalk.toNatUp]) | (refine iteNeg (by omega) ?_; try simp [go_sem, ↓IntWalk.iteOmega, IntWalk.iteOmega, IntWalk.toNatUp]) | (refine ⟨DrawChk_of (by kernel_rfl), ?_⟩))
    refine CallK.fn (rvalid_fn f hf false (nvalid vf)) [] [] [] (by kernel_rfl) (by simp [go_sem, ↓IntWalk.iteOmega, IntWalk.iteOmega, IntWalk.toNatUp]) (by simp [go_sem, ↓IntWalk.iteOmega, IntWalk.iteOmega, IntWalk.toNatUp]) (by simp [go_sem, ↓IntWalk.iteOmega, IntWalk.iteOmega, IntWalk.toNatUp]) (Or.inl rfl) ?_
    simp [go_sem, ↓IntWalk.iteOmega, IntWalk.iteOmega, IntWalk.toNatUp]
    repeat (refine And.intro (by omega) ?_)
    try (refine ⟨DrawChk_of (by kernel_rfl), ?_⟩)
    repeat (first | (refine nf1_sound rfl ?_; simp [go_sem, ↓IntWalk.iteOmega, IntWalk.iteOmega, IntWalk.toNatUp]; (repeat (refine And.intro (by omega) ?_)); try (refine ⟨DrawChk_of (by kernel_rfl), ?_⟩)) | (refine itePos (by omega) ?_; try simp [go_sem, ↓IntWalk.iteOmega, IntWalk.iteOmega, IntWalk.toNatUp]) | (refine iteNeg (by omega) ?_; try simp [go_sem, ↓IntWalk.iteOmega, IntWalk.iteOmega, IntWalk.toNatUp]) | (refine ⟨DrawChk_of (by kernel_rfl), ?_⟩))
    first | rw [RetQ_ret] | rw [RetQ_normal]
    refine ⟨[(1000, none), (1001, none)], ?_⟩
    simp [go_sem, ↓IntWalk.iteOmega, IntWalk.iteOmega, IntWalk.toNatUp]
end Go.Proofs.Ytgfofmdpbabinaa
