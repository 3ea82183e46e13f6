/- telegram.Valid, Encode as contracts. No condition. -/
import Derived.Test.YtopmmodcaoaaeaaTgA
namespace Go.Proofs.Ytopmmodcaoaaeaa
open Go.RowKit Sy
open Go.IntWalk renaming iteOmega → iO, toNatUp → tN
set_option linter.unusedVariables false
set_option linter.unusedSimpArgs false
instance (t : Tg) : Decidable (TgOk t) := if h : (0 ≤ t.st ∧ t.st ≤ 255) ∧ (0 ≤ t.ep ∧ t.ep ≤ 255) ∧ (0 ≤ t.sq ∧ t.sq ≤ 2147483648) ∧ (0 ≤ t.tm ∧ t.tm ≤ 1099511627776) ∧ (0 ≤ t.kd ∧ t.kd ≤ 63) ∧ t.vs.length ≤ 16 ∧ ∀ v ∈ t.vs, okN v then isTrue ⟨h.1, h.2.1, h.2.2.1, h.2.2.2.1, h.2.2.2.2.1, h.2.2.2.2.2.1, h.2.2.2.2.2.2⟩ else isFalse fun g => h ⟨g.st, g.ep, g.sq, g.tm, g.kd, g.ln, g.vs⟩
set_option maxRecDepth 100000 in
set_option maxHeartbeats 8000000 in
theorem valid_fn (t : Tg) (hl : t.vs.length ≤ 9223372036854775807) (g : Bool) (hg : decide (TgOk t) = g) : FnOk Try.prog 55 [.t (encTg t)] [] (.t (.bool g)) [] := by
  subst hg
  obtain ⟨t1, t2, t3, t4, t5, vs⟩ := t
  dsimp only at hl
  by_cases h1 : 0 ≤ t1 ∧ t1 ≤ 255
  · have c1 := in_fn t1 255 true (decide_eq_true h1)
    by_cases h2 : 0 ≤ t2 ∧ t2 ≤ 255
    · have c2 := in_fn t2 255 true (decide_eq_true h2)
      by_cases h3 : 0 ≤ t3 ∧ t3 ≤ 2147483648
      · have c3 := in_fn t3 2147483648 true (decide_eq_true h3)
        by_cases h4 : 0 ≤ t4 ∧ t4 ≤ 1099511627776
        · have c4 := in_fn t4 1099511627776 true (decide_eq_true h4)
          by_cases h5 : 0 ≤ t5 ∧ t5 ≤ 63
          · have c5 := in_fn t5 63 true (decide_eq_true h5)
            by_cases h6 : vs.length ≤ 16
            · by_cases h7 : ∀ v ∈ vs, okN v
              · have c6 := numc_fn vs hl false (decide_eq_false (by simpa using h7))
                rw [decide_eq_true (show TgOk ⟨t1, t2, t3, t4, t5, vs⟩ from ⟨h1, h2, h3, h4, h5, h6, h7⟩)]
                refine FnOk.intro fact_mixed Try.func55 rfl Try.ntmps55 (by rfl) (by simp) ?_
                repeat (first | (refine nf1_sound rfl ?_; simp [go_sem, ↓iO, iO, tN]; (repeat (refine anI ?_)); try (refine ⟨dcK, ?_⟩)) | ((first | refine itePos (by omega) ?_ | refine iteNeg (by omega) ?_); try simp [go_sem, ↓iO, iO, tN]) | (refine ⟨dcK, ?_⟩))
                refine CallK.fn (c1) [] [] [] (by kernel_rfl) ?_ ?_ ?_ (Or.inl rfl) ?_ <;> simp [go_sem, ↓iO, iO, tN]
                repeat (refine anI ?_)
                try (refine ⟨dcK, ?_⟩)
                refine CallK.fn (c2) [] [] [] (by kernel_rfl) ?_ ?_ ?_ (Or.inl rfl) ?_ <;> simp [go_sem, ↓iO, iO, tN]
                repeat (refine anI ?_)
                try (refine ⟨dcK, ?_⟩)
                refine CallK.fn (c3) [] [] [] (by kernel_rfl) ?_ ?_ ?_ (Or.inl rfl) ?_ <;> simp [go_sem, ↓iO, iO, tN]
                repeat (refine anI ?_)
                try (refine ⟨dcK, ?_⟩)
                refine CallK.fn (c4) [] [] [] (by kernel_rfl) ?_ ?_ ?_ (Or.inl rfl) ?_ <;> simp [go_sem, ↓iO, iO, tN]
                repeat (refine anI ?_)
                try (refine ⟨dcK, ?_⟩)
                refine CallK.fn (c5) [] [] [] (by kernel_rfl) ?_ ?_ ?_ (Or.inl rfl) ?_ <;> simp [go_sem, ↓iO, iO, tN]
                repeat (refine anI ?_)
                try (refine ⟨dcK, ?_⟩)
                repeat (first | (refine nf1_sound rfl ?_; simp [go_sem, ↓iO, iO, tN]; (repeat (refine anI ?_)); try (refine ⟨dcK, ?_⟩)) | ((first | refine itePos (by omega) ?_ | refine iteNeg (by omega) ?_); try simp [go_sem, ↓iO, iO, tN]) | (refine ⟨dcK, ?_⟩))
                refine CallK.fn (c6) [] [] [] (by kernel_rfl) ?_ ?_ ?_ (Or.inl rfl) ?_ <;> simp [go_sem, ↓iO, iO, tN]
                repeat (refine anI ?_)
                try (refine ⟨dcK, ?_⟩)
                repeat (first | (refine nf1_sound rfl ?_; simp [go_sem, ↓iO, iO, tN]; (repeat (refine anI ?_)); try (refine ⟨dcK, ?_⟩)) | ((first | refine itePos (by omega) ?_ | refine iteNeg (by omega) ?_); try simp [go_sem, ↓iO, iO, tN]) | (refine ⟨dcK, ?_⟩))
                first | rw [RetQ_ret] | rw [RetQ_normal]
                refine ⟨[], ?_⟩
                simp [go_sem, ↓iO, iO, tN]
              · have c6 := numc_fn vs hl true (decide_eq_true h7)
                rw [decide_eq_false (show ¬ TgOk ⟨t1, t2, t3, t4, t5, vs⟩ from fun g => h7 g.vs)]
                refine FnOk.intro fact_mixed Try.func55 rfl Try.ntmps55 (by rfl) (by simp) ?_
                repeat (first | (refine nf1_sound rfl ?_; simp [go_sem, ↓iO, iO, tN]; (repeat (refine anI ?_)); try (refine ⟨dcK, ?_⟩)) | ((first | refine itePos (by omega) ?_ | refine iteNeg (by omega) ?_); try simp [go_sem, ↓iO, iO, tN]) | (refine ⟨dcK, ?_⟩))
                refine CallK.fn (c1) [] [] [] (by kernel_rfl) ?_ ?_ ?_ (Or.inl rfl) ?_ <;> simp [go_sem, ↓iO, iO, tN]
                repeat (refine anI ?_)
                try (refine ⟨dcK, ?_⟩)
                refine CallK.fn (c2) [] [] [] (by kernel_rfl) ?_ ?_ ?_ (Or.inl rfl) ?_ <;> simp [go_sem, ↓iO, iO, tN]
                repeat (refine anI ?_)
                try (refine ⟨dcK, ?_⟩)
                refine CallK.fn (c3) [] [] [] (by kernel_rfl) ?_ ?_ ?_ (Or.inl rfl) ?_ <;> simp [go_sem, ↓iO, iO, tN]
                repeat (refine anI ?_)
                try (refine ⟨dcK, ?_⟩)
                refine CallK.fn (c4) [] [] [] (by kernel_rfl) ?_ ?_ ?_ (Or.inl rfl) ?_ <;> simp [go_sem, ↓iO, iO, tN]
                repeat (refine anI ?_)
                try (refine ⟨dcK, ?_⟩)
                refine CallK.fn (c5) [] [] [] (by kernel_rfl) ?_ ?_ ?_ (Or.inl rfl) ?_ <;> simp [go_sem, ↓iO, iO, tN]
                repeat (refine anI ?_)
                try (refine ⟨dcK, ?_⟩)
                repeat (first | (refine nf1_sound rfl ?_; simp [go_sem, ↓iO, iO, tN]; (repeat (refine anI ?_)); try (refine ⟨dcK, ?_⟩)) | ((first | refine itePos (by omega) ?_ | refine iteNeg (by omega) ?_); try simp [go_sem, ↓iO, iO, tN]) | (refine ⟨dcK, ?_⟩))
                refine CallK.fn (c6) [] [] [] (by kernel_rfl) ?_ ?_ ?_ (Or.inl rfl) ?_ <;> simp [go_sem, ↓iO, iO, tN]
                repeat (refine anI ?_)
                try (refine ⟨dcK, ?_⟩)
                repeat (first | (refine nf1_sound rfl ?_; simp [go_sem, ↓iO, iO, tN]; (repeat (refine anI ?_)); try (refine ⟨dcK, ?_⟩)) | ((first | refine itePos (by omega) ?_ | refine iteNeg (by omega) ?_); try simp [go_sem, ↓iO, iO, tN]) | (refine ⟨dcK, ?_⟩))
                first | rw [RetQ_ret] | rw [RetQ_normal]
                refine ⟨[], ?_⟩
                simp [go_sem, ↓iO, iO, tN]
            · rw [decide_eq_false (show ¬ TgOk ⟨t1, t2, t3, t4, t5, vs⟩ from fun g => h6 g.ln)]
              refine FnOk.intro fact_mixed Try.func55 rfl Try.ntmps55 (by rfl) (by simp) ?_
              repeat (first | (refine nf1_sound rfl ?_; simp [go_sem, ↓iO, iO, tN]; (repeat (refine anI ?_)); try (refine ⟨dcK, ?_⟩)) | ((first | refine itePos (by omega) ?_ | refine iteNeg (by omega) ?_); try simp [go_sem, ↓iO, iO, tN]) | (refine ⟨dcK, ?_⟩))
              refine CallK.fn (c1) [] [] [] (by kernel_rfl) ?_ ?_ ?_ (Or.inl rfl) ?_ <;> simp [go_sem, ↓iO, iO, tN]
              repeat (refine anI ?_)
              try (refine ⟨dcK, ?_⟩)
              refine CallK.fn (c2) [] [] [] (by kernel_rfl) ?_ ?_ ?_ (Or.inl rfl) ?_ <;> simp [go_sem, ↓iO, iO, tN]
              repeat (refine anI ?_)
              try (refine ⟨dcK, ?_⟩)
              refine CallK.fn (c3) [] [] [] (by kernel_rfl) ?_ ?_ ?_ (Or.inl rfl) ?_ <;> simp [go_sem, ↓iO, iO, tN]
              repeat (refine anI ?_)
              try (refine ⟨dcK, ?_⟩)
              refine CallK.fn (c4) [] [] [] (by kernel_rfl) ?_ ?_ ?_ (Or.inl rfl) ?_ <;> simp [go_sem, ↓iO, iO, tN]
              repeat (refine anI ?_)
              try (refine ⟨dcK, ?_⟩)
              refine CallK.fn (c5) [] [] [] (by kernel_rfl) ?_ ?_ ?_ (Or.inl rfl) ?_ <;> simp [go_sem, ↓iO, iO, tN]
              repeat (refine anI ?_)
              try (refine ⟨dcK, ?_⟩)
              repeat (first | (refine nf1_sound rfl ?_; simp [go_sem, ↓iO, iO, tN]; (repeat (refine anI ?_)); try (refine ⟨dcK, ?_⟩)) | ((first | refine itePos (by omega) ?_ | refine iteNeg (by omega) ?_); try simp [go_sem, ↓iO, iO, tN]) | (refine ⟨dcK, ?_⟩))
              first | rw [RetQ_ret] | rw [RetQ_normal]
              refine ⟨[], ?_⟩
              simp [go_sem, ↓iO, iO, tN]
              try omega
          · have c5 := in_fn t5 63 false (decide_eq_false h5)
            rw [decide_eq_false (show ¬ TgOk ⟨t1, t2, t3, t4, t5, vs⟩ from fun g => h5 g.kd)]
            refine FnOk.intro fact_mixed Try.func55 rfl Try.ntmps55 (by rfl) (by simp) ?_
            repeat (first | (refine nf1_sound rfl ?_; simp [go_sem, ↓iO, iO, tN]; (repeat (refine anI ?_)); try (refine ⟨dcK, ?_⟩)) | ((first | refine itePos (by omega) ?_ | refine iteNeg (by omega) ?_); try simp [go_sem, ↓iO, iO, tN]) | (refine ⟨dcK, ?_⟩))
            refine CallK.fn (c1) [] [] [] (by kernel_rfl) ?_ ?_ ?_ (Or.inl rfl) ?_ <;> simp [go_sem, ↓iO, iO, tN]
            repeat (refine anI ?_)
            try (refine ⟨dcK, ?_⟩)
            refine CallK.fn (c2) [] [] [] (by kernel_rfl) ?_ ?_ ?_ (Or.inl rfl) ?_ <;> simp [go_sem, ↓iO, iO, tN]
            repeat (refine anI ?_)
            try (refine ⟨dcK, ?_⟩)
            refine CallK.fn (c3) [] [] [] (by kernel_rfl) ?_ ?_ ?_ (Or.inl rfl) ?_ <;> simp [go_sem, ↓iO, iO, tN]
            repeat (refine anI ?_)
            try (refine ⟨dcK, ?_⟩)
            refine CallK.fn (c4) [] [] [] (by kernel_rfl) ?_ ?_ ?_ (Or.inl rfl) ?_ <;> simp [go_sem, ↓iO, iO, tN]
            repeat (refine anI ?_)
            try (refine ⟨dcK, ?_⟩)
            refine CallK.fn (c5) [] [] [] (by kernel_rfl) ?_ ?_ ?_ (Or.inl rfl) ?_ <;> simp [go_sem, ↓iO, iO, tN]
            repeat (refine anI ?_)
            try (refine ⟨dcK, ?_⟩)
            repeat (first | (refine nf1_sound rfl ?_; simp [go_sem, ↓iO, iO, tN]; (repeat (refine anI ?_)); try (refine ⟨dcK, ?_⟩)) | ((first | refine itePos (by omega) ?_ | refine iteNeg (by omega) ?_); try simp [go_sem, ↓iO, iO, tN]) | (refine ⟨dcK, ?_⟩))
            first | rw [RetQ_ret] | rw [RetQ_normal]
            refine ⟨[], ?_⟩
            simp [go_sem, ↓iO, iO, tN]
        · have c4 := in_fn t4 1099511627776 false (decide_eq_false h4)
          rw [decide_eq_false (show ¬ TgOk ⟨t1, t2, t3, t4, t5, vs⟩ from fun g => h4 g.tm)]
          refine FnOk.intro fact_mixed Try.func55 rfl Try.ntmps55 (by rfl) (by simp) ?_
          repeat (first | (refine nf1_sound rfl ?_; simp [go_sem, ↓iO, iO, tN]; (repeat (refine anI ?_)); try (refine ⟨dcK, ?_⟩)) | ((first | refine itePos (by omega) ?_ | refine iteNeg (by omega) ?_); try simp [go_sem, ↓iO, iO, tN]) | (refine ⟨dcK, ?_⟩))
          refine CallK.fn (c1) [] [] [] (by kernel_rfl) ?_ ?_ ?_ (Or.inl rfl) ?_ <;> simp [go_sem, ↓iO, iO, tN]
          repeat (refine anI ?_)
          try (refine ⟨dcK, ?_⟩)
          refine CallK.fn (c2) [] [] [] (by kernel_rfl) ?_ ?_ ?_ (Or.inl rfl) ?_ <;> simp [go_sem, ↓iO, iO, tN]
          repeat (refine anI ?_)
          try (refine ⟨dcK, ?_⟩)
          refine CallK.fn (c3) [] [] [] (by kernel_rfl) ?_ ?_ ?_ (Or.inl rfl) ?_ <;> simp [go_sem, ↓iO, iO, tN]
          repeat (refine anI ?_)
          try (refine ⟨dcK, ?_⟩)
          refine CallK.fn (c4) [] [] [] (by kernel_rfl) ?_ ?_ ?_ (Or.inl rfl) ?_ <;> simp [go_sem, ↓iO, iO, tN]
          repeat (refine anI ?_)
          try (refine ⟨dcK, ?_⟩)
          repeat (first | (refine nf1_sound rfl ?_; simp [go_sem, ↓iO, iO, tN]; (repeat (refine anI ?_)); try (refine ⟨dcK, ?_⟩)) | ((first | refine itePos (by omega) ?_ | refine iteNeg (by omega) ?_); try simp [go_sem, ↓iO, iO, tN]) | (refine ⟨dcK, ?_⟩))
          first | rw [RetQ_ret] | rw [RetQ_normal]
          refine ⟨[], ?_⟩
          simp [go_sem, ↓iO, iO, tN]
      · have c3 := in_fn t3 2147483648 false (decide_eq_false h3)
        rw [decide_eq_false (show ¬ TgOk ⟨t1, t2, t3, t4, t5, vs⟩ from fun g => h3 g.sq)]
        refine FnOk.intro fact_mixed Try.func55 rfl Try.ntmps55 (by rfl) (by simp) ?_
        repeat (first | (refine nf1_sound rfl ?_; simp [go_sem, ↓iO, iO, tN]; (repeat (refine anI ?_)); try (refine ⟨dcK, ?_⟩)) | ((first | refine itePos (by omega) ?_ | refine iteNeg (by omega) ?_); try simp [go_sem, ↓iO, iO, tN]) | (refine ⟨dcK, ?_⟩))
        refine CallK.fn (c1) [] [] [] (by kernel_rfl) ?_ ?_ ?_ (Or.inl rfl) ?_ <;> simp [go_sem, ↓iO, iO, tN]
        repeat (refine anI ?_)
        try (refine ⟨dcK, ?_⟩)
        refine CallK.fn (c2) [] [] [] (by kernel_rfl) ?_ ?_ ?_ (Or.inl rfl) ?_ <;> simp [go_sem, ↓iO, iO, tN]
        repeat (refine anI ?_)
        try (refine ⟨dcK, ?_⟩)
        refine CallK.fn (c3) [] [] [] (by kernel_rfl) ?_ ?_ ?_ (Or.inl rfl) ?_ <;> simp [go_sem, ↓iO, iO, tN]
        repeat (refine anI ?_)
        try (refine ⟨dcK, ?_⟩)
        repeat (first | (refine nf1_sound rfl ?_; simp [go_sem, ↓iO, iO, tN]; (repeat (refine anI ?_)); try (refine ⟨dcK, ?_⟩)) | ((first | refine itePos (by omega) ?_ | refine iteNeg (by omega) ?_); try simp [go_sem, ↓iO, iO, tN]) | (refine ⟨dcK, ?_⟩))
        first | rw [RetQ_ret] | rw [RetQ_normal]
        refine ⟨[], ?_⟩
        simp [go_sem, ↓iO, iO, tN]
    · have c2 := in_fn t2 255 false (decide_eq_false h2)
      rw [decide_eq_false (show ¬ TgOk ⟨t1, t2, t3, t4, t5, vs⟩ from fun g => h2 g.ep)]
      refine FnOk.intro fact_mixed Try.func55 rfl Try.ntmps55 (by rfl) (by simp) ?_
      repeat (first | (refine nf1_sound rfl ?_; simp [go_sem, ↓iO, iO, tN]; (repeat (refine anI ?_)); try (refine ⟨dcK, ?_⟩)) | ((first | refine itePos (by omega) ?_ | refine iteNeg (by omega) ?_); try simp [go_sem, ↓iO, iO, tN]) | (refine ⟨dcK, ?_⟩))
      refine CallK.fn (c1) [] [] [] (by kernel_rfl) ?_ ?_ ?_ (Or.inl rfl) ?_ <;> simp [go_sem, ↓iO, iO, tN]
      repeat (refine anI ?_)
      try (refine ⟨dcK, ?_⟩)
      refine CallK.fn (c2) [] [] [] (by kernel_rfl) ?_ ?_ ?_ (Or.inl rfl) ?_ <;> simp [go_sem, ↓iO, iO, tN]
      repeat (refine anI ?_)
      try (refine ⟨dcK, ?_⟩)
      repeat (first | (refine nf1_sound rfl ?_; simp [go_sem, ↓iO, iO, tN]; (repeat (refine anI ?_)); try (refine ⟨dcK, ?_⟩)) | ((first | refine itePos (by omega) ?_ | refine iteNeg (by omega) ?_); try simp [go_sem, ↓iO, iO, tN]) | (refine ⟨dcK, ?_⟩))
      first | rw [RetQ_ret] | rw [RetQ_normal]
      refine ⟨[], ?_⟩
      simp [go_sem, ↓iO, iO, tN]
  · have c1 := in_fn t1 255 false (decide_eq_false h1)
    rw [decide_eq_false (show ¬ TgOk ⟨t1, t2, t3, t4, t5, vs⟩ from fun g => h1 g.st)]
    refine FnOk.intro fact_mixed Try.func55 rfl Try.ntmps55 (by rfl) (by simp) ?_
    repeat (first | (refine nf1_sound rfl ?_; simp [go_sem, ↓iO, iO, tN]; (repeat (refine anI ?_)); try (refine ⟨dcK, ?_⟩)) | ((first | refine itePos (by omega) ?_ | refine iteNeg (by omega) ?_); try simp [go_sem, ↓iO, iO, tN]) | (refine ⟨dcK, ?_⟩))
    refine CallK.fn (c1) [] [] [] (by kernel_rfl) ?_ ?_ ?_ (Or.inl rfl) ?_ <;> simp [go_sem, ↓iO, iO, tN]
    repeat (refine anI ?_)
    try (refine ⟨dcK, ?_⟩)
    repeat (first | (refine nf1_sound rfl ?_; simp [go_sem, ↓iO, iO, tN]; (repeat (refine anI ?_)); try (refine ⟨dcK, ?_⟩)) | ((first | refine itePos (by omega) ?_ | refine iteNeg (by omega) ?_); try simp [go_sem, ↓iO, iO, tN]) | (refine ⟨dcK, ?_⟩))
    first | rw [RetQ_ret] | rw [RetQ_normal]
    refine ⟨[], ?_⟩
    simp [go_sem, ↓iO, iO, tN]
end Go.Proofs.Ytopmmodcaoaaeaa
