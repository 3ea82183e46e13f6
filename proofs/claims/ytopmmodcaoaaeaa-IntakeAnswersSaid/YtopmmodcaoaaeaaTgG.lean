/- The reference's Valid as a contract. No condition. -/
import Derived.Test.YtopmmodcaoaaeaaTgB
import Derived.Test.YtopmmodcaoaaeaaTgF
namespace Go.Proofs.Ytopmmodcaoaaeaa
open Go.RowKit Sy
open Go.IntWalk renaming iteOmega → iO, toNatUp → tN
set_option linter.unusedVariables false
set_option linter.unusedSimpArgs false
set_option maxRecDepth 100000 in
set_option maxHeartbeats 8000000 in
theorem rvalid_fn (t : Tg) (hl : t.vs.length ≤ 9223372036854775807) (g : Bool) (hg : decide (TgOk t) = g) : FnOk Try.prog 41 [.t (encTg t)] [] (.t (.bool g)) [] := by
  subst hg
  obtain ⟨t1, t2, t3, t4, t5, vs⟩ := t
  dsimp only at hl
  refine FnOk.intro fact_mixed Try.func41 rfl Try.ntmps41 (by rfl) (by simp) ?_
  repeat (first | (refine nf1_sound rfl ?_; simp [go_sem, ↓iO, iO, tN]; (repeat (refine anI ?_)); try (refine ⟨dcK, ?_⟩)) | ((first | refine itePos (by omega) ?_ | refine iteNeg (by omega) ?_); try simp [go_sem, ↓iO, iO, tN]) | (refine ⟨dcK, ?_⟩))
  refine nf1_sound' _ _ _ ?_; simp only [nf1]
  refine CW.loop (ι := Nat) (fun k => ⟨[(1, .pt 501 [] 0), (2, .t (.lit (.bool false))), (6, .t (.int vs.length)), (7, .t (.int k))], [(501, .box 38 (.t (.agg [.int t1, .int t2, .int t3, .int t4, .int t5, encIs vs])))]⟩) (fun k => k ≤ vs.length ∧ ∀ v ∈ vs.take k, okN v) (fun k => vs.length - k) 0 [(501, some 101)] ⟨by omega, by simp⟩ ?_ ?_
  · simp [go_sem, ↓iO, iO, tN]
  rintro k ⟨hk, hok⟩
  by_cases hk2 : k < vs.length
  · obtain ⟨v, hx⟩ := has_get hk2
    by_cases hv : okN v
    · have hok2 : ∀ v ∈ vs.take (k + 1), okN v := by
        rw [take_snoc hx]
        intro y hy
        rcases List.mem_append.1 hy with hy | hy
        · exact hok y hy
        · obtain rfl := List.mem_singleton.1 hy
          exact hv
      unfold okN at hv
      repeat (first | (refine nf1_sound rfl ?_; simp [go_sem, ↓iO, iO, tN, hx]; (repeat (refine anI ?_)); try (refine ⟨dcK, ?_⟩)) | ((first | refine itePos (by omega) ?_ | refine iteNeg (by omega) ?_); try simp [go_sem, ↓iO, iO, tN, hx]) | (refine ⟨dcK, ?_⟩))
      rw [RoundQ_normal]; refine ⟨k + 1, [(501, some 501)], ?_, ?_, ?_⟩
      · exact ⟨by omega, hok2⟩
      · omega
      simp [go_sem, ↓iO, iO, tN]
    · rw [decide_eq_false (show ¬ TgOk ⟨t1, t2, t3, t4, t5, vs⟩ from fun g => hv (g.vs v (mem_get hx)))]
      unfold okN at hv
      by_cases h0 : v < -9007199254740992
      · repeat (first | (refine nf1_sound rfl ?_; simp [go_sem, ↓iO, iO, tN, hx]; (repeat (refine anI ?_)); try (refine ⟨dcK, ?_⟩)) | ((first | refine itePos (by omega) ?_ | refine iteNeg (by omega) ?_); try simp [go_sem, ↓iO, iO, tN, hx]) | (refine ⟨dcK, ?_⟩))
        first | rw [RetQ_ret] | rw [RetQ_normal]
        refine ⟨[], ?_⟩
        simp [go_sem, ↓iO, iO, tN]
      · have h1 : 9007199254740992 < v := by omega
        repeat (first | (refine nf1_sound rfl ?_; simp [go_sem, ↓iO, iO, tN, hx]; (repeat (refine anI ?_)); try (refine ⟨dcK, ?_⟩)) | ((first | refine itePos (by omega) ?_ | refine iteNeg (by omega) ?_); try simp [go_sem, ↓iO, iO, tN, hx]) | (refine ⟨dcK, ?_⟩))
        first | rw [RetQ_ret] | rw [RetQ_normal]
        refine ⟨[], ?_⟩
        simp [go_sem, ↓iO, iO, tN]
  · obtain rfl : k = vs.length := by omega
    have hv : ∀ v ∈ vs, okN v := by rw [List.take_length] at hok; exact hok
    by_cases h1 : 0 ≤ t1 ∧ t1 ≤ 255
    · have c1 := rin_fn t1 255 true (decide_eq_true h1)
      by_cases h2 : 0 ≤ t2 ∧ t2 ≤ 255
      · have c2 := rin_fn t2 255 true (decide_eq_true h2)
        by_cases h3 : 0 ≤ t3 ∧ t3 ≤ 2147483648
        · have c3 := rin_fn t3 2147483648 true (decide_eq_true h3)
          by_cases h4 : 0 ≤ t4 ∧ t4 ≤ 1099511627776
          · have c4 := rin_fn t4 1099511627776 true (decide_eq_true h4)
            by_cases h5 : 0 ≤ t5 ∧ t5 ≤ 63
            · have c5 := rin_fn t5 63 true (decide_eq_true h5)
              by_cases h6 : vs.length ≤ 16
              · rw [decide_eq_true (show TgOk ⟨t1, t2, t3, t4, t5, vs⟩ from ⟨h1, h2, h3, h4, h5, h6, hv⟩)]
                repeat (first | (refine nf1_sound rfl ?_; simp [go_sem, ↓iO, iO, tN]; (repeat (refine anI ?_)); try (refine ⟨dcK, ?_⟩)) | ((first | refine itePos (by omega) ?_ | refine iteNeg (by omega) ?_); try simp [go_sem, ↓iO, iO, tN]) | (refine ⟨dcK, ?_⟩))
                refine CallK.fn (c1) [] [] [] (by kernel_rfl) ?_ ?_ ?_ (Or.inl rfl) ?_ <;> simp [go_sem, ↓iO, iO, tN]
                repeat (refine anI ?_)
                try (refine ⟨dcK, ?_⟩)
                refine CallK.fn (c2) [] [] [] (by kernel_rfl) ?_ ?_ ?_ (Or.inl rfl) ?_ <;> simp [go_sem, ↓iO, iO, tN]
                repeat (refine anI ?_)
                try (refine ⟨dcK, ?_⟩)
                refine CallK.fn (c3) [] [] [] (by kernel_rfl) ?_ ?_ ?_ (Or.inl rfl) ?_ <;> simp [go_sem, ↓iO, iO, tN]
                repeat (refine anI ?_)
                try (refine ⟨dcK, ?_⟩)
                refine CallK.fn (c4) [] [] [] (by kernel_rfl) ?_ ?_ ?_ (Or.inl rfl) ?_ <;> simp [go_sem, ↓iO, iO, tN]
                repeat (refine anI ?_)
                try (refine ⟨dcK, ?_⟩)
                refine CallK.fn (c5) [] [] [] (by kernel_rfl) ?_ ?_ ?_ (Or.inl rfl) ?_ <;> simp [go_sem, ↓iO, iO, tN]
                repeat (refine anI ?_)
                try (refine ⟨dcK, ?_⟩)
                repeat (first | (refine nf1_sound rfl ?_; simp [go_sem, ↓iO, iO, tN]; (repeat (refine anI ?_)); try (refine ⟨dcK, ?_⟩)) | ((first | refine itePos (by omega) ?_ | refine iteNeg (by omega) ?_); try simp [go_sem, ↓iO, iO, tN]) | (refine ⟨dcK, ?_⟩))
                first | rw [RetQ_ret] | rw [RetQ_normal]
                refine ⟨[], ?_⟩
                simp [go_sem, ↓iO, iO, tN]
                try omega
              · rw [decide_eq_false (show ¬ TgOk ⟨t1, t2, t3, t4, t5, vs⟩ from fun g => h6 g.ln)]
                repeat (first | (refine nf1_sound rfl ?_; simp [go_sem, ↓iO, iO, tN]; (repeat (refine anI ?_)); try (refine ⟨dcK, ?_⟩)) | ((first | refine itePos (by omega) ?_ | refine iteNeg (by omega) ?_); try simp [go_sem, ↓iO, iO, tN]) | (refine ⟨dcK, ?_⟩))
                refine CallK.fn (c1) [] [] [] (by kernel_rfl) ?_ ?_ ?_ (Or.inl rfl) ?_ <;> simp [go_sem, ↓iO, iO, tN]
                repeat (refine anI ?_)
                try (refine ⟨dcK, ?_⟩)
                refine CallK.fn (c2) [] [] [] (by kernel_rfl) ?_ ?_ ?_ (Or.inl rfl) ?_ <;> simp [go_sem, ↓iO, iO, tN]
                repeat (refine anI ?_)
                try (refine ⟨dcK, ?_⟩)
                refine CallK.fn (c3) [] [] [] (by kernel_rfl) ?_ ?_ ?_ (Or.inl rfl) ?_ <;> simp [go_sem, ↓iO, iO, tN]
                repeat (refine anI ?_)
                try (refine ⟨dcK, ?_⟩)
                refine CallK.fn (c4) [] [] [] (by kernel_rfl) ?_ ?_ ?_ (Or.inl rfl) ?_ <;> simp [go_sem, ↓iO, iO, tN]
                repeat (refine anI ?_)
                try (refine ⟨dcK, ?_⟩)
                refine CallK.fn (c5) [] [] [] (by kernel_rfl) ?_ ?_ ?_ (Or.inl rfl) ?_ <;> simp [go_sem, ↓iO, iO, tN]
                repeat (refine anI ?_)
                try (refine ⟨dcK, ?_⟩)
                repeat (first | (refine nf1_sound rfl ?_; simp [go_sem, ↓iO, iO, tN]; (repeat (refine anI ?_)); try (refine ⟨dcK, ?_⟩)) | ((first | refine itePos (by omega) ?_ | refine iteNeg (by omega) ?_); try simp [go_sem, ↓iO, iO, tN]) | (refine ⟨dcK, ?_⟩))
                first | rw [RetQ_ret] | rw [RetQ_normal]
                refine ⟨[], ?_⟩
                simp [go_sem, ↓iO, iO, tN]
                try omega
            · have c5 := rin_fn t5 63 false (decide_eq_false h5)
              rw [decide_eq_false (show ¬ TgOk ⟨t1, t2, t3, t4, t5, vs⟩ from fun g => h5 g.kd)]
              repeat (first | (refine nf1_sound rfl ?_; simp [go_sem, ↓iO, iO, tN]; (repeat (refine anI ?_)); try (refine ⟨dcK, ?_⟩)) | ((first | refine itePos (by omega) ?_ | refine iteNeg (by omega) ?_); try simp [go_sem, ↓iO, iO, tN]) | (refine ⟨dcK, ?_⟩))
              refine CallK.fn (c1) [] [] [] (by kernel_rfl) ?_ ?_ ?_ (Or.inl rfl) ?_ <;> simp [go_sem, ↓iO, iO, tN]
              repeat (refine anI ?_)
              try (refine ⟨dcK, ?_⟩)
              refine CallK.fn (c2) [] [] [] (by kernel_rfl) ?_ ?_ ?_ (Or.inl rfl) ?_ <;> simp [go_sem, ↓iO, iO, tN]
              repeat (refine anI ?_)
              try (refine ⟨dcK, ?_⟩)
              refine CallK.fn (c3) [] [] [] (by kernel_rfl) ?_ ?_ ?_ (Or.inl rfl) ?_ <;> simp [go_sem, ↓iO, iO, tN]
              repeat (refine anI ?_)
              try (refine ⟨dcK, ?_⟩)
              refine CallK.fn (c4) [] [] [] (by kernel_rfl) ?_ ?_ ?_ (Or.inl rfl) ?_ <;> simp [go_sem, ↓iO, iO, tN]
              repeat (refine anI ?_)
              try (refine ⟨dcK, ?_⟩)
              refine CallK.fn (c5) [] [] [] (by kernel_rfl) ?_ ?_ ?_ (Or.inl rfl) ?_ <;> simp [go_sem, ↓iO, iO, tN]
              repeat (refine anI ?_)
              try (refine ⟨dcK, ?_⟩)
              repeat (first | (refine nf1_sound rfl ?_; simp [go_sem, ↓iO, iO, tN]; (repeat (refine anI ?_)); try (refine ⟨dcK, ?_⟩)) | ((first | refine itePos (by omega) ?_ | refine iteNeg (by omega) ?_); try simp [go_sem, ↓iO, iO, tN]) | (refine ⟨dcK, ?_⟩))
              first | rw [RetQ_ret] | rw [RetQ_normal]
              refine ⟨[], ?_⟩
              simp [go_sem, ↓iO, iO, tN]
          · have c4 := rin_fn t4 1099511627776 false (decide_eq_false h4)
            rw [decide_eq_false (show ¬ TgOk ⟨t1, t2, t3, t4, t5, vs⟩ from fun g => h4 g.tm)]
            repeat (first | (refine nf1_sound rfl ?_; simp [go_sem, ↓iO, iO, tN]; (repeat (refine anI ?_)); try (refine ⟨dcK, ?_⟩)) | ((first | refine itePos (by omega) ?_ | refine iteNeg (by omega) ?_); try simp [go_sem, ↓iO, iO, tN]) | (refine ⟨dcK, ?_⟩))
            refine CallK.fn (c1) [] [] [] (by kernel_rfl) ?_ ?_ ?_ (Or.inl rfl) ?_ <;> simp [go_sem, ↓iO, iO, tN]
            repeat (refine anI ?_)
            try (refine ⟨dcK, ?_⟩)
            refine CallK.fn (c2) [] [] [] (by kernel_rfl) ?_ ?_ ?_ (Or.inl rfl) ?_ <;> simp [go_sem, ↓iO, iO, tN]
            repeat (refine anI ?_)
            try (refine ⟨dcK, ?_⟩)
            refine CallK.fn (c3) [] [] [] (by kernel_rfl) ?_ ?_ ?_ (Or.inl rfl) ?_ <;> simp [go_sem, ↓iO, iO, tN]
            repeat (refine anI ?_)
            try (refine ⟨dcK, ?_⟩)
            refine CallK.fn (c4) [] [] [] (by kernel_rfl) ?_ ?_ ?_ (Or.inl rfl) ?_ <;> simp [go_sem, ↓iO, iO, tN]
            repeat (refine anI ?_)
            try (refine ⟨dcK, ?_⟩)
            repeat (first | (refine nf1_sound rfl ?_; simp [go_sem, ↓iO, iO, tN]; (repeat (refine anI ?_)); try (refine ⟨dcK, ?_⟩)) | ((first | refine itePos (by omega) ?_ | refine iteNeg (by omega) ?_); try simp [go_sem, ↓iO, iO, tN]) | (refine ⟨dcK, ?_⟩))
            first | rw [RetQ_ret] | rw [RetQ_normal]
            refine ⟨[], ?_⟩
            simp [go_sem, ↓iO, iO, tN]
        · have c3 := rin_fn t3 2147483648 false (decide_eq_false h3)
          rw [decide_eq_false (show ¬ TgOk ⟨t1, t2, t3, t4, t5, vs⟩ from fun g => h3 g.sq)]
          repeat (first | (refine nf1_sound rfl ?_; simp [go_sem, ↓iO, iO, tN]; (repeat (refine anI ?_)); try (refine ⟨dcK, ?_⟩)) | ((first | refine itePos (by omega) ?_ | refine iteNeg (by omega) ?_); try simp [go_sem, ↓iO, iO, tN]) | (refine ⟨dcK, ?_⟩))
          refine CallK.fn (c1) [] [] [] (by kernel_rfl) ?_ ?_ ?_ (Or.inl rfl) ?_ <;> simp [go_sem, ↓iO, iO, tN]
          repeat (refine anI ?_)
          try (refine ⟨dcK, ?_⟩)
          refine CallK.fn (c2) [] [] [] (by kernel_rfl) ?_ ?_ ?_ (Or.inl rfl) ?_ <;> simp [go_sem, ↓iO, iO, tN]
          repeat (refine anI ?_)
          try (refine ⟨dcK, ?_⟩)
          refine CallK.fn (c3) [] [] [] (by kernel_rfl) ?_ ?_ ?_ (Or.inl rfl) ?_ <;> simp [go_sem, ↓iO, iO, tN]
          repeat (refine anI ?_)
          try (refine ⟨dcK, ?_⟩)
          repeat (first | (refine nf1_sound rfl ?_; simp [go_sem, ↓iO, iO, tN]; (repeat (refine anI ?_)); try (refine ⟨dcK, ?_⟩)) | ((first | refine itePos (by omega) ?_ | refine iteNeg (by omega) ?_); try simp [go_sem, ↓iO, iO, tN]) | (refine ⟨dcK, ?_⟩))
          first | rw [RetQ_ret] | rw [RetQ_normal]
          refine ⟨[], ?_⟩
          simp [go_sem, ↓iO, iO, tN]
      · have c2 := rin_fn t2 255 false (decide_eq_false h2)
        rw [decide_eq_false (show ¬ TgOk ⟨t1, t2, t3, t4, t5, vs⟩ from fun g => h2 g.ep)]
        repeat (first | (refine nf1_sound rfl ?_; simp [go_sem, ↓iO, iO, tN]; (repeat (refine anI ?_)); try (refine ⟨dcK, ?_⟩)) | ((first | refine itePos (by omega) ?_ | refine iteNeg (by omega) ?_); try simp [go_sem, ↓iO, iO, tN]) | (refine ⟨dcK, ?_⟩))
        refine CallK.fn (c1) [] [] [] (by kernel_rfl) ?_ ?_ ?_ (Or.inl rfl) ?_ <;> simp [go_sem, ↓iO, iO, tN]
        repeat (refine anI ?_)
        try (refine ⟨dcK, ?_⟩)
        refine CallK.fn (c2) [] [] [] (by kernel_rfl) ?_ ?_ ?_ (Or.inl rfl) ?_ <;> simp [go_sem, ↓iO, iO, tN]
        repeat (refine anI ?_)
        try (refine ⟨dcK, ?_⟩)
        repeat (first | (refine nf1_sound rfl ?_; simp [go_sem, ↓iO, iO, tN]; (repeat (refine anI ?_)); try (refine ⟨dcK, ?_⟩)) | ((first | refine itePos (by omega) ?_ | refine iteNeg (by omega) ?_); try simp [go_sem, ↓iO, iO, tN]) | (refine ⟨dcK, ?_⟩))
        first | rw [RetQ_ret] | rw [RetQ_normal]
        refine ⟨[], ?_⟩
        simp [go_sem, ↓iO, iO, tN]
    · have c1 := rin_fn t1 255 false (decide_eq_false h1)
      rw [decide_eq_false (show ¬ TgOk ⟨t1, t2, t3, t4, t5, vs⟩ from fun g => h1 g.st)]
      repeat (first | (refine nf1_sound rfl ?_; simp [go_sem, ↓iO, iO, tN]; (repeat (refine anI ?_)); try (refine ⟨dcK, ?_⟩)) | ((first | refine itePos (by omega) ?_ | refine iteNeg (by omega) ?_); try simp [go_sem, ↓iO, iO, tN]) | (refine ⟨dcK, ?_⟩))
      refine CallK.fn (c1) [] [] [] (by kernel_rfl) ?_ ?_ ?_ (Or.inl rfl) ?_ <;> simp [go_sem, ↓iO, iO, tN]
      repeat (refine anI ?_)
      try (refine ⟨dcK, ?_⟩)
      repeat (first | (refine nf1_sound rfl ?_; simp [go_sem, ↓iO, iO, tN]; (repeat (refine anI ?_)); try (refine ⟨dcK, ?_⟩)) | ((first | refine itePos (by omega) ?_ | refine iteNeg (by omega) ?_); try simp [go_sem, ↓iO, iO, tN]) | (refine ⟨dcK, ?_⟩))
      first | rw [RetQ_ret] | rw [RetQ_normal]
      refine ⟨[], ?_⟩
      simp [go_sem, ↓iO, iO, tN]
end Go.Proofs.Ytopmmodcaoaaeaa
