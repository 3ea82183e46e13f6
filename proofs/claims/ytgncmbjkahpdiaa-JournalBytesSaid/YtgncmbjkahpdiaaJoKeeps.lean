/- The law JournalKeeps. No condition. -/
import Derived.Test.YtgncmbjkahpdiaaJoPlain
import Derived.Test.YtgncmbjkahpdiaaJoSteps
namespace Go.Proofs.Ytgncmbjkahpdiaa
open Go.RowKit Sy
set_option linter.unusedVariables false
set_option linter.unusedSimpArgs false
/-- What holds of the file: its durable bytes are the first frames, all its bytes are all frames. -/
structure Kp (i : Nat) (f : Fl) (all : List (List Nat)) (d : Nat) : Prop where
  fb : f.b = frs (all.take d)
  tot : f.b ++ f.p = frs all
  dl : d ≤ all.length
  al : all.length ≤ i
  sm : ∀ b ∈ all, b.length ≤ 5 ∧ Bytes b
theorem fr_b8 {b : List Nat} (h : Bytes b) : Bytes (fr b) := bytes_app (put_b8 _) h
theorem frs_b8 : ∀ {l : List (List Nat)}, (∀ b ∈ l, Bytes b) → Bytes (frs l)
  | [], _ => by intro c hc; simp [frs] at hc
  | b :: r, h => by
    rw [frs_cons]
    exact bytes_app (fr_b8 (h b (List.mem_cons_self))) (frs_b8 fun c hc => h c (List.mem_cons_of_mem _ hc))
theorem fr_len5 {b : List Nat} (h : b.length ≤ 5) : (fr b).length = b.length + 1 := by
  unfold fr putZ
  rw [Wire.put_small (by unfold Wire.fold; rw [if_pos (by omega)]; omega)]
  simp
theorem frs_len5 : ∀ {l : List (List Nat)}, (∀ b ∈ l, b.length ≤ 5) → (frs l).length ≤ 6 * l.length
  | [], _ => by simp [frs]
  | b :: r, h => by
    have h1 := h b (List.mem_cons_self)
    have h2 := fr_len5 h1
    have ih := frs_len5 fun c hc => h c (List.mem_cons_of_mem _ hc)
    rw [frs_cons, List.length_append, List.length_cons]
    omega
theorem Kp.len {i : Nat} {f : Fl} {all : List (List Nat)} {d : Nat} (h : Kp i f all d) : f.b.length + f.p.length ≤ 6 * i := by
  have h1 := frs_len5 fun b hb => (h.sm b hb).1
  rw [← h.tot, List.length_append] at h1
  have := h.al
  omega
theorem Kp.small {i : Nat} {f : Fl} {all : List (List Nat)} {d : Nat} (h : Kp i f all d) (hi : i ≤ 60) : FlSmall f := by
  have hb : Bytes (f.b ++ f.p) := by rw [h.tot]; exact frs_b8 fun b hb => (h.sm b hb).2
  exact ⟨fun c hc => hb c (List.mem_append_left _ hc), fun c hc => hb c (List.mem_append_right _ hc), by have := h.len; omega⟩
theorem Kp.four {i : Nat} {f : Fl} {all : List (List Nat)} {d : Nat} (h : Kp i f all d) : ∀ b ∈ all, b.length ≤ 4000 := fun b hb => by have := (h.sm b hb).1; omega
theorem Kp.sync {i : Nat} {f : Fl} {all : List (List Nat)} {d : Nat} (h : Kp i f all d) : Kp (i + 1) (syncV f) all all.length :=
  ⟨by rw [List.take_length]; exact h.tot, by show f.b ++ f.p ++ [] = _; rw [List.append_nil]; exact h.tot, Nat.le_refl _, by have := h.al; omega, h.sm⟩
theorem Kp.crash {i : Nat} {f : Fl} {all : List (List Nat)} {d : Nat} (h : Kp i f all d) (k : Int) :
    ∃ (L : List (List Nat)) (j n : Nat), L.length = j ∧ j ≤ all.length ∧ d ≤ j ∧ all.take j = L ∧ readV (crashV f k).b = (L, n) ∧ (⟨(crashV f k).b.take n, []⟩ : Fl) = ⟨frs L, []⟩ ∧ Kp (i + 1) ⟨frs L, []⟩ L j := by
  obtain ⟨n, hn⟩ : ∃ n : Nat, (max 0 (min k f.p.length)).toNat = n := ⟨_, rfl⟩
  have hnl : n ≤ f.p.length := by omega
  have hcb : (crashV f k).b = (frs all).take (f.b.length + n) := by
    show f.b ++ f.p.take (max 0 (min k f.p.length)).toNat = _
    rw [hn, ← h.tot, List.take_append, List.take_of_length_le (show f.b.length ≤ f.b.length + n by omega), show f.b.length + n - f.b.length = n by omega]
  have htl : (frs all).length = f.b.length + f.p.length := by rw [← h.tot, List.length_append]
  obtain ⟨j, h1, h2, h3, h4⟩ := read_take (m := f.b.length + n) h.four (by omega)
  have hjl : (all.take j).length = j := by rw [List.length_take]; omega
  refine ⟨all.take j, j, (frs (all.take j)).length, hjl, h1, h4 d h.dl (by rw [← h.fb]; omega), rfl, by rw [hcb, h2], by rw [hcb, h3], ?_⟩
  refine ⟨?_, by show frs (all.take j) ++ [] = _; rw [List.append_nil], by omega, by have := h.al; omega, fun b hb => h.sm b (List.mem_of_mem_take hb)⟩
  show frs (all.take j) = _
  rw [List.take_take, Nat.min_self]
theorem Kp.app {i : Nat} {f : Fl} {all : List (List Nat)} {d : Nat} (h : Kp i f all d) (hi : i ≤ 60) {b : List Nat} (hb : b.length ≤ 5) (h8 : Bytes b) :
    ∃ g : Fl, appV f b = (g, 0) ∧ Kp (i + 1) g (all ++ [b]) d := by
  have hl := h.len
  have hfl := fr_len5 hb
  have hr : (readV f.b).2 = f.b.length := by
    rw [h.fb, read_whole (fun c hc => h.four c (List.mem_of_mem_take hc))]
  refine ⟨⟨f.b, f.p ++ fr b⟩, ?_, ?_⟩
  · unfold appV
    rw [if_pos (by omega), if_pos hr, if_pos (by show f.b.length + f.p.length + (fr b).length ≤ 65536; omega)]
    rfl
  · refine ⟨?_, ?_, by rw [List.length_append]; have := h.dl; omega, by rw [List.length_append, List.length_singleton]; have := h.al; omega, ?_⟩
    · show f.b = _
      rw [List.take_append_of_le_length h.dl]
      exact h.fb
    · show f.b ++ (f.p ++ fr b) = _
      rw [frs_snoc, ← h.tot, List.append_assoc]
    · intro c hc
      rcases List.mem_append.1 hc with hc | hc
      · exact h.sm c hc
      · simp only [List.mem_singleton] at hc
        subst hc
        exact ⟨hb, h8⟩
set_option maxRecDepth 100000 in
set_option maxHeartbeats 16000000 in
theorem keeps_fn (l : List Nat) (hl : l.length ≤ 9223372036854775807) (h16 : ∀ s ∈ l, s < 65536) :
    FnOk Try.prog 6 [.t (encWs l)] [] (.t (.bool true)) [] := by
  by_cases hl60 : l.length ≤ 60
  · refine FnOk.intro fact_mixed Try.func6 rfl Try.ntmps6 (by rfl) (by simp) ?_
    repeat (first | (refine nf1_sound rfl ?_; simp [go_sem, ↓IntWalk.iteOmega, IntWalk.iteOmega, IntWalk.toNatUp]; (repeat (refine And.intro (by omega) ?_)); try (refine ⟨DrawChk_of (by kernel_rfl), ?_⟩)) | (refine itePos (by omega) ?_; try simp [go_sem, ↓IntWalk.iteOmega, IntWalk.iteOmega, IntWalk.toNatUp]) | (refine iteNeg (by omega) ?_; try simp [go_sem, ↓IntWalk.iteOmega, IntWalk.iteOmega, IntWalk.toNatUp]) | (refine ⟨DrawChk_of (by kernel_rfl), ?_⟩))
    refine nf1_sound' _ _ _ ?_; simp only [nf1]
    refine CW.loop (ι := Nat × Fl × List (List Nat) × Nat) (fun p => ⟨[(0, .t (encWs l)), (3, .pt 503 [] 0), (4, .t (encUss p.2.2.1)), (5, .t (.int p.2.2.2)), (6, .t (.int p.1))], [(503, .box 24 (.t (encF p.2.1)))]⟩) (fun p => p.1 ≤ l.length ∧ Kp p.1 p.2.1 p.2.2.1 p.2.2.2) (fun p => l.length - p.1) (0, ⟨[], []⟩, [], 0) [(503, some 103)] ⟨by simp, ⟨rfl, rfl, by simp, by simp, by intro b hb; simp at hb⟩⟩ ?_ ?_
    · simp [go_sem, ↓IntWalk.iteOmega, IntWalk.iteOmega, IntWalk.toNatUp]
    rintro ⟨i, f, all, d⟩ ⟨hi, hk⟩
    dsimp only at hi hk ⊢
    have hal := hk.al
    have hdl := hk.dl
    have hsmall := hk.small (by omega)
    by_cases hil : i < l.length
    · obtain ⟨s, hs⟩ := has_get hil
      have hs16 := h16 s (mem_get hs)
      by_cases c0 : s % 6 = 0
      · have c0i : (s : Int) % 6 = 0 := by omega
        have hk2 := hk.sync
        have cs := sync_fn f (hsmall.ok 500000 (by omega)) _ rfl
        obtain ⟨g, hg⟩ : ∃ g, syncV f = g := ⟨_, rfl⟩
        rw [hg] at cs hk2
        obtain ⟨fb, fp⟩ := f
        obtain ⟨gb, gp⟩ := g
        repeat (first | (refine nf1_sound rfl ?_; simp [go_sem, ↓IntWalk.iteOmega, IntWalk.iteOmega, IntWalk.toNatUp, hs]; (repeat (refine And.intro (by omega) ?_)); try (refine ⟨DrawChk_of (by kernel_rfl), ?_⟩)) | (refine itePos (by omega) ?_; try simp [go_sem, ↓IntWalk.iteOmega, IntWalk.iteOmega, IntWalk.toNatUp, hs]) | (refine iteNeg (by omega) ?_; try simp [go_sem, ↓IntWalk.iteOmega, IntWalk.iteOmega, IntWalk.toNatUp, hs]) | (refine ⟨DrawChk_of (by kernel_rfl), ?_⟩))
        refine CallK.fn (cs) [] [] [] (by kernel_rfl) (by simp [go_sem, ↓IntWalk.iteOmega, IntWalk.iteOmega, IntWalk.toNatUp]) (by simp [go_sem, ↓IntWalk.iteOmega, IntWalk.iteOmega, IntWalk.toNatUp]) (by simp [go_sem, ↓IntWalk.iteOmega, IntWalk.iteOmega, IntWalk.toNatUp]) (Or.inl rfl) ?_
        simp [go_sem, ↓IntWalk.iteOmega, IntWalk.iteOmega, IntWalk.toNatUp]
        repeat (refine And.intro (by omega) ?_)
        try (refine ⟨DrawChk_of (by kernel_rfl), ?_⟩)
        repeat (first | (refine nf1_sound rfl ?_; simp [go_sem, ↓IntWalk.iteOmega, IntWalk.iteOmega, IntWalk.toNatUp]; (repeat (refine And.intro (by omega) ?_)); try (refine ⟨DrawChk_of (by kernel_rfl), ?_⟩)) | (refine itePos (by omega) ?_; try simp [go_sem, ↓IntWalk.iteOmega, IntWalk.iteOmega, IntWalk.toNatUp]) | (refine iteNeg (by omega) ?_; try simp [go_sem, ↓IntWalk.iteOmega, IntWalk.iteOmega, IntWalk.toNatUp]) | (refine ⟨DrawChk_of (by kernel_rfl), ?_⟩))
        rw [RoundQ_normal]; refine ⟨(i + 1, ⟨gb, gp⟩, all, all.length), [(503, some 503)], ?_, ?_, ?_⟩
        · exact ⟨by dsimp only; omega, hk2⟩
        · dsimp only
          omega
        simp [go_sem, ↓IntWalk.iteOmega, IntWalk.iteOmega, IntWalk.toNatUp]
      · by_cases c1 : s % 6 = 1
        · have c1i : (s : Int) % 6 = 1 := by omega
          obtain ⟨kp, hkp⟩ : ∃ k : Int, (s : Int) / 8 % 200 = k := ⟨_, rfl⟩
          obtain ⟨L, j, n, hLl, hj, hdj, hL, hrd, hx, hk2⟩ := hk.crash kp
          have cc := crash_fn f kp (hsmall.ok 500000 (by omega)) _ rfl
          have cr := recover_fn (crashV f kp) ((small_crash hsmall kp).ok 500000 (by omega)) L n hrd
          rw [hx] at cr
          have sf := sameFrames_fn L (by omega)
          have hLm : (all.map encUs).take j = L.map encUs := by rw [← List.map_take, hL]
          obtain ⟨c, hc⟩ : ∃ c, crashV f kp = c := ⟨_, rfl⟩
          rw [hc] at cc cr
          obtain ⟨q, hq⟩ : ∃ q, frs L = q := ⟨_, rfl⟩
          rw [hq] at cr hk2
          obtain ⟨fb, fp⟩ := f
          obtain ⟨cb, cp⟩ := c
          repeat (first | (refine nf1_sound rfl ?_; simp [go_sem, ↓IntWalk.iteOmega, IntWalk.iteOmega, IntWalk.toNatUp, hs, hkp]; (repeat (refine And.intro (by omega) ?_)); try (refine ⟨DrawChk_of (by kernel_rfl), ?_⟩)) | (refine itePos (by omega) ?_; try simp [go_sem, ↓IntWalk.iteOmega, IntWalk.iteOmega, IntWalk.toNatUp, hs, hkp]) | (refine iteNeg (by omega) ?_; try simp [go_sem, ↓IntWalk.iteOmega, IntWalk.iteOmega, IntWalk.toNatUp, hs, hkp]) | (refine ⟨DrawChk_of (by kernel_rfl), ?_⟩))
          refine CallK.fn (cc) [] [] [] (by kernel_rfl) (by simp [go_sem, ↓IntWalk.iteOmega, IntWalk.iteOmega, IntWalk.toNatUp]) (by simp [go_sem, ↓IntWalk.iteOmega, IntWalk.iteOmega, IntWalk.toNatUp]) (by simp [go_sem, ↓IntWalk.iteOmega, IntWalk.iteOmega, IntWalk.toNatUp]) (Or.inl rfl) ?_
          simp [go_sem, ↓IntWalk.iteOmega, IntWalk.iteOmega, IntWalk.toNatUp]
          repeat (refine And.intro (by omega) ?_)
          try (refine ⟨DrawChk_of (by kernel_rfl), ?_⟩)
          refine CallK.fn (cr) [(1000, 184)] [] [] (by kernel_rfl) (by simp [go_sem, ↓IntWalk.iteOmega, IntWalk.iteOmega, IntWalk.toNatUp]) (by simp [go_sem, ↓IntWalk.iteOmega, IntWalk.iteOmega, IntWalk.toNatUp]) (by simp [go_sem, ↓IntWalk.iteOmega, IntWalk.iteOmega, IntWalk.toNatUp]) (Or.inl rfl) ?_
          simp [go_sem, ↓IntWalk.iteOmega, IntWalk.iteOmega, IntWalk.toNatUp]
          repeat (refine And.intro (by omega) ?_)
          try (refine ⟨DrawChk_of (by kernel_rfl), ?_⟩)
          repeat (first | (refine nf1_sound rfl ?_; simp [go_sem, ↓IntWalk.iteOmega, IntWalk.iteOmega, IntWalk.toNatUp, hLl, hLm]; (repeat (refine And.intro (by omega) ?_)); try (refine ⟨DrawChk_of (by kernel_rfl), ?_⟩)) | (refine itePos (by omega) ?_; try simp [go_sem, ↓IntWalk.iteOmega, IntWalk.iteOmega, IntWalk.toNatUp, hLl, hLm]) | (refine iteNeg (by omega) ?_; try simp [go_sem, ↓IntWalk.iteOmega, IntWalk.iteOmega, IntWalk.toNatUp, hLl, hLm]) | (refine ⟨DrawChk_of (by kernel_rfl), ?_⟩))
          refine CallK.fn (sf) [] [184] [] (by kernel_rfl) (by simp [go_sem, ↓IntWalk.iteOmega, IntWalk.iteOmega, IntWalk.toNatUp, hLl, hLm]) (by simp [go_sem, ↓IntWalk.iteOmega, IntWalk.iteOmega, IntWalk.toNatUp, hLl, hLm]) (by simp [go_sem, ↓IntWalk.iteOmega, IntWalk.iteOmega, IntWalk.toNatUp, hLl, hLm]) (Or.inr ⟨by simp [go_sem, ↓IntWalk.iteOmega, IntWalk.iteOmega, IntWalk.toNatUp, hLl, hLm], by simp [go_sem, ↓IntWalk.iteOmega, IntWalk.iteOmega, IntWalk.toNatUp, hLl, hLm]⟩) ?_
          simp [go_sem, ↓IntWalk.iteOmega, IntWalk.iteOmega, IntWalk.toNatUp, hLl, hLm]
          repeat (refine And.intro (by omega) ?_)
          try (refine ⟨DrawChk_of (by kernel_rfl), ?_⟩)
          repeat (first | (refine nf1_sound rfl ?_; simp [go_sem, ↓IntWalk.iteOmega, IntWalk.iteOmega, IntWalk.toNatUp, hLl, hLm]; (repeat (refine And.intro (by omega) ?_)); try (refine ⟨DrawChk_of (by kernel_rfl), ?_⟩)) | (refine itePos (by omega) ?_; try simp [go_sem, ↓IntWalk.iteOmega, IntWalk.iteOmega, IntWalk.toNatUp, hLl, hLm]) | (refine iteNeg (by omega) ?_; try simp [go_sem, ↓IntWalk.iteOmega, IntWalk.iteOmega, IntWalk.toNatUp, hLl, hLm]) | (refine ⟨DrawChk_of (by kernel_rfl), ?_⟩))
          rw [RoundQ_normal]; refine ⟨(i + 1, ⟨q, []⟩, L, j), [(503, some 503)], ?_, ?_, ?_⟩
          · exact ⟨by dsimp only; omega, hk2⟩
          · dsimp only
            omega
          simp [go_sem, ↓IntWalk.iteOmega, IntWalk.iteOmega, IntWalk.toNatUp]
        · obtain ⟨n, hn⟩ : ∃ n : Nat, (s : Int) / 32 % 6 = n := ⟨s / 32 % 6, by omega⟩
          have hnr : n ≤ 5 := by omega
          have h8 : Bytes (([i, s % 256, s / 256, 0, 2] : List Nat).take n) := fun c hc => by
            have := List.mem_of_mem_take hc
            simp at this
            omega
          have hbl : (([i, s % 256, s / 256, 0, 2] : List Nat).take n).length ≤ 5 := by rw [List.length_take]; simp; omega
          obtain ⟨g, hap, hk2⟩ := hk.app (by omega) hbl h8
          have ca := append_fn f _ (hsmall.ok 400000 (by omega)) (by omega) g 0 hap
          have e1 : ((s % 256 : Nat) : Int) = (s : Int) % 256 := by omega
          have e2 : ((s / 256 : Nat) : Int) = (s : Int) / 256 := by omega
          obtain ⟨fb, fp⟩ := f
          obtain ⟨gb, gp⟩ := g
          have hal2 : all.length ≤ 60 := by omega
          by_cases hs8 : s ≤ 255
          · have e3 : (s : Int) % 256 = s := by omega
            have e4 : (s : Int) / 256 = 0 := by omega
            repeat (first | (refine nf1_sound rfl ?_; simp [go_sem, ↓IntWalk.iteOmega, IntWalk.iteOmega, IntWalk.toNatUp, hs, hn]; (repeat (refine And.intro (by omega) ?_)); try (refine ⟨DrawChk_of (by kernel_rfl), ?_⟩)) | (refine itePos (by omega) ?_; try simp [go_sem, ↓IntWalk.iteOmega, IntWalk.iteOmega, IntWalk.toNatUp, hs, hn]) | (refine iteNeg (by omega) ?_; try simp [go_sem, ↓IntWalk.iteOmega, IntWalk.iteOmega, IntWalk.toNatUp, hs, hn]) | (refine ⟨DrawChk_of (by kernel_rfl), ?_⟩))
            refine CallK.fn (ca) [] [] [] (by kernel_rfl) (by simp [go_sem, ↓IntWalk.iteOmega, IntWalk.iteOmega, IntWalk.toNatUp, e3, e4]) (by simp [go_sem, ↓IntWalk.iteOmega, IntWalk.iteOmega, IntWalk.toNatUp, e3, e4]) (by simp [go_sem, ↓IntWalk.iteOmega, IntWalk.iteOmega, IntWalk.toNatUp, e3, e4]) (Or.inl rfl) ?_
            simp [go_sem, ↓IntWalk.iteOmega, IntWalk.iteOmega, IntWalk.toNatUp, e3, e4]
            repeat (refine And.intro (by omega) ?_)
            try (refine ⟨DrawChk_of (by kernel_rfl), ?_⟩)
            repeat (first | (refine nf1_sound rfl ?_; simp [go_sem, ↓IntWalk.iteOmega, IntWalk.iteOmega, IntWalk.toNatUp]; (repeat (refine And.intro (by omega) ?_)); try (refine ⟨DrawChk_of (by kernel_rfl), ?_⟩)) | (refine itePos (by omega) ?_; try simp [go_sem, ↓IntWalk.iteOmega, IntWalk.iteOmega, IntWalk.toNatUp]) | (refine iteNeg (by omega) ?_; try simp [go_sem, ↓IntWalk.iteOmega, IntWalk.iteOmega, IntWalk.toNatUp]) | (refine ⟨DrawChk_of (by kernel_rfl), ?_⟩))
            rw [RoundQ_normal]; refine ⟨(i + 1, ⟨gb, gp⟩, all ++ [([i, s % 256, s / 256, 0, 2] : List Nat).take n], d), [(503, some 503)], ?_, ?_, ?_⟩
            · exact ⟨by dsimp only; omega, hk2⟩
            · dsimp only
              omega
            simp [go_sem, ↓IntWalk.iteOmega, IntWalk.iteOmega, IntWalk.toNatUp, e3, e4]
          · have ew : IntKind.u8.wrap (s : Int) = (s : Int) % 256 := by rw [u8_wrap]
            repeat (first | (refine nf1_sound rfl ?_; simp [go_sem, ↓IntWalk.iteOmega, IntWalk.iteOmega, IntWalk.toNatUp, hs, hn, ew]; (repeat (refine And.intro (by omega) ?_)); try (refine ⟨DrawChk_of (by kernel_rfl), ?_⟩)) | (refine itePos (by omega) ?_; try simp [go_sem, ↓IntWalk.iteOmega, IntWalk.iteOmega, IntWalk.toNatUp, hs, hn, ew]) | (refine iteNeg (by omega) ?_; try simp [go_sem, ↓IntWalk.iteOmega, IntWalk.iteOmega, IntWalk.toNatUp, hs, hn, ew]) | (refine ⟨DrawChk_of (by kernel_rfl), ?_⟩))
            refine CallK.fn (ca) [] [] [] (by kernel_rfl) (by simp [go_sem, ↓IntWalk.iteOmega, IntWalk.iteOmega, IntWalk.toNatUp]) (by simp [go_sem, ↓IntWalk.iteOmega, IntWalk.iteOmega, IntWalk.toNatUp]) (by simp [go_sem, ↓IntWalk.iteOmega, IntWalk.iteOmega, IntWalk.toNatUp]) (Or.inl rfl) ?_
            simp [go_sem, ↓IntWalk.iteOmega, IntWalk.iteOmega, IntWalk.toNatUp]
            repeat (refine And.intro (by omega) ?_)
            try (refine ⟨DrawChk_of (by kernel_rfl), ?_⟩)
            repeat (first | (refine nf1_sound rfl ?_; simp [go_sem, ↓IntWalk.iteOmega, IntWalk.iteOmega, IntWalk.toNatUp]; (repeat (refine And.intro (by omega) ?_)); try (refine ⟨DrawChk_of (by kernel_rfl), ?_⟩)) | (refine itePos (by omega) ?_; try simp [go_sem, ↓IntWalk.iteOmega, IntWalk.iteOmega, IntWalk.toNatUp]) | (refine iteNeg (by omega) ?_; try simp [go_sem, ↓IntWalk.iteOmega, IntWalk.iteOmega, IntWalk.toNatUp]) | (refine ⟨DrawChk_of (by kernel_rfl), ?_⟩))
            rw [RoundQ_normal]; refine ⟨(i + 1, ⟨gb, gp⟩, all ++ [([i, s % 256, s / 256, 0, 2] : List Nat).take n], d), [(503, some 503)], ?_, ?_, ?_⟩
            · exact ⟨by dsimp only; omega, hk2⟩
            · dsimp only
              omega
            simp [go_sem, ↓IntWalk.iteOmega, IntWalk.iteOmega, IntWalk.toNatUp]
    · obtain rfl : i = l.length := by omega
      have cs := sync_fn f (hsmall.ok 500000 (by omega)) _ rfl
      have hrd : readV (syncV f).b = (all, (frs all).length) := by
        show readV (f.b ++ f.p) = _
        rw [hk.tot, read_whole hk.four]
      have cr := recover_fn (syncV f) ((small_sync hsmall).ok 500000 (by omega)) _ _ hrd
      have sf := sameFrames_fn all (by omega)
      obtain ⟨g, hg⟩ : ∃ g, syncV f = g := ⟨_, rfl⟩
      rw [hg] at cs cr
      obtain ⟨q, hq⟩ : ∃ q, (⟨g.b.take (frs all).length, []⟩ : Fl) = q := ⟨_, rfl⟩
      rw [hq] at cr
      obtain ⟨fb, fp⟩ := f
      obtain ⟨gb, gp⟩ := g
      obtain ⟨qb, qp⟩ := q
      repeat (first | (refine nf1_sound rfl ?_; simp [go_sem, ↓IntWalk.iteOmega, IntWalk.iteOmega, IntWalk.toNatUp]; (repeat (refine And.intro (by omega) ?_)); try (refine ⟨DrawChk_of (by kernel_rfl), ?_⟩)) | (refine itePos (by omega) ?_; try simp [go_sem, ↓IntWalk.iteOmega, IntWalk.iteOmega, IntWalk.toNatUp]) | (refine iteNeg (by omega) ?_; try simp [go_sem, ↓IntWalk.iteOmega, IntWalk.iteOmega, IntWalk.toNatUp]) | (refine ⟨DrawChk_of (by kernel_rfl), ?_⟩))
      refine CallK.fn (cs) [] [] [] (by kernel_rfl) (by simp [go_sem, ↓IntWalk.iteOmega, IntWalk.iteOmega, IntWalk.toNatUp]) (by simp [go_sem, ↓IntWalk.iteOmega, IntWalk.iteOmega, IntWalk.toNatUp]) (by simp [go_sem, ↓IntWalk.iteOmega, IntWalk.iteOmega, IntWalk.toNatUp]) (Or.inl rfl) ?_
      simp [go_sem, ↓IntWalk.iteOmega, IntWalk.iteOmega, IntWalk.toNatUp]
      repeat (refine And.intro (by omega) ?_)
      try (refine ⟨DrawChk_of (by kernel_rfl), ?_⟩)
      refine CallK.fn (cr) [(1000, 223)] [] [] (by kernel_rfl) (by simp [go_sem, ↓IntWalk.iteOmega, IntWalk.iteOmega, IntWalk.toNatUp]) (by simp [go_sem, ↓IntWalk.iteOmega, IntWalk.iteOmega, IntWalk.toNatUp]) (by simp [go_sem, ↓IntWalk.iteOmega, IntWalk.iteOmega, IntWalk.toNatUp]) (Or.inl rfl) ?_
      simp [go_sem, ↓IntWalk.iteOmega, IntWalk.iteOmega, IntWalk.toNatUp]
      repeat (refine And.intro (by omega) ?_)
      try (refine ⟨DrawChk_of (by kernel_rfl), ?_⟩)
      repeat (first | (refine nf1_sound rfl ?_; simp [go_sem, ↓IntWalk.iteOmega, IntWalk.iteOmega, IntWalk.toNatUp]; (repeat (refine And.intro (by omega) ?_)); try (refine ⟨DrawChk_of (by kernel_rfl), ?_⟩)) | (refine itePos (by omega) ?_; try simp [go_sem, ↓IntWalk.iteOmega, IntWalk.iteOmega, IntWalk.toNatUp]) | (refine iteNeg (by omega) ?_; try simp [go_sem, ↓IntWalk.iteOmega, IntWalk.iteOmega, IntWalk.toNatUp]) | (refine ⟨DrawChk_of (by kernel_rfl), ?_⟩))
      refine CallK.fn (sf) [] [223] [] (by kernel_rfl) (by simp [go_sem, ↓IntWalk.iteOmega, IntWalk.iteOmega, IntWalk.toNatUp]) (by simp [go_sem, ↓IntWalk.iteOmega, IntWalk.iteOmega, IntWalk.toNatUp]) (by simp [go_sem, ↓IntWalk.iteOmega, IntWalk.iteOmega, IntWalk.toNatUp]) (Or.inr ⟨by simp [go_sem, ↓IntWalk.iteOmega, IntWalk.iteOmega, IntWalk.toNatUp], by simp [go_sem, ↓IntWalk.iteOmega, IntWalk.iteOmega, IntWalk.toNatUp]⟩) ?_
      simp [go_sem, ↓IntWalk.iteOmega, IntWalk.iteOmega, IntWalk.toNatUp]
      repeat (refine And.intro (by omega) ?_)
      try (refine ⟨DrawChk_of (by kernel_rfl), ?_⟩)
      refine CallK.fn (awake_fn) [] [] [] (by kernel_rfl) (by simp [go_sem, ↓IntWalk.iteOmega, IntWalk.iteOmega, IntWalk.toNatUp]) (by simp [go_sem, ↓IntWalk.iteOmega, IntWalk.iteOmega, IntWalk.toNatUp]) (by simp [go_sem, ↓IntWalk.iteOmega, IntWalk.iteOmega, IntWalk.toNatUp]) (Or.inl rfl) ?_
      simp [go_sem, ↓IntWalk.iteOmega, IntWalk.iteOmega, IntWalk.toNatUp]
      repeat (refine And.intro (by omega) ?_)
      try (refine ⟨DrawChk_of (by kernel_rfl), ?_⟩)
      repeat (first | (refine nf1_sound rfl ?_; simp [go_sem, ↓IntWalk.iteOmega, IntWalk.iteOmega, IntWalk.toNatUp]; (repeat (refine And.intro (by omega) ?_)); try (refine ⟨DrawChk_of (by kernel_rfl), ?_⟩)) | (refine itePos (by omega) ?_; try simp [go_sem, ↓IntWalk.iteOmega, IntWalk.iteOmega, IntWalk.toNatUp]) | (refine iteNeg (by omega) ?_; try simp [go_sem, ↓IntWalk.iteOmega, IntWalk.iteOmega, IntWalk.toNatUp]) | (refine ⟨DrawChk_of (by kernel_rfl), ?_⟩))
      first | rw [RetQ_ret] | rw [RetQ_normal]
      refine ⟨[], ?_⟩
      simp [go_sem, ↓IntWalk.iteOmega, IntWalk.iteOmega, IntWalk.toNatUp]
  · refine FnOk.intro fact_mixed Try.func6 rfl Try.ntmps6 (by rfl) (by simp) ?_
    repeat (first | (refine nf1_sound rfl ?_; simp [go_sem, ↓IntWalk.iteOmega, IntWalk.iteOmega, IntWalk.toNatUp]; (repeat (refine And.intro (by omega) ?_)); try (refine ⟨DrawChk_of (by kernel_rfl), ?_⟩)) | (refine itePos (by omega) ?_; try simp [go_sem, ↓IntWalk.iteOmega, IntWalk.iteOmega, IntWalk.toNatUp]) | (refine iteNeg (by omega) ?_; try simp [go_sem, ↓IntWalk.iteOmega, IntWalk.iteOmega, IntWalk.toNatUp]) | (refine ⟨DrawChk_of (by kernel_rfl), ?_⟩))
    refine CallK.fn (awake_fn) [] [] [] (by kernel_rfl) (by simp [go_sem, ↓IntWalk.iteOmega, IntWalk.iteOmega, IntWalk.toNatUp]) (by simp [go_sem, ↓IntWalk.iteOmega, IntWalk.iteOmega, IntWalk.toNatUp]) (by simp [go_sem, ↓IntWalk.iteOmega, IntWalk.iteOmega, IntWalk.toNatUp]) (Or.inl rfl) ?_
    simp [go_sem, ↓IntWalk.iteOmega, IntWalk.iteOmega, IntWalk.toNatUp]
    repeat (refine And.intro (by omega) ?_)
    try (refine ⟨DrawChk_of (by kernel_rfl), ?_⟩)
    repeat (first | (refine nf1_sound rfl ?_; simp [go_sem, ↓IntWalk.iteOmega, IntWalk.iteOmega, IntWalk.toNatUp]; (repeat (refine And.intro (by omega) ?_)); try (refine ⟨DrawChk_of (by kernel_rfl), ?_⟩)) | (refine itePos (by omega) ?_; try simp [go_sem, ↓IntWalk.iteOmega, IntWalk.iteOmega, IntWalk.toNatUp]) | (refine iteNeg (by omega) ?_; try simp [go_sem, ↓IntWalk.iteOmega, IntWalk.iteOmega, IntWalk.toNatUp]) | (refine ⟨DrawChk_of (by kernel_rfl), ?_⟩))
    first | rw [RetQ_ret] | rw [RetQ_normal]
    refine ⟨[], ?_⟩
    simp [go_sem, ↓IntWalk.iteOmega, IntWalk.iteOmega, IntWalk.toNatUp]
theorem keeps_all (x0 : T) (h0 : InSh (.sl (.int .u16)) x0) :
    FnOk Try.prog 6 [.t x0] [] (.t (.bool true)) [] := by
  obtain ⟨l, rfl, hl, h16⟩ := words_in h0
  exact keeps_fn l hl h16
end Go.Proofs.Ytgncmbjkahpdiaa
