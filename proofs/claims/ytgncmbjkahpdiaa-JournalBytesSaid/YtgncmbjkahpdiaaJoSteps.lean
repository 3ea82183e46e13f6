/- The law JournalSteps. No condition. -/
import Derived.Test.YtgncmbjkahpdiaaJoAgree
import Derived.Test.YtgncmbjkahpdiaaJoAwake
import Derived.Test.YtgncmbjkahpdiaaWArg
namespace Go.Proofs.Ytgncmbjkahpdiaa
open Go.RowKit Sy
set_option linter.unusedVariables false
set_option linter.unusedSimpArgs false
structure FlSmall (f : Fl) : Prop where
  b8 : Bytes f.b
  p8 : Bytes f.p
  sum : f.b.length + f.p.length ≤ 65536
theorem FlSmall.ok {f : Fl} (h : FlSmall f) (n : Nat) (hn : 65536 ≤ n) : FlOk f n := ⟨h.b8, h.p8, by have := h.sum; omega, by have := h.sum; omega⟩
theorem put_b8 (z : Int) : Bytes (putZ z) := Wire.put_bytes _
theorem bytes_app {a b : List Nat} (ha : Bytes a) (hb : Bytes b) : Bytes (a ++ b) := fun c hc => (List.mem_append.1 hc).elim (ha c) (hb c)
theorem small_sync {f : Fl} (h : FlSmall f) : FlSmall (syncV f) :=
  ⟨bytes_app h.b8 h.p8, fun c hc => by simp [syncV] at hc, by have := h.sum; simp [syncV]; omega⟩
theorem small_crash {f : Fl} (h : FlSmall f) (k : Int) : FlSmall (crashV f k) :=
  ⟨bytes_app h.b8 (fun c hc => h.p8 c (List.mem_of_mem_take hc)), fun c hc => by simp [crashV] at hc, by have := h.sum; simp [crashV, List.length_take]; omega⟩
theorem small_rec {f : Fl} (h : FlSmall f) (n : Nat) : FlSmall ⟨f.b.take n, []⟩ :=
  ⟨fun c hc => h.b8 c (List.mem_of_mem_take hc), fun c hc => by simp at hc, by have := h.sum; simp [List.length_take]; omega⟩
theorem small_app {f g : Fl} {b : List Nat} {e : Int} (h : FlSmall f) (hb : Bytes b) (hr : appV f b = (g, e)) : FlSmall g := by
  unfold appV at hr
  split at hr
  · split at hr
    · split at hr
      · rename_i hs
        obtain ⟨rfl, _⟩ := Prod.mk.inj hr
        exact ⟨h.b8, bytes_app h.p8 (bytes_app (put_b8 _) hb), by simp only [List.length_append] at hs ⊢; omega⟩
      · obtain ⟨rfl, _⟩ := Prod.mk.inj hr; exact h
    · obtain ⟨rfl, _⟩ := Prod.mk.inj hr; exact h
  · obtain ⟨rfl, _⟩ := Prod.mk.inj hr; exact h
def fillB (n s : Nat) : Nat → List Nat
  | 0 => List.replicate n 0
  | k + 1 => (fillB n s k).set k ((s + k) % 256)
theorem fillB_len (n s : Nat) : ∀ k, (fillB n s k).length = n
  | 0 => by simp [fillB]
  | k + 1 => by simp [fillB, fillB_len n s k]
theorem fillB_b8 (n s : Nat) : ∀ k, Bytes (fillB n s k)
  | 0 => by intro c hc; simp [fillB] at hc; omega
  | k + 1 => by
    intro c hc
    rcases List.mem_or_eq_of_mem_set hc with hc | rfl
    · exact fillB_b8 n s k c hc
    · omega
/-- What a loop writes into a list of bytes. -/
theorem filled_ex (n s : Nat) : ∃ B : Nat → List Nat, B 0 = List.replicate n 0 ∧ (∀ k, k < n → (B k).set k ((s + k) % 256) = B (k + 1)) ∧ (∀ k, (B k).length = n) ∧ ∀ k, Bytes (B k) :=
  ⟨fillB n s, rfl, fun k _ => rfl, fillB_len n s, fillB_b8 n s⟩
set_option maxRecDepth 100000 in
set_option maxHeartbeats 16000000 in
theorem steps_fn (l : List Nat) (z : Nat) (hl : l.length ≤ 9223372036854775807) (h16 : ∀ s ∈ l, s < 65536) (hz : z < 65536) :
    FnOk Try.prog 4 [.t (encWs l), .t (.lit (.int .u16 z))] [] (.t (.bool true)) [] := by
  by_cases hl40 : l.length ≤ 40
  · refine FnOk.intro fact_mixed Try.func4 rfl Try.ntmps4 (by rfl) (by simp) ?_
    repeat (first | (refine nf1_sound rfl ?_; simp [go_sem, ↓IntWalk.iteOmega, IntWalk.iteOmega, IntWalk.toNatUp]; (repeat (refine And.intro (by omega) ?_)); try (refine ⟨DrawChk_of (by kernel_rfl), ?_⟩)) | (refine itePos (by omega) ?_; try simp [go_sem, ↓IntWalk.iteOmega, IntWalk.iteOmega, IntWalk.toNatUp]) | (refine iteNeg (by omega) ?_; try simp [go_sem, ↓IntWalk.iteOmega, IntWalk.iteOmega, IntWalk.toNatUp]) | (refine ⟨DrawChk_of (by kernel_rfl), ?_⟩))
    refine nf1_sound' _ _ _ ?_; simp only [nf1]
    refine CW.loop (ι := Nat × Fl) (fun p => ⟨[(0, .t (encWs l)), (1, .t (.lit (.int .u16 z))), (5, .pt 505 [] 0), (6, .t (.int p.1))], [(505, .box 24 (.t (encF p.2)))]⟩) (fun p => p.1 ≤ l.length ∧ FlSmall p.2) (fun p => l.length - p.1) (0, ⟨[], []⟩) [(505, some 105)] ⟨by simp, ⟨by intro c hc; simp at hc, by intro c hc; simp at hc, by simp⟩⟩ ?_ ?_
    · simp [go_sem, ↓IntWalk.iteOmega, IntWalk.iteOmega, IntWalk.toNatUp]
    rintro ⟨i, f⟩ ⟨hi, hf⟩
    dsimp only at hi hf ⊢
    by_cases hil : i < l.length
    · obtain ⟨s, hs⟩ := has_get hil
      have hs16 := h16 s (mem_get hs)
      obtain ⟨kp, hkp⟩ : ∃ k : Int, (s : Int) / 16 % 60 - 2 = k := ⟨_, rfl⟩
      have hkr : -2 ≤ kp ∧ kp ≤ 58 := by omega
      by_cases h63 : s % 64 = 63
      · obtain ⟨n, hn⟩ : ∃ n : Nat, (z : Int) % 4003 = n := ⟨z % 4003, by omega⟩
        have hnr : n ≤ 4002 := by omega
        obtain ⟨B, b0, bs, bl, b8⟩ := filled_ex n s
        have ca := agree_fn f (B n) kp (hf.ok 400000 (by omega)) (by rw [bl]; omega)
        repeat (first | (refine nf1_sound rfl ?_; simp [go_sem, ↓IntWalk.iteOmega, IntWalk.iteOmega, IntWalk.toNatUp, hs, hn]; (repeat (refine And.intro (by omega) ?_)); try (refine ⟨DrawChk_of (by kernel_rfl), ?_⟩)) | (refine itePos (by omega) ?_; try simp [go_sem, ↓IntWalk.iteOmega, IntWalk.iteOmega, IntWalk.toNatUp, hs, hn]) | (refine iteNeg (by omega) ?_; try simp [go_sem, ↓IntWalk.iteOmega, IntWalk.iteOmega, IntWalk.toNatUp, hs, hn]) | (refine ⟨DrawChk_of (by kernel_rfl), ?_⟩))
        refine nf1_sound' _ _ _ ?_; simp only [nf1]
        refine CW.loop (ι := Nat) (fun k => ⟨[(0, .t (encWs l)), (1, .t (.lit (.int .u16 z))), (5, .pt 505 [] 0), (6, .t (.int i)), (8, .own 510), (9, .t (.int k))], [(505, .box 24 (.t (encF f))), (510, blkU (B k))]⟩) (fun k => k ≤ n) (fun k => n - k) 0 [(505, some 505), (510, some 138)] (by omega) ?_ ?_
        · simp [go_sem, ↓IntWalk.iteOmega, IntWalk.iteOmega, IntWalk.toNatUp, b0]
        intro k hk
        have blk := bl k
        by_cases hkn : k < n
        · have hset := bs k hkn
          obtain ⟨V, hV⟩ : ∃ V, B k = V := ⟨_, rfl⟩
          rw [hV] at hset blk ⊢
          have hset2 : (V.map encU).set k (encU ((s + k) % 256)) = (B (k + 1)).map encU := by rw [← hset, List.map_set]
          obtain ⟨c, hc⟩ := has_get (show k < V.length by omega)
          by_cases h255 : s + k ≤ 255
          · have ev : (((s + k) % 256 : Nat) : Int) = (s : Int) + k := by omega
            simp only [encU, ev] at hset2
            repeat (first | (refine nf1_sound rfl ?_; simp [go_sem, ↓IntWalk.iteOmega, IntWalk.iteOmega, IntWalk.toNatUp, hs, hc]; (repeat (refine And.intro (by omega) ?_)); try (refine ⟨DrawChk_of (by kernel_rfl), ?_⟩)) | (refine itePos (by omega) ?_; try simp [go_sem, ↓IntWalk.iteOmega, IntWalk.iteOmega, IntWalk.toNatUp, hs, hc]) | (refine iteNeg (by omega) ?_; try simp [go_sem, ↓IntWalk.iteOmega, IntWalk.iteOmega, IntWalk.toNatUp, hs, hc]) | (refine ⟨DrawChk_of (by kernel_rfl), ?_⟩))
            rw [RoundQ_normal]; refine ⟨k + 1, [(505, some 505), (510, some 510)], ?_, ?_, ?_⟩
            · omega
            · omega
            simp [go_sem, ↓IntWalk.iteOmega, IntWalk.iteOmega, IntWalk.toNatUp, hset2]
          · have ew : IntKind.u8.wrap ((s : Int) + k) = (((s + k) % 256 : Nat) : Int) := by rw [u8_wrap]; omega
            have ev : (((s + k) % 256 : Nat) : Int) = ((s : Int) + k) % 256 := by omega
            rw [ev] at ew
            simp only [encU, ev] at hset2
            repeat (first | (refine nf1_sound rfl ?_; simp [go_sem, ↓IntWalk.iteOmega, IntWalk.iteOmega, IntWalk.toNatUp, hs, ew, hc]; (repeat (refine And.intro (by omega) ?_)); try (refine ⟨DrawChk_of (by kernel_rfl), ?_⟩)) | (refine itePos (by omega) ?_; try simp [go_sem, ↓IntWalk.iteOmega, IntWalk.iteOmega, IntWalk.toNatUp, hs, ew, hc]) | (refine iteNeg (by omega) ?_; try simp [go_sem, ↓IntWalk.iteOmega, IntWalk.iteOmega, IntWalk.toNatUp, hs, ew, hc]) | (refine ⟨DrawChk_of (by kernel_rfl), ?_⟩))
            rw [RoundQ_normal]; refine ⟨k + 1, [(505, some 505), (510, some 510)], ?_, ?_, ?_⟩
            · omega
            · omega
            simp [go_sem, ↓IntWalk.iteOmega, IntWalk.iteOmega, IntWalk.toNatUp, hset2]
        · obtain rfl : k = n := by omega
          obtain ⟨V, hV⟩ : ∃ V, B k = V := ⟨_, rfl⟩
          have hV8 := b8 k
          rw [hV] at ca blk hV8 ⊢
          have c0 : ¬ s % 8 = 0 := by omega
          have c1 : ¬ s % 8 = 1 := by omega
          have c2 : ¬ s % 8 = 2 := by omega
          obtain ⟨g, ge, hap⟩ : ∃ g e, appV f V = (g, e) := ⟨_, _, rfl⟩
          have hgs := small_app hf hV8 hap
          have cs := rappend_fn f V (hf.ok 400000 (by omega)) (by omega) g ge hap
          obtain ⟨fb, fp⟩ := f
          obtain ⟨gb, gp⟩ := g
          repeat (first | (refine nf1_sound rfl ?_; simp [go_sem, ↓IntWalk.iteOmega, IntWalk.iteOmega, IntWalk.toNatUp, hs, hkp]; (repeat (refine And.intro (by omega) ?_)); try (refine ⟨DrawChk_of (by kernel_rfl), ?_⟩)) | (refine itePos (by omega) ?_; try simp [go_sem, ↓IntWalk.iteOmega, IntWalk.iteOmega, IntWalk.toNatUp, hs, hkp]) | (refine iteNeg (by omega) ?_; try simp [go_sem, ↓IntWalk.iteOmega, IntWalk.iteOmega, IntWalk.toNatUp, hs, hkp]) | (refine ⟨DrawChk_of (by kernel_rfl), ?_⟩))
          refine CallK.fn (ca) [] [510] [] (by kernel_rfl) (by simp [go_sem, ↓IntWalk.iteOmega, IntWalk.iteOmega, IntWalk.toNatUp]) (by simp [go_sem, ↓IntWalk.iteOmega, IntWalk.iteOmega, IntWalk.toNatUp]) (by simp [go_sem, ↓IntWalk.iteOmega, IntWalk.iteOmega, IntWalk.toNatUp]) (Or.inr ⟨by simp [go_sem, ↓IntWalk.iteOmega, IntWalk.iteOmega, IntWalk.toNatUp], by simp [go_sem, ↓IntWalk.iteOmega, IntWalk.iteOmega, IntWalk.toNatUp]⟩) ?_
          simp [go_sem, ↓IntWalk.iteOmega, IntWalk.iteOmega, IntWalk.toNatUp]
          repeat (refine And.intro (by omega) ?_)
          try (refine ⟨DrawChk_of (by kernel_rfl), ?_⟩)
          repeat (first | (refine nf1_sound rfl ?_; simp [go_sem, ↓IntWalk.iteOmega, IntWalk.iteOmega, IntWalk.toNatUp, hs]; (repeat (refine And.intro (by omega) ?_)); try (refine ⟨DrawChk_of (by kernel_rfl), ?_⟩)) | (refine itePos (by omega) ?_; try simp [go_sem, ↓IntWalk.iteOmega, IntWalk.iteOmega, IntWalk.toNatUp, hs]) | (refine iteNeg (by omega) ?_; try simp [go_sem, ↓IntWalk.iteOmega, IntWalk.iteOmega, IntWalk.toNatUp, hs]) | (refine ⟨DrawChk_of (by kernel_rfl), ?_⟩))
          refine CallK.fn (cs) [] [] [510] (by kernel_rfl) (by simp [go_sem, ↓IntWalk.iteOmega, IntWalk.iteOmega, IntWalk.toNatUp]) (by simp [go_sem, ↓IntWalk.iteOmega, IntWalk.iteOmega, IntWalk.toNatUp]) (by simp [go_sem, ↓IntWalk.iteOmega, IntWalk.iteOmega, IntWalk.toNatUp]) (Or.inl rfl) ?_
          simp [go_sem, ↓IntWalk.iteOmega, IntWalk.iteOmega, IntWalk.toNatUp]
          repeat (refine And.intro (by omega) ?_)
          try (refine ⟨DrawChk_of (by kernel_rfl), ?_⟩)
          repeat (first | (refine nf1_sound rfl ?_; simp [go_sem, ↓IntWalk.iteOmega, IntWalk.iteOmega, IntWalk.toNatUp]; (repeat (refine And.intro (by omega) ?_)); try (refine ⟨DrawChk_of (by kernel_rfl), ?_⟩)) | (refine itePos (by omega) ?_; try simp [go_sem, ↓IntWalk.iteOmega, IntWalk.iteOmega, IntWalk.toNatUp]) | (refine iteNeg (by omega) ?_; try simp [go_sem, ↓IntWalk.iteOmega, IntWalk.iteOmega, IntWalk.toNatUp]) | (refine ⟨DrawChk_of (by kernel_rfl), ?_⟩))
          rw [RoundQ_normal]; refine ⟨(i + 1, ⟨gb, gp⟩), [(505, some 505)], ?_, ?_, ?_⟩
          · exact ⟨by dsimp only; omega, hgs⟩
          · dsimp only
            omega
          simp [go_sem, ↓IntWalk.iteOmega, IntWalk.iteOmega, IntWalk.toNatUp]
      · obtain ⟨n, hn⟩ : ∃ n : Nat, (s : Int) / 8 % 40 = n := ⟨s / 8 % 40, by omega⟩
        have hnr : n ≤ 39 := by omega
        obtain ⟨B, b0, bs, bl, b8⟩ := filled_ex n s
        have ca := agree_fn f (B n) kp (hf.ok 400000 (by omega)) (by rw [bl]; omega)
        repeat (first | (refine nf1_sound rfl ?_; simp [go_sem, ↓IntWalk.iteOmega, IntWalk.iteOmega, IntWalk.toNatUp, hs, hn]; (repeat (refine And.intro (by omega) ?_)); try (refine ⟨DrawChk_of (by kernel_rfl), ?_⟩)) | (refine itePos (by omega) ?_; try simp [go_sem, ↓IntWalk.iteOmega, IntWalk.iteOmega, IntWalk.toNatUp, hs, hn]) | (refine iteNeg (by omega) ?_; try simp [go_sem, ↓IntWalk.iteOmega, IntWalk.iteOmega, IntWalk.toNatUp, hs, hn]) | (refine ⟨DrawChk_of (by kernel_rfl), ?_⟩))
        refine nf1_sound' _ _ _ ?_; simp only [nf1]
        refine CW.loop (ι := Nat) (fun k => ⟨[(0, .t (encWs l)), (1, .t (.lit (.int .u16 z))), (5, .pt 505 [] 0), (6, .t (.int i)), (8, .own 510), (9, .t (.int k))], [(505, .box 24 (.t (encF f))), (510, blkU (B k))]⟩) (fun k => k ≤ n) (fun k => n - k) 0 [(505, some 505), (510, some 138)] (by omega) ?_ ?_
        · simp [go_sem, ↓IntWalk.iteOmega, IntWalk.iteOmega, IntWalk.toNatUp, b0]
        intro k hk
        have blk := bl k
        by_cases hkn : k < n
        · have hset := bs k hkn
          obtain ⟨V, hV⟩ : ∃ V, B k = V := ⟨_, rfl⟩
          rw [hV] at hset blk ⊢
          have hset2 : (V.map encU).set k (encU ((s + k) % 256)) = (B (k + 1)).map encU := by rw [← hset, List.map_set]
          obtain ⟨c, hc⟩ := has_get (show k < V.length by omega)
          by_cases h255 : s + k ≤ 255
          · have ev : (((s + k) % 256 : Nat) : Int) = (s : Int) + k := by omega
            simp only [encU, ev] at hset2
            repeat (first | (refine nf1_sound rfl ?_; simp [go_sem, ↓IntWalk.iteOmega, IntWalk.iteOmega, IntWalk.toNatUp, hs, hc]; (repeat (refine And.intro (by omega) ?_)); try (refine ⟨DrawChk_of (by kernel_rfl), ?_⟩)) | (refine itePos (by omega) ?_; try simp [go_sem, ↓IntWalk.iteOmega, IntWalk.iteOmega, IntWalk.toNatUp, hs, hc]) | (refine iteNeg (by omega) ?_; try simp [go_sem, ↓IntWalk.iteOmega, IntWalk.iteOmega, IntWalk.toNatUp, hs, hc]) | (refine ⟨DrawChk_of (by kernel_rfl), ?_⟩))
            rw [RoundQ_normal]; refine ⟨k + 1, [(505, some 505), (510, some 510)], ?_, ?_, ?_⟩
            · omega
            · omega
            simp [go_sem, ↓IntWalk.iteOmega, IntWalk.iteOmega, IntWalk.toNatUp, hset2]
          · have ew : IntKind.u8.wrap ((s : Int) + k) = (((s + k) % 256 : Nat) : Int) := by rw [u8_wrap]; omega
            have ev : (((s + k) % 256 : Nat) : Int) = ((s : Int) + k) % 256 := by omega
            rw [ev] at ew
            simp only [encU, ev] at hset2
            repeat (first | (refine nf1_sound rfl ?_; simp [go_sem, ↓IntWalk.iteOmega, IntWalk.iteOmega, IntWalk.toNatUp, hs, ew, hc]; (repeat (refine And.intro (by omega) ?_)); try (refine ⟨DrawChk_of (by kernel_rfl), ?_⟩)) | (refine itePos (by omega) ?_; try simp [go_sem, ↓IntWalk.iteOmega, IntWalk.iteOmega, IntWalk.toNatUp, hs, ew, hc]) | (refine iteNeg (by omega) ?_; try simp [go_sem, ↓IntWalk.iteOmega, IntWalk.iteOmega, IntWalk.toNatUp, hs, ew, hc]) | (refine ⟨DrawChk_of (by kernel_rfl), ?_⟩))
            rw [RoundQ_normal]; refine ⟨k + 1, [(505, some 505), (510, some 510)], ?_, ?_, ?_⟩
            · omega
            · omega
            simp [go_sem, ↓IntWalk.iteOmega, IntWalk.iteOmega, IntWalk.toNatUp, hset2]
        · obtain rfl : k = n := by omega
          obtain ⟨V, hV⟩ : ∃ V, B k = V := ⟨_, rfl⟩
          have hV8 := b8 k
          rw [hV] at ca blk hV8 ⊢
          by_cases c0 : s % 8 = 0
          · have c0i : (s : Int) % 8 = 0 := by omega
            have cs := rsync_fn f (hf.ok 500000 (by omega)) _ rfl
            obtain ⟨g, hg⟩ : ∃ g, syncV f = g := ⟨_, rfl⟩
            have hgs : FlSmall g := by rw [← hg]; exact small_sync hf
            rw [hg] at cs
            obtain ⟨fb, fp⟩ := f
            obtain ⟨gb, gp⟩ := g
            repeat (first | (refine nf1_sound rfl ?_; simp [go_sem, ↓IntWalk.iteOmega, IntWalk.iteOmega, IntWalk.toNatUp, hs, hkp]; (repeat (refine And.intro (by omega) ?_)); try (refine ⟨DrawChk_of (by kernel_rfl), ?_⟩)) | (refine itePos (by omega) ?_; try simp [go_sem, ↓IntWalk.iteOmega, IntWalk.iteOmega, IntWalk.toNatUp, hs, hkp]) | (refine iteNeg (by omega) ?_; try simp [go_sem, ↓IntWalk.iteOmega, IntWalk.iteOmega, IntWalk.toNatUp, hs, hkp]) | (refine ⟨DrawChk_of (by kernel_rfl), ?_⟩))
            refine CallK.fn (ca) [] [510] [] (by kernel_rfl) (by simp [go_sem, ↓IntWalk.iteOmega, IntWalk.iteOmega, IntWalk.toNatUp]) (by simp [go_sem, ↓IntWalk.iteOmega, IntWalk.iteOmega, IntWalk.toNatUp]) (by simp [go_sem, ↓IntWalk.iteOmega, IntWalk.iteOmega, IntWalk.toNatUp]) (Or.inr ⟨by simp [go_sem, ↓IntWalk.iteOmega, IntWalk.iteOmega, IntWalk.toNatUp], by simp [go_sem, ↓IntWalk.iteOmega, IntWalk.iteOmega, IntWalk.toNatUp]⟩) ?_
            simp [go_sem, ↓IntWalk.iteOmega, IntWalk.iteOmega, IntWalk.toNatUp]
            repeat (refine And.intro (by omega) ?_)
            try (refine ⟨DrawChk_of (by kernel_rfl), ?_⟩)
            repeat (first | (refine nf1_sound rfl ?_; simp [go_sem, ↓IntWalk.iteOmega, IntWalk.iteOmega, IntWalk.toNatUp, hs]; (repeat (refine And.intro (by omega) ?_)); try (refine ⟨DrawChk_of (by kernel_rfl), ?_⟩)) | (refine itePos (by omega) ?_; try simp [go_sem, ↓IntWalk.iteOmega, IntWalk.iteOmega, IntWalk.toNatUp, hs]) | (refine iteNeg (by omega) ?_; try simp [go_sem, ↓IntWalk.iteOmega, IntWalk.iteOmega, IntWalk.toNatUp, hs]) | (refine ⟨DrawChk_of (by kernel_rfl), ?_⟩))
            refine CallK.fn (cs) [] [] [] (by kernel_rfl) (by simp [go_sem, ↓IntWalk.iteOmega, IntWalk.iteOmega, IntWalk.toNatUp]) (by simp [go_sem, ↓IntWalk.iteOmega, IntWalk.iteOmega, IntWalk.toNatUp]) (by simp [go_sem, ↓IntWalk.iteOmega, IntWalk.iteOmega, IntWalk.toNatUp]) (Or.inl rfl) ?_
            simp [go_sem, ↓IntWalk.iteOmega, IntWalk.iteOmega, IntWalk.toNatUp]
            repeat (refine And.intro (by omega) ?_)
            try (refine ⟨DrawChk_of (by kernel_rfl), ?_⟩)
            repeat (first | (refine nf1_sound rfl ?_; simp [go_sem, ↓IntWalk.iteOmega, IntWalk.iteOmega, IntWalk.toNatUp]; (repeat (refine And.intro (by omega) ?_)); try (refine ⟨DrawChk_of (by kernel_rfl), ?_⟩)) | (refine itePos (by omega) ?_; try simp [go_sem, ↓IntWalk.iteOmega, IntWalk.iteOmega, IntWalk.toNatUp]) | (refine iteNeg (by omega) ?_; try simp [go_sem, ↓IntWalk.iteOmega, IntWalk.iteOmega, IntWalk.toNatUp]) | (refine ⟨DrawChk_of (by kernel_rfl), ?_⟩))
            rw [RoundQ_normal]; refine ⟨(i + 1, ⟨gb, gp⟩), [(505, some 505)], ?_, ?_, ?_⟩
            · exact ⟨by dsimp only; omega, hgs⟩
            · dsimp only
              omega
            simp [go_sem, ↓IntWalk.iteOmega, IntWalk.iteOmega, IntWalk.toNatUp]
          ·
            by_cases c1 : s % 8 = 1
            · have c1i : (s : Int) % 8 = 1 := by omega
              have cs := rcrash_fn f kp (hf.ok 500000 (by omega)) _ rfl
              obtain ⟨g, hg⟩ : ∃ g, crashV f kp = g := ⟨_, rfl⟩
              have hgs : FlSmall g := by rw [← hg]; exact small_crash hf kp
              rw [hg] at cs
              obtain ⟨fb, fp⟩ := f
              obtain ⟨gb, gp⟩ := g
              repeat (first | (refine nf1_sound rfl ?_; simp [go_sem, ↓IntWalk.iteOmega, IntWalk.iteOmega, IntWalk.toNatUp, hs, hkp]; (repeat (refine And.intro (by omega) ?_)); try (refine ⟨DrawChk_of (by kernel_rfl), ?_⟩)) | (refine itePos (by omega) ?_; try simp [go_sem, ↓IntWalk.iteOmega, IntWalk.iteOmega, IntWalk.toNatUp, hs, hkp]) | (refine iteNeg (by omega) ?_; try simp [go_sem, ↓IntWalk.iteOmega, IntWalk.iteOmega, IntWalk.toNatUp, hs, hkp]) | (refine ⟨DrawChk_of (by kernel_rfl), ?_⟩))
              refine CallK.fn (ca) [] [510] [] (by kernel_rfl) (by simp [go_sem, ↓IntWalk.iteOmega, IntWalk.iteOmega, IntWalk.toNatUp]) (by simp [go_sem, ↓IntWalk.iteOmega, IntWalk.iteOmega, IntWalk.toNatUp]) (by simp [go_sem, ↓IntWalk.iteOmega, IntWalk.iteOmega, IntWalk.toNatUp]) (Or.inr ⟨by simp [go_sem, ↓IntWalk.iteOmega, IntWalk.iteOmega, IntWalk.toNatUp], by simp [go_sem, ↓IntWalk.iteOmega, IntWalk.iteOmega, IntWalk.toNatUp]⟩) ?_
              simp [go_sem, ↓IntWalk.iteOmega, IntWalk.iteOmega, IntWalk.toNatUp]
              repeat (refine And.intro (by omega) ?_)
              try (refine ⟨DrawChk_of (by kernel_rfl), ?_⟩)
              repeat (first | (refine nf1_sound rfl ?_; simp [go_sem, ↓IntWalk.iteOmega, IntWalk.iteOmega, IntWalk.toNatUp, hs]; (repeat (refine And.intro (by omega) ?_)); try (refine ⟨DrawChk_of (by kernel_rfl), ?_⟩)) | (refine itePos (by omega) ?_; try simp [go_sem, ↓IntWalk.iteOmega, IntWalk.iteOmega, IntWalk.toNatUp, hs]) | (refine iteNeg (by omega) ?_; try simp [go_sem, ↓IntWalk.iteOmega, IntWalk.iteOmega, IntWalk.toNatUp, hs]) | (refine ⟨DrawChk_of (by kernel_rfl), ?_⟩))
              refine CallK.fn (cs) [] [] [] (by kernel_rfl) (by simp [go_sem, ↓IntWalk.iteOmega, IntWalk.iteOmega, IntWalk.toNatUp]) (by simp [go_sem, ↓IntWalk.iteOmega, IntWalk.iteOmega, IntWalk.toNatUp]) (by simp [go_sem, ↓IntWalk.iteOmega, IntWalk.iteOmega, IntWalk.toNatUp]) (Or.inl rfl) ?_
              simp [go_sem, ↓IntWalk.iteOmega, IntWalk.iteOmega, IntWalk.toNatUp]
              repeat (refine And.intro (by omega) ?_)
              try (refine ⟨DrawChk_of (by kernel_rfl), ?_⟩)
              repeat (first | (refine nf1_sound rfl ?_; simp [go_sem, ↓IntWalk.iteOmega, IntWalk.iteOmega, IntWalk.toNatUp]; (repeat (refine And.intro (by omega) ?_)); try (refine ⟨DrawChk_of (by kernel_rfl), ?_⟩)) | (refine itePos (by omega) ?_; try simp [go_sem, ↓IntWalk.iteOmega, IntWalk.iteOmega, IntWalk.toNatUp]) | (refine iteNeg (by omega) ?_; try simp [go_sem, ↓IntWalk.iteOmega, IntWalk.iteOmega, IntWalk.toNatUp]) | (refine ⟨DrawChk_of (by kernel_rfl), ?_⟩))
              rw [RoundQ_normal]; refine ⟨(i + 1, ⟨gb, gp⟩), [(505, some 505)], ?_, ?_, ?_⟩
              · exact ⟨by dsimp only; omega, hgs⟩
              · dsimp only
                omega
              simp [go_sem, ↓IntWalk.iteOmega, IntWalk.iteOmega, IntWalk.toNatUp]
            ·
              by_cases c2 : s % 8 = 2
              · have c2i : (s : Int) % 8 = 2 := by omega
                obtain ⟨fr, m, hrd⟩ : ∃ a b, readV f.b = (a, b) := ⟨_, _, rfl⟩
                have cs := rrecover_fn f (hf.ok 500000 (by omega)) fr m hrd
                obtain ⟨g, hg⟩ : ∃ g, (⟨f.b.take m, []⟩ : Fl) = g := ⟨_, rfl⟩
                have hgs : FlSmall g := by rw [← hg]; exact small_rec hf m
                rw [hg] at cs
                obtain ⟨fb, fp⟩ := f
                obtain ⟨gb, gp⟩ := g
                repeat (first | (refine nf1_sound rfl ?_; simp [go_sem, ↓IntWalk.iteOmega, IntWalk.iteOmega, IntWalk.toNatUp, hs, hkp]; (repeat (refine And.intro (by omega) ?_)); try (refine ⟨DrawChk_of (by kernel_rfl), ?_⟩)) | (refine itePos (by omega) ?_; try simp [go_sem, ↓IntWalk.iteOmega, IntWalk.iteOmega, IntWalk.toNatUp, hs, hkp]) | (refine iteNeg (by omega) ?_; try simp [go_sem, ↓IntWalk.iteOmega, IntWalk.iteOmega, IntWalk.toNatUp, hs, hkp]) | (refine ⟨DrawChk_of (by kernel_rfl), ?_⟩))
                refine CallK.fn (ca) [] [510] [] (by kernel_rfl) (by simp [go_sem, ↓IntWalk.iteOmega, IntWalk.iteOmega, IntWalk.toNatUp]) (by simp [go_sem, ↓IntWalk.iteOmega, IntWalk.iteOmega, IntWalk.toNatUp]) (by simp [go_sem, ↓IntWalk.iteOmega, IntWalk.iteOmega, IntWalk.toNatUp]) (Or.inr ⟨by simp [go_sem, ↓IntWalk.iteOmega, IntWalk.iteOmega, IntWalk.toNatUp], by simp [go_sem, ↓IntWalk.iteOmega, IntWalk.iteOmega, IntWalk.toNatUp]⟩) ?_
                simp [go_sem, ↓IntWalk.iteOmega, IntWalk.iteOmega, IntWalk.toNatUp]
                repeat (refine And.intro (by omega) ?_)
                try (refine ⟨DrawChk_of (by kernel_rfl), ?_⟩)
                repeat (first | (refine nf1_sound rfl ?_; simp [go_sem, ↓IntWalk.iteOmega, IntWalk.iteOmega, IntWalk.toNatUp, hs]; (repeat (refine And.intro (by omega) ?_)); try (refine ⟨DrawChk_of (by kernel_rfl), ?_⟩)) | (refine itePos (by omega) ?_; try simp [go_sem, ↓IntWalk.iteOmega, IntWalk.iteOmega, IntWalk.toNatUp, hs]) | (refine iteNeg (by omega) ?_; try simp [go_sem, ↓IntWalk.iteOmega, IntWalk.iteOmega, IntWalk.toNatUp, hs]) | (refine ⟨DrawChk_of (by kernel_rfl), ?_⟩))
                refine CallK.fn (cs) [(1000, 193)] [] [] (by kernel_rfl) (by simp [go_sem, ↓IntWalk.iteOmega, IntWalk.iteOmega, IntWalk.toNatUp]) (by simp [go_sem, ↓IntWalk.iteOmega, IntWalk.iteOmega, IntWalk.toNatUp]) (by simp [go_sem, ↓IntWalk.iteOmega, IntWalk.iteOmega, IntWalk.toNatUp]) (Or.inl rfl) ?_
                simp [go_sem, ↓IntWalk.iteOmega, IntWalk.iteOmega, IntWalk.toNatUp]
                repeat (refine And.intro (by omega) ?_)
                try (refine ⟨DrawChk_of (by kernel_rfl), ?_⟩)
                repeat (first | (refine nf1_sound rfl ?_; simp [go_sem, ↓IntWalk.iteOmega, IntWalk.iteOmega, IntWalk.toNatUp]; (repeat (refine And.intro (by omega) ?_)); try (refine ⟨DrawChk_of (by kernel_rfl), ?_⟩)) | (refine itePos (by omega) ?_; try simp [go_sem, ↓IntWalk.iteOmega, IntWalk.iteOmega, IntWalk.toNatUp]) | (refine iteNeg (by omega) ?_; try simp [go_sem, ↓IntWalk.iteOmega, IntWalk.iteOmega, IntWalk.toNatUp]) | (refine ⟨DrawChk_of (by kernel_rfl), ?_⟩))
                rw [RoundQ_normal]; refine ⟨(i + 1, ⟨gb, gp⟩), [(505, some 505)], ?_, ?_, ?_⟩
                · exact ⟨by dsimp only; omega, hgs⟩
                · dsimp only
                  omega
                simp [go_sem, ↓IntWalk.iteOmega, IntWalk.iteOmega, IntWalk.toNatUp]
              ·
                obtain ⟨g, ge, hap⟩ : ∃ g e, appV f V = (g, e) := ⟨_, _, rfl⟩
                have hgs := small_app hf hV8 hap
                have cs := rappend_fn f V (hf.ok 400000 (by omega)) (by omega) g ge hap
                obtain ⟨fb, fp⟩ := f
                obtain ⟨gb, gp⟩ := g
                repeat (first | (refine nf1_sound rfl ?_; simp [go_sem, ↓IntWalk.iteOmega, IntWalk.iteOmega, IntWalk.toNatUp, hs, hkp]; (repeat (refine And.intro (by omega) ?_)); try (refine ⟨DrawChk_of (by kernel_rfl), ?_⟩)) | (refine itePos (by omega) ?_; try simp [go_sem, ↓IntWalk.iteOmega, IntWalk.iteOmega, IntWalk.toNatUp, hs, hkp]) | (refine iteNeg (by omega) ?_; try simp [go_sem, ↓IntWalk.iteOmega, IntWalk.iteOmega, IntWalk.toNatUp, hs, hkp]) | (refine ⟨DrawChk_of (by kernel_rfl), ?_⟩))
                refine CallK.fn (ca) [] [510] [] (by kernel_rfl) (by simp [go_sem, ↓IntWalk.iteOmega, IntWalk.iteOmega, IntWalk.toNatUp]) (by simp [go_sem, ↓IntWalk.iteOmega, IntWalk.iteOmega, IntWalk.toNatUp]) (by simp [go_sem, ↓IntWalk.iteOmega, IntWalk.iteOmega, IntWalk.toNatUp]) (Or.inr ⟨by simp [go_sem, ↓IntWalk.iteOmega, IntWalk.iteOmega, IntWalk.toNatUp], by simp [go_sem, ↓IntWalk.iteOmega, IntWalk.iteOmega, IntWalk.toNatUp]⟩) ?_
                simp [go_sem, ↓IntWalk.iteOmega, IntWalk.iteOmega, IntWalk.toNatUp]
                repeat (refine And.intro (by omega) ?_)
                try (refine ⟨DrawChk_of (by kernel_rfl), ?_⟩)
                repeat (first | (refine nf1_sound rfl ?_; simp [go_sem, ↓IntWalk.iteOmega, IntWalk.iteOmega, IntWalk.toNatUp, hs]; (repeat (refine And.intro (by omega) ?_)); try (refine ⟨DrawChk_of (by kernel_rfl), ?_⟩)) | (refine itePos (by omega) ?_; try simp [go_sem, ↓IntWalk.iteOmega, IntWalk.iteOmega, IntWalk.toNatUp, hs]) | (refine iteNeg (by omega) ?_; try simp [go_sem, ↓IntWalk.iteOmega, IntWalk.iteOmega, IntWalk.toNatUp, hs]) | (refine ⟨DrawChk_of (by kernel_rfl), ?_⟩))
                refine CallK.fn (cs) [] [] [510] (by kernel_rfl) (by simp [go_sem, ↓IntWalk.iteOmega, IntWalk.iteOmega, IntWalk.toNatUp]) (by simp [go_sem, ↓IntWalk.iteOmega, IntWalk.iteOmega, IntWalk.toNatUp]) (by simp [go_sem, ↓IntWalk.iteOmega, IntWalk.iteOmega, IntWalk.toNatUp]) (Or.inl rfl) ?_
                simp [go_sem, ↓IntWalk.iteOmega, IntWalk.iteOmega, IntWalk.toNatUp]
                repeat (refine And.intro (by omega) ?_)
                try (refine ⟨DrawChk_of (by kernel_rfl), ?_⟩)
                repeat (first | (refine nf1_sound rfl ?_; simp [go_sem, ↓IntWalk.iteOmega, IntWalk.iteOmega, IntWalk.toNatUp]; (repeat (refine And.intro (by omega) ?_)); try (refine ⟨DrawChk_of (by kernel_rfl), ?_⟩)) | (refine itePos (by omega) ?_; try simp [go_sem, ↓IntWalk.iteOmega, IntWalk.iteOmega, IntWalk.toNatUp]) | (refine iteNeg (by omega) ?_; try simp [go_sem, ↓IntWalk.iteOmega, IntWalk.iteOmega, IntWalk.toNatUp]) | (refine ⟨DrawChk_of (by kernel_rfl), ?_⟩))
                rw [RoundQ_normal]; refine ⟨(i + 1, ⟨gb, gp⟩), [(505, some 505)], ?_, ?_, ?_⟩
                · exact ⟨by dsimp only; omega, hgs⟩
                · dsimp only
                  omega
                simp [go_sem, ↓IntWalk.iteOmega, IntWalk.iteOmega, IntWalk.toNatUp]
    · obtain rfl : i = l.length := by omega
      obtain ⟨fb, fp⟩ := f
      repeat (first | (refine nf1_sound rfl ?_; simp [go_sem, ↓IntWalk.iteOmega, IntWalk.iteOmega, IntWalk.toNatUp]; (repeat (refine And.intro (by omega) ?_)); try (refine ⟨DrawChk_of (by kernel_rfl), ?_⟩)) | (refine itePos (by omega) ?_; try simp [go_sem, ↓IntWalk.iteOmega, IntWalk.iteOmega, IntWalk.toNatUp]) | (refine iteNeg (by omega) ?_; try simp [go_sem, ↓IntWalk.iteOmega, IntWalk.iteOmega, IntWalk.toNatUp]) | (refine ⟨DrawChk_of (by kernel_rfl), ?_⟩))
      refine CallK.fn (awake_fn) [] [] [] (by kernel_rfl) (by simp [go_sem, ↓IntWalk.iteOmega, IntWalk.iteOmega, IntWalk.toNatUp]) (by simp [go_sem, ↓IntWalk.iteOmega, IntWalk.iteOmega, IntWalk.toNatUp]) (by simp [go_sem, ↓IntWalk.iteOmega, IntWalk.iteOmega, IntWalk.toNatUp]) (Or.inl rfl) ?_
      simp [go_sem, ↓IntWalk.iteOmega, IntWalk.iteOmega, IntWalk.toNatUp]
      repeat (refine And.intro (by omega) ?_)
      try (refine ⟨DrawChk_of (by kernel_rfl), ?_⟩)
      repeat (first | (refine nf1_sound rfl ?_; simp [go_sem, ↓IntWalk.iteOmega, IntWalk.iteOmega, IntWalk.toNatUp]; (repeat (refine And.intro (by omega) ?_)); try (refine ⟨DrawChk_of (by kernel_rfl), ?_⟩)) | (refine itePos (by omega) ?_; try simp [go_sem, ↓IntWalk.iteOmega, IntWalk.iteOmega, IntWalk.toNatUp]) | (refine iteNeg (by omega) ?_; try simp [go_sem, ↓IntWalk.iteOmega, IntWalk.iteOmega, IntWalk.toNatUp]) | (refine ⟨DrawChk_of (by kernel_rfl), ?_⟩))
      first | rw [RetQ_ret] | rw [RetQ_normal]
      refine ⟨[], ?_⟩
      simp [go_sem, ↓IntWalk.iteOmega, IntWalk.iteOmega, IntWalk.toNatUp]
  · refine FnOk.intro fact_mixed Try.func4 rfl Try.ntmps4 (by rfl) (by simp) ?_
    repeat (first | (refine nf1_sound rfl ?_; simp [go_sem, ↓IntWalk.iteOmega, IntWalk.iteOmega, IntWalk.toNatUp]; (repeat (refine And.intro (by omega) ?_)); try (refine ⟨DrawChk_of (by kernel_rfl), ?_⟩)) | (refine itePos (by omega) ?_; try simp [go_sem, ↓IntWalk.iteOmega, IntWalk.iteOmega, IntWalk.toNatUp]) | (refine iteNeg (by omega) ?_; try simp [go_sem, ↓IntWalk.iteOmega, IntWalk.iteOmega, IntWalk.toNatUp]) | (refine ⟨DrawChk_of (by kernel_rfl), ?_⟩))
    refine CallK.fn (awake_fn) [] [] [] (by kernel_rfl) (by simp [go_sem, ↓IntWalk.iteOmega, IntWalk.iteOmega, IntWalk.toNatUp]) (by simp [go_sem, ↓IntWalk.iteOmega, IntWalk.iteOmega, IntWalk.toNatUp]) (by simp [go_sem, ↓IntWalk.iteOmega, IntWalk.iteOmega, IntWalk.toNatUp]) (Or.inl rfl) ?_
    simp [go_sem, ↓IntWalk.iteOmega, IntWalk.iteOmega, IntWalk.toNatUp]
    repeat (refine And.intro (by omega) ?_)
    try (refine ⟨DrawChk_of (by kernel_rfl), ?_⟩)
    repeat (first | (refine nf1_sound rfl ?_; simp [go_sem, ↓IntWalk.iteOmega, IntWalk.iteOmega, IntWalk.toNatUp]; (repeat (refine And.intro (by omega) ?_)); try (refine ⟨DrawChk_of (by kernel_rfl), ?_⟩)) | (refine itePos (by omega) ?_; try simp [go_sem, ↓IntWalk.iteOmega, IntWalk.iteOmega, IntWalk.toNatUp]) | (refine iteNeg (by omega) ?_; try simp [go_sem, ↓IntWalk.iteOmega, IntWalk.iteOmega, IntWalk.toNatUp]) | (refine ⟨DrawChk_of (by kernel_rfl), ?_⟩))
    first | rw [RetQ_ret] | rw [RetQ_normal]
    refine ⟨[], ?_⟩
    simp [go_sem, ↓IntWalk.iteOmega, IntWalk.iteOmega, IntWalk.toNatUp]
theorem steps_all (x0 x1 : T) (h0 : InSh (.sl (.int .u16)) x0) (h1 : InSh (.int .u16) x1) :
    FnOk Try.prog 4 [.t x0, .t x1] [] (.t (.bool true)) [] := by
  obtain ⟨l, rfl, hl, h16⟩ := words_in h0
  obtain ⟨z, rfl, hz⟩ := wu16_in h1
  exact steps_fn l z hl h16 hz
end Go.Proofs.Ytgncmbjkahpdiaa
