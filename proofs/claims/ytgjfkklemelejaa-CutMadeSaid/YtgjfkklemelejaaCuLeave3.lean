/- The reference's Leave as a contract. No condition. -/
import Derived.Test.YtgjfkklemelejaaCuLeave2
namespace Go.Proofs.Ytgjfkklemelejaa
open Go.RowKit Sy
set_option linter.unusedVariables false
set_option linter.unusedSimpArgs false
set_option maxRecDepth 100000 in
set_option maxHeartbeats 16000000 in
theorem rleave_ok (cap lev : List Int) (l : List Po) (bs : List Bt) (hcl : cap.length ≤ 1000000) (hll : lev.length ≤ 1000000) (hb : bs.length ≤ 1000000) (hsm : SmallP l) (X : List Int) (hr : leaveR cap lev l bs = (X, 0)) : FnOk Try.prog 27 [.t (encIs cap), .t (encIs lev), .t (encPos l), .t (encBts bs)] [] (.tup [.own 1000, .t (.int 0)]) [(1000, blkI X)] := by
  have hl := hsm.1
  by_cases h4 : 400 < l.length
  · unfold leaveR at hr
    rw [if_pos h4] at hr
    exact absurd (Prod.mk.inj hr).2 (by decide)
  by_cases hc0 : cap = []
  · subst hc0
    unfold leaveR at hr
    rw [if_neg h4, if_pos (by by_cases h : lev.length = 0; exact .inr h; exact .inl (fun e => h e.symm))] at hr
    exact absurd (Prod.mk.inj hr).2 (by decide)
  have hc1 : cap.length ≠ 0 := by intro h; exact hc0 (List.eq_nil_of_length_eq_zero h)
  by_cases h9 : cap.length ≠ lev.length
  · unfold leaveR at hr
    rw [if_neg h4, if_pos (.inl h9)] at hr
    exact absurd (Prod.mk.inj hr).2 (by decide)
  have hcl2 : cap.length = lev.length := by omega
  rw [leave_few h4 (by omega)] at hr
  have hne : lev ≠ [] := by intro h; rw [h] at hcl2; exact hc1 hcl2
  refine FnOk.intro fact_mixed Try.func27 rfl Try.ntmps27 (by rfl) (by simp) ?_
  repeat (first | (refine nf1_sound rfl ?_; simp [go_sem, ↓IntWalk.iteOmega, IntWalk.iteOmega, IntWalk.toNatUp, hcl2, hc0, hne]; (repeat (refine And.intro (by omega) ?_)); try (refine ⟨DrawChk_of (by kernel_rfl), ?_⟩)) | (refine itePos (by omega) ?_; try simp [go_sem, ↓IntWalk.iteOmega, IntWalk.iteOmega, IntWalk.toNatUp, hcl2, hc0, hne]) | (refine iteNeg (by omega) ?_; try simp [go_sem, ↓IntWalk.iteOmega, IntWalk.iteOmega, IntWalk.toNatUp, hcl2, hc0, hne]) | (refine ⟨DrawChk_of (by kernel_rfl), ?_⟩))
  refine nf1_sound' _ _ _ ?_; simp only [nf1]
  refine CW.loop (ι := Nat) (fun k => ⟨[(0, .t (encIs cap)), (1, .t (encIs lev)), (2, .t (encPos l)), (3, .t (encBts bs)), (10, .t (.int lev.length)), (11, .t (.int k))], []⟩) (fun k => k ≤ lev.length ∧ ∀ i, i < k → okL cap lev i) (fun k => lev.length - k) 0 [] ⟨by omega, by intros; omega⟩ ?_ ?_
  · simp [go_sem, ↓IntWalk.iteOmega, IntWalk.iteOmega, IntWalk.toNatUp, hcl2]
  rintro k ⟨hk, hok⟩
  by_cases hk2 : k < lev.length
  · obtain ⟨o, ho⟩ := has_get hk2
    obtain ⟨c, hc⟩ := has_get (show k < cap.length by omega)
    have hkl := okl_at ho hc
    by_cases hgood : 0 ≤ o ∧ o ≤ c ∧ c ≤ 1099511627776
    · repeat (first | (refine nf1_sound rfl ?_; simp [go_sem, ↓IntWalk.iteOmega, IntWalk.iteOmega, IntWalk.toNatUp, ho, hc]; (repeat (refine And.intro (by omega) ?_)); try (refine ⟨DrawChk_of (by kernel_rfl), ?_⟩)) | (refine itePos (by omega) ?_; try simp [go_sem, ↓IntWalk.iteOmega, IntWalk.iteOmega, IntWalk.toNatUp, ho, hc]) | (refine iteNeg (by omega) ?_; try simp [go_sem, ↓IntWalk.iteOmega, IntWalk.iteOmega, IntWalk.toNatUp, ho, hc]) | (refine ⟨DrawChk_of (by kernel_rfl), ?_⟩))
      rw [RoundQ_normal]; refine ⟨k + 1, [], ?_, ?_, ?_⟩
      · refine ⟨by omega, fun i hi => ?_⟩
        by_cases e1 : i = k
        · rw [e1]; exact hkl.2 hgood
        · exact hok i (by omega)
      · omega
      simp [go_sem, ↓IntWalk.iteOmega, IntWalk.iteOmega, IntWalk.toNatUp]
    · rw [if_pos (fun h => hgood (hkl.1 (h k (List.mem_range.2 hk2))))] at hr
      by_cases g1 : 1099511627776 < c
      · exact absurd (Prod.mk.inj hr).2 (by decide)
      · by_cases g2 : o < 0
        · exact absurd (Prod.mk.inj hr).2 (by decide)
        · have g3 : c < o := by omega
          exact absurd (Prod.mk.inj hr).2 (by decide)
  · obtain rfl : k = lev.length := by omega
    have hall : ∀ i ∈ List.range lev.length, okL cap lev i := fun i hi => hok i (List.mem_range.1 hi)
    have hst := lvok_start hcl2 hall
    rw [if_neg (fun h => h hall)] at hr
    obtain ⟨n, hn⟩ : ∃ n, (lev.length : Int) - 1 = n := ⟨_, rfl⟩
    rw [hn] at hr
    have hnr : 0 ≤ n ∧ n ≤ 1000000 := by omega
    repeat (first | (refine nf1_sound rfl ?_; simp [go_sem, ↓IntWalk.iteOmega, IntWalk.iteOmega, IntWalk.toNatUp]; (repeat (refine And.intro (by omega) ?_)); try (refine ⟨DrawChk_of (by kernel_rfl), ?_⟩)) | (refine itePos (by omega) ?_; try simp [go_sem, ↓IntWalk.iteOmega, IntWalk.iteOmega, IntWalk.toNatUp]) | (refine iteNeg (by omega) ?_; try simp [go_sem, ↓IntWalk.iteOmega, IntWalk.iteOmega, IntWalk.toNatUp]) | (refine ⟨DrawChk_of (by kernel_rfl), ?_⟩))
    refine nf1_sound' _ _ _ ?_; simp only [nf1]
    refine CW.loop (ι := Nat) (fun k => ⟨[(0, .t (encIs cap)), (1, .t (encIs lev)), (2, .t (encPos l)), (3, .t (encBts bs)), (10, .t (.int lev.length)), (12, .t (.int k))], []⟩) (fun k => k ≤ l.length ∧ ∀ x ∈ l.take k, inB bs x ∧ okP bs n x) (fun k => l.length - k) 0 [] ⟨by omega, by simp⟩ ?_ ?_
    · simp [go_sem, ↓IntWalk.iteOmega, IntWalk.iteOmega, IntWalk.toNatUp]
    rintro k ⟨hk, hok⟩
    by_cases hk2 : k < l.length
    · obtain ⟨⟨b, v, s⟩, hx⟩ := has_get hk2
      by_cases hin : inB bs (b, v, s)
      · obtain ⟨p, nm, hp, htk⟩ := tk_get hin
        by_cases hop : okP bs n (b, v, s)
        · have hok2 : ∀ x ∈ l.take (k + 1), inB bs x ∧ okP bs n x := by
            rw [take_snoc hx]
            intro y hy
            rcases List.mem_append.1 hy with hy | hy
            · exact hok y hy
            · obtain rfl := List.mem_singleton.1 hy
              exact ⟨hin, hop⟩
          unfold okP at hop
          rw [htk] at hop
          unfold inB at hin
          dsimp only at hin
          cases s with
          | true =>
            repeat (first | (refine nf1_sound rfl ?_; simp [go_sem, ↓IntWalk.iteOmega, IntWalk.iteOmega, IntWalk.toNatUp, hx, hp, hn]; (repeat (refine And.intro (by omega) ?_)); try (refine ⟨DrawChk_of (by kernel_rfl), ?_⟩)) | (refine itePos (by omega) ?_; try simp [go_sem, ↓IntWalk.iteOmega, IntWalk.iteOmega, IntWalk.toNatUp, hx, hp, hn]) | (refine iteNeg (by omega) ?_; try simp [go_sem, ↓IntWalk.iteOmega, IntWalk.iteOmega, IntWalk.toNatUp, hx, hp, hn]) | (refine ⟨DrawChk_of (by kernel_rfl), ?_⟩))
            rw [RoundQ_normal]; refine ⟨k + 1, [], ?_, ?_, ?_⟩
            · exact ⟨by omega, fun a c => ⟨hok2 _, hok2 _⟩⟩
            · omega
            simp [go_sem, ↓IntWalk.iteOmega, IntWalk.iteOmega, IntWalk.toNatUp]
          | false =>
            simp only [Bool.false_eq_true, if_false, false_or] at hop
            repeat (first | (refine nf1_sound rfl ?_; simp [go_sem, ↓IntWalk.iteOmega, IntWalk.iteOmega, IntWalk.toNatUp, hx, hp, hn]; (repeat (refine And.intro (by omega) ?_)); try (refine ⟨DrawChk_of (by kernel_rfl), ?_⟩)) | (refine itePos (by omega) ?_; try simp [go_sem, ↓IntWalk.iteOmega, IntWalk.iteOmega, IntWalk.toNatUp, hx, hp, hn]) | (refine iteNeg (by omega) ?_; try simp [go_sem, ↓IntWalk.iteOmega, IntWalk.iteOmega, IntWalk.toNatUp, hx, hp, hn]) | (refine ⟨DrawChk_of (by kernel_rfl), ?_⟩))
            rw [RoundQ_normal]; refine ⟨k + 1, [], ?_, ?_, ?_⟩
            · exact ⟨by omega, fun a c => ⟨hok2 _, hok2 _⟩⟩
            · omega
            simp [go_sem, ↓IntWalk.iteOmega, IntWalk.iteOmega, IntWalk.toNatUp]
        · rw [if_pos (fun h => hop (h _ (mem_get hx)).2)] at hr
          unfold okP at hop
          rw [htk] at hop
          unfold inB at hin
          dsimp only at hin
          cases s with
          | true => simp at hop
          | false =>
            simp only [Bool.false_eq_true, if_false, false_or] at hop
            by_cases g1 : p < 0
            · exact absurd (Prod.mk.inj hr).2 (by decide)
            · have g2 : n ≤ p := by omega
              exact absurd (Prod.mk.inj hr).2 (by decide)
      · rw [if_pos (fun h => hin (h _ (mem_get hx)).1)] at hr
        unfold inB at hin
        dsimp only at hin
        by_cases g1 : b < 0
        · exact absurd (Prod.mk.inj hr).2 (by decide)
        · have g2 : (bs.length : Int) ≤ b := by omega
          exact absurd (Prod.mk.inj hr).2 (by decide)
    · obtain rfl : k = l.length := by omega
      rw [List.take_length] at hok
      rw [if_neg (fun h => h hok)] at hr
      repeat (first | (refine nf1_sound rfl ?_; simp [go_sem, ↓IntWalk.iteOmega, IntWalk.iteOmega, IntWalk.toNatUp]; (repeat (refine And.intro (by omega) ?_)); try (refine ⟨DrawChk_of (by kernel_rfl), ?_⟩)) | (refine itePos (by omega) ?_; try simp [go_sem, ↓IntWalk.iteOmega, IntWalk.iteOmega, IntWalk.toNatUp]) | (refine iteNeg (by omega) ?_; try simp [go_sem, ↓IntWalk.iteOmega, IntWalk.iteOmega, IntWalk.toNatUp]) | (refine ⟨DrawChk_of (by kernel_rfl), ?_⟩))
      refine nf1_sound' _ _ _ ?_; simp only [nf1]
      refine CW.loop (ι := Nat × List Int) (fun i => ⟨[(0, .t (encIs cap)), (1, .t (encIs lev)), (2, .t (encPos l)), (3, .t (encBts bs)), (10, .t (.int lev.length)), (14, .own 514), (15, .t (.int i.1))], [(514, blkI i.2)]⟩) (fun i => i.1 ≤ l.length ∧ LvOk cap lev.length i.2 ∧ lvGo cap bs n (l.drop i.1) i.2 = lvGo cap bs n l lev) (fun i => l.length - i.1) (0, lev) [(514, some 212)] ⟨by omega, hst, by simp⟩ ?_ ?_
      · simp [go_sem, ↓IntWalk.iteOmega, IntWalk.iteOmega, IntWalk.toNatUp]
      rintro ⟨k, out⟩ ⟨hk, hlv, hgo⟩
      dsimp only at hk hlv hgo
      by_cases hkl2 : k < l.length
      · obtain ⟨⟨b, v, s⟩, hx⟩ := has_get hkl2
        have hxi := (hok _ (mem_get hx)).1
        have hxo := (hok _ (mem_get hx)).2
        obtain ⟨p, nm, hp, htk⟩ := tk_get hxi
        have htr := tkI_range hnr.1 hxo
        obtain ⟨j, hj⟩ : ∃ j : Nat, tkI bs n (b, v, s) = (j : Int) := ⟨(tkI bs n (b, v, s)).toNat, by omega⟩
        have hjn : j < lev.length := by omega
        obtain ⟨o, ho⟩ := has_get (show j < out.length by rw [hlv.len]; exact hjn)
        obtain ⟨c, hc⟩ := has_get (show j < cap.length by omega)
        have hoc := hlv.each j o c ho hc
        have hlen := hlv.len
        have hvr := hsm.2 _ (mem_get hx)
        dsimp only at hvr
        rw [drop_get hx, lv_step hj ho hc] at hgo
        dsimp only at hgo
        unfold inB at hxi
        dsimp only at hxi
        have hjv : tkI bs n (b, v, s) = if s then n else p := by unfold tkI; rw [htk]; cases s <;> rfl
        rw [hj] at hjv
        cases s with
        | true =>
          simp only [if_true] at hjv
          have ht : n.toNat = j := by omega
          by_cases hv0 : v < 0
          · rw [if_pos (.inl hv0)] at hgo
            rw [← hgo] at hr
            exact absurd (Prod.mk.inj hr).2 (by decide)
          · by_cases hv1 : c - o < v
            · rw [if_pos (.inr hv1)] at hgo
              rw [← hgo] at hr
              exact absurd (Prod.mk.inj hr).2 (by decide)
            · rw [if_neg (by omega)] at hgo
              have hset := lvok_set hlv ho hc (v := v) (by omega) (by omega)
              repeat (first | (refine nf1_sound rfl ?_; simp [go_sem, ↓IntWalk.iteOmega, IntWalk.iteOmega, IntWalk.toNatUp, hx, hp, hn, ht, ho, hc]; (repeat (refine And.intro (by omega) ?_)); try (refine ⟨DrawChk_of (by kernel_rfl), ?_⟩)) | (refine itePos (by omega) ?_; try simp [go_sem, ↓IntWalk.iteOmega, IntWalk.iteOmega, IntWalk.toNatUp, hx, hp, hn, ht, ho, hc]) | (refine iteNeg (by omega) ?_; try simp [go_sem, ↓IntWalk.iteOmega, IntWalk.iteOmega, IntWalk.toNatUp, hx, hp, hn, ht, ho, hc]) | (refine ⟨DrawChk_of (by kernel_rfl), ?_⟩))
              rw [RoundQ_normal]; refine ⟨(k + 1, out.set j (o + v)), [(514, some 514)], ?_, ?_, ?_⟩
              · exact ⟨by dsimp only; omega, hset, hgo⟩
              · dsimp only; omega
              simp [go_sem, ↓IntWalk.iteOmega, IntWalk.iteOmega, IntWalk.toNatUp]
        | false =>
          simp only [Bool.false_eq_true, if_false] at hjv
          have ht : p.toNat = j := by omega
          by_cases hv0 : v < 0
          · rw [if_pos (.inl hv0)] at hgo
            rw [← hgo] at hr
            exact absurd (Prod.mk.inj hr).2 (by decide)
          · by_cases hv1 : c - o < v
            · rw [if_pos (.inr hv1)] at hgo
              rw [← hgo] at hr
              exact absurd (Prod.mk.inj hr).2 (by decide)
            · rw [if_neg (by omega)] at hgo
              have hset := lvok_set hlv ho hc (v := v) (by omega) (by omega)
              repeat (first | (refine nf1_sound rfl ?_; simp [go_sem, ↓IntWalk.iteOmega, IntWalk.iteOmega, IntWalk.toNatUp, hx, hp, hn, ht, ho, hc]; (repeat (refine And.intro (by omega) ?_)); try (refine ⟨DrawChk_of (by kernel_rfl), ?_⟩)) | (refine itePos (by omega) ?_; try simp [go_sem, ↓IntWalk.iteOmega, IntWalk.iteOmega, IntWalk.toNatUp, hx, hp, hn, ht, ho, hc]) | (refine iteNeg (by omega) ?_; try simp [go_sem, ↓IntWalk.iteOmega, IntWalk.iteOmega, IntWalk.toNatUp, hx, hp, hn, ht, ho, hc]) | (refine ⟨DrawChk_of (by kernel_rfl), ?_⟩))
              rw [RoundQ_normal]; refine ⟨(k + 1, out.set j (o + v)), [(514, some 514)], ?_, ?_, ?_⟩
              · exact ⟨by dsimp only; omega, hset, hgo⟩
              · dsimp only; omega
              simp [go_sem, ↓IntWalk.iteOmega, IntWalk.iteOmega, IntWalk.toNatUp]
      · obtain rfl : k = l.length := by omega
        rw [List.drop_length] at hgo
        simp only [lvGo] at hgo
        rw [← hgo] at hr
        obtain ⟨rfl, _⟩ := Prod.mk.inj hr
        repeat (first | (refine nf1_sound rfl ?_; simp [go_sem, ↓IntWalk.iteOmega, IntWalk.iteOmega, IntWalk.toNatUp]; (repeat (refine And.intro (by omega) ?_)); try (refine ⟨DrawChk_of (by kernel_rfl), ?_⟩)) | (refine itePos (by omega) ?_; try simp [go_sem, ↓IntWalk.iteOmega, IntWalk.iteOmega, IntWalk.toNatUp]) | (refine iteNeg (by omega) ?_; try simp [go_sem, ↓IntWalk.iteOmega, IntWalk.iteOmega, IntWalk.toNatUp]) | (refine ⟨DrawChk_of (by kernel_rfl), ?_⟩))
        first | rw [RetQ_ret] | rw [RetQ_normal]
        refine ⟨[(1000, some 514)], ?_⟩
        simp [go_sem, ↓IntWalk.iteOmega, IntWalk.iteOmega, IntWalk.toNatUp]
set_option maxRecDepth 100000 in
set_option maxHeartbeats 16000000 in
theorem rleave_err (cap lev : List Int) (l : List Po) (bs : List Bt) (hcl : cap.length ≤ 1000000) (hll : lev.length ≤ 1000000) (hb : bs.length ≤ 1000000) (hsm : SmallP l) (X : List Int) (e : Int) (he : e ≠ 0) (hr : leaveR cap lev l bs = (X, e)) : FnOk Try.prog 27 [.t (encIs cap), .t (encIs lev), .t (encPos l), .t (encBts bs)] [] (.tup [.t (encIs lev), .t (.int e)]) [] := by
  have hl := hsm.1
  by_cases h4 : 400 < l.length
  · unfold leaveR at hr
    rw [if_pos h4] at hr
    obtain ⟨rfl, rfl⟩ := Prod.mk.inj hr
    refine FnOk.intro fact_mixed Try.func27 rfl Try.ntmps27 (by rfl) (by simp) ?_
    repeat (first | (refine nf1_sound rfl ?_; simp [go_sem, ↓IntWalk.iteOmega, IntWalk.iteOmega, IntWalk.toNatUp]; (repeat (refine And.intro (by omega) ?_)); try (refine ⟨DrawChk_of (by kernel_rfl), ?_⟩)) | (refine itePos (by omega) ?_; try simp [go_sem, ↓IntWalk.iteOmega, IntWalk.iteOmega, IntWalk.toNatUp]) | (refine iteNeg (by omega) ?_; try simp [go_sem, ↓IntWalk.iteOmega, IntWalk.iteOmega, IntWalk.toNatUp]) | (refine ⟨DrawChk_of (by kernel_rfl), ?_⟩))
    first | rw [RetQ_ret] | rw [RetQ_normal]
    refine ⟨[], ?_⟩
    simp [go_sem, ↓IntWalk.iteOmega, IntWalk.iteOmega, IntWalk.toNatUp]
  by_cases hc0 : cap = []
  · subst hc0
    unfold leaveR at hr
    rw [if_neg h4, if_pos (by by_cases h : lev.length = 0; exact .inr h; exact .inl (fun e => h e.symm))] at hr
    obtain ⟨rfl, rfl⟩ := Prod.mk.inj hr
    refine FnOk.intro fact_mixed Try.func27 rfl Try.ntmps27 (by rfl) (by simp) ?_
    repeat (first | (refine nf1_sound rfl ?_; simp [go_sem, ↓IntWalk.iteOmega, IntWalk.iteOmega, IntWalk.toNatUp]; (repeat (refine And.intro (by omega) ?_)); try (refine ⟨DrawChk_of (by kernel_rfl), ?_⟩)) | (refine itePos (by omega) ?_; try simp [go_sem, ↓IntWalk.iteOmega, IntWalk.iteOmega, IntWalk.toNatUp]) | (refine iteNeg (by omega) ?_; try simp [go_sem, ↓IntWalk.iteOmega, IntWalk.iteOmega, IntWalk.toNatUp]) | (refine ⟨DrawChk_of (by kernel_rfl), ?_⟩))
    first | rw [RetQ_ret] | rw [RetQ_normal]
    refine ⟨[], ?_⟩
    simp [go_sem, ↓IntWalk.iteOmega, IntWalk.iteOmega, IntWalk.toNatUp]
  have hc1 : cap.length ≠ 0 := by intro h; exact hc0 (List.eq_nil_of_length_eq_zero h)
  by_cases h9 : cap.length ≠ lev.length
  · unfold leaveR at hr
    rw [if_neg h4, if_pos (.inl h9)] at hr
    obtain ⟨rfl, rfl⟩ := Prod.mk.inj hr
    refine FnOk.intro fact_mixed Try.func27 rfl Try.ntmps27 (by rfl) (by simp) ?_
    repeat (first | (refine nf1_sound rfl ?_; simp [go_sem, ↓IntWalk.iteOmega, IntWalk.iteOmega, IntWalk.toNatUp, hc0]; (repeat (refine And.intro (by omega) ?_)); try (refine ⟨DrawChk_of (by kernel_rfl), ?_⟩)) | (refine itePos (by omega) ?_; try simp [go_sem, ↓IntWalk.iteOmega, IntWalk.iteOmega, IntWalk.toNatUp, hc0]) | (refine iteNeg (by omega) ?_; try simp [go_sem, ↓IntWalk.iteOmega, IntWalk.iteOmega, IntWalk.toNatUp, hc0]) | (refine ⟨DrawChk_of (by kernel_rfl), ?_⟩))
    first | rw [RetQ_ret] | rw [RetQ_normal]
    refine ⟨[], ?_⟩
    simp [go_sem, ↓IntWalk.iteOmega, IntWalk.iteOmega, IntWalk.toNatUp]
  have hcl2 : cap.length = lev.length := by omega
  rw [leave_few h4 (by omega)] at hr
  have hne : lev ≠ [] := by intro h; rw [h] at hcl2; exact hc1 hcl2
  refine FnOk.intro fact_mixed Try.func27 rfl Try.ntmps27 (by rfl) (by simp) ?_
  repeat (first | (refine nf1_sound rfl ?_; simp [go_sem, ↓IntWalk.iteOmega, IntWalk.iteOmega, IntWalk.toNatUp, hcl2, hc0, hne]; (repeat (refine And.intro (by omega) ?_)); try (refine ⟨DrawChk_of (by kernel_rfl), ?_⟩)) | (refine itePos (by omega) ?_; try simp [go_sem, ↓IntWalk.iteOmega, IntWalk.iteOmega, IntWalk.toNatUp, hcl2, hc0, hne]) | (refine iteNeg (by omega) ?_; try simp [go_sem, ↓IntWalk.iteOmega, IntWalk.iteOmega, IntWalk.toNatUp, hcl2, hc0, hne]) | (refine ⟨DrawChk_of (by kernel_rfl), ?_⟩))
  refine nf1_sound' _ _ _ ?_; simp only [nf1]
  refine CW.loop (ι := Nat) (fun k => ⟨[(0, .t (encIs cap)), (1, .t (encIs lev)), (2, .t (encPos l)), (3, .t (encBts bs)), (10, .t (.int lev.length)), (11, .t (.int k))], []⟩) (fun k => k ≤ lev.length ∧ ∀ i, i < k → okL cap lev i) (fun k => lev.length - k) 0 [] ⟨by omega, by intros; omega⟩ ?_ ?_
  · simp [go_sem, ↓IntWalk.iteOmega, IntWalk.iteOmega, IntWalk.toNatUp, hcl2]
  rintro k ⟨hk, hok⟩
  by_cases hk2 : k < lev.length
  · obtain ⟨o, ho⟩ := has_get hk2
    obtain ⟨c, hc⟩ := has_get (show k < cap.length by omega)
    have hkl := okl_at ho hc
    by_cases hgood : 0 ≤ o ∧ o ≤ c ∧ c ≤ 1099511627776
    · repeat (first | (refine nf1_sound rfl ?_; simp [go_sem, ↓IntWalk.iteOmega, IntWalk.iteOmega, IntWalk.toNatUp, ho, hc]; (repeat (refine And.intro (by omega) ?_)); try (refine ⟨DrawChk_of (by kernel_rfl), ?_⟩)) | (refine itePos (by omega) ?_; try simp [go_sem, ↓IntWalk.iteOmega, IntWalk.iteOmega, IntWalk.toNatUp, ho, hc]) | (refine iteNeg (by omega) ?_; try simp [go_sem, ↓IntWalk.iteOmega, IntWalk.iteOmega, IntWalk.toNatUp, ho, hc]) | (refine ⟨DrawChk_of (by kernel_rfl), ?_⟩))
      rw [RoundQ_normal]; refine ⟨k + 1, [], ?_, ?_, ?_⟩
      · refine ⟨by omega, fun i hi => ?_⟩
        by_cases e1 : i = k
        · rw [e1]; exact hkl.2 hgood
        · exact hok i (by omega)
      · omega
      simp [go_sem, ↓IntWalk.iteOmega, IntWalk.iteOmega, IntWalk.toNatUp]
    · rw [if_pos (fun h => hgood (hkl.1 (h k (List.mem_range.2 hk2))))] at hr
      by_cases g1 : 1099511627776 < c
      · obtain ⟨rfl, rfl⟩ := Prod.mk.inj hr
        repeat (first | (refine nf1_sound rfl ?_; simp [go_sem, ↓IntWalk.iteOmega, IntWalk.iteOmega, IntWalk.toNatUp, ho, hc]; (repeat (refine And.intro (by omega) ?_)); try (refine ⟨DrawChk_of (by kernel_rfl), ?_⟩)) | (refine itePos (by omega) ?_; try simp [go_sem, ↓IntWalk.iteOmega, IntWalk.iteOmega, IntWalk.toNatUp, ho, hc]) | (refine iteNeg (by omega) ?_; try simp [go_sem, ↓IntWalk.iteOmega, IntWalk.iteOmega, IntWalk.toNatUp, ho, hc]) | (refine ⟨DrawChk_of (by kernel_rfl), ?_⟩))
        first | rw [RetQ_ret] | rw [RetQ_normal]
        refine ⟨[], ?_⟩
        simp [go_sem, ↓IntWalk.iteOmega, IntWalk.iteOmega, IntWalk.toNatUp]
      · by_cases g2 : o < 0
        · obtain ⟨rfl, rfl⟩ := Prod.mk.inj hr
          repeat (first | (refine nf1_sound rfl ?_; simp [go_sem, ↓IntWalk.iteOmega, IntWalk.iteOmega, IntWalk.toNatUp, ho, hc]; (repeat (refine And.intro (by omega) ?_)); try (refine ⟨DrawChk_of (by kernel_rfl), ?_⟩)) | (refine itePos (by omega) ?_; try simp [go_sem, ↓IntWalk.iteOmega, IntWalk.iteOmega, IntWalk.toNatUp, ho, hc]) | (refine iteNeg (by omega) ?_; try simp [go_sem, ↓IntWalk.iteOmega, IntWalk.iteOmega, IntWalk.toNatUp, ho, hc]) | (refine ⟨DrawChk_of (by kernel_rfl), ?_⟩))
          first | rw [RetQ_ret] | rw [RetQ_normal]
          refine ⟨[], ?_⟩
          simp [go_sem, ↓IntWalk.iteOmega, IntWalk.iteOmega, IntWalk.toNatUp]
        · have g3 : c < o := by omega
          obtain ⟨rfl, rfl⟩ := Prod.mk.inj hr
          repeat (first | (refine nf1_sound rfl ?_; simp [go_sem, ↓IntWalk.iteOmega, IntWalk.iteOmega, IntWalk.toNatUp, ho, hc]; (repeat (refine And.intro (by omega) ?_)); try (refine ⟨DrawChk_of (by kernel_rfl), ?_⟩)) | (refine itePos (by omega) ?_; try simp [go_sem, ↓IntWalk.iteOmega, IntWalk.iteOmega, IntWalk.toNatUp, ho, hc]) | (refine iteNeg (by omega) ?_; try simp [go_sem, ↓IntWalk.iteOmega, IntWalk.iteOmega, IntWalk.toNatUp, ho, hc]) | (refine ⟨DrawChk_of (by kernel_rfl), ?_⟩))
          first | rw [RetQ_ret] | rw [RetQ_normal]
          refine ⟨[], ?_⟩
          simp [go_sem, ↓IntWalk.iteOmega, IntWalk.iteOmega, IntWalk.toNatUp]
  · obtain rfl : k = lev.length := by omega
    have hall : ∀ i ∈ List.range lev.length, okL cap lev i := fun i hi => hok i (List.mem_range.1 hi)
    have hst := lvok_start hcl2 hall
    rw [if_neg (fun h => h hall)] at hr
    obtain ⟨n, hn⟩ : ∃ n, (lev.length : Int) - 1 = n := ⟨_, rfl⟩
    rw [hn] at hr
    have hnr : 0 ≤ n ∧ n ≤ 1000000 := by omega
    repeat (first | (refine nf1_sound rfl ?_; simp [go_sem, ↓IntWalk.iteOmega, IntWalk.iteOmega, IntWalk.toNatUp]; (repeat (refine And.intro (by omega) ?_)); try (refine ⟨DrawChk_of (by kernel_rfl), ?_⟩)) | (refine itePos (by omega) ?_; try simp [go_sem, ↓IntWalk.iteOmega, IntWalk.iteOmega, IntWalk.toNatUp]) | (refine iteNeg (by omega) ?_; try simp [go_sem, ↓IntWalk.iteOmega, IntWalk.iteOmega, IntWalk.toNatUp]) | (refine ⟨DrawChk_of (by kernel_rfl), ?_⟩))
    refine nf1_sound' _ _ _ ?_; simp only [nf1]
    refine CW.loop (ι := Nat) (fun k => ⟨[(0, .t (encIs cap)), (1, .t (encIs lev)), (2, .t (encPos l)), (3, .t (encBts bs)), (10, .t (.int lev.length)), (12, .t (.int k))], []⟩) (fun k => k ≤ l.length ∧ ∀ x ∈ l.take k, inB bs x ∧ okP bs n x) (fun k => l.length - k) 0 [] ⟨by omega, by simp⟩ ?_ ?_
    · simp [go_sem, ↓IntWalk.iteOmega, IntWalk.iteOmega, IntWalk.toNatUp]
    rintro k ⟨hk, hok⟩
    by_cases hk2 : k < l.length
    · obtain ⟨⟨b, v, s⟩, hx⟩ := has_get hk2
      by_cases hin : inB bs (b, v, s)
      · obtain ⟨p, nm, hp, htk⟩ := tk_get hin
        by_cases hop : okP bs n (b, v, s)
        · have hok2 : ∀ x ∈ l.take (k + 1), inB bs x ∧ okP bs n x := by
            rw [take_snoc hx]
            intro y hy
            rcases List.mem_append.1 hy with hy | hy
            · exact hok y hy
            · obtain rfl := List.mem_singleton.1 hy
              exact ⟨hin, hop⟩
          unfold okP at hop
          rw [htk] at hop
          unfold inB at hin
          dsimp only at hin
          cases s with
          | true =>
            repeat (first | (refine nf1_sound rfl ?_; simp [go_sem, ↓IntWalk.iteOmega, IntWalk.iteOmega, IntWalk.toNatUp, hx, hp, hn]; (repeat (refine And.intro (by omega) ?_)); try (refine ⟨DrawChk_of (by kernel_rfl), ?_⟩)) | (refine itePos (by omega) ?_; try simp [go_sem, ↓IntWalk.iteOmega, IntWalk.iteOmega, IntWalk.toNatUp, hx, hp, hn]) | (refine iteNeg (by omega) ?_; try simp [go_sem, ↓IntWalk.iteOmega, IntWalk.iteOmega, IntWalk.toNatUp, hx, hp, hn]) | (refine ⟨DrawChk_of (by kernel_rfl), ?_⟩))
            rw [RoundQ_normal]; refine ⟨k + 1, [], ?_, ?_, ?_⟩
            · exact ⟨by omega, fun a c => ⟨hok2 _, hok2 _⟩⟩
            · omega
            simp [go_sem, ↓IntWalk.iteOmega, IntWalk.iteOmega, IntWalk.toNatUp]
          | false =>
            simp only [Bool.false_eq_true, if_false, false_or] at hop
            repeat (first | (refine nf1_sound rfl ?_; simp [go_sem, ↓IntWalk.iteOmega, IntWalk.iteOmega, IntWalk.toNatUp, hx, hp, hn]; (repeat (refine And.intro (by omega) ?_)); try (refine ⟨DrawChk_of (by kernel_rfl), ?_⟩)) | (refine itePos (by omega) ?_; try simp [go_sem, ↓IntWalk.iteOmega, IntWalk.iteOmega, IntWalk.toNatUp, hx, hp, hn]) | (refine iteNeg (by omega) ?_; try simp [go_sem, ↓IntWalk.iteOmega, IntWalk.iteOmega, IntWalk.toNatUp, hx, hp, hn]) | (refine ⟨DrawChk_of (by kernel_rfl), ?_⟩))
            rw [RoundQ_normal]; refine ⟨k + 1, [], ?_, ?_, ?_⟩
            · exact ⟨by omega, fun a c => ⟨hok2 _, hok2 _⟩⟩
            · omega
            simp [go_sem, ↓IntWalk.iteOmega, IntWalk.iteOmega, IntWalk.toNatUp]
        · rw [if_pos (fun h => hop (h _ (mem_get hx)).2)] at hr
          unfold okP at hop
          rw [htk] at hop
          unfold inB at hin
          dsimp only at hin
          cases s with
          | true => simp at hop
          | false =>
            simp only [Bool.false_eq_true, if_false, false_or] at hop
            by_cases g1 : p < 0
            · obtain ⟨rfl, rfl⟩ := Prod.mk.inj hr
              repeat (first | (refine nf1_sound rfl ?_; simp [go_sem, ↓IntWalk.iteOmega, IntWalk.iteOmega, IntWalk.toNatUp, hx, hp, hn]; (repeat (refine And.intro (by omega) ?_)); try (refine ⟨DrawChk_of (by kernel_rfl), ?_⟩)) | (refine itePos (by omega) ?_; try simp [go_sem, ↓IntWalk.iteOmega, IntWalk.iteOmega, IntWalk.toNatUp, hx, hp, hn]) | (refine iteNeg (by omega) ?_; try simp [go_sem, ↓IntWalk.iteOmega, IntWalk.iteOmega, IntWalk.toNatUp, hx, hp, hn]) | (refine ⟨DrawChk_of (by kernel_rfl), ?_⟩))
              first | rw [RetQ_ret] | rw [RetQ_normal]
              refine ⟨[], ?_⟩
              simp [go_sem, ↓IntWalk.iteOmega, IntWalk.iteOmega, IntWalk.toNatUp]
            · have g2 : n ≤ p := by omega
              obtain ⟨rfl, rfl⟩ := Prod.mk.inj hr
              repeat (first | (refine nf1_sound rfl ?_; simp [go_sem, ↓IntWalk.iteOmega, IntWalk.iteOmega, IntWalk.toNatUp, hx, hp, hn]; (repeat (refine And.intro (by omega) ?_)); try (refine ⟨DrawChk_of (by kernel_rfl), ?_⟩)) | (refine itePos (by omega) ?_; try simp [go_sem, ↓IntWalk.iteOmega, IntWalk.iteOmega, IntWalk.toNatUp, hx, hp, hn]) | (refine iteNeg (by omega) ?_; try simp [go_sem, ↓IntWalk.iteOmega, IntWalk.iteOmega, IntWalk.toNatUp, hx, hp, hn]) | (refine ⟨DrawChk_of (by kernel_rfl), ?_⟩))
              first | rw [RetQ_ret] | rw [RetQ_normal]
              refine ⟨[], ?_⟩
              simp [go_sem, ↓IntWalk.iteOmega, IntWalk.iteOmega, IntWalk.toNatUp]
      · rw [if_pos (fun h => hin (h _ (mem_get hx)).1)] at hr
        unfold inB at hin
        dsimp only at hin
        by_cases g1 : b < 0
        · obtain ⟨rfl, rfl⟩ := Prod.mk.inj hr
          repeat (first | (refine nf1_sound rfl ?_; simp [go_sem, ↓IntWalk.iteOmega, IntWalk.iteOmega, IntWalk.toNatUp, hx]; (repeat (refine And.intro (by omega) ?_)); try (refine ⟨DrawChk_of (by kernel_rfl), ?_⟩)) | (refine itePos (by omega) ?_; try simp [go_sem, ↓IntWalk.iteOmega, IntWalk.iteOmega, IntWalk.toNatUp, hx]) | (refine iteNeg (by omega) ?_; try simp [go_sem, ↓IntWalk.iteOmega, IntWalk.iteOmega, IntWalk.toNatUp, hx]) | (refine ⟨DrawChk_of (by kernel_rfl), ?_⟩))
          first | rw [RetQ_ret] | rw [RetQ_normal]
          refine ⟨[], ?_⟩
          simp [go_sem, ↓IntWalk.iteOmega, IntWalk.iteOmega, IntWalk.toNatUp]
        · have g2 : (bs.length : Int) ≤ b := by omega
          obtain ⟨rfl, rfl⟩ := Prod.mk.inj hr
          repeat (first | (refine nf1_sound rfl ?_; simp [go_sem, ↓IntWalk.iteOmega, IntWalk.iteOmega, IntWalk.toNatUp, hx]; (repeat (refine And.intro (by omega) ?_)); try (refine ⟨DrawChk_of (by kernel_rfl), ?_⟩)) | (refine itePos (by omega) ?_; try simp [go_sem, ↓IntWalk.iteOmega, IntWalk.iteOmega, IntWalk.toNatUp, hx]) | (refine iteNeg (by omega) ?_; try simp [go_sem, ↓IntWalk.iteOmega, IntWalk.iteOmega, IntWalk.toNatUp, hx]) | (refine ⟨DrawChk_of (by kernel_rfl), ?_⟩))
          first | rw [RetQ_ret] | rw [RetQ_normal]
          refine ⟨[], ?_⟩
          simp [go_sem, ↓IntWalk.iteOmega, IntWalk.iteOmega, IntWalk.toNatUp]
    · obtain rfl : k = l.length := by omega
      rw [List.take_length] at hok
      rw [if_neg (fun h => h hok)] at hr
      repeat (first | (refine nf1_sound rfl ?_; simp [go_sem, ↓IntWalk.iteOmega, IntWalk.iteOmega, IntWalk.toNatUp]; (repeat (refine And.intro (by omega) ?_)); try (refine ⟨DrawChk_of (by kernel_rfl), ?_⟩)) | (refine itePos (by omega) ?_; try simp [go_sem, ↓IntWalk.iteOmega, IntWalk.iteOmega, IntWalk.toNatUp]) | (refine iteNeg (by omega) ?_; try simp [go_sem, ↓IntWalk.iteOmega, IntWalk.iteOmega, IntWalk.toNatUp]) | (refine ⟨DrawChk_of (by kernel_rfl), ?_⟩))
      refine nf1_sound' _ _ _ ?_; simp only [nf1]
      refine CW.loop (ι := Nat × List Int) (fun i => ⟨[(0, .t (encIs cap)), (1, .t (encIs lev)), (2, .t (encPos l)), (3, .t (encBts bs)), (10, .t (.int lev.length)), (14, .own 514), (15, .t (.int i.1))], [(514, blkI i.2)]⟩) (fun i => i.1 ≤ l.length ∧ LvOk cap lev.length i.2 ∧ lvGo cap bs n (l.drop i.1) i.2 = lvGo cap bs n l lev) (fun i => l.length - i.1) (0, lev) [(514, some 212)] ⟨by omega, hst, by simp⟩ ?_ ?_
      · simp [go_sem, ↓IntWalk.iteOmega, IntWalk.iteOmega, IntWalk.toNatUp]
      rintro ⟨k, out⟩ ⟨hk, hlv, hgo⟩
      dsimp only at hk hlv hgo
      by_cases hkl2 : k < l.length
      · obtain ⟨⟨b, v, s⟩, hx⟩ := has_get hkl2
        have hxi := (hok _ (mem_get hx)).1
        have hxo := (hok _ (mem_get hx)).2
        obtain ⟨p, nm, hp, htk⟩ := tk_get hxi
        have htr := tkI_range hnr.1 hxo
        obtain ⟨j, hj⟩ : ∃ j : Nat, tkI bs n (b, v, s) = (j : Int) := ⟨(tkI bs n (b, v, s)).toNat, by omega⟩
        have hjn : j < lev.length := by omega
        obtain ⟨o, ho⟩ := has_get (show j < out.length by rw [hlv.len]; exact hjn)
        obtain ⟨c, hc⟩ := has_get (show j < cap.length by omega)
        have hoc := hlv.each j o c ho hc
        have hlen := hlv.len
        have hvr := hsm.2 _ (mem_get hx)
        dsimp only at hvr
        rw [drop_get hx, lv_step hj ho hc] at hgo
        dsimp only at hgo
        unfold inB at hxi
        dsimp only at hxi
        have hjv : tkI bs n (b, v, s) = if s then n else p := by unfold tkI; rw [htk]; cases s <;> rfl
        rw [hj] at hjv
        cases s with
        | true =>
          simp only [if_true] at hjv
          have ht : n.toNat = j := by omega
          by_cases hv0 : v < 0
          · rw [if_pos (.inl hv0)] at hgo
            rw [← hgo] at hr
            obtain ⟨rfl, rfl⟩ := Prod.mk.inj hr
            repeat (first | (refine nf1_sound rfl ?_; simp [go_sem, ↓IntWalk.iteOmega, IntWalk.iteOmega, IntWalk.toNatUp, hx, hp, hn, ht, ho, hc]; (repeat (refine And.intro (by omega) ?_)); try (refine ⟨DrawChk_of (by kernel_rfl), ?_⟩)) | (refine itePos (by omega) ?_; try simp [go_sem, ↓IntWalk.iteOmega, IntWalk.iteOmega, IntWalk.toNatUp, hx, hp, hn, ht, ho, hc]) | (refine iteNeg (by omega) ?_; try simp [go_sem, ↓IntWalk.iteOmega, IntWalk.iteOmega, IntWalk.toNatUp, hx, hp, hn, ht, ho, hc]) | (refine ⟨DrawChk_of (by kernel_rfl), ?_⟩))
            first | rw [RetQ_ret] | rw [RetQ_normal]
            refine ⟨[], ?_⟩
            simp [go_sem, ↓IntWalk.iteOmega, IntWalk.iteOmega, IntWalk.toNatUp]
          · by_cases hv1 : c - o < v
            · rw [if_pos (.inr hv1)] at hgo
              rw [← hgo] at hr
              obtain ⟨rfl, rfl⟩ := Prod.mk.inj hr
              repeat (first | (refine nf1_sound rfl ?_; simp [go_sem, ↓IntWalk.iteOmega, IntWalk.iteOmega, IntWalk.toNatUp, hx, hp, hn, ht, ho, hc]; (repeat (refine And.intro (by omega) ?_)); try (refine ⟨DrawChk_of (by kernel_rfl), ?_⟩)) | (refine itePos (by omega) ?_; try simp [go_sem, ↓IntWalk.iteOmega, IntWalk.iteOmega, IntWalk.toNatUp, hx, hp, hn, ht, ho, hc]) | (refine iteNeg (by omega) ?_; try simp [go_sem, ↓IntWalk.iteOmega, IntWalk.iteOmega, IntWalk.toNatUp, hx, hp, hn, ht, ho, hc]) | (refine ⟨DrawChk_of (by kernel_rfl), ?_⟩))
              first | rw [RetQ_ret] | rw [RetQ_normal]
              refine ⟨[], ?_⟩
              simp [go_sem, ↓IntWalk.iteOmega, IntWalk.iteOmega, IntWalk.toNatUp]
            · rw [if_neg (by omega)] at hgo
              have hset := lvok_set hlv ho hc (v := v) (by omega) (by omega)
              repeat (first | (refine nf1_sound rfl ?_; simp [go_sem, ↓IntWalk.iteOmega, IntWalk.iteOmega, IntWalk.toNatUp, hx, hp, hn, ht, ho, hc]; (repeat (refine And.intro (by omega) ?_)); try (refine ⟨DrawChk_of (by kernel_rfl), ?_⟩)) | (refine itePos (by omega) ?_; try simp [go_sem, ↓IntWalk.iteOmega, IntWalk.iteOmega, IntWalk.toNatUp, hx, hp, hn, ht, ho, hc]) | (refine iteNeg (by omega) ?_; try simp [go_sem, ↓IntWalk.iteOmega, IntWalk.iteOmega, IntWalk.toNatUp, hx, hp, hn, ht, ho, hc]) | (refine ⟨DrawChk_of (by kernel_rfl), ?_⟩))
              rw [RoundQ_normal]; refine ⟨(k + 1, out.set j (o + v)), [(514, some 514)], ?_, ?_, ?_⟩
              · exact ⟨by dsimp only; omega, hset, hgo⟩
              · dsimp only; omega
              simp [go_sem, ↓IntWalk.iteOmega, IntWalk.iteOmega, IntWalk.toNatUp]
        | false =>
          simp only [Bool.false_eq_true, if_false] at hjv
          have ht : p.toNat = j := by omega
          by_cases hv0 : v < 0
          · rw [if_pos (.inl hv0)] at hgo
            rw [← hgo] at hr
            obtain ⟨rfl, rfl⟩ := Prod.mk.inj hr
            repeat (first | (refine nf1_sound rfl ?_; simp [go_sem, ↓IntWalk.iteOmega, IntWalk.iteOmega, IntWalk.toNatUp, hx, hp, hn, ht, ho, hc]; (repeat (refine And.intro (by omega) ?_)); try (refine ⟨DrawChk_of (by kernel_rfl), ?_⟩)) | (refine itePos (by omega) ?_; try simp [go_sem, ↓IntWalk.iteOmega, IntWalk.iteOmega, IntWalk.toNatUp, hx, hp, hn, ht, ho, hc]) | (refine iteNeg (by omega) ?_; try simp [go_sem, ↓IntWalk.iteOmega, IntWalk.iteOmega, IntWalk.toNatUp, hx, hp, hn, ht, ho, hc]) | (refine ⟨DrawChk_of (by kernel_rfl), ?_⟩))
            first | rw [RetQ_ret] | rw [RetQ_normal]
            refine ⟨[], ?_⟩
            simp [go_sem, ↓IntWalk.iteOmega, IntWalk.iteOmega, IntWalk.toNatUp]
          · by_cases hv1 : c - o < v
            · rw [if_pos (.inr hv1)] at hgo
              rw [← hgo] at hr
              obtain ⟨rfl, rfl⟩ := Prod.mk.inj hr
              repeat (first | (refine nf1_sound rfl ?_; simp [go_sem, ↓IntWalk.iteOmega, IntWalk.iteOmega, IntWalk.toNatUp, hx, hp, hn, ht, ho, hc]; (repeat (refine And.intro (by omega) ?_)); try (refine ⟨DrawChk_of (by kernel_rfl), ?_⟩)) | (refine itePos (by omega) ?_; try simp [go_sem, ↓IntWalk.iteOmega, IntWalk.iteOmega, IntWalk.toNatUp, hx, hp, hn, ht, ho, hc]) | (refine iteNeg (by omega) ?_; try simp [go_sem, ↓IntWalk.iteOmega, IntWalk.iteOmega, IntWalk.toNatUp, hx, hp, hn, ht, ho, hc]) | (refine ⟨DrawChk_of (by kernel_rfl), ?_⟩))
              first | rw [RetQ_ret] | rw [RetQ_normal]
              refine ⟨[], ?_⟩
              simp [go_sem, ↓IntWalk.iteOmega, IntWalk.iteOmega, IntWalk.toNatUp]
            · rw [if_neg (by omega)] at hgo
              have hset := lvok_set hlv ho hc (v := v) (by omega) (by omega)
              repeat (first | (refine nf1_sound rfl ?_; simp [go_sem, ↓IntWalk.iteOmega, IntWalk.iteOmega, IntWalk.toNatUp, hx, hp, hn, ht, ho, hc]; (repeat (refine And.intro (by omega) ?_)); try (refine ⟨DrawChk_of (by kernel_rfl), ?_⟩)) | (refine itePos (by omega) ?_; try simp [go_sem, ↓IntWalk.iteOmega, IntWalk.iteOmega, IntWalk.toNatUp, hx, hp, hn, ht, ho, hc]) | (refine iteNeg (by omega) ?_; try simp [go_sem, ↓IntWalk.iteOmega, IntWalk.iteOmega, IntWalk.toNatUp, hx, hp, hn, ht, ho, hc]) | (refine ⟨DrawChk_of (by kernel_rfl), ?_⟩))
              rw [RoundQ_normal]; refine ⟨(k + 1, out.set j (o + v)), [(514, some 514)], ?_, ?_, ?_⟩
              · exact ⟨by dsimp only; omega, hset, hgo⟩
              · dsimp only; omega
              simp [go_sem, ↓IntWalk.iteOmega, IntWalk.iteOmega, IntWalk.toNatUp]
      · obtain rfl : k = l.length := by omega
        rw [List.drop_length] at hgo
        simp only [lvGo] at hgo
        rw [← hgo] at hr
        exact absurd (Prod.mk.inj hr).2.symm he
end Go.Proofs.Ytgjfkklemelejaa
