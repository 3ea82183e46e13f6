/- telegram.Encode as a contract. No condition. -/
import Derived.Test.YtakfgmkdknjfdaaTgB
namespace Go.Proofs.Ytakfgmkdknjfdaa
open Go.RowKit Sy
set_option linter.unusedVariables false
set_option linter.unusedSimpArgs false
/-- The numbers of a telegram, and their bytes. -/
def numsL (t : Tg) : List Int := [t.st, t.ep, t.sq, t.tm, t.kd, (t.vs.length : Int)] ++ t.vs
def putL (ns : List Int) : List Nat := ns.flatMap putZ
theorem putL_snoc {ns : List Int} {k : Nat} {n : Int} (h : ns[k]? = some n) : putL (ns.take (k + 1)) = putL (ns.take k) ++ putZ n := by
  unfold putL; rw [take_snoc h, List.flatMap_append]; simp
def i64 (n : Int) : Prop := -9223372036854775808 ≤ n ∧ n ≤ 9223372036854775807
theorem putZ_len {n : Int} (h : i64 n) : (putZ n).length ≤ 10 := Wire.put_len10 (Wire.fold_lt h.1 h.2)
theorem putL_len : ∀ {ns : List Int}, (∀ n ∈ ns, i64 n) → (putL ns).length ≤ 10 * ns.length
  | [], _ => by simp [putL]
  | n :: r, h => by
    have h1 := putL_len (ns := r) fun m hm => h m (List.mem_cons_of_mem _ hm)
    have h2 := putZ_len (h n List.mem_cons_self)
    unfold putL at *
    simp only [List.flatMap_cons, List.length_append, List.length_cons]
    omega
theorem nums_ok {t : Tg} (h : TgOk t) : (numsL t).length ≤ 22 ∧ ∀ n ∈ numsL t, i64 n := by
  obtain ⟨h1, h2, h3, h4, h5, h6, h7⟩ := h
  refine ⟨by unfold numsL; simp; omega, ?_⟩
  intro n hn
  unfold numsL at hn
  unfold i64
  simp only [List.mem_append, List.mem_cons, List.not_mem_nil, or_false] at hn
  rcases hn with hn | hn
  · omega
  · have := h7 n hn
    unfold okN at this
    omega
theorem putZ_b8 (n : Int) : ∀ c ∈ putZ n, c < 256 := Wire.put_bytes _
theorem putL_b8 (ns : List Int) : ∀ c ∈ putL ns, c < 256 := by
  intro c hc
  unfold putL at hc
  obtain ⟨n, _, hc⟩ := List.mem_flatMap.1 hc
  exact putZ_b8 n c hc
theorem sealV_b8 {bs : List Nat} (h : ∀ c ∈ bs, c < 256) : ∀ c ∈ sealV bs, c < 256 := by
  intro c hc
  unfold sealV at hc
  rcases List.mem_append.1 hc with hc | hc
  · exact h c hc
  · simp only [List.mem_cons, List.not_mem_nil, or_false] at hc
    omega
def insideV (t : Tg) : List Nat := sealV (putL (numsL t))
def encV (t : Tg) : List Nat × Int := if TgOk t then (Wire.stuff (insideV t), 0) else ([], 9)
set_option maxRecDepth 100000 in
set_option maxHeartbeats 8000000 in
theorem encode_fn (t : Tg) (hl : t.vs.length ≤ 9223372036854775807) (x : List Nat) (e : Int) (hr : encV t = (x, e)) : FnOk Try.prog 11 [.t (encTg t)] [] (.tup [.own 1000, .t (.int e)]) [(1000, blkU x)] := by
  unfold encV at hr
  by_cases h : TgOk t
  · rw [if_pos h] at hr
    obtain ⟨rfl, rfl⟩ := Prod.mk.inj hr
    have cv := valid_fn t hl true (decide_eq_true h)
    obtain ⟨hn, hi⟩ := nums_ok h
    have h16 := h.ln
    have hfull := putL_len hi
    have hb8 := putL_b8 (numsL t)
    have hs := fun k n (hk : (numsL t)[k]? = some n) => putL_snoc hk
    have hln := fun k => putL_len (ns := (numsL t).take k) fun n hm => hi n (List.mem_of_mem_take hm)
    have hbk := fun k => putL_b8 ((numsL t).take k)
    have hns : (numsL t).map encI = [.int t.st, .int t.ep, .int t.sq, .int t.tm, .int t.kd, .int t.vs.length] ++ t.vs.map encI := by unfold numsL; rw [List.map_append]; rfl
    have hnl : (numsL t).length = 6 + t.vs.length := by unfold numsL; simp; omega
    unfold insideV
    obtain ⟨ns, hnse⟩ : ∃ ns, numsL t = ns := ⟨_, rfl⟩
    rw [hnse] at hn hi hns hnl hfull hb8 ⊢
    simp only [hnse] at hs hln hbk
    have he : putL (ns.take ns.length) = putL ns := by rw [List.take_length]
    have h00 : putL (ns.take 0) = [] := rfl
    obtain ⟨B, hB⟩ : ∃ B : Nat → List Nat, ∀ k, putL (ns.take k) = B k := ⟨_, fun _ => rfl⟩
    simp only [hB] at hs hln hbk he h00
    obtain ⟨F, hF⟩ : ∃ F, putL ns = F := ⟨_, rfl⟩
    rw [hF] at he hb8 hfull ⊢
    have cs := sealed_fn F (by omega) hb8
    have hsl : (sealV F).length = F.length + 4 := by unfold sealV; simp
    have ct := stuff_fn (sealV F) (by omega) (sealV_b8 hb8)
    obtain ⟨t1, t2, t3, t4, t5, vs⟩ := t
    dsimp only at hl h16 hns hnl
    have hnl3 : (ns.length : Int) = (vs.length : Int) + 1 + 1 + 1 + 1 + 1 + 1 := by omega
    clear h
    refine FnOk.intro fact_mixed Try.func11 rfl Try.ntmps11 (by rfl) (by simp) ?_
    repeat (first | (refine nf1_sound rfl ?_; simp [go_sem, ↓IntWalk.iteOmega, IntWalk.iteOmega, IntWalk.toNatUp]; (repeat (refine And.intro (by omega) ?_)); try (refine ⟨DrawChk_of (by kernel_rfl), ?_⟩)) | (refine itePos (by omega) ?_; try simp [go_sem, ↓IntWalk.iteOmega, IntWalk.iteOmega, IntWalk.toNatUp]) | (refine iteNeg (by omega) ?_; try simp [go_sem, ↓IntWalk.iteOmega, IntWalk.iteOmega, IntWalk.toNatUp]) | (refine ⟨DrawChk_of (by kernel_rfl), ?_⟩))
    refine CallK.fn (cv) [] [] [] (by kernel_rfl) (by simp [go_sem, ↓IntWalk.iteOmega, IntWalk.iteOmega, IntWalk.toNatUp]) (by simp [go_sem, ↓IntWalk.iteOmega, IntWalk.iteOmega, IntWalk.toNatUp]) (by simp [go_sem, ↓IntWalk.iteOmega, IntWalk.iteOmega, IntWalk.toNatUp]) (Or.inl rfl) ?_
    simp [go_sem, ↓IntWalk.iteOmega, IntWalk.iteOmega, IntWalk.toNatUp]
    repeat (refine And.intro (by omega) ?_)
    try (refine ⟨DrawChk_of (by kernel_rfl), ?_⟩)
    repeat (first | (refine nf1_sound rfl ?_; simp [go_sem, ↓IntWalk.iteOmega, IntWalk.iteOmega, IntWalk.toNatUp]; (repeat (refine And.intro (by omega) ?_)); try (refine ⟨DrawChk_of (by kernel_rfl), ?_⟩)) | (refine itePos (by omega) ?_; try simp [go_sem, ↓IntWalk.iteOmega, IntWalk.iteOmega, IntWalk.toNatUp]) | (refine iteNeg (by omega) ?_; try simp [go_sem, ↓IntWalk.iteOmega, IntWalk.iteOmega, IntWalk.toNatUp]) | (refine ⟨DrawChk_of (by kernel_rfl), ?_⟩))
    refine nf1_sound' _ _ _ ?_; simp only [nf1]
    refine CW.loop (ι := Nat) (fun k => ⟨[(4, .own 504), (26, .t (encIs ns)), (27, .t (.int ns.length)), (28, .t (.int k))], [(504, blkU (B k))]⟩) (fun k => k ≤ ns.length) (fun k => ns.length - k) 0 [(504, none)] (by omega) ?_ ?_
    · simp [go_sem, ↓IntWalk.iteOmega, IntWalk.iteOmega, IntWalk.toNatUp, h00, hns, hnl3]
    intro k hk
    have hlk := hln k
    rw [List.length_take] at hlk
    by_cases hb : k < ns.length
    · obtain ⟨n, hx⟩ := has_get hb
      have hni := hi n (mem_get hx)
      unfold i64 at hni
      have cp := put_fn (B k) n (by omega) hni.1 hni.2
      have e := hs k n hx
      rw [← e] at cp
      repeat (first | (refine nf1_sound rfl ?_; simp [go_sem, ↓IntWalk.iteOmega, IntWalk.iteOmega, IntWalk.toNatUp, hx]; (repeat (refine And.intro (by omega) ?_)); try (refine ⟨DrawChk_of (by kernel_rfl), ?_⟩)) | (refine itePos (by omega) ?_; try simp [go_sem, ↓IntWalk.iteOmega, IntWalk.iteOmega, IntWalk.toNatUp, hx]) | (refine iteNeg (by omega) ?_; try simp [go_sem, ↓IntWalk.iteOmega, IntWalk.iteOmega, IntWalk.toNatUp, hx]) | (refine ⟨DrawChk_of (by kernel_rfl), ?_⟩))
      refine CallK.fn (cp) [(1000, 634)] [504] [] (by kernel_rfl) (by simp [go_sem, ↓IntWalk.iteOmega, IntWalk.iteOmega, IntWalk.toNatUp]) (by simp [go_sem, ↓IntWalk.iteOmega, IntWalk.iteOmega, IntWalk.toNatUp]) (by simp [go_sem, ↓IntWalk.iteOmega, IntWalk.iteOmega, IntWalk.toNatUp]) (Or.inr ⟨by simp [go_sem, ↓IntWalk.iteOmega, IntWalk.iteOmega, IntWalk.toNatUp], by simp [go_sem, ↓IntWalk.iteOmega, IntWalk.iteOmega, IntWalk.toNatUp]⟩) ?_
      simp [go_sem, ↓IntWalk.iteOmega, IntWalk.iteOmega, IntWalk.toNatUp]
      repeat (refine And.intro (by omega) ?_)
      try (refine ⟨DrawChk_of (by kernel_rfl), ?_⟩)
      repeat (first | (refine nf1_sound rfl ?_; simp [go_sem, ↓IntWalk.iteOmega, IntWalk.iteOmega, IntWalk.toNatUp]; (repeat (refine And.intro (by omega) ?_)); try (refine ⟨DrawChk_of (by kernel_rfl), ?_⟩)) | (refine itePos (by omega) ?_; try simp [go_sem, ↓IntWalk.iteOmega, IntWalk.iteOmega, IntWalk.toNatUp]) | (refine iteNeg (by omega) ?_; try simp [go_sem, ↓IntWalk.iteOmega, IntWalk.iteOmega, IntWalk.toNatUp]) | (refine ⟨DrawChk_of (by kernel_rfl), ?_⟩))
      rw [RoundQ_normal]; refine ⟨k + 1, [(504, some 634)], ?_, ?_, ?_⟩
      · omega
      · omega
      simp [go_sem, ↓IntWalk.iteOmega, IntWalk.iteOmega, IntWalk.toNatUp]
    · obtain rfl : k = ns.length := by omega
      repeat (first | (refine nf1_sound rfl ?_; simp [go_sem, ↓IntWalk.iteOmega, IntWalk.iteOmega, IntWalk.toNatUp]; (repeat (refine And.intro (by omega) ?_)); try (refine ⟨DrawChk_of (by kernel_rfl), ?_⟩)) | (refine itePos (by omega) ?_; try simp [go_sem, ↓IntWalk.iteOmega, IntWalk.iteOmega, IntWalk.toNatUp]) | (refine iteNeg (by omega) ?_; try simp [go_sem, ↓IntWalk.iteOmega, IntWalk.iteOmega, IntWalk.toNatUp]) | (refine ⟨DrawChk_of (by kernel_rfl), ?_⟩))
      refine CallK.fn (cs) [(1000, 637)] [504] [] (by kernel_rfl) (by simp [go_sem, ↓IntWalk.iteOmega, IntWalk.iteOmega, IntWalk.toNatUp, he]) (by simp [go_sem, ↓IntWalk.iteOmega, IntWalk.iteOmega, IntWalk.toNatUp, he]) (by simp [go_sem, ↓IntWalk.iteOmega, IntWalk.iteOmega, IntWalk.toNatUp, he]) (Or.inr ⟨by simp [go_sem, ↓IntWalk.iteOmega, IntWalk.iteOmega, IntWalk.toNatUp, he], by simp [go_sem, ↓IntWalk.iteOmega, IntWalk.iteOmega, IntWalk.toNatUp, he]⟩) ?_
      simp [go_sem, ↓IntWalk.iteOmega, IntWalk.iteOmega, IntWalk.toNatUp, he]
      repeat (refine And.intro (by omega) ?_)
      try (refine ⟨DrawChk_of (by kernel_rfl), ?_⟩)
      refine CallK.fn (ct) [(1000, 638)] [637] [] (by kernel_rfl) (by simp [go_sem, ↓IntWalk.iteOmega, IntWalk.iteOmega, IntWalk.toNatUp]) (by simp [go_sem, ↓IntWalk.iteOmega, IntWalk.iteOmega, IntWalk.toNatUp]) (by simp [go_sem, ↓IntWalk.iteOmega, IntWalk.iteOmega, IntWalk.toNatUp]) (Or.inr ⟨by simp [go_sem, ↓IntWalk.iteOmega, IntWalk.iteOmega, IntWalk.toNatUp], by simp [go_sem, ↓IntWalk.iteOmega, IntWalk.iteOmega, IntWalk.toNatUp]⟩) ?_
      simp [go_sem, ↓IntWalk.iteOmega, IntWalk.iteOmega, IntWalk.toNatUp]
      repeat (refine And.intro (by omega) ?_)
      try (refine ⟨DrawChk_of (by kernel_rfl), ?_⟩)
      repeat (first | (refine nf1_sound rfl ?_; simp [go_sem, ↓IntWalk.iteOmega, IntWalk.iteOmega, IntWalk.toNatUp]; (repeat (refine And.intro (by omega) ?_)); try (refine ⟨DrawChk_of (by kernel_rfl), ?_⟩)) | (refine itePos (by omega) ?_; try simp [go_sem, ↓IntWalk.iteOmega, IntWalk.iteOmega, IntWalk.toNatUp]) | (refine iteNeg (by omega) ?_; try simp [go_sem, ↓IntWalk.iteOmega, IntWalk.iteOmega, IntWalk.toNatUp]) | (refine ⟨DrawChk_of (by kernel_rfl), ?_⟩))
      first | rw [RetQ_ret] | rw [RetQ_normal]
      refine ⟨[(1000, some 638)], ?_⟩
      simp [go_sem, ↓IntWalk.iteOmega, IntWalk.iteOmega, IntWalk.toNatUp]
  · rw [if_neg h] at hr
    obtain ⟨rfl, rfl⟩ := Prod.mk.inj hr
    have cv := valid_fn t hl false (decide_eq_false h)
    obtain ⟨t1, t2, t3, t4, t5, vs⟩ := t
    dsimp only at hl
    refine FnOk.intro fact_mixed Try.func11 rfl Try.ntmps11 (by rfl) (by simp) ?_
    repeat (first | (refine nf1_sound rfl ?_; simp [go_sem, ↓IntWalk.iteOmega, IntWalk.iteOmega, IntWalk.toNatUp]; (repeat (refine And.intro (by omega) ?_)); try (refine ⟨DrawChk_of (by kernel_rfl), ?_⟩)) | (refine itePos (by omega) ?_; try simp [go_sem, ↓IntWalk.iteOmega, IntWalk.iteOmega, IntWalk.toNatUp]) | (refine iteNeg (by omega) ?_; try simp [go_sem, ↓IntWalk.iteOmega, IntWalk.iteOmega, IntWalk.toNatUp]) | (refine ⟨DrawChk_of (by kernel_rfl), ?_⟩))
    refine CallK.fn (cv) [] [] [] (by kernel_rfl) (by simp [go_sem, ↓IntWalk.iteOmega, IntWalk.iteOmega, IntWalk.toNatUp]) (by simp [go_sem, ↓IntWalk.iteOmega, IntWalk.iteOmega, IntWalk.toNatUp]) (by simp [go_sem, ↓IntWalk.iteOmega, IntWalk.iteOmega, IntWalk.toNatUp]) (Or.inl rfl) ?_
    simp [go_sem, ↓IntWalk.iteOmega, IntWalk.iteOmega, IntWalk.toNatUp]
    repeat (refine And.intro (by omega) ?_)
    try (refine ⟨DrawChk_of (by kernel_rfl), ?_⟩)
    repeat (first | (refine nf1_sound rfl ?_; simp [go_sem, ↓IntWalk.iteOmega, IntWalk.iteOmega, IntWalk.toNatUp]; (repeat (refine And.intro (by omega) ?_)); try (refine ⟨DrawChk_of (by kernel_rfl), ?_⟩)) | (refine itePos (by omega) ?_; try simp [go_sem, ↓IntWalk.iteOmega, IntWalk.iteOmega, IntWalk.toNatUp]) | (refine iteNeg (by omega) ?_; try simp [go_sem, ↓IntWalk.iteOmega, IntWalk.iteOmega, IntWalk.toNatUp]) | (refine ⟨DrawChk_of (by kernel_rfl), ?_⟩))
    first | rw [RetQ_ret] | rw [RetQ_normal]
    refine ⟨[(1000, none)], ?_⟩
    simp [go_sem, ↓IntWalk.iteOmega, IntWalk.iteOmega, IntWalk.toNatUp]
end Go.Proofs.Ytakfgmkdknjfdaa
