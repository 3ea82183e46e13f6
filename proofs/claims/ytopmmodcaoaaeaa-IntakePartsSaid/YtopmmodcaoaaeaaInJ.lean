/- slices.Grow from nothing, slices.Concat of lists of bytes. No condition. intake.Feed: what it computes. No condition. -/
import Derived.Test.YtopmmodcaoaaeaaInY
import Derived.Lib.AppendZeros
import Derived.Test.YtopmmodcaoaaeaaInFr
import Derived.Test.YtopmmodcaoaaeaaInSu
import Derived.Test.YtopmmodcaoaaeaaTgI
namespace Go.Proofs.Ytopmmodcaoaaeaa
open Go.RowKit Sy
open Go.IntWalk (iteOmega toNatUp)
set_option linter.unusedVariables false
set_option linter.unusedSimpArgs false
theorem elemU8 : Elem Try.prog 26 5 1 1 (.int .u8 0) := ⟨Try.underlying26, by kernel_rfl, rfl, by decide⟩
set_option maxRecDepth 100000 in
set_option maxHeartbeats 4000000 in
theorem grow0_call (n : Nat) (hn : n ≤ 10000000) (w : World) : Calls Try.prog 65 #[.slice none 0 0, .int .i64 n] w fun e w' => ∃ x c, e = .returned (.slice x 0 c) ∧ Own w' w.heap.size 5 1 x 0 c [] ∧ Below w.heap.size w w' := by
  by_cases h0 : n = 0
  · subst h0
    go_enter Try.func65, Try.ntmps65
    go_wp2
    go_ret
    exact ⟨none, 0, rfl, World.ownsRow_nil _ _ _ _, Below.refl _ _⟩
  · have hw1 : IntKind.i64.wrap (n : Int) = (n : Int) := by rw [IntKind.wrap_i64]; omega
    have hp : (0 : Int) < (n : Int) := by omega
    have hp0 : 0 < n := by omega
    obtain ⟨i0, hi0, hz0, hz1, hz2⟩ := info_parts elemU8.info
    have happ := Lib.run_append_nil_zeros (P := Try.prog) w 26 3 26 5 i0 (.int .u8 0) .i64 .i64 elemU8.und Try.underlying3 hi0 hz0 n (by omega) (by omega) (by omega) (by rw [hz2]; omega)
    obtain ⟨C, hC⟩ : ∃ C, C = grownCap w n 0 5 := ⟨_, rfl⟩
    have hCm : C ≤ maxLen := by rw [hC]; exact grownCap_le_maxLen w n 0 _ (by unfold maxLen; omega)
    have hCn : n ≤ C := by rw [hC]; exact grownCap_ge w _ _ _
    rw [← hC] at happ
    obtain ⟨Z, hZ⟩ : ∃ Z, Z = Builtin.zeroCells (Value.int .u8 0).cells n ++ Builtin.zeroCells (Value.int .u8 0).cells (C - n) := ⟨_, rfl⟩
    have hZs : Z.size = C := by rw [hZ]; simp [size_zeroCells, Value.cells]; omega
    rw [← hZ] at happ
    clear hZ hC
    go_enter Try.func65, Try.ntmps65
    go_wp2_with (at_builtin; refine Lib.wpList_append_run _ rfl _ _ _ _ rfl _ _ rfl rfl _ _ happ ?_)
    go_ret
    refine ⟨_, _, rfl, ⟨by simp, .inr ⟨w.heap.size, C, Z, rfl, Nat.le_refl _, heap_alloc_new w.drew _, by omega, hCm, by omega, by simp⟩⟩, ?_⟩
    exact (Below.refl _ w).grown (row := none) (World.grownBy_drew w) (Nat.le_refl _) (fun k e => by cases e) |>.trans ((Below.refl _ w.drew).alloc (Nat.le_refl _) _)
theorem grow0_fn (n : Nat) (hn : n ≤ 10000000) : FnOk Try.prog 65 [.t .nil, .t (.int n)] [] (.own 1000) [(1000, .list 5 1 [])] := by
  intro G w us hh hr
  unfold RepPs at hr
  obtain ⟨u1, r1, rfl, h1, hr⟩ := hr
  unfold RepPs at hr
  obtain ⟨u2, r2, rfl, h2, hr⟩ := hr
  unfold RepPs at hr
  subst hr
  unfold RepS Rep at h1 h2
  obtain ⟨rfl, _⟩ := h1
  obtain ⟨rfl, _⟩ := h2
  refine (grow0_call n hn w).mono ?_
  rintro e w' ⟨x, c, rfl, ho, hb⟩
  have hg : w.grownBy w' none := ⟨hb.os, hb.tape, hb.output, hb.size, fun k hk _ => hb.block k hk⟩
  have ext := Ext.mk' (G := G) (w' := w') hh none hg none (fun l hl => by cases hl) (fun k hk => by cases hk) 1000 (.slice x 0 c) (.list 5 1 []) (.inr rfl) [1000] (.inl rfl) (fun k hk l b hl => by simp [lkB] at hl)
    (fun k hk => by
      rcases ho.2 with ⟨hv, _⟩ | ⟨g, cap', cur, hv, hB, hh, _⟩
      · rw [hv] at hk; simp [hblk] at hk
      · rw [hv] at hk
        simp [hblk] at hk
        subst hk
        exact .inr hB)
    ⟨x, c, [], rfl, by unfold Reps; rfl, by simp, ho.mono (Nat.zero_le _)⟩ (fun _ h => h)
  have hs : ∀ l b, lkB [(1000, Blk.list 5 1 [])] l = some b → (if l = 1000 then some (Blk.list 5 1 []) else if (none : Option Nat) = some l then none else lkB [] l) = some b := by
    intro l b hl
    simp only [lkB] at hl
    split at hl
    · rename_i h
      rw [if_pos h]; exact hl
    · cases hl
  refine ⟨_, _, rfl, from_sub hs (from_ext ext (fun l hl => by simp at hl; omega)), heapOk_sub hs ext.heap, ?_⟩
  unfold RepS
  exact ⟨(bput_same G.β 1000 _).symm, _, _, _, rfl⟩
/-- The bytes of the first k lists. -/
theorem part_ex (ls : List (List Nat)) : ∃ (S : Nat → Nat) (C : Nat → List Nat), S 0 = 0 ∧ C 0 = [] ∧ (∀ k x, ls[k]? = some x → S (k + 1) = S k + x.length ∧ C (k + 1) = C k ++ x) ∧ C ls.length = ls.flatten ∧ (∀ k, S k ≤ ls.flatten.length ∧ (C k).length = S k) := by
  have hl : ∀ k, ((ls.take k).flatten).length ≤ ls.flatten.length := fun k => by
    conv => rhs; rw [← List.take_append_drop k ls, List.flatten_append, List.length_append]
    omega
  refine ⟨fun k => ((ls.take k).flatten).length, fun k => (ls.take k).flatten, by simp, by simp, fun k x hx => ?_, by simp, fun k => ⟨hl k, rfl⟩⟩
  simp only
  rw [take_snoc hx, List.flatten_append]
  simp
set_option maxRecDepth 100000 in
set_option maxHeartbeats 4000000 in
theorem concat_fn (ls : List (List Nat)) (hn : ls.length ≤ 1000) (hs : ls.flatten.length ≤ 1000000) : FnOk Try.prog 43 [.t (.sl 1 (ls.map encUs))] [] (.t (encUs ls.flatten)) [] := by
  have e65 : entB Try.prog 65 = true := by kernel_rfl
  obtain ⟨S, C, s0, c0, hsc, cn, hbd⟩ := part_ex ls
  rw [← cn]
  refine FnOk.intro fact_mixed Try.func43 rfl Try.ntmps43 (by rfl) (by simp) ?_
  repeat (first | (refine nf1_sound rfl ?_; simp [go_sem, ↓iteOmega, iteOmega, toNatUp]; (repeat (refine And.intro (by omega) ?_)); try (refine ⟨DrawChk_of (by kernel_rfl), ?_⟩)) | (refine itePos (by omega) ?_; try simp [go_sem, ↓iteOmega, iteOmega, toNatUp]) | (refine iteNeg (by omega) ?_; try simp [go_sem, ↓iteOmega, iteOmega, toNatUp]) | (refine ⟨DrawChk_of (by kernel_rfl), ?_⟩))
  refine nf1_sound' _ _ _ ?_; simp only [nf1]
  refine CW.loop (ι := Nat) (fun k => ⟨[(0, .t (.sl 1 (ls.map encUs))), (3, .t (.int (S k))), (9, .t (.sl 1 (ls.map encUs))), (10, .t (.int ls.length)), (11, .t (.int k))], []⟩) (fun k => k ≤ ls.length) (fun k => ls.length - k) 0 [] (Nat.zero_le _) ?_ ?_
  · simp [go_sem, ↓iteOmega, iteOmega, toNatUp, s0]
  intro k hk
  have hb1 := (hbd k).1
  by_cases hlt : k < ls.length
  · obtain ⟨x, hx⟩ := has_get hlt
    obtain ⟨h1, _⟩ := hsc k x hx
    have hb2 := (hbd (k + 1)).1
    obtain ⟨A, hA⟩ : ∃ A, S k = A := ⟨_, rfl⟩
    rw [hA] at h1 hb1
    rw [hA]
    repeat (first | (refine nf1_sound rfl ?_; simp [go_sem, ↓iteOmega, iteOmega, toNatUp, hx]; (repeat (refine And.intro (by omega) ?_)); try (refine ⟨DrawChk_of (by kernel_rfl), ?_⟩)) | (refine itePos (by omega) ?_; try simp [go_sem, ↓iteOmega, iteOmega, toNatUp, hx]) | (refine iteNeg (by omega) ?_; try simp [go_sem, ↓iteOmega, iteOmega, toNatUp, hx]) | (refine ⟨DrawChk_of (by kernel_rfl), ?_⟩))
    rw [RoundQ_normal]; refine ⟨k + 1, [], ?_, ?_, ?_⟩
    · omega
    · omega
    simp [go_sem, ↓iteOmega, iteOmega, toNatUp, h1]
  · obtain rfl : k = ls.length := by omega
    obtain ⟨A, hA⟩ : ∃ A, S ls.length = A := ⟨_, rfl⟩
    rw [hA] at hb1
    rw [hA]
    have cg := grow0_fn A (by omega)
    repeat (first | (refine nf1_sound rfl ?_; simp [go_sem, ↓iteOmega, iteOmega, toNatUp, e65]; (repeat (refine And.intro (by omega) ?_)); try (refine ⟨DrawChk_of (by kernel_rfl), ?_⟩)) | (refine itePos (by omega) ?_; try simp [go_sem, ↓iteOmega, iteOmega, toNatUp, e65]) | (refine iteNeg (by omega) ?_; try simp [go_sem, ↓iteOmega, iteOmega, toNatUp, e65]) | (refine ⟨DrawChk_of (by kernel_rfl), ?_⟩))
    refine CallK.fn (cg) [(1000, 600)] [] [] (by kernel_rfl) (by simp [go_sem, ↓iteOmega, iteOmega, toNatUp]) (by simp [go_sem, ↓iteOmega, iteOmega, toNatUp]) (by simp [go_sem, ↓iteOmega, iteOmega, toNatUp]) (Or.inl rfl) ?_
    simp [go_sem, ↓iteOmega, iteOmega, toNatUp]
    repeat (refine And.intro (by omega) ?_)
    try (refine ⟨DrawChk_of (by kernel_rfl), ?_⟩)
    repeat (first | (refine nf1_sound rfl ?_; simp [go_sem, ↓iteOmega, iteOmega, toNatUp]; (repeat (refine And.intro (by omega) ?_)); try (refine ⟨DrawChk_of (by kernel_rfl), ?_⟩)) | (refine itePos (by omega) ?_; try simp [go_sem, ↓iteOmega, iteOmega, toNatUp]) | (refine iteNeg (by omega) ?_; try simp [go_sem, ↓iteOmega, iteOmega, toNatUp]) | (refine ⟨DrawChk_of (by kernel_rfl), ?_⟩))
    refine nf1_sound' _ _ _ ?_; simp only [nf1]
    refine CW.loop (ι := Nat) (fun k => ⟨[(6, .own 502), (25, .t (.sl 1 (ls.map encUs))), (26, .t (.int ls.length)), (27, .t (.int k))], [(502, .list 5 1 ((C k).map encU))]⟩) (fun k => k ≤ ls.length) (fun k => ls.length - k) 0 [(502, some 600)] (Nat.zero_le _) ?_ ?_
    · simp [go_sem, ↓iteOmega, iteOmega, toNatUp, c0]
    intro k hk
    by_cases hlt : k < ls.length
    · obtain ⟨x, hx⟩ := has_get hlt
      obtain ⟨h0, h1⟩ := hsc k x hx
      have hb2 := hbd (k + 1)
      have hb3 := hbd k
      obtain ⟨V, hV⟩ : ∃ V, C k = V := ⟨_, rfl⟩
      obtain ⟨V2, hV2⟩ : ∃ V, C (k + 1) = V := ⟨_, rfl⟩
      rw [hV] at h1 hb3
      rw [hV2] at h1 hb2
      have hlen : V.length + x.length ≤ 1000000 := by have e := congrArg List.length h1; rw [List.length_append] at e; omega
      rw [hV]
      repeat (first | (refine nf1_sound rfl ?_; simp [go_sem, ↓iteOmega, iteOmega, toNatUp, hx]; (repeat (refine And.intro (by omega) ?_)); try (refine ⟨DrawChk_of (by kernel_rfl), ?_⟩)) | (refine itePos (by omega) ?_; try simp [go_sem, ↓iteOmega, iteOmega, toNatUp, hx]) | (refine iteNeg (by omega) ?_; try simp [go_sem, ↓iteOmega, iteOmega, toNatUp, hx]) | (refine ⟨DrawChk_of (by kernel_rfl), ?_⟩))
      rw [RoundQ_normal]; refine ⟨k + 1, [(502, some 133)], ?_, ?_, ?_⟩
      · omega
      · omega
      simp [go_sem, ↓iteOmega, iteOmega, toNatUp, hV2, h1]
    · obtain rfl : k = ls.length := by omega
      repeat (first | (refine nf1_sound rfl ?_; simp [go_sem, ↓iteOmega, iteOmega, toNatUp]; (repeat (refine And.intro (by omega) ?_)); try (refine ⟨DrawChk_of (by kernel_rfl), ?_⟩)) | (refine itePos (by omega) ?_; try simp [go_sem, ↓iteOmega, iteOmega, toNatUp]) | (refine iteNeg (by omega) ?_; try simp [go_sem, ↓iteOmega, iteOmega, toNatUp]) | (refine ⟨DrawChk_of (by kernel_rfl), ?_⟩))
      first | rw [RetQ_ret] | rw [RetQ_normal]
      refine ⟨[], ?_⟩
      simp [go_sem, ↓iteOmega, iteOmega, toNatUp]
end Go.Proofs.Ytopmmodcaoaaeaa
namespace Go.Proofs.Ytopmmodcaoaaeaa
open Go.RowKit Sy
open Go.IntWalk (iteOmega toNatUp)
set_option linter.unusedVariables false
set_option linter.unusedSimpArgs false
/-- A contract whose end says less. -/
theorem fnOk_weak {P : Program} {f : FuncId} {ss : List S} {pre post post' : List (Nat × Blk)} {r r' : S} (h : FnOk P f ss pre r post) (ρ : List (Nat × Option Nat)) (hρ : rhoOk ρ = true) (h1 : wkS ρ (lkB post) r r') (h2 : wkH ρ (lkB post) post') : FnOk P f ss pre r' post' := by
  intro G w us hh hr
  refine (h G w us hh hr).mono ?_
  rintro e w' ⟨v, G', rfl, hf, hh', hv⟩
  exact ⟨v, _, rfl, wk_from hρ h2 hf, wk_heap hρ hh' h2, wkS_spec hh' r r' v h1 hv⟩
theorem decodeT_fn (b : List Nat) (hb : b.length ≤ 1000000) (h8 : ∀ c ∈ b, c < 256) (t : Tg) (e : Int) (hr : decV b = (t, e)) : FnOk Try.prog 44 [.t (encUs b)] [] (.tup [.t (encTg t), .t (.int e)]) [] := by
  refine fnOk_weak (decode_fn b hb h8 t e hr) [] rfl ?_ ?_
  · simp [go_sem, ↓iteOmega, iteOmega, toNatUp, wkXs]
  · simp [go_sem, ↓iteOmega, iteOmega, toNatUp]
/-- One frame. -/
def stepF (s : In × List Tg) (f : List Nat) : In × List Tg :=
  if (decV f).2 = 0 then ((accV s.1 (decV f).1).1, s.2 ++ (accV s.1 (decV f).1).2.1) else s
def foldF (s : In) (fs : List (List Nat)) : In × List Tg := fs.foldl stepF (s, [])
def cutT (l : List Nat) : List Nat := if 400 < l.length then [] else l
def feedV (i : In) (b : List Nat) : In × List Tg := (⟨(foldF i (frV (i.tail ++ b))).1.win, cutT (tlV (i.tail ++ b)), (foldF i (frV (i.tail ++ b))).1.sts⟩, (foldF i (frV (i.tail ++ b))).2)
theorem accA_win (i : In) (t : Tg) (p : Nat) : (accA i t p).1.win = i.win ∧ (accA i t p).1.tail = i.tail := by
  unfold accA newA
  split
  · split
    · exact ⟨rfl, rfl⟩
    · split <;> exact ⟨rfl, rfl⟩
  · split <;> exact ⟨rfl, rfl⟩
theorem accV_win (i : In) (t : Tg) : (accV i t).1.win = i.win ∧ (accV i t).1.tail = i.tail := by
  unfold accV
  split
  · exact accA_win i t _
  · exact ⟨rfl, rfl⟩
theorem accV_len {i : In} (h : InOk i) (t : Tg) : (accV i t).2.1.length ≤ 17 := by
  have hwx := h.wx
  unfold accV accA newA
  have key : ∀ w : Wt, ¬ i.win < (w.held.length : Int) → (takeV w t i.win).2.length ≤ 17 := fun w hw => by
    have := takeV_len w t i.win
    omega
  have hw0 := h.wn
  split
  · split
    · rename_i w hw
      split
      · exact key w (h.each w (mem_get hw)).2.2.2.2.2.2.1
      · split
        · simp
        · exact key _ (by simp; omega)
    · split
      · simp
      · exact key _ (by simp; omega)
  · simp
theorem stepF_ok {s : In × List Tg} (h : InOk s.1) (f : List Nat) : InOk (stepF s f).1 ∧ (stepF s f).1.win = s.1.win ∧ (stepF s f).1.tail = s.1.tail ∧ (stepF s f).2.length ≤ s.2.length + 17 := by
  unfold stepF
  split
  · have h1 := accV_win s.1 (decV f).1
    have h2 := accV_len h (decV f).1
    exact ⟨accV_ok h, h1.1, h1.2, by rw [List.length_append]; omega⟩
  · exact ⟨h, rfl, rfl, by omega⟩
theorem feed_ex (i : In) (hi : InOk i) (fs : List (List Nat)) : ∃ (L : Nat → List Wt) (g : Nat → List Tg), L 0 = i.sts ∧ g 0 = [] ∧ (∀ k f, fs[k]? = some f → (⟨i.win, i.tail, L (k + 1)⟩, g (k + 1)) = stepF (⟨i.win, i.tail, L k⟩, g k) f) ∧
    (foldF i fs).1 = ⟨i.win, i.tail, L fs.length⟩ ∧ (foldF i fs).2 = g fs.length ∧ ∀ k, InOk ⟨i.win, i.tail, L k⟩ ∧ (g k).length ≤ 17 * k := by
  have hall : ∀ k, InOk ((fs.take k).foldl stepF (i, [])).1 ∧ ((fs.take k).foldl stepF (i, [])).1.win = i.win ∧ ((fs.take k).foldl stepF (i, [])).1.tail = i.tail ∧ ((fs.take k).foldl stepF (i, [])).2.length ≤ 17 * k := by
    intro k
    induction k with
    | zero => exact ⟨hi, rfl, rfl, by simp⟩
    | succ k ih =>
      by_cases hk : k < fs.length
      · obtain ⟨f, hf⟩ := has_get hk
        rw [take_snoc hf, List.foldl_append]
        obtain ⟨a1, a2, a3, a4⟩ := ih
        obtain ⟨b1, b2, b3, b4⟩ := stepF_ok a1 f
        exact ⟨b1, b2.trans a2, b3.trans a3, by simp only [List.foldl_cons, List.foldl_nil]; omega⟩
      · rw [List.take_of_length_le (by omega)]
        rw [List.take_of_length_le (by omega)] at ih
        exact ⟨ih.1, ih.2.1, ih.2.2.1, by omega⟩
  have eta : ∀ k, ((fs.take k).foldl stepF (i, [])).1 = ⟨i.win, i.tail, ((fs.take k).foldl stepF (i, [])).1.sts⟩ := fun k => by
    obtain ⟨_, h1, h2, _⟩ := hall k
    rw [← h1, ← h2]
  refine ⟨fun k => ((fs.take k).foldl stepF (i, [])).1.sts, fun k => ((fs.take k).foldl stepF (i, [])).2, rfl, rfl, fun k f hf => ?_, ?_, ?_, fun k => ⟨?_, (hall k).2.2.2⟩⟩
  · simp only
    rw [← eta, ← eta, take_snoc hf, List.foldl_append]
    rfl
  · simp only
    rw [← eta, List.take_length]
    rfl
  · simp only
    rw [List.take_length]
    rfl
  · simp only
    rw [← eta]
    exact (hall k).1
theorem frV_mem {bs f : List Nat} (h : f ∈ frV bs) : f.length ≤ bs.length ∧ ∀ c ∈ f, c ∈ bs := by
  unfold frV frsE at h
  obtain ⟨e, _, rfl⟩ := List.mem_map.1 h
  exact ⟨by simp; omega, fun c hc => List.mem_of_mem_take (List.mem_of_mem_drop hc)⟩
theorem frV_len (bs : List Nat) : (frV bs).length ≤ bs.length + 1 := by
  unfold frV frsE
  rw [List.length_map]
  exact Nat.le_trans (List.length_filter_le _ _) (evs_len bs 0 none)
theorem tlE_mem (bs : List Nat) : ∀ (es : List Ev) (t : List Nat), (t.length ≤ bs.length ∧ ∀ c ∈ t, c ∈ bs) → (es.foldl (fun t e => if e.2.2 then t else (bs.take e.2.1).drop e.1) t).length ≤ bs.length ∧ ∀ c ∈ es.foldl (fun t e => if e.2.2 then t else (bs.take e.2.1).drop e.1) t, c ∈ bs
  | [], t, h => h
  | e :: r, t, h => by
    rw [List.foldl_cons]
    refine tlE_mem bs r _ ?_
    split
    · exact h
    · exact ⟨by simp; omega, fun c hc => List.mem_of_mem_take (List.mem_of_mem_drop hc)⟩
theorem tlV_mem (bs : List Nat) : (tlV bs).length ≤ bs.length ∧ ∀ c ∈ tlV bs, c ∈ bs := tlE_mem bs _ [] (by simp)
set_option maxRecDepth 100000 in
set_option maxHeartbeats 8000000 in
theorem feed_fn (i : In) (b : List Nat) (hi : Sized i) (hb : b.length ≤ 100000) (h8 : ∀ c ∈ b, c < 256) (ho : InOk i) : FnOk Try.prog 26 [.t (encIn i), .t (encUs b)] [] (resA ((feedV i b).1, (feedV i b).2, 0)) [] := by
  have cc := copied_fn i hi.tl hi.sl hi.hl
  have cv := invalid_fn i hi.tl hi.sl hi.u8 hi.mod true ⟨fun _ => ho, fun _ => rfl⟩
  have htl := ho.tl
  have hu8 := hi.u8
  unfold feedV
  obtain ⟨win, tail, sts⟩ := i
  dsimp only at htl hu8 ⊢
  obtain ⟨L, g, l0, g0, hstep, hL, hg, hok⟩ := feed_ex _ ho (frV (tail ++ b))
  rw [hL, hg]
  dsimp only at l0 hok hstep ⊢
  clear hL hg
  have hcl : (tail ++ b).length ≤ 200000 := by simp; omega
  have hc8 : ∀ c ∈ tail ++ b, c < 256 := fun c hc => by
    rcases List.mem_append.1 hc with h | h
    · exact hu8 c h
    · exact h8 c h
  have ck := concat_fn [tail, b] (by simp) (by simp at hcl ⊢; omega)
  have cf := frames_fn (tail ++ b) (by omega) hc8
  simp only [List.map_cons, List.map_nil, List.flatten_cons, List.flatten_nil, List.append_nil] at ck
  have hfl := frV_len (tail ++ b)
  have hfm : ∀ f ∈ frV (tail ++ b), f.length ≤ 200000 ∧ ∀ c ∈ f, c < 256 := fun f hf => ⟨by have := (frV_mem hf).1; omega, fun c hc => hc8 c ((frV_mem hf).2 c hc)⟩
  have htm := (tlV_mem (tail ++ b)).1
  obtain ⟨fs, hfs⟩ : ∃ fs, frV (tail ++ b) = fs := ⟨_, rfl⟩
  obtain ⟨tl, htl2⟩ : ∃ tl, tlV (tail ++ b) = tl := ⟨_, rfl⟩
  obtain ⟨dm, hdm⟩ : ∃ dm, dmV (tail ++ b) = dm := ⟨_, rfl⟩
  obtain ⟨cat, hcat⟩ : ∃ cat, tail ++ b = cat := ⟨_, rfl⟩
  rw [hfs] at hstep cf hfl hfm
  rw [htl2] at cf htm
  rw [hdm] at cf
  rw [hfs, htl2]
  rw [hcat] at ck cf hfl htm hcl
  clear hfs htl2 hdm hcat hc8
  refine FnOk.intro fact_mixed Try.func26 rfl Try.ntmps26 (by rfl) (by simp) ?_
  repeat (first | (refine nf1_sound rfl ?_; simp [go_sem, ↓iteOmega, iteOmega, toNatUp]; (repeat (refine And.intro (by omega) ?_)); try (refine ⟨DrawChk_of (by kernel_rfl), ?_⟩)) | (refine itePos (by omega) ?_; try simp [go_sem, ↓iteOmega, iteOmega, toNatUp]) | (refine iteNeg (by omega) ?_; try simp [go_sem, ↓iteOmega, iteOmega, toNatUp]) | (refine ⟨DrawChk_of (by kernel_rfl), ?_⟩))
  refine CallK.fn (cc) [(1000, 600)] [] [] (by kernel_rfl) (by simp [go_sem, ↓iteOmega, iteOmega, toNatUp]) (by simp [go_sem, ↓iteOmega, iteOmega, toNatUp]) (by simp [go_sem, ↓iteOmega, iteOmega, toNatUp]) (Or.inl rfl) ?_
  simp [go_sem, ↓iteOmega, iteOmega, toNatUp]
  repeat (refine And.intro (by omega) ?_)
  try (refine ⟨DrawChk_of (by kernel_rfl), ?_⟩)
  repeat (first | (refine nf1_sound rfl ?_; simp [go_sem, ↓iteOmega, iteOmega, toNatUp]; (repeat (refine And.intro (by omega) ?_)); try (refine ⟨DrawChk_of (by kernel_rfl), ?_⟩)) | (refine itePos (by omega) ?_; try simp [go_sem, ↓iteOmega, iteOmega, toNatUp]) | (refine iteNeg (by omega) ?_; try simp [go_sem, ↓iteOmega, iteOmega, toNatUp]) | (refine ⟨DrawChk_of (by kernel_rfl), ?_⟩))
  refine CallK.fn (cv) [] [] [] (by kernel_rfl) (by simp [go_sem, ↓iteOmega, iteOmega, toNatUp]) (by simp [go_sem, ↓iteOmega, iteOmega, toNatUp]) (by simp [go_sem, ↓iteOmega, iteOmega, toNatUp]) (Or.inl rfl) ?_
  simp [go_sem, ↓iteOmega, iteOmega, toNatUp]
  repeat (refine And.intro (by omega) ?_)
  try (refine ⟨DrawChk_of (by kernel_rfl), ?_⟩)
  repeat (first | (refine nf1_sound rfl ?_; simp [go_sem, ↓iteOmega, iteOmega, toNatUp]; (repeat (refine And.intro (by omega) ?_)); try (refine ⟨DrawChk_of (by kernel_rfl), ?_⟩)) | (refine itePos (by omega) ?_; try simp [go_sem, ↓iteOmega, iteOmega, toNatUp]) | (refine iteNeg (by omega) ?_; try simp [go_sem, ↓iteOmega, iteOmega, toNatUp]) | (refine ⟨DrawChk_of (by kernel_rfl), ?_⟩))
  refine CallK.fn (ck) [] [] [128] (by kernel_rfl) (by simp [go_sem, ↓iteOmega, iteOmega, toNatUp]) (by simp [go_sem, ↓iteOmega, iteOmega, toNatUp]) (by simp [go_sem, ↓iteOmega, iteOmega, toNatUp]) (Or.inl rfl) ?_
  simp [go_sem, ↓iteOmega, iteOmega, toNatUp]
  repeat (refine And.intro (by omega) ?_)
  try (refine ⟨DrawChk_of (by kernel_rfl), ?_⟩)
  refine CallK.fn (cf) [] [] [] (by kernel_rfl) (by simp [go_sem, ↓iteOmega, iteOmega, toNatUp]) (by simp [go_sem, ↓iteOmega, iteOmega, toNatUp]) (by simp [go_sem, ↓iteOmega, iteOmega, toNatUp]) (Or.inl rfl) ?_
  simp [go_sem, ↓iteOmega, iteOmega, toNatUp]
  repeat (refine And.intro (by omega) ?_)
  try (refine ⟨DrawChk_of (by kernel_rfl), ?_⟩)
  repeat (first | (refine nf1_sound rfl ?_; simp [go_sem, ↓iteOmega, iteOmega, toNatUp]; (repeat (refine And.intro (by omega) ?_)); try (refine ⟨DrawChk_of (by kernel_rfl), ?_⟩)) | (refine itePos (by omega) ?_; try simp [go_sem, ↓iteOmega, iteOmega, toNatUp]) | (refine iteNeg (by omega) ?_; try simp [go_sem, ↓iteOmega, iteOmega, toNatUp]) | (refine ⟨DrawChk_of (by kernel_rfl), ?_⟩))
  refine nf1_sound' _ _ _ ?_; simp only [nf1]
  refine CW.loop (ι := Nat) (fun k => ⟨[(4, .pt 504 [] 0), (7, .pt 501 [] 0), (9, .t (encUs tl)), (11, .own 503), (34, .t (.sl 1 (fs.map encUs))), (35, .t (.int fs.length)), (36, .t (.int k))], [(504, .box 29 (.t (.agg [.int 0, .nil, .nil]))), (501, boxIn win tail 502), (502, rowWts (L k)), (503, blkTgs (g k))]⟩) (fun k => k ≤ fs.length) (fun k => fs.length - k) 0 [(504, some 104), (501, some 107), (502, some 600), (503, none)] (Nat.zero_le _) ?_ ?_
  · simp [go_sem, ↓iteOmega, iteOmega, toNatUp, l0, g0]
  intro k hk
  by_cases hlt : k < fs.length
  · obtain ⟨f, hf⟩ := has_get hlt
    obtain ⟨hf1, hf2⟩ := hfm f (mem_get hf)
    have hst := hstep k f hf
    obtain ⟨hk1, hk2⟩ := hok k
    have hk3 := (hok (k + 1)).2
    obtain ⟨A, hA⟩ : ∃ A, L k = A := ⟨_, rfl⟩
    obtain ⟨V, hV⟩ : ∃ V, g k = V := ⟨_, rfl⟩
    obtain ⟨A2, hA2⟩ : ∃ A, L (k + 1) = A := ⟨_, rfl⟩
    obtain ⟨V2, hV2⟩ : ∃ V, g (k + 1) = V := ⟨_, rfl⟩
    rw [hA, hV, hA2, hV2] at hst
    rw [hA] at hk1
    rw [hV] at hk2
    rw [hV2] at hk3
    rw [hA, hV]
    obtain ⟨t, e, hte⟩ : ∃ t e, decV f = (t, e) := ⟨_, _, rfl⟩
    have cd := decodeT_fn f (by omega) hf2 t e hte
    unfold stepF at hst
    rw [hte] at hst
    dsimp only at hst
    by_cases he : e = 0
    · subst he
      rw [if_pos rfl] at hst
      obtain ⟨htok, _⟩ := dec_back hf2 hte
      have htv : t.vs.length ≤ 1000000 := by have := htok.ln; omega
      have hal := accV_len hk1 t
      unfold accV at hst hal
      rw [if_pos htok] at hst hal
      have hasc := hk1.asc
      have h64 : A.length ≤ 64 := by have := hk1.sl; dsimp only at this; omega
      dsimp only at hst hal hasc
      obtain ⟨p, hp⟩ : ∃ p, lb t.st (A.map (·.st)) = p := ⟨_, rfl⟩
      rw [hp] at hst hal
      have hnew : (A.map (·.st))[p]? ≠ some t.st → accA ⟨win, tail, A⟩ t p = newA ⟨win, tail, A⟩ t p := fun hk => by
        unfold accA
        cases hw : A[p]? with
        | none => rfl
        | some w =>
          rw [List.getElem?_map, hw] at hk
          dsimp only
          rw [if_neg (by simpa using hk)]
      by_cases hkn : (A.map (·.st))[p]? = some t.st
      · rw [List.getElem?_map] at hkn
        cases hw : A[p]? with
        | none => rw [hw] at hkn; cases hkn
        | some w =>
          rw [hw] at hkn
          have hws : w.st = t.st := by simpa using hkn
          have ca := acceptKnown_fn win tail A t htv htok h64 hasc p hp w hw hws (hk1.take hw htok)
          unfold accA at hst hal
          rw [hw] at hst hal
          try dsimp only at hst hal
          rw [if_pos hws] at hst hal
          obtain ⟨o, hO⟩ : ∃ o, (takeV w t win).2 = o := ⟨_, rfl⟩
          obtain ⟨M, hM⟩ : ∃ M, A.set p (takeV w t win).1 = M := ⟨_, rfl⟩
          rw [hO, hM] at ca hst
          rw [hO] at hal
          try dsimp only at hst hal
          obtain ⟨h1, h2⟩ := Prod.mk.inj hst
          obtain ⟨_, _, rfl⟩ := In.mk.inj h1
          subst h2
          clear hst h1 hok hstep hnew hte hp hw hws hkn
          repeat (first | (refine nf1_sound rfl ?_; simp [go_sem, ↓iteOmega, iteOmega, toNatUp, hf]; (repeat (refine And.intro (by omega) ?_)); try (refine ⟨DrawChk_of (by kernel_rfl), ?_⟩)) | (refine itePos (by omega) ?_; try simp [go_sem, ↓iteOmega, iteOmega, toNatUp, hf]) | (refine iteNeg (by omega) ?_; try simp [go_sem, ↓iteOmega, iteOmega, toNatUp, hf]) | (refine ⟨DrawChk_of (by kernel_rfl), ?_⟩))
          refine CallK.fn (cd) [] [] [] (by kernel_rfl) (by simp [go_sem, ↓iteOmega, iteOmega, toNatUp]) (by simp [go_sem, ↓iteOmega, iteOmega, toNatUp]) (by simp [go_sem, ↓iteOmega, iteOmega, toNatUp]) (Or.inl rfl) ?_
          simp [go_sem, ↓iteOmega, iteOmega, toNatUp]
          repeat (refine And.intro (by omega) ?_)
          try (refine ⟨DrawChk_of (by kernel_rfl), ?_⟩)
          repeat (first | (refine nf1_sound rfl ?_; simp [go_sem, ↓iteOmega, iteOmega, toNatUp]; (repeat (refine And.intro (by omega) ?_)); try (refine ⟨DrawChk_of (by kernel_rfl), ?_⟩)) | (refine itePos (by omega) ?_; try simp [go_sem, ↓iteOmega, iteOmega, toNatUp]) | (refine iteNeg (by omega) ?_; try simp [go_sem, ↓iteOmega, iteOmega, toNatUp]) | (refine ⟨DrawChk_of (by kernel_rfl), ?_⟩))
          refine CallK.fn (ca) [(1, 501), (2, 502)] [] [] (by kernel_rfl) (by simp [go_sem, ↓iteOmega, iteOmega, toNatUp]) (by simp [go_sem, ↓iteOmega, iteOmega, toNatUp]) (by simp [go_sem, ↓iteOmega, iteOmega, toNatUp]) (Or.inl rfl) ?_
          simp [go_sem, ↓iteOmega, iteOmega, toNatUp]
          repeat (refine And.intro (by omega) ?_)
          try (refine ⟨DrawChk_of (by kernel_rfl), ?_⟩)
          repeat (first | (refine nf1_sound rfl ?_; simp [go_sem, ↓iteOmega, iteOmega, toNatUp]; (repeat (refine And.intro (by omega) ?_)); try (refine ⟨DrawChk_of (by kernel_rfl), ?_⟩)) | (refine itePos (by omega) ?_; try simp [go_sem, ↓iteOmega, iteOmega, toNatUp]) | (refine iteNeg (by omega) ?_; try simp [go_sem, ↓iteOmega, iteOmega, toNatUp]) | (refine ⟨DrawChk_of (by kernel_rfl), ?_⟩))
          rw [RoundQ_normal]; refine ⟨k + 1, [(504, some 504), (501, some 501), (502, some 502), (503, some 154)], ?_, ?_, ?_⟩
          · omega
          · omega
          simp [go_sem, ↓iteOmega, iteOmega, toNatUp, hA2, hV2]
      · have hn := hnew hkn
        rw [hn] at hst hal
        unfold newA at hst hal
        by_cases hf64 : A.length = 64
        · have ca := acceptFull_fn win tail A t htv htok hf64 hasc (by rw [hp]; exact hkn)
          rw [if_pos hf64] at hst
          rw [List.append_nil] at hst
          obtain ⟨h1, h2⟩ := Prod.mk.inj hst
          obtain ⟨_, _, rfl⟩ := In.mk.inj h1
          subst h2
          clear hst h1 hok hstep hnew hn hte hp hkn hal
          repeat (first | (refine nf1_sound rfl ?_; simp [go_sem, ↓iteOmega, iteOmega, toNatUp, hf]; (repeat (refine And.intro (by omega) ?_)); try (refine ⟨DrawChk_of (by kernel_rfl), ?_⟩)) | (refine itePos (by omega) ?_; try simp [go_sem, ↓iteOmega, iteOmega, toNatUp, hf]) | (refine iteNeg (by omega) ?_; try simp [go_sem, ↓iteOmega, iteOmega, toNatUp, hf]) | (refine ⟨DrawChk_of (by kernel_rfl), ?_⟩))
          refine CallK.fn (cd) [] [] [] (by kernel_rfl) (by simp [go_sem, ↓iteOmega, iteOmega, toNatUp]) (by simp [go_sem, ↓iteOmega, iteOmega, toNatUp]) (by simp [go_sem, ↓iteOmega, iteOmega, toNatUp]) (Or.inl rfl) ?_
          simp [go_sem, ↓iteOmega, iteOmega, toNatUp]
          repeat (refine And.intro (by omega) ?_)
          try (refine ⟨DrawChk_of (by kernel_rfl), ?_⟩)
          repeat (first | (refine nf1_sound rfl ?_; simp [go_sem, ↓iteOmega, iteOmega, toNatUp]; (repeat (refine And.intro (by omega) ?_)); try (refine ⟨DrawChk_of (by kernel_rfl), ?_⟩)) | (refine itePos (by omega) ?_; try simp [go_sem, ↓iteOmega, iteOmega, toNatUp]) | (refine iteNeg (by omega) ?_; try simp [go_sem, ↓iteOmega, iteOmega, toNatUp]) | (refine ⟨DrawChk_of (by kernel_rfl), ?_⟩))
          refine CallK.fn (ca) [(1, 501), (2, 502)] [] [] (by kernel_rfl) (by simp [go_sem, ↓iteOmega, iteOmega, toNatUp]) (by simp [go_sem, ↓iteOmega, iteOmega, toNatUp]) (by simp [go_sem, ↓iteOmega, iteOmega, toNatUp]) (Or.inl rfl) ?_
          simp [go_sem, ↓iteOmega, iteOmega, toNatUp]
          repeat (refine And.intro (by omega) ?_)
          try (refine ⟨DrawChk_of (by kernel_rfl), ?_⟩)
          repeat (first | (refine nf1_sound rfl ?_; simp [go_sem, ↓iteOmega, iteOmega, toNatUp]; (repeat (refine And.intro (by omega) ?_)); try (refine ⟨DrawChk_of (by kernel_rfl), ?_⟩)) | (refine itePos (by omega) ?_; try simp [go_sem, ↓iteOmega, iteOmega, toNatUp]) | (refine iteNeg (by omega) ?_; try simp [go_sem, ↓iteOmega, iteOmega, toNatUp]) | (refine ⟨DrawChk_of (by kernel_rfl), ?_⟩))
          rw [RoundQ_normal]; refine ⟨k + 1, [(504, some 504), (501, some 501), (502, some 502), (503, some 154)], ?_, ?_, ?_⟩
          · omega
          · omega
          simp [go_sem, ↓iteOmega, iteOmega, toNatUp, hA2, hV2]
        · have ca := acceptNew_fn win tail A t htv htok (by omega) hasc p hp hkn (hk1.take0 htok)
          rw [if_neg hf64] at hst hal
          obtain ⟨o, hO⟩ : ∃ o, (takeV ⟨t.st, t.ep, 0, []⟩ t win).2 = o := ⟨_, rfl⟩
          obtain ⟨M, hM⟩ : ∃ M, A.take p ++ (takeV ⟨t.st, t.ep, 0, []⟩ t win).1 :: A.drop p = M := ⟨_, rfl⟩
          try dsimp only at hst hal
          rw [hO, hM] at ca hst
          rw [hO] at hal
          try dsimp only at hst hal
          obtain ⟨h1, h2⟩ := Prod.mk.inj hst
          obtain ⟨_, _, rfl⟩ := In.mk.inj h1
          subst h2
          clear hst h1 hok hstep hnew hn hte hp hkn
          repeat (first | (refine nf1_sound rfl ?_; simp [go_sem, ↓iteOmega, iteOmega, toNatUp, hf]; (repeat (refine And.intro (by omega) ?_)); try (refine ⟨DrawChk_of (by kernel_rfl), ?_⟩)) | (refine itePos (by omega) ?_; try simp [go_sem, ↓iteOmega, iteOmega, toNatUp, hf]) | (refine iteNeg (by omega) ?_; try simp [go_sem, ↓iteOmega, iteOmega, toNatUp, hf]) | (refine ⟨DrawChk_of (by kernel_rfl), ?_⟩))
          refine CallK.fn (cd) [] [] [] (by kernel_rfl) (by simp [go_sem, ↓iteOmega, iteOmega, toNatUp]) (by simp [go_sem, ↓iteOmega, iteOmega, toNatUp]) (by simp [go_sem, ↓iteOmega, iteOmega, toNatUp]) (Or.inl rfl) ?_
          simp [go_sem, ↓iteOmega, iteOmega, toNatUp]
          repeat (refine And.intro (by omega) ?_)
          try (refine ⟨DrawChk_of (by kernel_rfl), ?_⟩)
          repeat (first | (refine nf1_sound rfl ?_; simp [go_sem, ↓iteOmega, iteOmega, toNatUp]; (repeat (refine And.intro (by omega) ?_)); try (refine ⟨DrawChk_of (by kernel_rfl), ?_⟩)) | (refine itePos (by omega) ?_; try simp [go_sem, ↓iteOmega, iteOmega, toNatUp]) | (refine iteNeg (by omega) ?_; try simp [go_sem, ↓iteOmega, iteOmega, toNatUp]) | (refine ⟨DrawChk_of (by kernel_rfl), ?_⟩))
          refine CallK.fn (ca) [(1, 501), (2, 502), (1000, 600)] [] [] (by kernel_rfl) (by simp [go_sem, ↓iteOmega, iteOmega, toNatUp]) (by simp [go_sem, ↓iteOmega, iteOmega, toNatUp]) (by simp [go_sem, ↓iteOmega, iteOmega, toNatUp]) (Or.inl rfl) ?_
          simp [go_sem, ↓iteOmega, iteOmega, toNatUp]
          repeat (refine And.intro (by omega) ?_)
          try (refine ⟨DrawChk_of (by kernel_rfl), ?_⟩)
          repeat (first | (refine nf1_sound rfl ?_; simp [go_sem, ↓iteOmega, iteOmega, toNatUp]; (repeat (refine And.intro (by omega) ?_)); try (refine ⟨DrawChk_of (by kernel_rfl), ?_⟩)) | (refine itePos (by omega) ?_; try simp [go_sem, ↓iteOmega, iteOmega, toNatUp]) | (refine iteNeg (by omega) ?_; try simp [go_sem, ↓iteOmega, iteOmega, toNatUp]) | (refine ⟨DrawChk_of (by kernel_rfl), ?_⟩))
          rw [RoundQ_normal]; refine ⟨k + 1, [(504, some 504), (501, some 501), (502, some 600), (503, some 154)], ?_, ?_, ?_⟩
          · omega
          · omega
          simp [go_sem, ↓iteOmega, iteOmega, toNatUp, hA2, hV2]
    · rw [if_neg he] at hst
      obtain ⟨h1, h2⟩ := Prod.mk.inj hst
      obtain ⟨_, _, rfl⟩ := In.mk.inj h1
      subst h2
      clear hst h1 hok hstep hte
      repeat (first | (refine nf1_sound rfl ?_; simp [go_sem, ↓iteOmega, iteOmega, toNatUp, hf]; (repeat (refine And.intro (by omega) ?_)); try (refine ⟨DrawChk_of (by kernel_rfl), ?_⟩)) | (refine itePos (by omega) ?_; try simp [go_sem, ↓iteOmega, iteOmega, toNatUp, hf]) | (refine iteNeg (by omega) ?_; try simp [go_sem, ↓iteOmega, iteOmega, toNatUp, hf]) | (refine ⟨DrawChk_of (by kernel_rfl), ?_⟩))
      refine CallK.fn (cd) [] [] [] (by kernel_rfl) (by simp [go_sem, ↓iteOmega, iteOmega, toNatUp]) (by simp [go_sem, ↓iteOmega, iteOmega, toNatUp]) (by simp [go_sem, ↓iteOmega, iteOmega, toNatUp]) (Or.inl rfl) ?_
      simp [go_sem, ↓iteOmega, iteOmega, toNatUp]
      repeat (refine And.intro (by omega) ?_)
      try (refine ⟨DrawChk_of (by kernel_rfl), ?_⟩)
      repeat (first | (refine nf1_sound rfl ?_; simp [go_sem, ↓iteOmega, iteOmega, toNatUp, he]; (repeat (refine And.intro (by omega) ?_)); try (refine ⟨DrawChk_of (by kernel_rfl), ?_⟩)) | (refine itePos (by omega) ?_; try simp [go_sem, ↓iteOmega, iteOmega, toNatUp, he]) | (refine iteNeg (by omega) ?_; try simp [go_sem, ↓iteOmega, iteOmega, toNatUp, he]) | (refine ⟨DrawChk_of (by kernel_rfl), ?_⟩))
      rw [RoundQ_normal]; refine ⟨k + 1, [(504, some 504), (501, some 501), (502, some 502), (503, some 503)], ?_, ?_, ?_⟩
      · omega
      · omega
      simp [go_sem, ↓iteOmega, iteOmega, toNatUp, hA2, hV2]
  · obtain rfl : k = fs.length := by omega
    obtain ⟨A, hA⟩ : ∃ A, L fs.length = A := ⟨_, rfl⟩
    obtain ⟨V, hV⟩ : ∃ V, g fs.length = V := ⟨_, rfl⟩
    rw [hA, hV]
    unfold cutT
    by_cases h400 : 400 < tl.length
    · rw [if_pos h400]
      repeat (first | (refine nf1_sound rfl ?_; simp [go_sem, ↓iteOmega, iteOmega, toNatUp]; (repeat (refine And.intro (by omega) ?_)); try (refine ⟨DrawChk_of (by kernel_rfl), ?_⟩)) | (refine itePos (by omega) ?_; try simp [go_sem, ↓iteOmega, iteOmega, toNatUp]) | (refine iteNeg (by omega) ?_; try simp [go_sem, ↓iteOmega, iteOmega, toNatUp]) | (refine ⟨DrawChk_of (by kernel_rfl), ?_⟩))
      first | rw [RetQ_ret] | rw [RetQ_normal]
      refine ⟨[], ?_⟩
      simp [go_sem, ↓iteOmega, iteOmega, toNatUp, toT_uWt]
    · rw [if_neg h400]
      repeat (first | (refine nf1_sound rfl ?_; simp [go_sem, ↓iteOmega, iteOmega, toNatUp]; (repeat (refine And.intro (by omega) ?_)); try (refine ⟨DrawChk_of (by kernel_rfl), ?_⟩)) | (refine itePos (by omega) ?_; try simp [go_sem, ↓iteOmega, iteOmega, toNatUp]) | (refine iteNeg (by omega) ?_; try simp [go_sem, ↓iteOmega, iteOmega, toNatUp]) | (refine ⟨DrawChk_of (by kernel_rfl), ?_⟩))
      first | rw [RetQ_ret] | rw [RetQ_normal]
      refine ⟨[], ?_⟩
      simp [go_sem, ↓iteOmega, iteOmega, toNatUp, toT_uWt]
end Go.Proofs.Ytopmmodcaoaaeaa
