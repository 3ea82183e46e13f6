/- slices.Grow from nothing, slices.Concat of lists of bytes. No condition. intake.Feed: what it computes. No condition. The law's stream: telegrams as bytes, with damage. No condition. The reference's Same of an intake and itself; streams in parts. No condition. -/
import Derived.Test.YtopmmodcaoaaeaaInY
import Derived.Lib.AppendZeros
import Derived.Test.YtopmmodcaoaaeaaInFr
import Derived.Test.YtopmmodcaoaaeaaInSu
import Derived.Test.YtopmmodcaoaaeaaTgI
import Derived.Test.YtopmmodcaoaaeaaTgK
import Derived.Test.YtopmmodcaoaaeaaTgL
namespace Go.Proofs.Ytopmmodcaoaaeaa
open Go.RowKit Sy
open Go.IntWalk renaming iteOmega → iO, toNatUp → tN
set_option linter.unusedVariables false
set_option linter.unusedSimpArgs false
theorem elemU8 : Elem Try.prog 26 5 1 1 (.int .u8 0) := ⟨Try.underlying26, by kernel_rfl, rfl, by decide⟩
set_option maxRecDepth 100000 in
set_option maxHeartbeats 4000000 in
theorem grow0_call (n : Nat) (hn : n ≤ 10000000) (w : World) : Calls Try.prog 65 #[.slice none 0 0, .int .i64 n] w fun e w' => ∃ x c, e = .returned (.slice x 0 c) ∧ Own w' w.heap.size 5 1 x 0 c [] ∧ Below w.heap.size w w' := by
  by_cases h0 : n = 0
  · subst h0
    go_enter Try.func65, Try.ntmps65
    go_wp2
    go_ret
    exact ⟨none, 0, rfl, World.ownsRow_nil _ _ _ _, Below.refl _ _⟩
  · have hw1 : IntKind.i64.wrap (n : Int) = (n : Int) := by rw [IntKind.wrap_i64]; omega
    have hp : (0 : Int) < (n : Int) := by omega
    have hp0 : 0 < n := by omega
    obtain ⟨i0, hi0, hz0, hz1, hz2⟩ := info_parts elemU8.info
    have happ := Lib.run_append_nil_zeros (P := Try.prog) w 26 3 26 5 i0 (.int .u8 0) .i64 .i64 elemU8.und Try.underlying3 hi0 hz0 n (by omega) (by omega) (by omega) (by rw [hz2]; omega)
    obtain ⟨C, hC⟩ : ∃ C, C = grownCap w n 0 5 := ⟨_, rfl⟩
    have hCm : C ≤ maxLen := by rw [hC]; exact grownCap_le_maxLen w n 0 _ (by unfold maxLen; omega)
    have hCn : n ≤ C := by rw [hC]; exact grownCap_ge w _ _ _
    rw [← hC] at happ
    obtain ⟨Z, hZ⟩ : ∃ Z, Z = Builtin.zeroCells (Value.int .u8 0).cells n ++ Builtin.zeroCells (Value.int .u8 0).cells (C - n) := ⟨_, rfl⟩
    have hZs : Z.size = C := by rw [hZ]; simp [size_zeroCells, Value.cells]; omega
    rw [← hZ] at happ
    clear hZ hC
    go_enter Try.func65, Try.ntmps65
    go_wp2_with (at_builtin; refine Lib.wpList_append_run _ rfl _ _ _ _ rfl _ _ rfl rfl _ _ happ ?_)
    go_ret
    refine ⟨_, _, rfl, ⟨by simp, .inr ⟨w.heap.size, C, Z, rfl, Nat.le_refl _, heap_alloc_new w.drew _, by omega, hCm, by omega, by simp⟩⟩, ?_⟩
    exact (Below.refl _ w).grown (row := none) (World.grownBy_drew w) (Nat.le_refl _) (fun k e => by cases e) |>.trans ((Below.refl _ w.drew).alloc (Nat.le_refl _) _)
theorem grow0_fn (n : Nat) (hn : n ≤ 10000000) : FnOk Try.prog 65 [.t .nil, .t (.int n)] [] (.own 1000) [(1000, .list 5 1 [])] := by
  intro G w us hh hr
  unfold RepPs at hr
  obtain ⟨u1, r1, rfl, h1, hr⟩ := hr
  unfold RepPs at hr
  obtain ⟨u2, r2, rfl, h2, hr⟩ := hr
  unfold RepPs at hr
  subst hr
  unfold RepS Rep at h1 h2
  obtain ⟨rfl, _⟩ := h1
  obtain ⟨rfl, _⟩ := h2
  refine (grow0_call n hn w).mono ?_
  rintro e w' ⟨x, c, rfl, ho, hb⟩
  have hg : w.grownBy w' none := ⟨hb.os, hb.tape, hb.output, hb.size, fun k hk _ => hb.block k hk⟩
  have ext := Ext.mk' (G := G) (w' := w') hh none hg none (fun l hl => by cases hl) (fun k hk => by cases hk) 1000 (.slice x 0 c) (.list 5 1 []) (.inr rfl) [1000] (.inl rfl) (fun k hk l b hl => by simp [lkB] at hl)
    (fun k hk => by
      rcases ho.2 with ⟨hv, _⟩ | ⟨g, cap', cur, hv, hB, hh, _⟩
      · rw [hv] at hk; simp [hblk] at hk
      · rw [hv] at hk
        simp [hblk] at hk
        subst hk
        exact .inr hB)
    ⟨x, c, [], rfl, by unfold Reps; rfl, by simp, ho.mono (Nat.zero_le _)⟩ (fun _ h => h)
  have hs : ∀ l b, lkB [(1000, Blk.list 5 1 [])] l = some b → (if l = 1000 then some (Blk.list 5 1 []) else if (none : Option Nat) = some l then none else lkB [] l) = some b := by
    intro l b hl
    simp only [lkB] at hl
    split at hl
    · rename_i h
      rw [if_pos h]; exact hl
    · cases hl
  refine ⟨_, _, rfl, from_sub hs (from_ext ext (fun l hl => by simp at hl; omega)), heapOk_sub hs ext.heap, ?_⟩
  unfold RepS
  exact ⟨(bput_same G.β 1000 _).symm, _, _, _, rfl⟩
/-- The bytes of the first k lists. -/
theorem part_ex (ls : List (List Nat)) : ∃ (S : Nat → Nat) (C : Nat → List Nat), S 0 = 0 ∧ C 0 = [] ∧ (∀ k x, ls[k]? = some x → S (k + 1) = S k + x.length ∧ C (k + 1) = C k ++ x) ∧ C ls.length = ls.flatten ∧ (∀ k, S k ≤ ls.flatten.length ∧ (C k).length = S k) := by
  have hl : ∀ k, ((ls.take k).flatten).length ≤ ls.flatten.length := fun k => by
    conv => rhs; rw [← List.take_append_drop k ls, List.flatten_append, List.length_append]
    omega
  refine ⟨fun k => ((ls.take k).flatten).length, fun k => (ls.take k).flatten, by simp, by simp, fun k x hx => ?_, by simp, fun k => ⟨hl k, rfl⟩⟩
  simp only
  rw [take_snoc hx, List.flatten_append]
  simp
set_option maxRecDepth 100000 in
set_option maxHeartbeats 4000000 in
theorem concat_fn (ls : List (List Nat)) (hn : ls.length ≤ 1000) (hs : ls.flatten.length ≤ 1000000) : FnOk Try.prog 43 [.t (.sl 1 (ls.map encUs))] [] (.t (encUs ls.flatten)) [] := by
  have e65 : entB Try.prog 65 = true := by kernel_rfl
  obtain ⟨S, C, s0, c0, hsc, cn, hbd⟩ := part_ex ls
  rw [← cn]
  refine FnOk.intro fact_mixed Try.func43 rfl Try.ntmps43 (by rfl) (by simp) ?_
  repeat (first | (refine nf1_sound rfl ?_; simp [go_sem, ↓iO, iO, tN]; (repeat (refine anI ?_)); try (refine ⟨dcK, ?_⟩)) | ((first | refine itePos (by omega) ?_ | refine iteNeg (by omega) ?_); try simp [go_sem, ↓iO, iO, tN]) | (refine ⟨dcK, ?_⟩))
  refine nf1_sound' _ _ _ ?_; simp only [nf1]
  refine CW.loop (ι := Nat) (fun k => ⟨[(0, .t (.sl 1 (ls.map encUs))), (3, .t (.int (S k))), (9, .t (.sl 1 (ls.map encUs))), (10, .t (.int ls.length)), (11, .t (.int k))], []⟩) (fun k => k ≤ ls.length) (fun k => ls.length - k) 0 [] (Nat.zero_le _) ?_ ?_
  · simp [go_sem, ↓iO, iO, tN, s0]
  intro k hk
  have hb1 := (hbd k).1
  by_cases hlt : k < ls.length
  · obtain ⟨x, hx⟩ := has_get hlt
    obtain ⟨h1, _⟩ := hsc k x hx
    have hb2 := (hbd (k + 1)).1
    obtain ⟨A, hA⟩ : ∃ A, S k = A := ⟨_, rfl⟩
    rw [hA] at h1 hb1
    rw [hA]
    repeat (first | (refine nf1_sound rfl ?_; simp [go_sem, ↓iO, iO, tN, hx]; (repeat (refine anI ?_)); try (refine ⟨dcK, ?_⟩)) | ((first | refine itePos (by omega) ?_ | refine iteNeg (by omega) ?_); try simp [go_sem, ↓iO, iO, tN, hx]) | (refine ⟨dcK, ?_⟩))
    rw [RoundQ_normal]; refine ⟨k + 1, [], ?_, ?_, ?_⟩
    · omega
    · omega
    simp [go_sem, ↓iO, iO, tN, h1]
  · obtain rfl : k = ls.length := by omega
    obtain ⟨A, hA⟩ : ∃ A, S ls.length = A := ⟨_, rfl⟩
    rw [hA] at hb1
    rw [hA]
    have cg := grow0_fn A (by omega)
    repeat (first | (refine nf1_sound rfl ?_; simp [go_sem, ↓iO, iO, tN, e65]; (repeat (refine anI ?_)); try (refine ⟨dcK, ?_⟩)) | ((first | refine itePos (by omega) ?_ | refine iteNeg (by omega) ?_); try simp [go_sem, ↓iO, iO, tN, e65]) | (refine ⟨dcK, ?_⟩))
    refine CallK.fn (cg) [(1000, 600)] [] [] (by kernel_rfl) ?_ ?_ ?_ (Or.inl rfl) ?_ <;> simp [go_sem, ↓iO, iO, tN]
    repeat (refine anI ?_)
    try (refine ⟨dcK, ?_⟩)
    repeat (first | (refine nf1_sound rfl ?_; simp [go_sem, ↓iO, iO, tN]; (repeat (refine anI ?_)); try (refine ⟨dcK, ?_⟩)) | ((first | refine itePos (by omega) ?_ | refine iteNeg (by omega) ?_); try simp [go_sem, ↓iO, iO, tN]) | (refine ⟨dcK, ?_⟩))
    refine nf1_sound' _ _ _ ?_; simp only [nf1]
    refine CW.loop (ι := Nat) (fun k => ⟨[(6, .own 502), (25, .t (.sl 1 (ls.map encUs))), (26, .t (.int ls.length)), (27, .t (.int k))], [(502, .list 5 1 ((C k).map encU))]⟩) (fun k => k ≤ ls.length) (fun k => ls.length - k) 0 [(502, some 600)] (Nat.zero_le _) ?_ ?_
    · simp [go_sem, ↓iO, iO, tN, c0]
    intro k hk
    by_cases hlt : k < ls.length
    · obtain ⟨x, hx⟩ := has_get hlt
      obtain ⟨h0, h1⟩ := hsc k x hx
      have hb2 := hbd (k + 1)
      have hb3 := hbd k
      obtain ⟨V, hV⟩ : ∃ V, C k = V := ⟨_, rfl⟩
      obtain ⟨V2, hV2⟩ : ∃ V, C (k + 1) = V := ⟨_, rfl⟩
      rw [hV] at h1 hb3
      rw [hV2] at h1 hb2
      have hlen : V.length + x.length ≤ 1000000 := by have e := congrArg List.length h1; rw [List.length_append] at e; omega
      rw [hV]
      repeat (first | (refine nf1_sound rfl ?_; simp [go_sem, ↓iO, iO, tN, hx]; (repeat (refine anI ?_)); try (refine ⟨dcK, ?_⟩)) | ((first | refine itePos (by omega) ?_ | refine iteNeg (by omega) ?_); try simp [go_sem, ↓iO, iO, tN, hx]) | (refine ⟨dcK, ?_⟩))
      rw [RoundQ_normal]; refine ⟨k + 1, [(502, some 133)], ?_, ?_, ?_⟩
      · omega
      · omega
      simp [go_sem, ↓iO, iO, tN, hV2, h1]
    · obtain rfl : k = ls.length := by omega
      repeat (first | (refine nf1_sound rfl ?_; simp [go_sem, ↓iO, iO, tN]; (repeat (refine anI ?_)); try (refine ⟨dcK, ?_⟩)) | ((first | refine itePos (by omega) ?_ | refine iteNeg (by omega) ?_); try simp [go_sem, ↓iO, iO, tN]) | (refine ⟨dcK, ?_⟩))
      first | rw [RetQ_ret] | rw [RetQ_normal]
      refine ⟨[], ?_⟩
      simp [go_sem, ↓iO, iO, tN]
end Go.Proofs.Ytopmmodcaoaaeaa
namespace Go.Proofs.Ytopmmodcaoaaeaa
open Go.RowKit Sy
open Go.IntWalk renaming iteOmega → iO, toNatUp → tN
set_option linter.unusedVariables false
set_option linter.unusedSimpArgs false
/-- A contract whose end says less. -/
theorem fnOk_weak {P : Program} {f : FuncId} {ss : List S} {pre post post' : List (Nat × Blk)} {r r' : S} (h : FnOk P f ss pre r post) (ρ : List (Nat × Option Nat)) (hρ : rhoOk ρ = true) (h1 : wkS ρ (lkB post) r r') (h2 : wkH ρ (lkB post) post') : FnOk P f ss pre r' post' := by
  intro G w us hh hr
  refine (h G w us hh hr).mono ?_
  rintro e w' ⟨v, G', rfl, hf, hh', hv⟩
  exact ⟨v, _, rfl, wk_from hρ h2 hf, wk_heap hρ hh' h2, wkS_spec hh' r r' v h1 hv⟩
theorem decodeT_fn (b : List Nat) (hb : b.length ≤ 1000000) (h8 : ∀ c ∈ b, c < 256) (t : Tg) (e : Int) (hr : decV b = (t, e)) : FnOk Try.prog 44 [.t (encUs b)] [] (.tup [.t (encTg t), .t (.int e)]) [] := by
  refine fnOk_weak (decode_fn b hb h8 t e hr) [] rfl ?_ ?_
  · simp [go_sem, ↓iO, iO, tN, wkXs]
  · simp [go_sem, ↓iO, iO, tN]
/-- One frame. -/
def stepF (s : In × List Tg) (f : List Nat) : In × List Tg :=
  if (decV f).2 = 0 then ((accV s.1 (decV f).1).1, s.2 ++ (accV s.1 (decV f).1).2.1) else s
def foldF (s : In) (fs : List (List Nat)) : In × List Tg := fs.foldl stepF (s, [])
def cutT (l : List Nat) : List Nat := if 400 < l.length then [] else l
def feedV (i : In) (b : List Nat) : In × List Tg := (⟨(foldF i (frV (i.tail ++ b))).1.win, cutT (tlV (i.tail ++ b)), (foldF i (frV (i.tail ++ b))).1.sts⟩, (foldF i (frV (i.tail ++ b))).2)
theorem accA_win (i : In) (t : Tg) (p : Nat) : (accA i t p).1.win = i.win ∧ (accA i t p).1.tail = i.tail := by
  unfold accA newA
  split
  · split
    · exact ⟨rfl, rfl⟩
    · split <;> exact ⟨rfl, rfl⟩
  · split <;> exact ⟨rfl, rfl⟩
theorem accV_win (i : In) (t : Tg) : (accV i t).1.win = i.win ∧ (accV i t).1.tail = i.tail := by
  unfold accV
  split
  · exact accA_win i t _
  · exact ⟨rfl, rfl⟩
theorem accV_len {i : In} (h : InOk i) (t : Tg) : (accV i t).2.1.length ≤ 17 := by
  have hwx := h.wx
  unfold accV accA newA
  have key : ∀ w : Wt, ¬ i.win < (w.held.length : Int) → (takeV w t i.win).2.length ≤ 17 := fun w hw => by
    have := takeV_len w t i.win
    omega
  have hw0 := h.wn
  split
  · split
    · rename_i w hw
      split
      · exact key w (h.each w (mem_get hw)).2.2.2.2.2.2.1
      · split
        · simp
        · exact key _ (by simp; omega)
    · split
      · simp
      · exact key _ (by simp; omega)
  · simp
theorem stepF_ok {s : In × List Tg} (h : InOk s.1) (f : List Nat) : InOk (stepF s f).1 ∧ (stepF s f).1.win = s.1.win ∧ (stepF s f).1.tail = s.1.tail ∧ (stepF s f).2.length ≤ s.2.length + 17 := by
  unfold stepF
  split
  · have h1 := accV_win s.1 (decV f).1
    have h2 := accV_len h (decV f).1
    exact ⟨accV_ok h, h1.1, h1.2, by rw [List.length_append]; omega⟩
  · exact ⟨h, rfl, rfl, by omega⟩
theorem feed_ex (i : In) (hi : InOk i) (fs : List (List Nat)) : ∃ (L : Nat → List Wt) (g : Nat → List Tg), L 0 = i.sts ∧ g 0 = [] ∧ (∀ k f, fs[k]? = some f → (⟨i.win, i.tail, L (k + 1)⟩, g (k + 1)) = stepF (⟨i.win, i.tail, L k⟩, g k) f) ∧
    (foldF i fs).1 = ⟨i.win, i.tail, L fs.length⟩ ∧ (foldF i fs).2 = g fs.length ∧ ∀ k, InOk ⟨i.win, i.tail, L k⟩ ∧ (g k).length ≤ 17 * k := by
  have hall : ∀ k, InOk ((fs.take k).foldl stepF (i, [])).1 ∧ ((fs.take k).foldl stepF (i, [])).1.win = i.win ∧ ((fs.take k).foldl stepF (i, [])).1.tail = i.tail ∧ ((fs.take k).foldl stepF (i, [])).2.length ≤ 17 * k := by
    intro k
    induction k with
    | zero => exact ⟨hi, rfl, rfl, by simp⟩
    | succ k ih =>
      by_cases hk : k < fs.length
      · obtain ⟨f, hf⟩ := has_get hk
        rw [take_snoc hf, List.foldl_append]
        obtain ⟨a1, a2, a3, a4⟩ := ih
        obtain ⟨b1, b2, b3, b4⟩ := stepF_ok a1 f
        exact ⟨b1, b2.trans a2, b3.trans a3, by simp only [List.foldl_cons, List.foldl_nil]; omega⟩
      · rw [List.take_of_length_le (by omega)]
        rw [List.take_of_length_le (by omega)] at ih
        exact ⟨ih.1, ih.2.1, ih.2.2.1, by omega⟩
  have eta : ∀ k, ((fs.take k).foldl stepF (i, [])).1 = ⟨i.win, i.tail, ((fs.take k).foldl stepF (i, [])).1.sts⟩ := fun k => by
    obtain ⟨_, h1, h2, _⟩ := hall k
    rw [← h1, ← h2]
  refine ⟨fun k => ((fs.take k).foldl stepF (i, [])).1.sts, fun k => ((fs.take k).foldl stepF (i, [])).2, rfl, rfl, fun k f hf => ?_, ?_, ?_, fun k => ⟨?_, (hall k).2.2.2⟩⟩
  · simp only
    rw [← eta, ← eta, take_snoc hf, List.foldl_append]
    rfl
  · simp only
    rw [← eta, List.take_length]
    rfl
  · simp only
    rw [List.take_length]
    rfl
  · simp only
    rw [← eta]
    exact (hall k).1
theorem frV_mem {bs f : List Nat} (h : f ∈ frV bs) : f.length ≤ bs.length ∧ ∀ c ∈ f, c ∈ bs := by
  unfold frV frsE at h
  obtain ⟨e, _, rfl⟩ := List.mem_map.1 h
  exact ⟨by simp; omega, fun c hc => List.mem_of_mem_take (List.mem_of_mem_drop hc)⟩
theorem frV_len (bs : List Nat) : (frV bs).length ≤ bs.length + 1 := by
  unfold frV frsE
  rw [List.length_map]
  exact Nat.le_trans (List.length_filter_le _ _) (evs_len bs 0 none)
theorem tlE_mem (bs : List Nat) : ∀ (es : List Ev) (t : List Nat), (t.length ≤ bs.length ∧ ∀ c ∈ t, c ∈ bs) → (es.foldl (fun t e => if e.2.2 then t else (bs.take e.2.1).drop e.1) t).length ≤ bs.length ∧ ∀ c ∈ es.foldl (fun t e => if e.2.2 then t else (bs.take e.2.1).drop e.1) t, c ∈ bs
  | [], t, h => h
  | e :: r, t, h => by
    rw [List.foldl_cons]
    refine tlE_mem bs r _ ?_
    split
    · exact h
    · exact ⟨by simp; omega, fun c hc => List.mem_of_mem_take (List.mem_of_mem_drop hc)⟩
theorem tlV_mem (bs : List Nat) : (tlV bs).length ≤ bs.length ∧ ∀ c ∈ tlV bs, c ∈ bs := tlE_mem bs _ [] (by simp)
set_option maxRecDepth 100000 in
set_option maxHeartbeats 8000000 in
theorem feed_fn (i : In) (b : List Nat) (hi : Sized i) (hb : b.length ≤ 100000) (h8 : ∀ c ∈ b, c < 256) (ho : InOk i) : FnOk Try.prog 26 [.t (encIn i), .t (encUs b)] [] (resA ((feedV i b).1, (feedV i b).2, 0)) [] := by
  have cc := copied_fn i hi.tl hi.sl hi.hl
  have cv := invalid_fn i hi.tl hi.sl hi.u8 hi.mod true ⟨fun _ => ho, fun _ => rfl⟩
  have htl := ho.tl
  have hu8 := hi.u8
  unfold feedV
  obtain ⟨win, tail, sts⟩ := i
  dsimp only at htl hu8 ⊢
  obtain ⟨L, g, l0, g0, hstep, hL, hg, hok⟩ := feed_ex _ ho (frV (tail ++ b))
  rw [hL, hg]
  dsimp only at l0 hok hstep ⊢
  clear hL hg
  have hcl : (tail ++ b).length ≤ 200000 := by simp; omega
  have hc8 : ∀ c ∈ tail ++ b, c < 256 := fun c hc => by
    rcases List.mem_append.1 hc with h | h
    · exact hu8 c h
    · exact h8 c h
  have ck := concat_fn [tail, b] (by simp) (by simp at hcl ⊢; omega)
  have cf := frames_fn (tail ++ b) (by omega) hc8
  simp only [List.map_cons, List.map_nil, List.flatten_cons, List.flatten_nil, List.append_nil] at ck
  have hfl := frV_len (tail ++ b)
  have hfm : ∀ f ∈ frV (tail ++ b), f.length ≤ 200000 ∧ ∀ c ∈ f, c < 256 := fun f hf => ⟨by have := (frV_mem hf).1; omega, fun c hc => hc8 c ((frV_mem hf).2 c hc)⟩
  have htm := (tlV_mem (tail ++ b)).1
  obtain ⟨fs, hfs⟩ : ∃ fs, frV (tail ++ b) = fs := ⟨_, rfl⟩
  obtain ⟨tl, htl2⟩ : ∃ tl, tlV (tail ++ b) = tl := ⟨_, rfl⟩
  obtain ⟨dm, hdm⟩ : ∃ dm, dmV (tail ++ b) = dm := ⟨_, rfl⟩
  obtain ⟨cat, hcat⟩ : ∃ cat, tail ++ b = cat := ⟨_, rfl⟩
  rw [hfs] at hstep cf hfl hfm
  rw [htl2] at cf htm
  rw [hdm] at cf
  rw [hfs, htl2]
  rw [hcat] at ck cf hfl htm hcl
  clear hfs htl2 hdm hcat hc8
  refine FnOk.intro fact_mixed Try.func26 rfl Try.ntmps26 (by rfl) (by simp) ?_
  repeat (first | (refine nf1_sound rfl ?_; simp [go_sem, ↓iO, iO, tN]; (repeat (refine anI ?_)); try (refine ⟨dcK, ?_⟩)) | ((first | refine itePos (by omega) ?_ | refine iteNeg (by omega) ?_); try simp [go_sem, ↓iO, iO, tN]) | (refine ⟨dcK, ?_⟩))
  refine CallK.fn (cc) [(1000, 600)] [] [] (by kernel_rfl) ?_ ?_ ?_ (Or.inl rfl) ?_ <;> simp [go_sem, ↓iO, iO, tN]
  repeat (refine anI ?_)
  try (refine ⟨dcK, ?_⟩)
  repeat (first | (refine nf1_sound rfl ?_; simp [go_sem, ↓iO, iO, tN]; (repeat (refine anI ?_)); try (refine ⟨dcK, ?_⟩)) | ((first | refine itePos (by omega) ?_ | refine iteNeg (by omega) ?_); try simp [go_sem, ↓iO, iO, tN]) | (refine ⟨dcK, ?_⟩))
  refine CallK.fn (cv) [] [] [] (by kernel_rfl) ?_ ?_ ?_ (Or.inl rfl) ?_ <;> simp [go_sem, ↓iO, iO, tN]
  repeat (refine anI ?_)
  try (refine ⟨dcK, ?_⟩)
  repeat (first | (refine nf1_sound rfl ?_; simp [go_sem, ↓iO, iO, tN]; (repeat (refine anI ?_)); try (refine ⟨dcK, ?_⟩)) | ((first | refine itePos (by omega) ?_ | refine iteNeg (by omega) ?_); try simp [go_sem, ↓iO, iO, tN]) | (refine ⟨dcK, ?_⟩))
  refine CallK.fn (ck) [] [] [128] (by kernel_rfl) ?_ ?_ ?_ (Or.inl rfl) ?_ <;> simp [go_sem, ↓iO, iO, tN]
  repeat (refine anI ?_)
  try (refine ⟨dcK, ?_⟩)
  refine CallK.fn (cf) [] [] [] (by kernel_rfl) ?_ ?_ ?_ (Or.inl rfl) ?_ <;> simp [go_sem, ↓iO, iO, tN]
  repeat (refine anI ?_)
  try (refine ⟨dcK, ?_⟩)
  repeat (first | (refine nf1_sound rfl ?_; simp [go_sem, ↓iO, iO, tN]; (repeat (refine anI ?_)); try (refine ⟨dcK, ?_⟩)) | ((first | refine itePos (by omega) ?_ | refine iteNeg (by omega) ?_); try simp [go_sem, ↓iO, iO, tN]) | (refine ⟨dcK, ?_⟩))
  refine nf1_sound' _ _ _ ?_; simp only [nf1]
  refine CW.loop (ι := Nat) (fun k => ⟨[(4, .pt 504 [] 0), (7, .pt 501 [] 0), (9, .t (encUs tl)), (11, .own 503), (34, .t (.sl 1 (fs.map encUs))), (35, .t (.int fs.length)), (36, .t (.int k))], [(504, .box 29 (.t (.agg [.int 0, .nil, .nil]))), (501, boxIn win tail 502), (502, rowWts (L k)), (503, blkTgs (g k))]⟩) (fun k => k ≤ fs.length) (fun k => fs.length - k) 0 [(504, some 104), (501, some 107), (502, some 600), (503, none)] (Nat.zero_le _) ?_ ?_
  · simp [go_sem, ↓iO, iO, tN, l0, g0]
  intro k hk
  by_cases hlt : k < fs.length
  · obtain ⟨f, hf⟩ := has_get hlt
    obtain ⟨hf1, hf2⟩ := hfm f (mem_get hf)
    have hst := hstep k f hf
    obtain ⟨hk1, hk2⟩ := hok k
    have hk3 := (hok (k + 1)).2
    obtain ⟨A, hA⟩ : ∃ A, L k = A := ⟨_, rfl⟩
    obtain ⟨V, hV⟩ : ∃ V, g k = V := ⟨_, rfl⟩
    obtain ⟨A2, hA2⟩ : ∃ A, L (k + 1) = A := ⟨_, rfl⟩
    obtain ⟨V2, hV2⟩ : ∃ V, g (k + 1) = V := ⟨_, rfl⟩
    rw [hA, hV, hA2, hV2] at hst
    rw [hA] at hk1
    rw [hV] at hk2
    rw [hV2] at hk3
    rw [hA, hV]
    obtain ⟨t, e, hte⟩ : ∃ t e, decV f = (t, e) := ⟨_, _, rfl⟩
    have cd := decodeT_fn f (by omega) hf2 t e hte
    unfold stepF at hst
    rw [hte] at hst
    dsimp only at hst
    by_cases he : e = 0
    · subst he
      rw [if_pos rfl] at hst
      obtain ⟨htok, _⟩ := dec_back hf2 hte
      have htv : t.vs.length ≤ 1000000 := by have := htok.ln; omega
      have hal := accV_len hk1 t
      unfold accV at hst hal
      rw [if_pos htok] at hst hal
      have hasc := hk1.asc
      have h64 : A.length ≤ 64 := by have := hk1.sl; dsimp only at this; omega
      dsimp only at hst hal hasc
      obtain ⟨p, hp⟩ : ∃ p, lb t.st (A.map (·.st)) = p := ⟨_, rfl⟩
      rw [hp] at hst hal
      have hnew : (A.map (·.st))[p]? ≠ some t.st → accA ⟨win, tail, A⟩ t p = newA ⟨win, tail, A⟩ t p := fun hk => by
        unfold accA
        cases hw : A[p]? with
        | none => rfl
        | some w =>
          rw [List.getElem?_map, hw] at hk
          dsimp only
          rw [if_neg (by simpa using hk)]
      by_cases hkn : (A.map (·.st))[p]? = some t.st
      · rw [List.getElem?_map] at hkn
        cases hw : A[p]? with
        | none => rw [hw] at hkn; cases hkn
        | some w =>
          rw [hw] at hkn
          have hws : w.st = t.st := by simpa using hkn
          have ca := acceptKnown_fn win tail A t htv htok h64 hasc p hp w hw hws (hk1.take hw htok)
          unfold accA at hst hal
          rw [hw] at hst hal
          try dsimp only at hst hal
          rw [if_pos hws] at hst hal
          obtain ⟨o, hO⟩ : ∃ o, (takeV w t win).2 = o := ⟨_, rfl⟩
          obtain ⟨M, hM⟩ : ∃ M, A.set p (takeV w t win).1 = M := ⟨_, rfl⟩
          rw [hO, hM] at ca hst
          rw [hO] at hal
          try dsimp only at hst hal
          obtain ⟨h1, h2⟩ := Prod.mk.inj hst
          obtain ⟨_, _, rfl⟩ := In.mk.inj h1
          subst h2
          clear hst h1 hok hstep hnew hte hp hw hws hkn
          repeat (first | (refine nf1_sound rfl ?_; simp [go_sem, ↓iO, iO, tN, hf]; (repeat (refine anI ?_)); try (refine ⟨dcK, ?_⟩)) | ((first | refine itePos (by omega) ?_ | refine iteNeg (by omega) ?_); try simp [go_sem, ↓iO, iO, tN, hf]) | (refine ⟨dcK, ?_⟩))
          refine CallK.fn (cd) [] [] [] (by kernel_rfl) ?_ ?_ ?_ (Or.inl rfl) ?_ <;> simp [go_sem, ↓iO, iO, tN]
          repeat (refine anI ?_)
          try (refine ⟨dcK, ?_⟩)
          repeat (first | (refine nf1_sound rfl ?_; simp [go_sem, ↓iO, iO, tN]; (repeat (refine anI ?_)); try (refine ⟨dcK, ?_⟩)) | ((first | refine itePos (by omega) ?_ | refine iteNeg (by omega) ?_); try simp [go_sem, ↓iO, iO, tN]) | (refine ⟨dcK, ?_⟩))
          refine CallK.fn (ca) [(1, 501), (2, 502)] [] [] (by kernel_rfl) ?_ ?_ ?_ (Or.inl rfl) ?_ <;> simp [go_sem, ↓iO, iO, tN]
          repeat (refine anI ?_)
          try (refine ⟨dcK, ?_⟩)
          repeat (first | (refine nf1_sound rfl ?_; simp [go_sem, ↓iO, iO, tN]; (repeat (refine anI ?_)); try (refine ⟨dcK, ?_⟩)) | ((first | refine itePos (by omega) ?_ | refine iteNeg (by omega) ?_); try simp [go_sem, ↓iO, iO, tN]) | (refine ⟨dcK, ?_⟩))
          rw [RoundQ_normal]; refine ⟨k + 1, [(504, some 504), (501, some 501), (502, some 502), (503, some 154)], ?_, ?_, ?_⟩
          · omega
          · omega
          simp [go_sem, ↓iO, iO, tN, hA2, hV2]
      · have hn := hnew hkn
        rw [hn] at hst hal
        unfold newA at hst hal
        by_cases hf64 : A.length = 64
        · have ca := acceptFull_fn win tail A t htv htok hf64 hasc (by rw [hp]; exact hkn)
          rw [if_pos hf64] at hst
          rw [List.append_nil] at hst
          obtain ⟨h1, h2⟩ := Prod.mk.inj hst
          obtain ⟨_, _, rfl⟩ := In.mk.inj h1
          subst h2
          clear hst h1 hok hstep hnew hn hte hp hkn hal
          repeat (first | (refine nf1_sound rfl ?_; simp [go_sem, ↓iO, iO, tN, hf]; (repeat (refine anI ?_)); try (refine ⟨dcK, ?_⟩)) | ((first | refine itePos (by omega) ?_ | refine iteNeg (by omega) ?_); try simp [go_sem, ↓iO, iO, tN, hf]) | (refine ⟨dcK, ?_⟩))
          refine CallK.fn (cd) [] [] [] (by kernel_rfl) ?_ ?_ ?_ (Or.inl rfl) ?_ <;> simp [go_sem, ↓iO, iO, tN]
          repeat (refine anI ?_)
          try (refine ⟨dcK, ?_⟩)
          repeat (first | (refine nf1_sound rfl ?_; simp [go_sem, ↓iO, iO, tN]; (repeat (refine anI ?_)); try (refine ⟨dcK, ?_⟩)) | ((first | refine itePos (by omega) ?_ | refine iteNeg (by omega) ?_); try simp [go_sem, ↓iO, iO, tN]) | (refine ⟨dcK, ?_⟩))
          refine CallK.fn (ca) [(1, 501), (2, 502)] [] [] (by kernel_rfl) ?_ ?_ ?_ (Or.inl rfl) ?_ <;> simp [go_sem, ↓iO, iO, tN]
          repeat (refine anI ?_)
          try (refine ⟨dcK, ?_⟩)
          repeat (first | (refine nf1_sound rfl ?_; simp [go_sem, ↓iO, iO, tN]; (repeat (refine anI ?_)); try (refine ⟨dcK, ?_⟩)) | ((first | refine itePos (by omega) ?_ | refine iteNeg (by omega) ?_); try simp [go_sem, ↓iO, iO, tN]) | (refine ⟨dcK, ?_⟩))
          rw [RoundQ_normal]; refine ⟨k + 1, [(504, some 504), (501, some 501), (502, some 502), (503, some 154)], ?_, ?_, ?_⟩
          · omega
          · omega
          simp [go_sem, ↓iO, iO, tN, hA2, hV2]
        · have ca := acceptNew_fn win tail A t htv htok (by omega) hasc p hp hkn (hk1.take0 htok)
          rw [if_neg hf64] at hst hal
          obtain ⟨o, hO⟩ : ∃ o, (takeV ⟨t.st, t.ep, 0, []⟩ t win).2 = o := ⟨_, rfl⟩
          obtain ⟨M, hM⟩ : ∃ M, A.take p ++ (takeV ⟨t.st, t.ep, 0, []⟩ t win).1 :: A.drop p = M := ⟨_, rfl⟩
          try dsimp only at hst hal
          rw [hO, hM] at ca hst
          rw [hO] at hal
          try dsimp only at hst hal
          obtain ⟨h1, h2⟩ := Prod.mk.inj hst
          obtain ⟨_, _, rfl⟩ := In.mk.inj h1
          subst h2
          clear hst h1 hok hstep hnew hn hte hp hkn
          repeat (first | (refine nf1_sound rfl ?_; simp [go_sem, ↓iO, iO, tN, hf]; (repeat (refine anI ?_)); try (refine ⟨dcK, ?_⟩)) | ((first | refine itePos (by omega) ?_ | refine iteNeg (by omega) ?_); try simp [go_sem, ↓iO, iO, tN, hf]) | (refine ⟨dcK, ?_⟩))
          refine CallK.fn (cd) [] [] [] (by kernel_rfl) ?_ ?_ ?_ (Or.inl rfl) ?_ <;> simp [go_sem, ↓iO, iO, tN]
          repeat (refine anI ?_)
          try (refine ⟨dcK, ?_⟩)
          repeat (first | (refine nf1_sound rfl ?_; simp [go_sem, ↓iO, iO, tN]; (repeat (refine anI ?_)); try (refine ⟨dcK, ?_⟩)) | ((first | refine itePos (by omega) ?_ | refine iteNeg (by omega) ?_); try simp [go_sem, ↓iO, iO, tN]) | (refine ⟨dcK, ?_⟩))
          refine CallK.fn (ca) [(1, 501), (2, 502), (1000, 600)] [] [] (by kernel_rfl) ?_ ?_ ?_ (Or.inl rfl) ?_ <;> simp [go_sem, ↓iO, iO, tN]
          repeat (refine anI ?_)
          try (refine ⟨dcK, ?_⟩)
          repeat (first | (refine nf1_sound rfl ?_; simp [go_sem, ↓iO, iO, tN]; (repeat (refine anI ?_)); try (refine ⟨dcK, ?_⟩)) | ((first | refine itePos (by omega) ?_ | refine iteNeg (by omega) ?_); try simp [go_sem, ↓iO, iO, tN]) | (refine ⟨dcK, ?_⟩))
          rw [RoundQ_normal]; refine ⟨k + 1, [(504, some 504), (501, some 501), (502, some 600), (503, some 154)], ?_, ?_, ?_⟩
          · omega
          · omega
          simp [go_sem, ↓iO, iO, tN, hA2, hV2]
    · rw [if_neg he] at hst
      obtain ⟨h1, h2⟩ := Prod.mk.inj hst
      obtain ⟨_, _, rfl⟩ := In.mk.inj h1
      subst h2
      clear hst h1 hok hstep hte
      repeat (first | (refine nf1_sound rfl ?_; simp [go_sem, ↓iO, iO, tN, hf]; (repeat (refine anI ?_)); try (refine ⟨dcK, ?_⟩)) | ((first | refine itePos (by omega) ?_ | refine iteNeg (by omega) ?_); try simp [go_sem, ↓iO, iO, tN, hf]) | (refine ⟨dcK, ?_⟩))
      refine CallK.fn (cd) [] [] [] (by kernel_rfl) ?_ ?_ ?_ (Or.inl rfl) ?_ <;> simp [go_sem, ↓iO, iO, tN]
      repeat (refine anI ?_)
      try (refine ⟨dcK, ?_⟩)
      repeat (first | (refine nf1_sound rfl ?_; simp [go_sem, ↓iO, iO, tN, he]; (repeat (refine anI ?_)); try (refine ⟨dcK, ?_⟩)) | ((first | refine itePos (by omega) ?_ | refine iteNeg (by omega) ?_); try simp [go_sem, ↓iO, iO, tN, he]) | (refine ⟨dcK, ?_⟩))
      rw [RoundQ_normal]; refine ⟨k + 1, [(504, some 504), (501, some 501), (502, some 502), (503, some 503)], ?_, ?_, ?_⟩
      · omega
      · omega
      simp [go_sem, ↓iO, iO, tN, hA2, hV2]
  · obtain rfl : k = fs.length := by omega
    obtain ⟨A, hA⟩ : ∃ A, L fs.length = A := ⟨_, rfl⟩
    obtain ⟨V, hV⟩ : ∃ V, g fs.length = V := ⟨_, rfl⟩
    rw [hA, hV]
    unfold cutT
    by_cases h400 : 400 < tl.length
    · rw [if_pos h400]
      repeat (first | (refine nf1_sound rfl ?_; simp [go_sem, ↓iO, iO, tN]; (repeat (refine anI ?_)); try (refine ⟨dcK, ?_⟩)) | ((first | refine itePos (by omega) ?_ | refine iteNeg (by omega) ?_); try simp [go_sem, ↓iO, iO, tN]) | (refine ⟨dcK, ?_⟩))
      first | rw [RetQ_ret] | rw [RetQ_normal]
      refine ⟨[], ?_⟩
      simp [go_sem, ↓iO, iO, tN, toT_uWt]
    · rw [if_neg h400]
      repeat (first | (refine nf1_sound rfl ?_; simp [go_sem, ↓iO, iO, tN]; (repeat (refine anI ?_)); try (refine ⟨dcK, ?_⟩)) | ((first | refine itePos (by omega) ?_ | refine iteNeg (by omega) ?_); try simp [go_sem, ↓iO, iO, tN]) | (refine ⟨dcK, ?_⟩))
      first | rw [RetQ_ret] | rw [RetQ_normal]
      refine ⟨[], ?_⟩
      simp [go_sem, ↓iO, iO, tN, toT_uWt]
end Go.Proofs.Ytopmmodcaoaaeaa
namespace Go.Proofs.Ytopmmodcaoaaeaa
open Go.RowKit Sy
open Go.IntWalk renaming iteOmega → iO, toNatUp → tN
set_option linter.unusedVariables false
set_option linter.unusedSimpArgs false
/-- A telegram as the reader draws it. -/
structure DrTg (t : Tg) : Prop where
  ep : 0 ≤ t.ep ∧ t.ep < 3
  sq : 0 ≤ t.sq ∧ t.sq < 6
  tm : t.tm ∈ [0, 125, 63, 62, 1099511627776]
  kd : 0 ≤ t.kd ∧ t.kd < 64
  ln : t.vs.length ≤ 3
  vs : ∀ v ∈ t.vs, v ∈ [0, -1, 62, 63, -63, -62, 9007199254740992, -9007199254740992, 126, 1000]
set_option maxRecDepth 100000 in
set_option maxHeartbeats 8000000 in
theorem telegram_ex2 {l : List Int} {k : Nat} (h : SrcOk l k) (st : Int) (hst : 0 ≤ st ∧ st ≤ 255) :
    ∃ k' t, SrcOk l k' ∧ TgOk t ∧ t.st = st ∧ DrTg t ∧ FnOk Try.prog 17 [.pt 0 [] 0, .t (.int st)] [(0, srcB l k)] (tgS t 1000) [(0, srcB l k'), (1000, blkI t.vs)] := by
  obtain ⟨ep, hep, c1⟩ := n_ex h 3 (by omega) (by omega)
  obtain ⟨sq, hsq, c2⟩ := n_ex h.next 6 (by omega) (by omega)
  obtain ⟨tm, htm, c3⟩ := pick_ex h.next.next [0, 125, 63, 62, 1099511627776] (by simp) (by simp)
  obtain ⟨kd, hkd, c4⟩ := n_ex h.next.next.next 64 (by omega) (by omega)
  obtain ⟨n, hn, c5⟩ := n_ex h.next.next.next.next 4 (by omega) (by omega)
  obtain ⟨K, V, x, K0, V0, hj⟩ := draws_ex h.next.next.next.next.next [0, -1, 62, 63, -63, -62, 9007199254740992, -9007199254740992, 126, 1000] (by simp) (by simp)
  obtain ⟨_, _, f3, f4, f5, _⟩ := hj n.toNat
  refine ⟨K n.toNat, ⟨st, ep, sq, tm, kd, V n.toNat⟩, f3, ⟨hst, by dsimp only; omega, by dsimp only; omega, ?_, by dsimp only; omega, by dsimp only; omega, ?_⟩, rfl, ⟨hep, hsq, htm, hkd, by dsimp only; omega, f5⟩, ?_⟩
  · simp only [List.mem_cons, List.not_mem_nil, or_false] at htm
    dsimp only
    omega
  · intro v hv
    have := f5 v hv
    simp only [List.mem_cons, List.not_mem_nil, or_false] at this
    unfold okN
    omega
  clear f3 f4 f5 htm
  refine FnOk.intro fact_mixed Try.func17 rfl Try.ntmps17 (by rfl) (by simp) ?_
  repeat (first | (refine nf1_sound rfl ?_; simp [go_sem, ↓iO, iO, tN]; (repeat (refine anI ?_)); try (refine ⟨dcK, ?_⟩)) | ((first | refine itePos (by omega) ?_ | refine iteNeg (by omega) ?_); try simp [go_sem, ↓iO, iO, tN]) | (refine ⟨dcK, ?_⟩))
  refine CallK.fn (c1) [(0, 0)] [] [] (by kernel_rfl) ?_ ?_ ?_ (Or.inl rfl) ?_ <;> simp [go_sem, ↓iO, iO, tN]
  repeat (refine anI ?_)
  try (refine ⟨dcK, ?_⟩)
  refine CallK.fn (c2) [(0, 0)] [] [] (by kernel_rfl) ?_ ?_ ?_ (Or.inl rfl) ?_ <;> simp [go_sem, ↓iO, iO, tN]
  repeat (refine anI ?_)
  try (refine ⟨dcK, ?_⟩)
  refine CallK.fn (c3) [(0, 0)] [] [113] (by kernel_rfl) ?_ ?_ ?_ (Or.inl rfl) ?_ <;> simp [go_sem, ↓iO, iO, tN]
  repeat (refine anI ?_)
  try (refine ⟨dcK, ?_⟩)
  refine CallK.fn (c4) [(0, 0)] [] [] (by kernel_rfl) ?_ ?_ ?_ (Or.inl rfl) ?_ <;> simp [go_sem, ↓iO, iO, tN]
  repeat (refine anI ?_)
  try (refine ⟨dcK, ?_⟩)
  repeat (first | (refine nf1_sound rfl ?_; simp [go_sem, ↓iO, iO, tN]; (repeat (refine anI ?_)); try (refine ⟨dcK, ?_⟩)) | ((first | refine itePos (by omega) ?_ | refine iteNeg (by omega) ?_); try simp [go_sem, ↓iO, iO, tN]) | (refine ⟨dcK, ?_⟩))
  refine CallK.fn (c5) [(0, 0)] [] [] (by kernel_rfl) ?_ ?_ ?_ (Or.inl rfl) ?_ <;> simp [go_sem, ↓iO, iO, tN]
  repeat (refine anI ?_)
  try (refine ⟨dcK, ?_⟩)
  repeat (first | (refine nf1_sound rfl ?_; simp [go_sem, ↓iO, iO, tN]; (repeat (refine anI ?_)); try (refine ⟨dcK, ?_⟩)) | ((first | refine itePos (by omega) ?_ | refine iteNeg (by omega) ?_); try simp [go_sem, ↓iO, iO, tN]) | (refine ⟨dcK, ?_⟩))
  refine nf1_sound' _ _ _ ?_; simp only [nf1]
  refine CW.loop (ι := Nat) (fun j => ⟨[(0, .pt 0 [] 0), (4, .pt 504 [] 0), (5, .pt 505 [] 0), (6, .t (.int (n - j)))], [(0, srcB l (K j)), (504, .box 38 (.t (.agg [.int 0, .int 0, .int 0, .int 0, .int 0, .nil]))), (505, .box 38 (tgS ⟨st, ep, sq, tm, kd, V j⟩ 500)), (500, blkI (V j))]⟩) (fun j => (j : Int) ≤ n) (fun j => n.toNat - j) 0 [(0, some 0), (504, some 104), (505, some 105), (500, none)] (by omega) ?_ ?_
  · simp [go_sem, ↓iO, iO, tN, V0, K0, wkXs]
  intro j hjn
  obtain ⟨e1, e2, e3, e4, e5, ce⟩ := hj j
  by_cases hb : (j : Int) < n
  · repeat (first | (refine nf1_sound rfl ?_; simp [go_sem, ↓iO, iO, tN]; (repeat (refine anI ?_)); try (refine ⟨dcK, ?_⟩)) | ((first | refine itePos (by omega) ?_ | refine iteNeg (by omega) ?_); try simp [go_sem, ↓iO, iO, tN]) | (refine ⟨dcK, ?_⟩))
    refine CallK.fn (ce) [(0, 0)] [] [127] (by kernel_rfl) ?_ ?_ ?_ (Or.inl rfl) ?_ <;> simp [go_sem, ↓iO, iO, tN]
    repeat (refine anI ?_)
    try (refine ⟨dcK, ?_⟩)
    repeat (first | (refine nf1_sound rfl ?_; simp [go_sem, ↓iO, iO, tN]; (repeat (refine anI ?_)); try (refine ⟨dcK, ?_⟩)) | ((first | refine itePos (by omega) ?_ | refine iteNeg (by omega) ?_); try simp [go_sem, ↓iO, iO, tN]) | (refine ⟨dcK, ?_⟩))
    rw [RoundQ_normal]; refine ⟨j + 1, [(0, some 0), (504, some 504), (505, some 505), (500, some 130)], ?_, ?_, ?_⟩
    · omega
    · omega
    simp [go_sem, ↓iO, iO, tN, e2]
    omega
  · have hjn2 : n.toNat = j := by omega
    repeat (first | (refine nf1_sound rfl ?_; simp [go_sem, ↓iO, iO, tN]; (repeat (refine anI ?_)); try (refine ⟨dcK, ?_⟩)) | ((first | refine itePos (by omega) ?_ | refine iteNeg (by omega) ?_); try simp [go_sem, ↓iO, iO, tN]) | (refine ⟨dcK, ?_⟩))
    first | rw [RetQ_ret] | rw [RetQ_normal]
    refine ⟨[(0, some 0), (1000, some 500)], ?_⟩
    simp [go_sem, ↓iO, iO, tN, hjn2]
/-- One thing is changed in a frame, or a byte is put ahead of it. -/
def pks : List Int := [0, 124, 125, 126, 200]
def Chg (f f' ins : List Nat) : Prop := (∃ p v, p < f.length ∧ v ∈ [0, 124, 125, 126, 200] ∧ f' = f.set p v ∧ ins = []) ∨ (∃ k, k < f.length ∧ f' = f.take k ∧ ins = []) ∨ (∃ v, v ∈ [0, 124, 125, 126, 200] ∧ f' = f ∧ ins = [v]) ∨ (f' = f ∧ ins = [])
def StrStep (g : List Nat) : Prop := ∃ t f' ins, TgOk t ∧ DrTg t ∧ (0 ≤ t.st ∧ t.st < 3) ∧ Chg (Wire.stuff (insideV t)) f' ins ∧ (g = ins ++ f' ∨ g = ins ++ f' ++ f')
inductive Strm : Nat → List Nat → Prop
  | nil : Strm 0 []
  | app {n : Nat} {b g : List Nat} : Strm n b → StrStep g → Strm (n + 1) (b ++ g)
def frmV (l : List Int) (f : List Nat) (k : Nat) (n : Int) : Nat × List Nat × List Nat :=
  if n = 0 then (nextK l (nextK l k), f.set (nV l k f.length).toNat (pickV l (nextK l k) pks).toNat, [])
  else if n = 1 then (nextK l k, f.take (nV l k f.length).toNat, [])
  else if n = 2 then (nextK l k, f, [(pickV l k pks).toNat]) else (k, f, [])
def sgV (l : List Int) (k : Nat) (f acc : List Nat) : Nat × List Nat :=
  (nextK l (frmV l f (nextK l k) (nV l k 6)).1, acc ++ (frmV l f (nextK l k) (nV l k 6)).2.2 ++ (frmV l f (nextK l k) (nV l k 6)).2.1 ++ (if nV l (frmV l f (nextK l k) (nV l k 6)).1 5 = 0 then (frmV l f (nextK l k) (nV l k 6)).2.1 else []))
theorem pks_nat {v : Int} (h : v ∈ pks) : ∃ c : Nat, v = (c : Int) ∧ c ∈ [0, 124, 125, 126, 200] := by
  unfold pks at h
  simp only [List.mem_cons, List.not_mem_nil, or_false] at h
  rcases h with rfl | rfl | rfl | rfl | rfl
  · exact ⟨0, rfl, by simp⟩
  · exact ⟨124, rfl, by simp⟩
  · exact ⟨125, rfl, by simp⟩
  · exact ⟨126, rfl, by simp⟩
  · exact ⟨200, rfl, by simp⟩
theorem pk_lt {c : Nat} (h : c ∈ [0, 124, 125, 126, 200]) : c < 256 := by
  simp only [List.mem_cons, List.not_mem_nil, or_false] at h
  omega
theorem frmV_ok {l : List Int} {k : Nat} (h : SrcOk l k) (f : List Nat) (hf : 1 ≤ f.length) (n : Int) : SrcOk l (frmV l f k n).1 ∧ Chg f (frmV l f k n).2.1 (frmV l f k n).2.2 := by
  unfold frmV Chg
  have hr := nV_range (l := l) (k := k) (n := (f.length : Int)) (by omega)
  split
  · obtain ⟨c, hc, hm⟩ := pks_nat (pickV_mem (l := l) (k := nextK l k) (xs := pks) (by simp [pks]))
    exact ⟨h.next.next, .inl ⟨_, _, by omega, by rw [hc]; simpa using hm, rfl, rfl⟩⟩
  · split
    · exact ⟨h.next, .inr (.inl ⟨_, by omega, rfl, rfl⟩)⟩
    · split
      · obtain ⟨c, hc, hm⟩ := pks_nat (pickV_mem (l := l) (k := k) (xs := pks) (by simp [pks]))
        exact ⟨h.next, .inr (.inr (.inl ⟨_, by rw [hc]; simpa using hm, rfl, rfl⟩))⟩
      · exact ⟨h, .inr (.inr (.inr ⟨rfl, rfl⟩))⟩
theorem sgV_ok {l : List Int} {k : Nat} (h : SrcOk l k) {t : Tg} (ht : TgOk t) (hd : DrTg t) (hs : 0 ≤ t.st ∧ t.st < 3) (acc : List Nat) : SrcOk l (sgV l k (Wire.stuff (insideV t)) acc).1 ∧ ∃ g, StrStep g ∧ (sgV l k (Wire.stuff (insideV t)) acc).2 = acc ++ g := by
  have hf : 1 ≤ (Wire.stuff (insideV t)).length := by rw [Wire.stuff_length]; omega
  obtain ⟨h1, h2⟩ := frmV_ok h.next (Wire.stuff (insideV t)) hf (nV l k 6)
  refine ⟨h1.next, (frmV l (Wire.stuff (insideV t)) (nextK l k) (nV l k 6)).2.2 ++ (frmV l (Wire.stuff (insideV t)) (nextK l k) (nV l k 6)).2.1 ++ (if nV l (frmV l (Wire.stuff (insideV t)) (nextK l k) (nV l k 6)).1 5 = 0 then (frmV l (Wire.stuff (insideV t)) (nextK l k) (nV l k 6)).2.1 else []), ⟨t, _, _, ht, hd, hs, h2, ?_⟩, by unfold sgV; simp only [List.append_assoc]⟩
  split
  · right; simp only [List.append_assoc]
  · left; simp only [List.append_nil]
theorem chg_mem {f f' ins : List Nat} (h : Chg f f' ins) (h8 : ∀ c ∈ f, c < 256) : (∀ c ∈ f', c < 256) ∧ (∀ c ∈ ins, c < 256) ∧ f'.length ≤ f.length ∧ ins.length ≤ 1 := by
  rcases h with ⟨p, v, _, h2, rfl, rfl⟩ | ⟨k, _, rfl, rfl⟩ | ⟨v, h2, rfl, rfl⟩ | ⟨rfl, rfl⟩
  · refine ⟨fun c hc => ?_, by simp, by simp, by simp⟩
    rcases List.mem_or_eq_of_mem_set hc with h | h
    · exact h8 c h
    · rw [h]; exact pk_lt h2
  · exact ⟨fun c hc => h8 c (List.mem_of_mem_take hc), by simp, by simp; omega, by simp⟩
  · exact ⟨h8, by simpa using pk_lt h2, by simp, by simp⟩
  · exact ⟨h8, by simp, by simp, by simp⟩
theorem frame_facts {t : Tg} (ht : TgOk t) : (∀ c ∈ Wire.stuff (insideV t), c < 256) ∧ (Wire.stuff (insideV t)).length ≤ 400 ∧ 1 ≤ (Wire.stuff (insideV t)).length :=
  ⟨Wire.stuff_lt (sealV_b8 (putL_b8 (numsL t))), (dec_enc ht).1, by rw [Wire.stuff_length]; omega⟩
theorem step_len {g : List Nat} (h : StrStep g) : g.length ≤ 801 ∧ ∀ c ∈ g, c < 256 := by
  obtain ⟨t, f', ins, ht, _, _, hc, hg⟩ := h
  obtain ⟨h8, hl, _⟩ := frame_facts ht
  obtain ⟨c1, c2, c3, c4⟩ := chg_mem hc h8
  rcases hg with rfl | rfl
  · refine ⟨by simp; omega, fun c hc => ?_⟩
    rcases List.mem_append.1 hc with h | h
    · exact c2 c h
    · exact c1 c h
  · refine ⟨by simp; omega, fun c hc => ?_⟩
    rcases List.mem_append.1 hc with h | h
    · rcases List.mem_append.1 h with h | h
      · exact c2 c h
      · exact c1 c h
    · exact c1 c h
theorem Strm.len {n : Nat} {b : List Nat} (h : Strm n b) : b.length ≤ 801 * n ∧ ∀ c ∈ b, c < 256 := by
  induction h with
  | nil => simp
  | app _ hg ih =>
    obtain ⟨h1, h2⟩ := step_len hg
    refine ⟨by simp; omega, fun c hc => ?_⟩
    rcases List.mem_append.1 hc with h | h
    · exact ih.2 c h
    · exact h2 c h
set_option maxRecDepth 100000 in
set_option maxHeartbeats 32000000 in
theorem stream_ex {l : List Int} {k : Nat} (h : SrcOk l k) : ∃ k' bs n, SrcOk l k' ∧ Strm n bs ∧ n ≤ 13 ∧ FnOk Try.prog 19 [.pt 0 [] 0] [(0, srcB l k)] (.own 1000) [(0, srcB l k'), (1000, blkU bs)] := by
  have htel : ∀ s : Nat × Int, ∃ r : Nat × Tg, SrcOk l s.1 → 0 ≤ s.2 ∧ s.2 < 3 → SrcOk l r.1 ∧ TgOk r.2 ∧ r.2.st = s.2 ∧ DrTg r.2 ∧ FnOk Try.prog 17 [.pt 0 [] 0, .t (.int s.2)] [(0, srcB l s.1)] (tgS r.2 1000) [(0, srcB l r.1), (1000, blkI r.2.vs)] := by
    intro s
    by_cases h1 : SrcOk l s.1 ∧ 0 ≤ s.2 ∧ s.2 < 3
    · obtain ⟨k', t, a1, a2, a3, a4, a5⟩ := telegram_ex2 h1.1 s.2 (by omega)
      exact ⟨(k', t), fun _ _ => ⟨a1, a2, a3, a4, a5⟩⟩
    · exact ⟨(0, tg0), fun a b => absurd ⟨a, b⟩ h1⟩
  obtain ⟨T, hT⟩ := Classical.skolem.1 htel
  obtain ⟨n0, hn0, c0⟩ := n_ex h 14 (by omega) (by omega)
  obtain ⟨n, rfl⟩ : ∃ n : Nat, n0 = (n : Int) := ⟨n0.toNat, by omega⟩
  obtain ⟨F, hF⟩ : ∃ F : Nat × List Nat → Nat × List Nat, ∀ s, F s = sgV l (T (nextK l s.1, nV l s.1 3)).1 (Wire.stuff (insideV (T (nextK l s.1, nV l s.1 3)).2)) s.2 := ⟨fun s => _, fun s => rfl⟩
  have hinv : ∀ j, SrcOk l (iter F j (nextK l k, [])).1 ∧ Strm j (iter F j (nextK l k, [])).2 := iter_inv (C := fun j (s : Nat × List Nat) => SrcOk l s.1 ∧ Strm j s.2) ⟨h.next, .nil⟩ (fun j (s : Nat × List Nat) hs => by
    have h3 := nV_range (l := l) (k := s.1) (n := 3) (by omega)
    obtain ⟨a1, a2, a3, a4, _⟩ := hT (nextK l s.1, nV l s.1 3) hs.1.next h3
    rw [hF]
    obtain ⟨b1, g, hg, b2⟩ := sgV_ok a1 a2 a4 (by rw [a3]; exact h3) s.2
    exact ⟨b1, by rw [b2]; exact .app hs.2 hg⟩)
  obtain ⟨K, A, hK0, hA0, hstep⟩ : ∃ (K : Nat → Nat) (A : Nat → List Nat), K 0 = nextK l k ∧ A 0 = [] ∧ ∀ j, SrcOk l (K j) ∧ Strm j (A j) ∧ (K (j + 1), A (j + 1)) = F (K j, A j) :=
    ⟨fun j => (iter F j (nextK l k, [])).1, fun j => (iter F j (nextK l k, [])).2, rfl, rfl, fun j => ⟨(hinv j).1, (hinv j).2, rfl⟩⟩
  refine ⟨K n, A n, n, (hstep n).1, (hstep n).2.1, by omega, ?_⟩
  clear hinv
  refine FnOk.intro fact_mixed Try.func19 rfl Try.ntmps19 (by rfl) (by simp) ?_
  repeat (first | (refine nf1_sound rfl ?_; simp [go_sem, ↓iO, iO, tN]; (repeat (refine anI ?_)); try (refine ⟨dcK, ?_⟩)) | ((first | refine itePos (by omega) ?_ | refine iteNeg (by omega) ?_); try simp [go_sem, ↓iO, iO, tN]) | (refine ⟨dcK, ?_⟩))
  refine CallK.fn (c0) [(0, 0)] [] [] (by kernel_rfl) ?_ ?_ ?_ (Or.inl rfl) ?_ <;> simp [go_sem, ↓iO, iO, tN]
  repeat (refine anI ?_)
  try (refine ⟨dcK, ?_⟩)
  repeat (first | (refine nf1_sound rfl ?_; simp [go_sem, ↓iO, iO, tN]; (repeat (refine anI ?_)); try (refine ⟨dcK, ?_⟩)) | ((first | refine itePos (by omega) ?_ | refine iteNeg (by omega) ?_); try simp [go_sem, ↓iO, iO, tN]) | (refine ⟨dcK, ?_⟩))
  refine nf1_sound' _ _ _ ?_; simp only [nf1]
  refine CW.loop (ι := Nat) (fun j => ⟨[(0, .pt 0 [] 0), (3, .own 503), (4, .t (.int ((n : Int) - j)))], [(0, srcB l (K j)), (503, blkU (A j))]⟩) (fun j => j ≤ n) (fun j => n - j) 0 [(0, some 0), (503, none)] (Nat.zero_le _) ?_ ?_
  · simp [go_sem, ↓iO, iO, tN, hK0, hA0]
  intro j hj
  by_cases hjn : j < n
  · obtain ⟨hk, hs, hnx⟩ := hstep j
    have hs2 := (hstep (j + 1)).2.1.len.1
    rw [hF] at hnx
    obtain ⟨Kj, hKj⟩ : ∃ x, K j = x := ⟨_, rfl⟩
    obtain ⟨Aj, hAj⟩ : ∃ x, A j = x := ⟨_, rfl⟩
    obtain ⟨Kn, hKn⟩ : ∃ x, K (j + 1) = x := ⟨_, rfl⟩
    obtain ⟨An, hAn⟩ : ∃ x, A (j + 1) = x := ⟨_, rfl⟩
    rw [hKj, hAj, hKn, hAn] at hnx
    rw [hKj] at hk ⊢
    rw [hAj] at hs ⊢
    rw [hAn] at hs2
    have hsl := hs.len.1
    dsimp only at hnx
    have h3 := nV_range (l := l) (k := Kj) (n := 3) (by omega)
    have c1 := n_fn l Kj 3 hk (by omega)
    obtain ⟨st, hst⟩ : ∃ x, nV l Kj 3 = x := ⟨_, rfl⟩
    rw [hst] at h3 c1 hnx
    obtain ⟨a1, a2, a3, a4, c2⟩ := hT (nextK l Kj, st) hk.next h3
    obtain ⟨k2, hk2⟩ : ∃ x, (T (nextK l Kj, st)).1 = x := ⟨_, rfl⟩
    obtain ⟨t, ht⟩ : ∃ x, (T (nextK l Kj, st)).2 = x := ⟨_, rfl⟩
    rw [hk2] at a1 c2 hnx
    rw [ht] at a2 a3 a4 c2 hnx
    dsimp only at a3 c2
    have hk2' : SrcOk l (nextK l k2) := a1.next
    have ci := rinside_fn t a2
    have hil := inside_len a2
    obtain ⟨f8, fl, fl1⟩ := frame_facts a2
    have hI8 : ∀ c ∈ insideV t, c < 256 := sealV_b8 (putL_b8 (numsL t))
    have cs := rstuff_fn (insideV t) (by omega) hI8
    obtain ⟨f, hf⟩ : ∃ x, Wire.stuff (insideV t) = x := ⟨_, rfl⟩
    rw [hf] at cs f8 fl fl1 hnx
    obtain ⟨I, hI⟩ : ∃ x, insideV t = x := ⟨_, rfl⟩
    rw [hI] at ci cs hil hI8
    have h6 := nV_range (l := l) (k := k2) (n := 6) (by omega)
    have c3 := n_fn l k2 6 a1 (by omega)
    obtain ⟨n6, hn6⟩ : ∃ x, nV l k2 6 = x := ⟨_, rfl⟩
    unfold sgV at hnx
    rw [hn6] at h6 c3 hnx
    have hp := nV_range (l := l) (k := nextK l k2) (n := (f.length : Int)) (by omega)
    have c4 := n_fn l (nextK l k2) (f.length : Int) hk2' (by omega)
    obtain ⟨p0, hp0⟩ : ∃ x, nV l (nextK l k2) (f.length : Int) = x := ⟨_, rfl⟩
    rw [hp0] at hp c4
    obtain ⟨p, rfl⟩ : ∃ p : Nat, p0 = (p : Int) := ⟨p0.toNat, by omega⟩
    have hpl : p < f.length := by omega
    obtain ⟨v, hv, hvm⟩ := pks_nat (pickV_mem (l := l) (k := nextK l (nextK l k2)) (xs := pks) (by simp [pks]))
    obtain ⟨v2, hv2, hvm2⟩ := pks_nat (pickV_mem (l := l) (k := nextK l k2) (xs := pks) (by simp [pks]))
    have hv8 := pk_lt hvm
    have hv28 := pk_lt hvm2
    have c5 := pick_fn hk2'.next pks (by simp [pks]) (by simp [pks])
    have c52 := pick_fn hk2' pks (by simp [pks]) (by simp [pks])
    rw [hv] at c5
    rw [hv2] at c52
    have hw1 : IntKind.u8.wrap (v : Int) = (v : Int) := by rw [u8_wrap]; omega
    have hw2 : IntKind.u8.wrap (v2 : Int) = (v2 : Int) := by rw [u8_wrap]; omega
    unfold frmV at hnx
    rw [hp0, hv, hv2, Int.toNat_natCast, Int.toNat_natCast, Int.toNat_natCast] at hnx
    simp only [pks] at c5 c52
    clear hstep hT hF hvm hvm2 hv hv2 hp0 hn6 hI hf a4 hs hk2 ht
    obtain ⟨t1, t2, t3, t4, t5, vs⟩ := t
    dsimp only at a3 c2 ci
    subst a3
    obtain ⟨fs, hfs⟩ : ∃ x, f.set p v = x := ⟨_, rfl⟩
    obtain ⟨ft, hft⟩ : ∃ x, f.take p = x := ⟨_, rfl⟩
    have hset : (f.map encU).set p (encU v) = fs.map encU := by rw [← hfs, List.map_set]
    have hfsl : fs.length ≤ 400 := by rw [← hfs]; simp; exact fl
    have hftl : ft.length ≤ 400 := by rw [← hft]; simp; omega
    have htk : (f.map encU).take p = ft.map encU := by rw [← hft, List.map_take]
    have hmin : min p f.length = p := by omega
    obtain ⟨c, hfp⟩ := has_get hpl
    rw [hfs, hft] at hnx
    simp only [encU] at hset
    repeat (first | (refine nf1_sound rfl ?_; simp [go_sem, ↓iO, iO, tN]; (repeat (refine anI ?_)); try (refine ⟨dcK, ?_⟩)) | ((first | refine itePos (by omega) ?_ | refine iteNeg (by omega) ?_); try simp [go_sem, ↓iO, iO, tN]) | (refine ⟨dcK, ?_⟩))
    refine CallK.fn (c1) [(0, 0)] [] [] (by kernel_rfl) ?_ ?_ ?_ (Or.inl rfl) ?_ <;> simp [go_sem, ↓iO, iO, tN]
    repeat (refine anI ?_)
    try (refine ⟨dcK, ?_⟩)
    refine CallK.fn (c2) [(0, 0), (1000, 608)] [] [] (by kernel_rfl) ?_ ?_ ?_ (Or.inl rfl) ?_ <;> simp [go_sem, ↓iO, iO, tN]
    repeat (refine anI ?_)
    try (refine ⟨dcK, ?_⟩)
    refine CallK.fn (ci) [(1000, 616)] [608] [] (by kernel_rfl) ?_ ?_ ?_ (Or.inr ⟨?_, ?_⟩) ?_ <;> simp [go_sem, ↓iO, iO, tN, wkXs]
    repeat (refine anI ?_)
    try (refine ⟨dcK, ?_⟩)
    refine CallK.fn (cs) [(1000, 617)] [] [616] (by kernel_rfl) ?_ ?_ ?_ (Or.inl rfl) ?_ <;> simp [go_sem, ↓iO, iO, tN]
    repeat (refine anI ?_)
    try (refine ⟨dcK, ?_⟩)
    repeat (first | (refine nf1_sound rfl ?_; simp [go_sem, ↓iO, iO, tN]; (repeat (refine anI ?_)); try (refine ⟨dcK, ?_⟩)) | ((first | refine itePos (by omega) ?_ | refine iteNeg (by omega) ?_); try simp [go_sem, ↓iO, iO, tN]) | (refine ⟨dcK, ?_⟩))
    refine CallK.fn (c3) [(0, 0)] [] [] (by kernel_rfl) ?_ ?_ ?_ (Or.inl rfl) ?_ <;> simp [go_sem, ↓iO, iO, tN]
    repeat (refine anI ?_)
    try (refine ⟨dcK, ?_⟩)
    by_cases h0 : n6 = 0
    · subst h0
      rw [if_pos rfl] at hnx
      dsimp only at hnx
      try simp only [List.append_nil] at hnx
      have h5 := nV_range (l := l) (k := nextK l (nextK l (nextK l k2))) (n := 5) (by omega)
      have c6 := n_fn l (nextK l (nextK l (nextK l k2))) 5 hk2'.next.next (by omega)
      obtain ⟨n5, hn5⟩ : ∃ x, nV l (nextK l (nextK l (nextK l k2))) 5 = x := ⟨_, rfl⟩
      rw [hn5] at h5 c6 hnx
      obtain ⟨e1, e2⟩ := Prod.mk.inj hnx
      repeat (first | (refine nf1_sound rfl ?_; simp [go_sem, ↓iO, iO, tN, hmin]; (repeat (refine anI ?_)); try (refine ⟨dcK, ?_⟩)) | ((first | refine itePos (by omega) ?_ | refine iteNeg (by omega) ?_); try simp [go_sem, ↓iO, iO, tN, hmin]) | (refine ⟨dcK, ?_⟩))
      refine CallK.fn (c4) [(0, 0)] [] [] (by kernel_rfl) ?_ ?_ ?_ (Or.inl rfl) ?_ <;> simp [go_sem, ↓iO, iO, tN]
      repeat (refine anI ?_)
      try (refine ⟨dcK, ?_⟩)
      refine CallK.fn (c5) [(0, 0)] [] [128] (by kernel_rfl) ?_ ?_ ?_ (Or.inl rfl) ?_ <;> simp [go_sem, ↓iO, iO, tN, hw1, hfp, hset]
      repeat (refine anI ?_)
      try (refine ⟨dcK, ?_⟩)
      repeat (first | (refine nf1_sound rfl ?_; simp [go_sem, ↓iO, iO, tN, hw1, hfp, hset]; (repeat (refine anI ?_)); try (refine ⟨dcK, ?_⟩)) | ((first | refine itePos (by omega) ?_ | refine iteNeg (by omega) ?_); try simp [go_sem, ↓iO, iO, tN, hw1, hfp, hset]) | (refine ⟨dcK, ?_⟩))
      refine CallK.fn (c6) [(0, 0)] [] [] (by kernel_rfl) ?_ ?_ ?_ (Or.inl rfl) ?_ <;> simp [go_sem, ↓iO, iO, tN, hset, hw1]
      repeat (refine anI ?_)
      try (refine ⟨dcK, ?_⟩)
      by_cases hd5 : n5 = 0
      · rw [if_pos hd5] at e2
        try simp only [List.append_nil] at e2
        have e3 := congrArg List.length e2
        simp at e3
        subst hd5
        repeat (first | (refine nf1_sound rfl ?_; simp [go_sem, ↓iO, iO, tN, hset, hw1]; (repeat (refine anI ?_)); try (refine ⟨dcK, ?_⟩)) | ((first | refine itePos (by omega) ?_ | refine iteNeg (by omega) ?_); try simp [go_sem, ↓iO, iO, tN, hset, hw1]) | (refine ⟨dcK, ?_⟩))
        rw [RoundQ_normal]; refine ⟨j + 1, [(0, some 0), (503, some 157)], ?_, ?_, ?_⟩
        · omega
        · omega
        simp [go_sem, ↓iO, iO, tN, hKn, hAn, e1, e2, hset, hw1]
        omega
      · rw [if_neg hd5] at e2
        try simp only [List.append_nil] at e2
        have e3 := congrArg List.length e2
        simp at e3
        repeat (first | (refine nf1_sound rfl ?_; simp [go_sem, ↓iO, iO, tN, hset, hw1, hd5]; (repeat (refine anI ?_)); try (refine ⟨dcK, ?_⟩)) | ((first | refine itePos (by omega) ?_ | refine iteNeg (by omega) ?_); try simp [go_sem, ↓iO, iO, tN, hset, hw1, hd5]) | (refine ⟨dcK, ?_⟩))
        rw [RoundQ_normal]; refine ⟨j + 1, [(0, some 0), (503, some 151)], ?_, ?_, ?_⟩
        · omega
        · omega
        simp [go_sem, ↓iO, iO, tN, hKn, hAn, e1, e2, hset, hw1]
        omega
    by_cases h1 : n6 = 1
    · subst h1
      rw [if_neg (by omega), if_pos rfl] at hnx
      dsimp only at hnx
      try simp only [List.append_nil] at hnx
      have h5 := nV_range (l := l) (k := nextK l (nextK l k2)) (n := 5) (by omega)
      have c6 := n_fn l (nextK l (nextK l k2)) 5 hk2'.next (by omega)
      obtain ⟨n5, hn5⟩ : ∃ x, nV l (nextK l (nextK l k2)) 5 = x := ⟨_, rfl⟩
      rw [hn5] at h5 c6 hnx
      obtain ⟨e1, e2⟩ := Prod.mk.inj hnx
      repeat (first | (refine nf1_sound rfl ?_; simp [go_sem, ↓iO, iO, tN]; (repeat (refine anI ?_)); try (refine ⟨dcK, ?_⟩)) | ((first | refine itePos (by omega) ?_ | refine iteNeg (by omega) ?_); try simp [go_sem, ↓iO, iO, tN]) | (refine ⟨dcK, ?_⟩))
      refine CallK.fn (c4) [(0, 0)] [] [] (by kernel_rfl) ?_ ?_ ?_ (Or.inl rfl) ?_ <;> simp [go_sem, ↓iO, iO, tN]
      repeat (refine anI ?_)
      try (refine ⟨dcK, ?_⟩)
      repeat (first | (refine nf1_sound rfl ?_; simp [go_sem, ↓iO, iO, tN, htk, hmin]; (repeat (refine anI ?_)); try (refine ⟨dcK, ?_⟩)) | ((first | refine itePos (by omega) ?_ | refine iteNeg (by omega) ?_); try simp [go_sem, ↓iO, iO, tN, htk, hmin]) | (refine ⟨dcK, ?_⟩))
      refine CallK.fn (c6) [(0, 0)] [] [] (by kernel_rfl) ?_ ?_ ?_ (Or.inl rfl) ?_ <;> simp [go_sem, ↓iO, iO, tN, htk, hmin]
      repeat (refine anI ?_)
      try (refine ⟨dcK, ?_⟩)
      by_cases hd5 : n5 = 0
      · rw [if_pos hd5] at e2
        try simp only [List.append_nil] at e2
        have e3 := congrArg List.length e2
        simp at e3
        subst hd5
        repeat (first | (refine nf1_sound rfl ?_; simp [go_sem, ↓iO, iO, tN, htk, hmin]; (repeat (refine anI ?_)); try (refine ⟨dcK, ?_⟩)) | ((first | refine itePos (by omega) ?_ | refine iteNeg (by omega) ?_); try simp [go_sem, ↓iO, iO, tN, htk, hmin]) | (refine ⟨dcK, ?_⟩))
        rw [RoundQ_normal]; refine ⟨j + 1, [(0, some 0), (503, some 157)], ?_, ?_, ?_⟩
        · omega
        · omega
        simp [go_sem, ↓iO, iO, tN, hKn, hAn, e1, e2, htk, hmin]
        omega
      · rw [if_neg hd5] at e2
        try simp only [List.append_nil] at e2
        have e3 := congrArg List.length e2
        simp at e3
        repeat (first | (refine nf1_sound rfl ?_; simp [go_sem, ↓iO, iO, tN, htk, hmin, hd5]; (repeat (refine anI ?_)); try (refine ⟨dcK, ?_⟩)) | ((first | refine itePos (by omega) ?_ | refine iteNeg (by omega) ?_); try simp [go_sem, ↓iO, iO, tN, htk, hmin, hd5]) | (refine ⟨dcK, ?_⟩))
        rw [RoundQ_normal]; refine ⟨j + 1, [(0, some 0), (503, some 151)], ?_, ?_, ?_⟩
        · omega
        · omega
        simp [go_sem, ↓iO, iO, tN, hKn, hAn, e1, e2, htk, hmin]
        omega
    by_cases h2 : n6 = 2
    · subst h2
      rw [if_neg (by omega), if_neg (by omega), if_pos rfl] at hnx
      dsimp only at hnx
      try simp only [List.append_nil] at hnx
      have h5 := nV_range (l := l) (k := nextK l (nextK l k2)) (n := 5) (by omega)
      have c6 := n_fn l (nextK l (nextK l k2)) 5 hk2'.next (by omega)
      obtain ⟨n5, hn5⟩ : ∃ x, nV l (nextK l (nextK l k2)) 5 = x := ⟨_, rfl⟩
      rw [hn5] at h5 c6 hnx
      obtain ⟨e1, e2⟩ := Prod.mk.inj hnx
      repeat (first | (refine nf1_sound rfl ?_; simp [go_sem, ↓iO, iO, tN]; (repeat (refine anI ?_)); try (refine ⟨dcK, ?_⟩)) | ((first | refine itePos (by omega) ?_ | refine iteNeg (by omega) ?_); try simp [go_sem, ↓iO, iO, tN]) | (refine ⟨dcK, ?_⟩))
      refine CallK.fn (c52) [(0, 0)] [] [144] (by kernel_rfl) ?_ ?_ ?_ (Or.inl rfl) ?_ <;> simp [go_sem, ↓iO, iO, tN, hw2]
      repeat (refine anI ?_)
      try (refine ⟨dcK, ?_⟩)
      repeat (first | (refine nf1_sound rfl ?_; simp [go_sem, ↓iO, iO, tN, hw2]; (repeat (refine anI ?_)); try (refine ⟨dcK, ?_⟩)) | ((first | refine itePos (by omega) ?_ | refine iteNeg (by omega) ?_); try simp [go_sem, ↓iO, iO, tN, hw2]) | (refine ⟨dcK, ?_⟩))
      refine CallK.fn (c6) [(0, 0)] [] [] (by kernel_rfl) ?_ ?_ ?_ (Or.inl rfl) ?_ <;> simp [go_sem, ↓iO, iO, tN, hw2]
      repeat (refine anI ?_)
      try (refine ⟨dcK, ?_⟩)
      by_cases hd5 : n5 = 0
      · rw [if_pos hd5] at e2
        try simp only [List.append_nil] at e2
        have e3 := congrArg List.length e2
        simp at e3
        subst hd5
        repeat (first | (refine nf1_sound rfl ?_; simp [go_sem, ↓iO, iO, tN, hw2]; (repeat (refine anI ?_)); try (refine ⟨dcK, ?_⟩)) | ((first | refine itePos (by omega) ?_ | refine iteNeg (by omega) ?_); try simp [go_sem, ↓iO, iO, tN, hw2]) | (refine ⟨dcK, ?_⟩))
        rw [RoundQ_normal]; refine ⟨j + 1, [(0, some 0), (503, some 157)], ?_, ?_, ?_⟩
        · omega
        · omega
        simp [go_sem, ↓iO, iO, tN, hKn, hAn, e1, e2, hw2]
        omega
      · rw [if_neg hd5] at e2
        try simp only [List.append_nil] at e2
        have e3 := congrArg List.length e2
        simp at e3
        repeat (first | (refine nf1_sound rfl ?_; simp [go_sem, ↓iO, iO, tN, hw2, hd5]; (repeat (refine anI ?_)); try (refine ⟨dcK, ?_⟩)) | ((first | refine itePos (by omega) ?_ | refine iteNeg (by omega) ?_); try simp [go_sem, ↓iO, iO, tN, hw2, hd5]) | (refine ⟨dcK, ?_⟩))
        rw [RoundQ_normal]; refine ⟨j + 1, [(0, some 0), (503, some 151)], ?_, ?_, ?_⟩
        · omega
        · omega
        simp [go_sem, ↓iO, iO, tN, hKn, hAn, e1, e2, hw2]
        omega
    rw [if_neg h0, if_neg h1, if_neg h2] at hnx
    dsimp only at hnx
    try simp only [List.append_nil] at hnx
    have h5 := nV_range (l := l) (k := nextK l k2) (n := 5) (by omega)
    have c6 := n_fn l (nextK l k2) 5 hk2' (by omega)
    obtain ⟨n5, hn5⟩ : ∃ x, nV l (nextK l k2) 5 = x := ⟨_, rfl⟩
    rw [hn5] at h5 c6 hnx
    obtain ⟨e1, e2⟩ := Prod.mk.inj hnx
    repeat (first | (refine nf1_sound rfl ?_; simp [go_sem, ↓iO, iO, tN, h0, h1, h2]; (repeat (refine anI ?_)); try (refine ⟨dcK, ?_⟩)) | ((first | refine itePos (by omega) ?_ | refine iteNeg (by omega) ?_); try simp [go_sem, ↓iO, iO, tN, h0, h1, h2]) | (refine ⟨dcK, ?_⟩))
    refine CallK.fn (c6) [(0, 0)] [] [] (by kernel_rfl) ?_ ?_ ?_ (Or.inl rfl) ?_ <;> simp [go_sem, ↓iO, iO, tN, h0, h1, h2]
    repeat (refine anI ?_)
    try (refine ⟨dcK, ?_⟩)
    by_cases hd5 : n5 = 0
    · rw [if_pos hd5] at e2
      try simp only [List.append_nil] at e2
      have e3 := congrArg List.length e2
      simp at e3
      subst hd5
      repeat (first | (refine nf1_sound rfl ?_; simp [go_sem, ↓iO, iO, tN, h0, h1, h2]; (repeat (refine anI ?_)); try (refine ⟨dcK, ?_⟩)) | ((first | refine itePos (by omega) ?_ | refine iteNeg (by omega) ?_); try simp [go_sem, ↓iO, iO, tN, h0, h1, h2]) | (refine ⟨dcK, ?_⟩))
      rw [RoundQ_normal]; refine ⟨j + 1, [(0, some 0), (503, some 157)], ?_, ?_, ?_⟩
      · omega
      · omega
      simp [go_sem, ↓iO, iO, tN, hKn, hAn, e1, e2, h0, h1, h2]
      omega
    · rw [if_neg hd5] at e2
      try simp only [List.append_nil] at e2
      have e3 := congrArg List.length e2
      simp at e3
      repeat (first | (refine nf1_sound rfl ?_; simp [go_sem, ↓iO, iO, tN, h0, h1, h2, hd5]; (repeat (refine anI ?_)); try (refine ⟨dcK, ?_⟩)) | ((first | refine itePos (by omega) ?_ | refine iteNeg (by omega) ?_); try simp [go_sem, ↓iO, iO, tN, h0, h1, h2, hd5]) | (refine ⟨dcK, ?_⟩))
      rw [RoundQ_normal]; refine ⟨j + 1, [(0, some 0), (503, some 151)], ?_, ?_, ?_⟩
      · omega
      · omega
      simp [go_sem, ↓iO, iO, tN, hKn, hAn, e1, e2, h0, h1, h2]
      omega
  · obtain rfl : j = n := by omega
    repeat (first | (refine nf1_sound rfl ?_; simp [go_sem, ↓iO, iO, tN]; (repeat (refine anI ?_)); try (refine ⟨dcK, ?_⟩)) | ((first | refine itePos (by omega) ?_ | refine iteNeg (by omega) ?_); try simp [go_sem, ↓iO, iO, tN]) | (refine ⟨dcK, ?_⟩))
    first | rw [RetQ_ret] | rw [RetQ_normal]
    refine ⟨[(0, some 0), (1000, some 503)], ?_⟩
    simp [go_sem, ↓iO, iO, tN]
end Go.Proofs.Ytopmmodcaoaaeaa
namespace Go.Proofs.Ytopmmodcaoaaeaa
open Go.RowKit Sy
open Go.IntWalk renaming iteOmega → iO, toNatUp → tN
set_option linter.unusedVariables false
set_option linter.unusedSimpArgs false
set_option maxRecDepth 100000 in
set_option maxHeartbeats 8000000 in
theorem rsameIn_fn (i : In) (ht : i.tail.length ≤ 1000000) (hs : i.sts.length ≤ 1000000) (hh : ∀ w ∈ i.sts, w.held.length ≤ 1000000 ∧ ∀ t ∈ w.held, t.vs.length ≤ 100000000) : FnOk Try.prog 16 [.t (encIn i), .t (encIn i)] [] (.t (.bool true)) [] := by
  obtain ⟨win, tail, sts⟩ := i
  dsimp only at ht hs hh
  refine FnOk.intro fact_mixed Try.func16 rfl Try.ntmps16 (by rfl) (by simp) ?_
  repeat (first | (refine nf1_sound rfl ?_; simp [go_sem, ↓iO, iO, tN]; (repeat (refine anI ?_)); try (refine ⟨dcK, ?_⟩)) | ((first | refine itePos (by omega) ?_ | refine iteNeg (by omega) ?_); try simp [go_sem, ↓iO, iO, tN]) | (refine ⟨dcK, ?_⟩))
  refine nf1_sound' _ _ _ ?_; simp only [nf1]
  refine CW.loop (ι := Nat) (fun k => ⟨[(2, .pt 502 [] 0), (3, .pt 503 [] 0), (33, .t (.int sts.length)), (34, .t (.int k))], [(502, .box 29 (.t (.agg [.int win, encUs tail, encWts sts]))), (503, .box 29 (.t (.agg [.int win, encUs tail, encWts sts])))]⟩) (fun k => k ≤ sts.length) (fun k => sts.length - k) 0 [(502, some 102), (503, some 103)] (Nat.zero_le _) ?_ ?_
  · simp [go_sem, ↓iO, iO, tN]
  intro k hk
  by_cases hkl : k < sts.length
  · obtain ⟨w, hw⟩ := has_get hkl
    obtain ⟨h1, h2⟩ := hh w (mem_get hw)
    have c := ralike_fn w.held h1 h2
    repeat (first | (refine nf1_sound rfl ?_; simp [go_sem, ↓iO, iO, tN, hw]; (repeat (refine anI ?_)); try (refine ⟨dcK, ?_⟩)) | ((first | refine itePos (by omega) ?_ | refine iteNeg (by omega) ?_); try simp [go_sem, ↓iO, iO, tN, hw]) | (refine ⟨dcK, ?_⟩))
    refine CallK.fn (c) [] [] [] (by kernel_rfl) ?_ ?_ ?_ (Or.inl rfl) ?_ <;> simp [go_sem, ↓iO, iO, tN]
    repeat (refine anI ?_)
    try (refine ⟨dcK, ?_⟩)
    repeat (first | (refine nf1_sound rfl ?_; simp [go_sem, ↓iO, iO, tN]; (repeat (refine anI ?_)); try (refine ⟨dcK, ?_⟩)) | ((first | refine itePos (by omega) ?_ | refine iteNeg (by omega) ?_); try simp [go_sem, ↓iO, iO, tN]) | (refine ⟨dcK, ?_⟩))
    rw [RoundQ_normal]; refine ⟨k + 1, [(502, some 502), (503, some 503)], ?_, ?_, ?_⟩
    · omega
    · omega
    simp [go_sem, ↓iO, iO, tN]
  · obtain rfl : k = sts.length := by omega
    repeat (first | (refine nf1_sound rfl ?_; simp [go_sem, ↓iO, iO, tN]; (repeat (refine anI ?_)); try (refine ⟨dcK, ?_⟩)) | ((first | refine itePos (by omega) ?_ | refine iteNeg (by omega) ?_); try simp [go_sem, ↓iO, iO, tN]) | (refine ⟨dcK, ?_⟩))
    first | rw [RetQ_ret] | rw [RetQ_normal]
    refine ⟨[], ?_⟩
    simp [go_sem, ↓iO, iO, tN]
theorem InOk.same {i : In} (h : InOk i) : FnOk Try.prog 16 [.t (encIn i), .t (encIn i)] [] (.t (.bool true)) [] := by
  have h1 := h.tl
  have h2 := h.sl
  refine rsameIn_fn i (by omega) (by omega) (fun w hw => ?_)
  have hw' := h.each w hw
  have h3 := hw'.2.2.2.2.2.2.1
  have h4 := h.wx
  exact ⟨by omega, fun t ht => by have := (held_mem hw'.2.2.2.2.2.2.2 t ht).2.1.ln; omega⟩
theorem InOk.sized {i : In} (h : InOk i) (h8 : ∀ c ∈ i.tail, c < 256) : Sized i := by
  have h1 := h.tl
  have h2 := h.sl
  refine ⟨by omega, by omega, h8, fun w hw => ?_⟩
  have hw' := h.each w hw
  have h3 := hw'.2.2.2.2.2.2.1
  have h4 := h.wx
  exact ⟨by omega, fun t ht => by have := (held_mem hw'.2.2.2.2.2.2.2 t ht).2.1.ln; omega⟩
/-- What is given out is valid. -/
theorem accV_tgs {i : In} (h : InOk i) {x : Tg} (hx : TgOk x) : ∀ t ∈ (accV i x).2.1, TgOk t := by
  have hwin : 0 ≤ i.win := by have := h.wn; omega
  have new : ∀ p, ∀ t ∈ (newA i x p).2.1, TgOk t := fun p t ht => by
    unfold newA at ht
    split at ht
    · simp at ht
    · exact ((takeV_ok (newW_ok hx hwin) hx rfl hwin).2.2 t ht).2
  unfold accV
  rw [if_pos hx]
  unfold accA
  split
  · rename_i w hw
    split
    · rename_i hs
      intro t ht
      exact ((takeV_ok (h.each w (mem_get hw)) hx hs.symm hwin).2.2 t ht).2
    · exact new _
  · exact new _
/-- The frames of a stream, a frame having begun with s; and what is open at its end. -/
def scanO : Option (List Nat) → List Nat → List (List Nat)
  | _, [] => []
  | s, c :: r => if c = 126 then scanO (some [126]) r else if c = 124 then (match s with
    | some p => (p ++ [124]) :: scanO none r
    | none => scanO none r) else scanO (s.map fun p => p ++ [c]) r
def scanS : Option (List Nat) → List Nat → Option (List Nat)
  | s, [] => s
  | s, c :: r => if c = 126 then scanS (some [126]) r else if c = 124 then scanS none r else scanS (s.map fun p => p ++ [c]) r
theorem scanO_cons (s : Option (List Nat)) (c : Nat) (r : List Nat) : scanO s (c :: r) = if c = 126 then scanO (some [126]) r else if c = 124 then (match s with
    | some p => (p ++ [124]) :: scanO none r
    | none => scanO none r) else scanO (s.map fun p => p ++ [c]) r := by cases s <;> rfl
theorem scanS_cons (s : Option (List Nat)) (c : Nat) (r : List Nat) : scanS s (c :: r) = if c = 126 then scanS (some [126]) r else if c = 124 then scanS none r else scanS (s.map fun p => p ++ [c]) r := by cases s <;> rfl
theorem scan_app : ∀ (a b : List Nat) (s : Option (List Nat)), scanO s (a ++ b) = scanO s a ++ scanO (scanS s a) b ∧ scanS s (a ++ b) = scanS (scanS s a) b
  | [], b, s => by simp [scanO, scanS]
  | c :: r, b, s => by
    rw [List.cons_append, scanO_cons, scanS_cons, scanO_cons, scanS_cons]
    split
    · exact scan_app r b _
    · split
      · have ih := scan_app r b none
        refine ⟨?_, ih.2⟩
        cases s with
        | none => exact ih.1
        | some p => dsimp only; rw [ih.1]; rfl
      · exact scan_app r b _
theorem evs_scan : ∀ (r pre : List Nat) (bs : List Nat) (st : Option Nat), bs = pre ++ r → (∀ j, st = some j → j ≤ pre.length) →
    frsE bs (evs pre.length st r) = scanO (st.map fun j => pre.drop j) r ∧ tlE bs (evs pre.length st r) = (scanS (st.map fun j => pre.drop j) r).getD []
  | [], pre, bs, st, hb, hj => by
    cases st with
    | none => simp [evs, frsE, tlE, scanO, scanS]
    | some j =>
      rw [List.append_nil] at hb
      subst hb
      simp [evs, frsE, tlE, scanO, scanS]
  | c :: r, pre, bs, st, hb, hj => by
    have hb2 : bs = (pre ++ [c]) ++ r := by rw [hb]; simp
    have hl : (pre ++ [c]).length = pre.length + 1 := by simp
    by_cases h1 : c = 126
    · subst h1
      have ih := evs_scan r (pre ++ [126]) bs (some pre.length) hb2 (fun j e => by cases e; simp)
      rw [hl] at ih
      rw [evs_start]
      have e : (Option.map (fun j => List.drop j (pre ++ [126])) (some pre.length)) = some [126] := by simp
      rw [e] at ih
      rw [scanO_cons, scanS_cons, if_pos rfl, if_pos rfl]
      exact ih
    · by_cases h2 : c = 124
      · subst h2
        have ih := evs_scan r (pre ++ [124]) bs none hb2 (fun j e => by cases e)
        rw [hl] at ih
        rw [scanO_cons, scanS_cons, if_neg h1, if_pos rfl, if_neg h1, if_pos rfl]
        cases st with
        | none =>
          rw [evs_none]
          exact ih
        | some j =>
          have hj' := hj j rfl
          rw [evs_some]
          refine ⟨?_, ?_⟩
          · show frsE bs ((j, pre.length + 1, true) :: evs (pre.length + 1) none r) = _
            unfold frsE at ih ⊢
            rw [List.filter_cons, if_pos rfl, List.map_cons, ih.1]
            dsimp only [Option.map]
            congr 1
            rw [hb2, List.take_append_of_le_length (by rw [hl]; exact Nat.le_refl _), List.take_of_length_le (by rw [hl]; exact Nat.le_refl _), List.drop_append_of_le_length hj']
          · show tlE bs ((j, pre.length + 1, true) :: evs (pre.length + 1) none r) = _
            have : tlE bs ((j, pre.length + 1, true) :: evs (pre.length + 1) none r) = tlE bs (evs (pre.length + 1) none r) := rfl
            rw [this]
            exact ih.2
      · have ih := evs_scan r (pre ++ [c]) bs st hb2 (fun j e => by have := hj j e; rw [hl]; omega)
        rw [hl] at ih
        rw [evs_other _ _ _ _ h1 h2]
        rw [scanO_cons, scanS_cons, if_neg h1, if_neg h2, if_neg h1, if_neg h2]
        have e : (Option.map (fun j => List.drop j (pre ++ [c])) st) = (Option.map (fun p => p ++ [c]) (Option.map (fun j => List.drop j pre) st)) := by
          cases st with
          | none => rfl
          | some j => simp [List.drop_append_of_le_length (hj j rfl)]
        rw [e] at ih
        exact ih
theorem frV_scan (bs : List Nat) : frV bs = scanO none bs ∧ tlV bs = (scanS none bs).getD [] :=
  evs_scan bs [] bs none rfl (fun j e => by cases e)
/-- What is open at the end begins a frame, and ends none. -/
def openOk (p : List Nat) : Prop := ∃ r, p = 126 :: r ∧ ∀ c ∈ r, c ≠ 126 ∧ c ≠ 124
theorem scanS_open : ∀ (a : List Nat) (s : Option (List Nat)), (∀ p, s = some p → openOk p) → ∀ p, scanS s a = some p → openOk p
  | [], s, h => h
  | c :: r, s, h => by
    rw [scanS_cons]
    split
    · exact scanS_open r _ (fun p e => by cases e; exact ⟨[], rfl, by simp⟩)
    · rename_i h1
      split
      · exact scanS_open r _ (fun p e => by cases e)
      · rename_i h2
        refine scanS_open r _ (fun p e => ?_)
        cases s with
        | none => cases e
        | some q =>
          cases e
          obtain ⟨q', rfl, hq⟩ := h q rfl
          refine ⟨q' ++ [c], rfl, fun x hx => ?_⟩
          rcases List.mem_append.1 hx with hx | hx
          · exact hq x hx
          · simp at hx; subst hx; exact ⟨h1, h2⟩
theorem scan_plain : ∀ (r p : List Nat), (∀ c ∈ r, c ≠ 126 ∧ c ≠ 124) → scanS (some p) r = some (p ++ r) ∧ scanO (some p) r = []
  | [], p, _ => by simp [scanO, scanS]
  | c :: r, p, h => by
    have hc := h c (List.mem_cons_self ..)
    rw [scanO_cons, scanS_cons, if_neg hc.1, if_neg hc.2, if_neg hc.1, if_neg hc.2]
    have ih := scan_plain r (p ++ [c]) (fun x hx => h x (List.mem_cons_of_mem _ hx))
    refine ⟨?_, ih.2⟩
    rw [show Option.map (fun p => p ++ [c]) (some p) = some (p ++ [c]) from rfl, ih.1]
    simp
theorem scan_open {p : List Nat} (h : openOk p) : scanS none p = some p ∧ scanO none p = [] := by
  obtain ⟨r, rfl, hr⟩ := h
  rw [scanO_cons, scanS_cons, if_pos rfl, if_pos rfl]
  exact scan_plain r [126] hr
theorem tailOk_open {l : List Nat} (h : tailOk l) : l = [] ∨ openOk l := by
  rcases h with h | ⟨h1, h2, h3⟩
  · exact .inl h
  · right
    cases l with
    | nil => cases h1
    | cons a r =>
      obtain rfl := Option.some.inj h1
      refine ⟨r, rfl, fun c hc => ⟨fun e => ?_, fun e => h3 (List.mem_cons_of_mem _ (e ▸ hc))⟩⟩
      subst e
      obtain ⟨i, hi⟩ := List.mem_iff_getElem?.1 hc
      exact h2 ⟨i + 1, by omega, by simpa using hi⟩
theorem open_tailOk {l : List Nat} (h : openOk l) : tailOk l := by
  obtain ⟨r, rfl, hr⟩ := h
  refine .inr ⟨rfl, ?_, ?_⟩
  · rintro ⟨i, hi, h⟩
    obtain ⟨j, rfl⟩ : ∃ j, i = j + 1 := ⟨i - 1, by omega⟩
    exact (hr 126 (List.mem_iff_getElem?.2 ⟨j, by simpa using h⟩)).1 rfl
  · intro h
    rcases List.mem_cons.1 h with h | h
    · omega
    · exact (hr 124 h).2 rfl
def stO (l : List Nat) : Option (List Nat) := if l = [] then none else some l
theorem scan_tail {l : List Nat} (h : tailOk l) : scanS none l = stO l ∧ scanO none l = [] := by
  unfold stO
  rcases tailOk_open h with rfl | h
  · exact ⟨rfl, rfl⟩
  · obtain ⟨r, hr, _⟩ := id h
    rw [if_neg (by rw [hr]; simp)]
    exact scan_open h
/-- Folding from a list that is given. -/
theorem stepF_acc (s : In) (o : List Tg) (f : List Nat) : stepF (s, o) f = ((stepF (s, []) f).1, o ++ (stepF (s, []) f).2) := by
  unfold stepF
  split <;> simp
theorem fold_acc : ∀ (fs : List (List Nat)) (s : In) (o : List Tg), fs.foldl stepF (s, o) = ((fs.foldl stepF (s, [])).1, o ++ (fs.foldl stepF (s, [])).2)
  | [], s, o => by simp
  | f :: r, s, o => by
    rw [List.foldl_cons, List.foldl_cons, stepF_acc]
    rw [show stepF (s, []) f = ((stepF (s, []) f).1, (stepF (s, []) f).2) from rfl]
    rw [fold_acc r _ (o ++ _), fold_acc r _ ((stepF (s, []) f).2)]
    simp
/-- The tail plays no part. -/
def wt (i : In) (t : List Nat) : In := ⟨i.win, t, i.sts⟩
theorem accA_tail (i : In) (t : List Nat) (x : Tg) (p : Nat) : accA (wt i t) x p = (wt (accA i x p).1 t, (accA i x p).2) := by
  unfold accA newA wt
  dsimp only
  cases i.sts[p]? with
  | none => dsimp only; split <;> rfl
  | some w => dsimp only; split <;> (try split) <;> rfl
theorem accV_tail (i : In) (t : List Nat) (x : Tg) : accV (wt i t) x = (wt (accV i x).1 t, (accV i x).2) := by
  unfold accV
  split
  · exact accA_tail i t x _
  · rfl
theorem fold_tail : ∀ (fs : List (List Nat)) (i : In) (t : List Nat) (o : List Tg), fs.foldl stepF (wt i t, o) = (wt (fs.foldl stepF (i, o)).1 t, (fs.foldl stepF (i, o)).2)
  | [], i, t, o => rfl
  | f :: r, i, t, o => by
    rw [List.foldl_cons, List.foldl_cons]
    have e : stepF (wt i t, o) f = (wt (stepF (i, o) f).1 t, (stepF (i, o) f).2) := by
      unfold stepF
      dsimp only
      split
      · rw [accV_tail]
      · rfl
    rw [e]
    exact fold_tail r _ t _
/-- A frame that is too long is not read. -/
theorem long_skip {s : In × List Tg} {f : List Nat} (h : 400 < f.length) : stepF s f = s := by
  unfold stepF
  have : (decV f).2 = 4 := by unfold decV; rw [if_pos h]
  rw [this, if_neg (by omega)]
theorem long_open : ∀ (b : List Nat) (p : List Nat) (s : In × List Tg), 400 < p.length → (scanO (some p) b).foldl stepF s = (scanO none b).foldl stepF s ∧ cutT ((scanS (some p) b).getD []) = cutT ((scanS none b).getD [])
  | [], p, s, h => by simp [scanO, scanS, cutT, h]
  | c :: r, p, s, h => by
    rw [scanO_cons, scanS_cons, scanO_cons, scanS_cons]
    split
    · exact ⟨rfl, rfl⟩
    · split
      · refine ⟨?_, rfl⟩
        dsimp only
        rw [List.foldl_cons, long_skip (by simp; omega)]
      · exact long_open r (p ++ [c]) s (by simp; omega)
theorem InOk.wt {i : In} (h : InOk i) {t : List Nat} (h1 : t.length ≤ 400) (h2 : tailOk t) : InOk (wt i t) := ⟨h.wn, h.wx, by show ¬ 400 < t.length; omega, h.sl, h2, h.st⟩
theorem fold_ok {i : In} (h : InOk i) (fs : List (List Nat)) : InOk (fs.foldl stepF (i, [])).1 := by
  obtain ⟨L, g, _, _, _, h1, h2, h3⟩ := feed_ex i h fs
  unfold foldF at h1
  rw [h1]
  exact (h3 _).1
theorem cut_ok (bs : List Nat) : (cutT ((scanS none bs).getD [])).length ≤ 400 ∧ tailOk (cutT ((scanS none bs).getD [])) := by
  unfold cutT
  split
  · exact ⟨by simp, .inl rfl⟩
  · refine ⟨by omega, ?_⟩
    cases h : scanS none bs with
    | none => exact .inl rfl
    | some p => exact open_tailOk (scanS_open bs none (fun p e => by cases e) p h)
theorem feedV_eq (i : In) (b : List Nat) : feedV i b = (wt ((scanO none (i.tail ++ b)).foldl stepF (i, [])).1 (cutT ((scanS none (i.tail ++ b)).getD [])), ((scanO none (i.tail ++ b)).foldl stepF (i, [])).2) := by
  unfold feedV foldF
  rw [(frV_scan _).1, (frV_scan _).2]
  rfl
theorem feedV_ok {i : In} (h : InOk i) (b : List Nat) : InOk (feedV i b).1 := by
  rw [feedV_eq]
  exact (fold_ok h _).wt (cut_ok _).1 (cut_ok _).2
theorem feedV_8 {i : In} {b : List Nat} (h1 : ∀ c ∈ i.tail, c < 256) (h2 : ∀ c ∈ b, c < 256) : ∀ c ∈ (feedV i b).1.tail, c < 256 := by
  intro c hc
  have : c ∈ cutT (tlV (i.tail ++ b)) := hc
  unfold cutT at this
  split at this
  · simp at this
  · rcases List.mem_append.1 ((tlV_mem _).2 c this) with h | h
    · exact h1 c h
    · exact h2 c h
theorem fold_tgs : ∀ (fs : List (List Nat)) (s : In × List Tg), (∀ f ∈ fs, ∀ c ∈ f, c < 256) → InOk s.1 → (∀ t ∈ s.2, TgOk t) → ∀ t ∈ (fs.foldl stepF s).2, TgOk t
  | [], s, _, _, h => h
  | f :: r, s, h8, hs, h => by
    rw [List.foldl_cons]
    refine fold_tgs r _ (fun g hg => h8 g (List.mem_cons_of_mem _ hg)) (stepF_ok hs f).1 ?_
    unfold stepF
    split
    · rename_i he
      have hd : decV f = ((decV f).1, 0) := by rw [← he]
      have htk := (dec_back (h8 f (List.mem_cons_self ..)) hd).1
      intro t ht
      rcases List.mem_append.1 ht with ht | ht
      · exact h t ht
      · exact accV_tgs hs htk t ht
    · exact h
theorem feedV_tgs {i : In} (h : InOk i) (h8 : ∀ c ∈ i.tail, c < 256) {b : List Nat} (hb : ∀ c ∈ b, c < 256) : ∀ t ∈ (feedV i b).2, TgOk t := by
  refine fold_tgs (frV (i.tail ++ b)) (i, []) (fun f hf c hc => ?_) h (by simp)
  rcases List.mem_append.1 ((frV_mem hf).2 c hc) with h | h
  · exact h8 c h
  · exact hb c h
theorem feedV_len {i : In} (h : InOk i) (b : List Nat) : (feedV i b).2.length ≤ 17 * (i.tail.length + b.length + 1) := by
  obtain ⟨_, g, _, _, _, _, hg, hok⟩ := feed_ex i h (frV (i.tail ++ b))
  have e : (feedV i b).2 = (foldF i (frV (i.tail ++ b))).2 := rfl
  rw [e, hg]
  have h1 := (hok (frV (i.tail ++ b)).length).2
  have h2 := frV_len (i.tail ++ b)
  rw [List.length_append] at h2
  omega
/-- A stream in two parts. -/
theorem feed_two {i : In} (h : InOk i) (a b : List Nat) : feedV i (a ++ b) = ((feedV (feedV i a).1 b).1, (feedV i a).2 ++ (feedV (feedV i a).1 b).2) := by
  obtain ⟨e1, e2⟩ := scan_app (i.tail ++ a) b none
  obtain ⟨T, hT⟩ : ∃ T, scanS none (i.tail ++ a) = T := ⟨_, rfl⟩
  obtain ⟨A, hA⟩ : ∃ A, (scanO none (i.tail ++ a)).foldl stepF (i, []) = A := ⟨_, rfl⟩
  have hTo : ∀ p, T = some p → openOk p := by rw [← hT]; exact scanS_open _ none (fun p e => by cases e)
  rw [hT] at e1 e2
  rw [feedV_eq i (a ++ b), feedV_eq i a, ← List.append_assoc, e1, e2, hT, hA, List.foldl_append, hA, feedV_eq]
  dsimp only
  rw [show (wt A.1 (cutT (T.getD []))).tail = cutT (T.getD []) from rfl]
  have key : ∀ fs : List (List Nat), fs.foldl stepF A = ((fs.foldl stepF (A.1, [])).1, A.2 ++ (fs.foldl stepF (A.1, [])).2) := fun fs => fold_acc fs A.1 A.2
  rw [key]
  have fin : ∀ (fs : List (List Nat)) (t u : List Nat), wt (fs.foldl stepF (wt A.1 t, [])).1 u = wt (fs.foldl stepF (A.1, [])).1 u ∧ (fs.foldl stepF (wt A.1 t, [])).2 = (fs.foldl stepF (A.1, [])).2 := fun fs t u => by
    rw [fold_tail]
    exact ⟨rfl, rfl⟩
  have goal : ∀ x : List Nat, ((scanO none (x ++ b)).foldl stepF (A.1, [])) = ((scanO T b).foldl stepF (A.1, [])) → cutT ((scanS none (x ++ b)).getD []) = cutT ((scanS T b).getD []) →
      (wt ((scanO T b).foldl stepF (A.1, [])).1 (cutT ((scanS T b).getD [])), A.2 ++ ((scanO T b).foldl stepF (A.1, [])).2) = (wt ((scanO none (x ++ b)).foldl stepF (wt A.1 x, [])).1 (cutT ((scanS none (x ++ b)).getD [])), A.2 ++ ((scanO none (x ++ b)).foldl stepF (wt A.1 x, [])).2) := fun x h1 h2 => by
    rw [(fin _ _ _).1, (fin _ x []).2, h1, h2]
  apply goal
  · cases T with
    | none => rfl
    | some p =>
      show (scanO none (cutT p ++ b)).foldl stepF _ = _
      unfold cutT
      split
      · rename_i hp
        exact (long_open b p _ hp).1.symm
      · rw [(scan_app p b none).1, (scan_open (hTo p rfl)).1, (scan_open (hTo p rfl)).2]
        rfl
  · cases T with
    | none => rfl
    | some p =>
      show cutT ((scanS none (cutT p ++ b)).getD []) = _
      conv => lhs; rw [cutT.eq_1 p]
      split
      · rename_i hp
        exact (long_open b p (A.1, []) hp).2.symm
      · rw [(scan_app p b none).2, (scan_open (hTo p rfl)).1]
end Go.Proofs.Ytopmmodcaoaaeaa
