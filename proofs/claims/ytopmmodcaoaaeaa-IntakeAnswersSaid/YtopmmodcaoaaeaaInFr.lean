/- The iterator frames. No condition. Regions that draw their order: in a round as anywhere (wpIn_region_round); an operation that only reads is taken first (wpAny_still). No condition. intake.Frames. No condition. intake.Frames as a contract: its results are read only. No condition. -/
import Derived.Test.YtopmmodcaoaaeaaInA
import Derived.RangeFuncNested
import Derived.Shelf.RegionOpen
import Derived.RangeFuncBox
import Derived.RangeFuncLeaves
import Derived.RangeFuncCalls
import Derived.Shelf.Abstract
import Derived.WalkKit
import Derived.OwnWalkIn
import Derived.TacticsInMore
import Derived.LoopNIn
import Derived.LoopIn
import Derived.Maps.AppendAt
import Derived.OrdersIn
namespace Go.Proofs.Ytopmmodcaoaaeaa
open Go.RowKit Sy
set_option linter.unusedVariables false
set_option linter.unusedSimpArgs false
attribute [local go_sem] Oper.semAt_some
/-- A part of a stream: from, to, whether it is whole. -/
abbrev Ev := Nat × Nat × Bool
/-- What the iterator gives from place k on, a frame having begun at s. -/
def evs : Nat → Option Nat → List Nat → List Ev
  | k, some j, [] => [(j, k, false)]
  | _, none, [] => []
  | k, s, c :: r => if c = 126 then evs (k + 1) (some k) r else if c = 124 then (match s with
    | some j => (j, k + 1, true) :: evs (k + 1) none r
    | none => evs (k + 1) none r) else evs (k + 1) s r
/-- Parts of a stream of n bytes. -/
abbrev EvN (n : Nat) := { p : Ev // p.1 < p.2.1 ∧ p.2.1 ≤ n }
def encEv {n : Nat} (x : EvN n) : Array Value := #[.agg #[.int .i64 x.1.1, .int .i64 x.1.2.1], .bool x.1.2.2]
theorem evs_len : ∀ (r : List Nat) (k : Nat) (s : Option Nat), (evs k s r).length ≤ r.length + 1
  | [], k, none => by simp [evs]
  | [], k, some j => by simp [evs]
  | c :: r, k, s => by
    unfold evs
    have h1 := evs_len r (k + 1) (some k)
    have h2 := evs_len r (k + 1) none
    have h3 := evs_len r (k + 1) s
    simp only [List.length_cons]
    split
    · omega
    · split
      · cases s with
        | none => dsimp only; omega
        | some j => dsimp only; simp only [List.length_cons]; omega
      · omega
theorem evs_start (k : Nat) (s : Option Nat) (r : List Nat) : evs k s (126 :: r) = evs (k + 1) (some k) r := by cases s <;> simp [evs]
theorem evs_none (k : Nat) (r : List Nat) : evs k none (124 :: r) = evs (k + 1) none r := by simp [evs]
theorem evs_some (k j : Nat) (r : List Nat) : evs k (some j) (124 :: r) = (j, k + 1, true) :: evs (k + 1) none r := by simp [evs]
theorem evs_other (k : Nat) (s : Option Nat) (c : Nat) (r : List Nat) (h1 : c ≠ 126) (h2 : c ≠ 124) : evs k s (c :: r) = evs (k + 1) s r := by cases s <;> simp [evs, h1, h2]
theorem evs_nil_none (k : Nat) : evs k none [] = [] := by simp [evs]
theorem evs_nil_some (k j : Nat) : evs k (some j) [] = [(j, k, false)] := by simp [evs]
/-- What a round keeps: what lay below n₀, and the box of the bytes. -/
structure KpF (n₀ Bs : Nat) (A B : World) : Prop where
  bl : Below n₀ A B
  bx : ∀ o : Obj, A.heap[Bs]? = some o → o.isCells = true → B.heap[Bs]? = some o
theorem KpF.refl (n₀ Bs : Nat) (A : World) : KpF n₀ Bs A A := ⟨Below.refl _ _, fun _ h _ => h⟩
theorem KpF.trans {n₀ Bs : Nat} {A B C : World} (h : KpF n₀ Bs A B) (k : KpF n₀ Bs B C) : KpF n₀ Bs A C := ⟨h.bl.trans k.bl, fun o ho hc => k.bx o (h.bx o ho hc) hc⟩
theorem KpF.put {n₀ Bs : Nat} {w : World} (hn : n₀ ≤ w.heap.size) (hB : Bs < w.heap.size) (W : World) (l : Nat) (o o' : Obj) (hl : w.heap.size ≤ l) (h : W.heap[l]? = some o) (h1 : o.isCells = false) (h2 : o.isWalk = false) : KpF n₀ Bs W (W.putObj l o') :=
  ⟨belowK_b hn W l o o' hl h h1 h2, fun x hx hc => (World.putObj_heap_other (by omega)).trans hx⟩
def startV : Option Nat → Value
  | some j => .int .i64 (j : Nat)
  | none => .int .i64 (-1)
set_option maxRecDepth 100000 in
set_option maxHeartbeats 4000000 in
theorem frames1_in (F : Fence) (n : Nat) (hf : F.fn 62) (hro : F.round = none) (hn : 1 ≤ n) (l Bs n₀ : Nat) (x : Option Addr) (b off cap : Nat) (bs : List Nat) (hlen : bs.length ≤ 1000000) (h8 : ∀ c ∈ bs, c < 256) (J Jx : List (EvN bs.length) → World → Prop)
    (hY : ∀ pre x W, J pre W → pre.length < bs.length + 1 → YieldAt F (n - 1) Try.prog l (encEv x) W fun e W' =>
      (e = .returned (.bool true) ∧ J (pre ++ [x]) W' ∧ KpF n₀ Bs W W') ∨ (e = .returned (.bool false) ∧ Jx (pre ++ [x]) W'))
    (W : World) (hBb : Boxed W Bs 26 (.slice x bs.length cap)) (hx : bs ≠ [] → x = some ⟨b, off, none⟩ ∧ b < n₀ ∧ ∀ j c, bs[j]? = some c → W.cell? ⟨b, off + j, none⟩ = some (.int .u8 (c : Nat))) (h0 : J [] W) :
    CallsIn F n Try.prog 62 #[.func (.yield l) #[] #[], .pointer (some ⟨Bs, 0, none⟩)] W fun e W' => (∃ v, e = .returned v) ∧
      ((∃ ys : List (EvN bs.length), ys.map Subtype.val = evs 0 none bs ∧ J ys W') ∨ (∃ pre, Jx pre W')) := by
  have hBc := hBb.cell
  obtain ⟨E, hE⟩ : ∃ E, evs 0 none bs = E := ⟨_, rfl⟩
  rw [hE]
  refine callsIn_of_wp Try.func62 rfl hf ?_ hro
  simp only [Try.ntmps62, List.size_toArray, List.length_cons, List.length_nil, Nat.reduceAdd, Nat.reduceSub, Array.replicate_succ, Array.replicate_zero, List.push_toArray, List.append_toArray, List.nil_append, List.cons_append]
  gi_wp2
  gi_loopw [3, 8] (fun s i wr => ∃ (k : Nat) (st : Option Nat) (ys : List (EvN bs.length)), k ≤ bs.length ∧ i = .int .i64 k ∧ s = startV st ∧ (∀ j, st = some j → j < k) ∧ ys.map Subtype.val ++ evs k st (bs.drop k) = E ∧ ys.length ≤ k ∧ J ys wr ∧ KpF n₀ Bs W wr)
    (fun _ i _ => bs.length - (intOf i).toNat)
  case atStart => exact ⟨0, none, [], Nat.zero_le _, rfl, rfl, by simp, by simpa using hE, by simp, h0, KpF.refl _ _ _⟩
  case round =>
    obtain ⟨k, st, ys, hk, rfl, rfl, hst, hev, hyl, hJs, hnx⟩ := hrel
    have hBw : wr.cell? ⟨Bs, 0, none⟩ = some (.slice x bs.length cap) := Boxed.cell (t := 26) (hnx.bx _ hBb rfl)
    by_cases hlt : k < bs.length
    · obtain ⟨rfl, hb, hc⟩ := hx (fun e => by rw [e] at hlt; simp at hlt)
      obtain ⟨c, hcc⟩ := has_get hlt
      have hcx : wr.cell? ⟨b, off + k, none⟩ = some (.int .u8 (c : Nat)) := (hnx.bl.cell (p := ⟨b, off + k, none⟩) hb).trans (hc k c hcc)
      have hdr : bs.drop k = c :: bs.drop (k + 1) := drop_get hcc
      have hc8 := h8 c (mem_get hcc)
      rw [hdr] at hev
      by_cases h1 : c = 126
      · subst h1
        rw [evs_start] at hev
        cases st with
        | none =>
          unfold startV
          gi_wp2
          go_roundw
          case rel => exact ⟨k + 1, some k, ys, by omega, by simp, rfl, by simp, hev, by omega, hJs, hnx⟩
          case measure => simp [intOf]; omega
        | some j =>
          unfold startV
          gi_wp2
          go_roundw
          case rel => exact ⟨k + 1, some k, ys, by omega, by simp, rfl, by simp, hev, by omega, hJs, hnx⟩
          case measure => simp [intOf]; omega
      · have h1' : ¬ (c : Int) = 126 := by omega
        by_cases h2 : c = 124
        · subst h2
          cases st with
          | none =>
            rw [evs_none] at hev
            unfold startV
            gi_wp2
            go_roundw
            case rel => exact ⟨k + 1, none, ys, by omega, by simp, rfl, by simp, hev, by omega, hJs, hnx⟩
            case measure => simp [intOf]; omega
          | some j =>
            rw [evs_some] at hev
            have hj := hst j rfl
            obtain ⟨fn, tmps, assign, body, hy, hR⟩ := hY ys ⟨(j, k + 1, true), by dsimp only; omega, by dsimp only; omega⟩ wr hJs (by omega)
            unfold encEv at hy
            dsimp only at hy
            rw [show ((k + 1 : Nat) : Int) = (k : Int) + 1 by omega] at hy
            unfold startV
            gi_wp2
            refine hR.mono ?_
            rintro e W3 (⟨rfl, hJ3, hk3⟩ | ⟨rfl, hJx3⟩)
            · gi_wp2
              go_roundw
              case rel => exact ⟨k + 1, none, _, by omega, by simp, rfl, by simp, by rw [List.map_append]; simpa using hev, by simp; omega, hJ3, hnx.trans hk3⟩
              case measure => simp [intOf]; omega
            · gi_wp2
              refine bodyPost_ret (results_none rfl _ _ _) rfl ?_
              exact ⟨⟨_, rfl⟩, .inr ⟨_, hJx3⟩⟩
        · have h2' : ¬ (c : Int) = 124 := by omega
          rw [evs_other _ _ _ _ h1 h2] at hev
          cases st with
          | none =>
            unfold startV
            gi_wp2
            go_roundw
            case rel => exact ⟨k + 1, none, ys, by omega, by simp, rfl, by simp, hev, by omega, hJs, hnx⟩
            case measure => simp [intOf]; omega
          | some j =>
            have hj := hst j rfl
            unfold startV
            gi_wp2
            go_roundw
            case rel => exact ⟨k + 1, some j, ys, by omega, by simp, rfl, by intro j' e; cases e; omega, hev, by omega, hJs, hnx⟩
            case measure => simp [intOf]; omega
    · obtain rfl : k = bs.length := by omega
      rw [List.drop_length] at hev
      cases st with
      | none =>
        rw [evs_nil_none, List.append_nil] at hev
        unfold startV
        gi_wp2
        go_end0
        exact ⟨⟨_, rfl⟩, .inl ⟨ys, hev, hJs⟩⟩
      | some j =>
        rw [evs_nil_some] at hev
        have hj := hst j rfl
        obtain ⟨fn, tmps, assign, body, hy, hR⟩ := hY ys ⟨(j, bs.length, false), by dsimp only; omega, by dsimp only; omega⟩ wr hJs (by omega)
        unfold encEv at hy
        dsimp only at hy
        unfold startV
        gi_wp2
        refine hR.mono ?_
        rintro e W3 (⟨rfl, hJ3, hk3⟩ | ⟨rfl, hJx3⟩)
        · gi_wp2
          go_end0
          exact ⟨⟨_, rfl⟩, .inl ⟨_, by rw [List.map_append]; simpa using hev, hJ3⟩⟩
        · gi_wp2
          go_end0
          exact ⟨⟨_, rfl⟩, .inr ⟨_, hJx3⟩⟩
theorem frames_stops (F : Fence) (n : Nat) (hf : F.fn 62) (hro : F.round = none) (hn : 1 ≤ n) (Bs n₀ : Nat) (x : Option Addr) (b off cap : Nat) (bs : List Nat) (hlen : bs.length ≤ 1000000) (h8 : ∀ c ∈ bs, c < 256) (w : World) (hn₀ : n₀ ≤ w.heap.size)
    (hBb : Boxed w Bs 26 (.slice x bs.length cap)) (hx : bs ≠ [] → x = some ⟨b, off, none⟩ ∧ b < n₀ ∧ ∀ j c, bs[j]? = some c → w.cell? ⟨b, off + j, none⟩ = some (.int .u8 (c : Nat))) :
    SeqStopsK F n Try.prog 62 #[.pointer (some ⟨Bs, 0, none⟩)] (encEv (n := bs.length)) (KpF n₀ Bs) (fun ys => ys.map Subtype.val = evs 0 none bs) (fun _ => True) (bs.length + 1) w := fun l J Jx W hW _ _ hY h0 => by
  refine (frames1_in F n hf hro hn l Bs n₀ x b off cap bs hlen h8 J Jx hY W ?_ (fun hne => ⟨(hx hne).1, (hx hne).2.1, fun j c hj => (hW.cell (p := ⟨b, off + j, none⟩) (by show b < _; have := (hx hne).2.1; omega)).trans ((hx hne).2.2 j c hj)⟩) h0).mono ?_
  · exact (hW.block Bs hBb.lt).trans hBb
  · rintro e W' ⟨he, ⟨ys, h1, h2⟩ | ⟨pre, h2⟩⟩
    · exact ⟨he, .inl ⟨ys, h1, h2⟩⟩
    · exact ⟨he, .inr ⟨pre, trivial, h2⟩⟩
end Go.Proofs.Ytopmmodcaoaaeaa
namespace Go.Proofs.Ytopmmodcaoaaeaa
open Go Go.RowKit Sy
set_option linter.unusedVariables false
set_option linter.unusedSimpArgs false
theorem rowsIn_of {P : Program} {row : String} {args : Array Value} {w : World} {R : Value → World → Prop} {n l : Nat} (h : Rows P row args w R) : RowsIn (Fence.wide.inRound l) n P row args w R :=
  fun c cs _ => let ⟨v, w', r, s⟩ := h c cs; ⟨v, w', r, stepsIn_wide.2 s⟩
def noOut (Q : Exit → Act → World → Prop) : Exit → Act → World → Prop
  | .normal, a, w => Q .normal a w
  | .panic c, a, w => Q (.panic c) a w
  | _, _, _ => False
theorem noOut_out (Q : Exit → Act → World → Prop) : ¬ LetsOut (noOut Q) := fun h => by
  obtain ⟨a, w, h⟩ := h; exact h
theorem wpIn_of_wp {P : Program} {o : Oper} {a : Act} {w : World} {K K' : Act → World → Prop} {Q : Exit → Act → World → Prop} {l n : Nat} (hd : ∀ c, o.op ≠ .defer c) (hK : ∀ a w, K a w → K' a w) (h : o.wp P a w K (noOut Q)) : o.wpIn (Fence.wide.inRound l) n P a w K' Q := by
  refine ⟨fun _ _ => trivial, ?_⟩
  rw [Oper.semAt_eq _ _ _ hd]
  unfold Oper.wp at h
  generalize (execOp a.eval o).run P w = r at *
  cases r with
  | ok x w' =>
    cases x <;> simp only [Oper.upon, Oper.uponIn] at h ⊢
    case value => exact hK _ _ h
    case skip => exact hK _ _ h
    case defer => exact hK _ _ h
    case enter f args =>
      refine ⟨fun h => by simp [Fence.wide] at h, CallsIn.inRound l (callsIn_wide.2 (Calls.mono h fun e w'' he => ?_))⟩
      cases e with
      | returned v => exact hK _ _ he
      | panicked c => exact he
      | outgrown => exact (noOut_out Q he).elim
    case row row args => exact ⟨fun h => by simp [Fence.wide] at h, rowsIn_of (Rows.mono h fun v w'' he => hK _ _ he)⟩
  | halt x w' => cases x <;> simp only [Oper.upon, Oper.uponIn] at h ⊢ <;> first | exact h | cases h
theorem wpAnyIn_of {P : Program} {ops : Array Oper} {Q : Exit → Act → World → Prop} {l n : Nat} (hd : ∀ o ∈ ops.toList, ∀ c, o.op ≠ .defer c) : ∀ (fuel : Nat) (listed : Array Bool) (a : Act) (w : World), wpAny P .any ops (noOut Q) fuel listed a w → wpAnyIn (Fence.wide.inRound l) n P .any ops Q fuel listed a w
  | 0, _, _, _, h => h
  | fuel + 1, listed, a, w, h => by
    refine ⟨h.1, fun i hi => ?_⟩
    have h2 := h.2 i hi
    unfold wpOp at h2
    unfold wpOpIn
    split
    · rename_i ho
      rw [ho] at h2
      exact wpAnyIn_of hd fuel _ _ _ h2
    · rename_i o ho
      rw [ho] at h2
      simp only at h2
      split
      · rename_i hw
        rw [if_pos hw] at h2
        rcases h2 with h2 | ⟨_, h2⟩
        · exact wpIn_of_wp (hd o (by obtain ⟨h, e⟩ := Array.getElem?_eq_some_iff.1 ho; rw [← e]; simp)) (fun a w => wpAnyIn_of hd fuel _ _ _) h2
        · exact (noOut_out Q h2).elim
      · rename_i hw
        rw [if_neg hw] at h2
        exact ⟨fun _ _ => trivial, wpAnyIn_of hd fuel _ _ _ h2⟩
def noDefer (ops : Array Oper) : Bool := ops.toList.all fun o => match o.op with
  | .defer _ => false
  | _ => true
/-- A region that draws its order, in the round of a range over a function, walked as anywhere. -/
theorem wpIn_region_round {P : Program} {id : Nat} {ops : Array Oper} {Q : Exit → Act → World → Prop} {l n : Nat} {a : Act} {w : World} (hd : noDefer ops = true) (hm : P.follows .mixedOrders = true)
    (h : wpAny P .any ops (noOut Q) ops.size (Array.replicate ops.size false) a { w with drawn := w.drawn + 1 }) : (Code.region id ops true).wpIn (Fence.wide.inRound l) n P Q a w :=
  wpIn_region_any hm (wpAnyIn_of (fun o ho c e => by
    have := List.all_eq_true.1 hd o ho
    rw [e] at this
    cases this) _ _ _ _ h)
section
variable {P : Program} {ops : Array Oper} {Q : Exit → Act → World → Prop}
/-- It yields v in this world. -/
def YieldsAt (P : Program) (ops : Array Oper) (o : Oper) (v : Value) (a : Act) (w : World) : Prop := Region.wanted o (yielded ops a.tmps) = true ∧ (execOp a.eval o).run P w = .ok (.value v) w
theorem YieldsAt.put {oi oj : Oper} {v u : Value} {a : Act} {w : World} (hs : ∀ cs b, oi.op ≠ .select cs b) (hap : oi.apart ops oj = true) (h : YieldsAt P ops oi v a w) : YieldsAt P ops oi v (a.put oj.dst u) w := by
  obtain ⟨_, _, h3⟩ := Oper.apart_spec hap
  refine ⟨by rw [wanted_put oi a oj.dst u h3]; exact h.1, by rw [execOp_put oi hs a oj.dst u h3]; exact h.2⟩
theorem YieldsAt.wpOp {i : Nat} {o : Oper} {v : Value} {a : Act} {w : World} (hi : ops[i]? = some o) (hy : YieldsAt P ops o v a w) (K : Act → World → Prop) : Go.wpOp P ops Q i K a w ↔ (K (a.put o.dst v) w ∨ (o.asks P a w ∧ LetsOut Q)) := by
  unfold Go.wpOp
  simp only [hi, hy.1, if_true, Oper.wp, hy.2, Oper.upon]
/-- The shape: i is taken first of T; what is in D waits for one of D. -/
def stillChk (ops : Array Oper) (listed : Array Bool) (T D : List Nat) (i : Nat) : Bool :=
  Region.noSelect ops && D.contains i && T.contains i &&
  (D.all fun d => !listed.getD d true && (d == i || match ops[d]? with
    | some o => o.after.any fun e => Region.binds .any e && D.contains e.on
    | none => false)) &&
  (T.all fun j => T.all fun k => j == k || match ops[j]?, ops[k]? with
    | some oj, some ok => oj.apart ops ok
    | _, _ => false) &&
  ((List.range ops.size).all fun j => listed.getD j true || T.contains j || D.contains j)
theorem wpAny_still' {T D : List Nat} {i : Nat} {oi : Oper} {val : Nat → Value} (hout : ¬ LetsOut Q) (hi : ops[i]? = some oi) (hiT : i ∈ T) (hs : Region.noSelect ops = true)
    (hD : ∀ d ∈ D, d ≠ i → ∀ o, ops[d]? = some o → ∃ e ∈ o.after, Region.binds .any e = true ∧ e.on ∈ D)
    (hT : ∀ j ∈ T, ∀ k ∈ T, j ≠ k → ∀ oj ok, ops[j]? = some oj → ops[k]? = some ok → oj.apart ops ok = true) :
    ∀ (fuel : Nat) (listed : Array Bool) (a : Act) (w : World), (∀ d ∈ D, listed.getD d true = false) → i ∈ D → i ∈ Region.ready .any ops listed → (∀ j, j < ops.size → listed.getD j true = false → j ∈ T ∨ j ∈ D) →
      (∀ j ∈ T, listed.getD j true = false → ∀ oj, ops[j]? = some oj → YieldsAt P ops oj (val j) a w) → wpAny P .any ops Q fuel (listed.setIfInBounds i true) (a.put oi.dst (val i)) w → wpAny P .any ops Q (fuel + 1) listed a w := by
  intro fuel
  have sel := Region.noSelect_spec hs
  induction fuel with
  | zero =>
    intro listed a w hDl hiD hr hTD hy H
    refine ⟨fun h => (by rw [h] at hr; cases hr), fun j hj => ?_⟩
    by_cases e : j = i
    · subst e
      exact ((hy j hiT (mem_ready.1 hr).1 _ hi).wpOp hi _).2 (.inl H)
    · have := ready_mono hj e
      rw [H.1] at this
      cases this
  | succ fuel ih =>
    intro listed a w hDl hiD hr hTD hy H
    refine ⟨fun h => (by rw [h] at hr; cases hr), fun j hj => ?_⟩
    by_cases e : j = i
    · subst e
      exact ((hy j hiT (mem_ready.1 hr).1 _ hi).wpOp hi _).2 (.inl H)
    · obtain ⟨hj0, oj, hoj, hall⟩ := mem_ready.1 hj
      have hjs : j < ops.size := (Array.getElem?_eq_some_iff.1 hoj).1
      have hjD : j ∉ D := fun hd => by
        obtain ⟨ed, h1, h2, h3⟩ := hD j hd e oj hoj
        have h4 := hall ed h1 h2
        have h5 := hDl ed.on h3
        rcases Nat.lt_or_ge ed.on listed.size with h' | h'
        · simp [h'] at h4 h5; rw [h5] at h4; cases h4
        · simp [Array.getElem?_eq_none h'] at h4
      have hjT := (hTD j hjs hj0).resolve_right hjD
      have hyj := hy j hjT hj0 oj hoj
      have hyi := hy i hiT (mem_ready.1 hr).1 oi hi
      have hap := hT j hjT i hiT e oj oi hoj hi
      have h1 := H.2 j (ready_mono hj e)
      have h2 := ((hyj.put (sel j oj · · hoj) hap (u := val i)).wpOp hoj _).1 h1
      refine (hyj.wpOp hoj _).2 (.inl (ih (listed.setIfInBounds j true) _ w (fun d hd => ?_) hiD (ready_mono hr (Ne.symm e)) (fun k hk hk0 => ?_) (fun k hk hk0 ok hok => ?_) ?_))
      · rw [getD_set_ne true (fun e2 : j = d => hjD (e2 ▸ hd))]
        exact hDl d hd
      · refine hTD k hk ?_
        by_cases e2 : j = k
        · subst e2; exact hj0
        · rwa [getD_set_ne true e2] at hk0
      · have e2 : j ≠ k := fun e2 => by
          subst e2
          have hl : j < listed.size := by
            rcases Nat.lt_or_ge j listed.size with h' | h'
            · exact h'
            · simp [Array.getElem?_eq_none h'] at hj0
          simp [hl] at hk0
        rw [getD_set_ne true e2] at hk0
        exact (hy k hk hk0 ok hok).put (sel k ok · · hok) (hT k hk j hjT (Ne.symm e2) ok oj hok hoj)
      · rcases h2 with h2 | ⟨_, h2⟩
        · obtain ⟨_, p2, _⟩ := Oper.apart_spec hap
          rw [Array.setIfInBounds_comm _ _ e, Act.put_comm a (val j) (val i) p2]
          exact h2
        · exact (hout h2).elim
theorem wpAny_still {fuel : Nat} {listed : Array Bool} {a : Act} {w : World} (T D : List Nat) (i : Nat) {oi : Oper} (val : Nat → Value) (hout : ¬ LetsOut Q) (hi : ops[i]? = some oi) (hc : stillChk ops listed T D i = true) (hr : (Region.ready .any ops listed).contains i = true)
    (hy : ∀ j ∈ T, listed.getD j true = false → ∀ oj, ops[j]? = some oj → YieldsAt P ops oj (val j) a w) (h : wpAny P .any ops Q fuel (listed.setIfInBounds i true) (a.put oi.dst (val i)) w) : wpAny P .any ops Q (fuel + 1) listed a w := by
  simp only [stillChk, Bool.and_eq_true, List.contains_iff_mem, List.all_eq_true, Bool.or_eq_true, List.mem_range, beq_iff_eq, Bool.not_eq_true'] at hc
  obtain ⟨⟨⟨⟨⟨c1, c2⟩, c3⟩, c4⟩, c5⟩, c6⟩ := hc
  refine wpAny_still' hout hi c3 c1 (fun d hd hne o ho => ?_) (fun j hj k hk hne oj ok hoj hok => ?_) fuel listed a w (fun d hd => (c4 d hd).1) c2 (by simpa using hr) (fun j hj hj0 => ?_) hy h
  · have := (c4 d hd).2.resolve_left hne
    rw [ho] at this
    obtain ⟨n, hn, h2⟩ := Array.any_eq_true.1 this
    rw [Bool.and_eq_true] at h2
    exact ⟨_, Array.getElem_mem hn, h2.1, by simpa using h2.2⟩
  · have := (c5 j hj k hk).resolve_left hne
    rw [hoj, hok] at this
    exact this
  · rcases c6 j hj with (h1 | h1) | h1
    · rw [hj0] at h1; cases h1
    · exact .inl h1
    · exact .inr h1
/-- One operation, its run known. -/
theorem wpOp_value {K : Act → World → Prop} {a : Act} {w w' : World} {i : Nat} {o : Oper} {v : Value} (ho : ops[i]? = some o) (hw : Region.wanted o (yielded ops a.tmps) = true) (hrun : (execOp a.eval o).run P w = .ok (.value v) w') (h : K (a.put o.dst v) w') : Go.wpOp P ops Q i K a w := by
  unfold Go.wpOp
  simp only [ho, hw, if_true, Oper.wp, hrun, Oper.upon]
  exact .inl h
theorem wpOp_skip {K : Act → World → Prop} {a : Act} {w w' : World} {i : Nat} {o : Oper} (ho : ops[i]? = some o) (hw : Region.wanted o (yielded ops a.tmps) = true) (hrun : (execOp a.eval o).run P w = .ok .skip w') (h : K (a.put o.dst undef) w') : Go.wpOp P ops Q i K a w := by
  unfold Go.wpOp
  simp only [ho, hw, if_true, Oper.wp, hrun, Oper.upon]
  exact .inl h
theorem wpOp_enter {K : Act → World → Prop} {a : Act} {w w' : World} {i : Nat} {o : Oper} {f : FuncId} {args : Array Value} {R : Ending → World → Prop} (ho : ops[i]? = some o) (hw : Region.wanted o (yielded ops a.tmps) = true) (hrun : (execOp a.eval o).run P w = .ok (.enter f args) w') (hc : Calls P f args w' R) (h : ∀ e w'', R e w'' → ∃ v, e = .returned v ∧ K (a.put o.dst v) w'') : Go.wpOp P ops Q i K a w := by
  unfold Go.wpOp
  simp only [ho, hw, if_true, Oper.wp, hrun, Oper.upon]
  refine .inl (Calls.mono hc fun e w'' he => ?_)
  obtain ⟨v, rfl, hv⟩ := h e w'' he
  exact hv
theorem wpAny_one {fuel : Nat} {listed : Array Bool} {a : Act} {w : World} {i : Nat} (hr : Region.ready .any ops listed = [i]) (h : Go.wpOp P ops Q i (wpAny P .any ops Q fuel (listed.setIfInBounds i true)) a w) : wpAny P .any ops Q (fuel + 1) listed a w :=
  wpAny_all hr (by simp) (fun j hj => by rw [List.mem_singleton] at hj; subst hj; exact h)
theorem wpAny_two {fuel : Nat} {listed : Array Bool} {a : Act} {w : World} {i j : Nat} (hr : Region.ready .any ops listed = [i, j]) (h : Go.wpOp P ops Q i (wpAny P .any ops Q fuel (listed.setIfInBounds i true)) a w) (h' : Go.wpOp P ops Q j (wpAny P .any ops Q fuel (listed.setIfInBounds j true)) a w) : wpAny P .any ops Q (fuel + 1) listed a w :=
  wpAny_all hr (by simp) (fun k hk => by
    simp only [List.mem_cons, List.not_mem_nil, or_false] at hk
    rcases hk with rfl | rfl
    · exact h
    · exact h')
theorem run_exec_append {ρ : Operand → Value} {dst : Option Tmp} {x y : Operand} {vx vy v' : Value} {t t' ty : TypeId} {pos : String} {after : Array Edge} {guard : Option (Nat × Bool)} {w w' : World} (h1 : ρ x = vx) (h2 : ρ y = vy) (h : (Builtin.append_ #[t, t'] ty #[vx, vy]).run P w = .ok v' w') :
    Sem.run P (execOp ρ ⟨dst, Op.call { callee := .builtin .append, args := #[x, y], argTypes := #[t, t'] }, ty, pos, after, guard⟩) w = .ok (.value v') w' := by
  subst h1 h2
  simp only [execOp, resolve, invoke, builtin, Sem.run_bind, Sem.run_pure, Result.andThen_ok, List.map_toArray, List.map_cons, List.map_nil, h]
end
end Go.Proofs.Ytopmmodcaoaaeaa
namespace Go.Proofs.Ytopmmodcaoaaeaa
open Go.RowKit Sy
set_option linter.unusedVariables false
set_option linter.unusedSimpArgs false
attribute [local go_sem] Oper.semAt_some
theorem rep_urow {w : World} {x : Option Addr} {n cap : Nat} {l : List Nat} (h : NRow .u8 w x n cap l) : RepS (lawG w) w (.t (encUs l)) (.slice x n cap) := by
  unfold RepS encUs Rep
  refine ⟨x, cap, nats .u8 l, ?_, ?_, ?_, ?_⟩
  · rw [List.length_map, h.length]
  · have : ∀ l : List Nat, Reps (lawG w).F w (l.map encU) (nats .u8 l) := by
      intro l
      induction l with
      | nil => unfold Reps; rfl
      | cons c r ih =>
        rw [List.map_cons]
        unfold Reps
        refine ⟨.int .u8 (c : Nat), nats .u8 r, rfl, ?_, ih⟩
        unfold encU Rep
        exact ⟨rfl, rfl⟩
    exact this l
  · intro y hy
    obtain ⟨z, _, rfl⟩ := List.mem_map.1 hy
    simp [encU, T.width]
  · rw [List.length_map, h.length]
    exact ⟨h.le, h.capLe, h.len, h.nil, h.cells⟩
theorem cells_u8n {F : Nat → Prop} {w : World} : ∀ {l : List Nat} {cells : List Value}, Reps F w (l.map encU) cells → cells = nats .u8 l
  | [], cells, h => by simpa [Reps, nats] using h
  | c :: r, cells, h => by
    rw [List.map_cons] at h
    unfold Reps at h
    obtain ⟨v, cs, rfl, h1, h2⟩ := h
    have e1 := cells_u8n h2
    unfold encU Rep at h1
    rw [h1.1, e1]
    rfl
/-- slices.Clone of bytes, at the level of calls. -/
theorem clone_call {w : World} {x : Option Addr} {n cap : Nat} {l : List Nat} (h : NRow .u8 w x n cap l) (hl : l.length ≤ 1000000000) :
    Calls Try.prog 39 #[.slice x n cap] w fun e w' => ∃ y c, e = .returned (.slice y n c) ∧ Own w' w.heap.size 5 1 y n c (nats .u8 l) ∧ Below w.heap.size w w' := by
  have hn : ∀ l x, lkB [] l = some x → False := fun l x hx => by simp [lkB] at hx
  have hh : HeapOk (lawG w) w (lkB []) := ⟨fun l b hb => (hn l b hb).elim, fun l b hb => (hn l b hb).elim, fun l b k hb => (hn l b hb).elim, fun l l' b b' k hb => (hn l b hb).elim, fun b hb => hb⟩
  refine Calls.mono (icloneU_fn l hl (lawG w) w [.slice x n cap] hh (reps_cons (rep_urow h) reps_nil)) ?_
  rintro e w' ⟨v, G', rfl, hf, hh', hv⟩
  unfold RepS at hv
  have hb := hh'.rep 1000 (blkU l) rfl
  obtain ⟨y, c, cells, h1, h2, h3, h4⟩ := hb
  have hfrom := hf.own 1000 (blkU l)
  have hcells := (@cells_u8n _ _ l _ h2)
  have hn2 : (l.map encU).length = n := by rw [List.length_map, h.length]
  rw [hn2] at h1 h4
  refine ⟨y, c, by rw [hv.1, h1], ?_, ⟨hf.os, hf.tape, hf.output, hf.size, fun b hb => hf.block b hb (by rintro ⟨l, x, hx, _⟩; exact hn l x hx)⟩⟩
  rw [h1] at h4
  refine ⟨by rw [← hcells]; exact h4.1, ?_⟩
  rcases h4.2 with h5 | ⟨g, cap', cur, e1, _, e2, e3, e4, e5, e6⟩
  · exact .inl h5
  · refine .inr ⟨g, cap', cur, e1, ?_, e2, e3, e4, e5, by rw [e6, hcells]⟩
    rcases hfrom g rfl (.inl (by rw [h1, e1]; rfl)) with ⟨l, x, hx, _⟩ | h6
    · exact (hn l x hx).elim
    · exact h6
/-- frames: the bytes are boxed; the function value captures the box. -/
theorem frames_call (x : Option Addr) (n cap : Nat) (w : World) :
    Calls Try.prog 38 #[.slice x n cap] w fun e w' => e = .returned (.func (.func 62) #[] #[.pointer (some ⟨w.heap.size, 0, none⟩)]) ∧ w' = w.alloc (.cells #[.slice x n cap] 26) := by
  go_enter Try.func38, Try.ntmps38
  go_wp2
  go_ret
  exact ⟨rfl, rfl⟩
/-- The bytes of a part. -/
def evB {n : Nat} (bs : List Nat) (x : EvN n) : List Nat := (bs.take x.1.2.1).drop x.1.1
def frsOf {n : Nat} (bs : List Nat) (pre : List (EvN n)) : List (List Nat) := (pre.filter fun x => x.1.2.2).map (evB bs)
def tlOf {n : Nat} (bs : List Nat) (pre : List (EvN n)) : List Nat := pre.foldl (fun t x => if x.1.2.2 then t else evB bs x) []
theorem tlOf_snoc {n : Nat} (bs : List Nat) (pre : List (EvN n)) (x : EvN n) : tlOf bs (pre ++ [x]) = if x.1.2.2 then tlOf bs pre else evB bs x := by unfold tlOf; rw [List.foldl_append]; rfl
theorem frsOf_snoc {n : Nat} (bs : List Nat) (pre : List (EvN n)) (x : EvN n) : frsOf bs (pre ++ [x]) = if x.1.2.2 then frsOf bs pre ++ [evB bs x] else frsOf bs pre := by
  unfold frsOf
  rw [List.filter_append, List.map_append]
  cases h : x.1.2.2 <;> simp [h]
def dmOf {n : Nat} (pre : List (EvN n)) : Int := (n : Int) - (pre.map fun x => (x.1.2.1 : Int) - x.1.1).sum
theorem dmOf_snoc {n : Nat} (pre : List (EvN n)) (x : EvN n) : dmOf (pre ++ [x]) = dmOf pre - ((x.1.2.1 : Int) - x.1.1) := by
  unfold dmOf
  rw [List.map_append, List.sum_append]
  simp
  omega
theorem dmOf_bd {n : Nat} : ∀ (pre : List (EvN n)), 0 ≤ (pre.map fun x => (x.1.2.1 : Int) - x.1.1).sum ∧ (pre.map fun x => (x.1.2.1 : Int) - x.1.1).sum ≤ (pre.length : Int) * n
  | [] => by simp
  | x :: r => by
    have h := dmOf_bd r
    have h1 := x.2
    simp only [List.map_cons, List.sum_cons, List.length_cons]
    have : ((r.length + 1 : Nat) : Int) * n = r.length * n + n := by rw [Int.natCast_add, Int.add_mul]; simp
    omega
/-- A slice that holds bytes, in a block from B on that nobody writes. -/
def FrOk (B : Nat) (W : World) (v : Value) (l : List Nat) : Prop := (∃ y c, v = .slice y l.length c) ∧ W.ownsRow B 5 1 v l.length (nats .u8 l)
theorem FrOk.kept {B : Nat} {W W' : World} {row : Option Nat} {v : Value} {l : List Nat} (h : FrOk B W v l) (hg : W.grownBy W' row) (hr : ∀ r cur, row = some r → W.heap[r]? ≠ some (.cells cur 5 (0, 0))) : FrOk B W' v l := by
  refine ⟨h.1, h.2.1, ?_⟩
  rcases h.2.2 with h5 | ⟨g, cap', cur, hv, hB, hh, hrest⟩
  · exact .inl h5
  · refine .inr ⟨g, cap', cur, hv, hB, ?_, hrest⟩
    rw [hg.block g (lt_of_block hh) (fun e => hr g cur e.symm hh)]
    exact hh
def FrsOk (B : Nat) (W : World) (svs : List Value) (ls : List (List Nat)) : Prop := svs.length = ls.length ∧ ∀ (i : Nat) (v : Value) (l : List Nat), svs[i]? = some v → ls[i]? = some l → FrOk B W v l
/-- What the loop's own memory holds: the frames fs, the tail t, the count d. -/
structure FcI (w : World) (u : Value) (fs : List (List Nat)) (t : List Nat) (d : Int) (W : World) : Prop where
  b0 : Boxed W w.heap.size 26 u
  b3 : Boxed W (w.heap.size + 1 + 1 + 1) 3 (.int .i64 d)
  fr : ∃ fv svs, Boxed W (w.heap.size + 1) 49 fv ∧ W.ownsRow (w.heap.size + 1 + 1 + 1 + 1 + 1) 26 1 fv svs.length svs ∧ FrsOk (w.heap.size + 1 + 1 + 1 + 1 + 1) W svs fs
  tl : ∃ tv, Boxed W (w.heap.size + 1 + 1) 26 tv ∧ FrOk (w.heap.size + 1 + 1 + 1 + 1 + 1) W tv t
  bl : Below w.heap.size w W
  sz : w.heap.size + 1 + 1 + 1 + 1 + 1 ≤ W.heap.size
/-- .. when pre have come. -/
abbrev FcInv (w : World) (u : Value) {n : Nat} (bs : List Nat) (pre : List (EvN n)) (W : World) : Prop := FcI w u (frsOf bs pre) (tlOf bs pre) (dmOf pre) W
theorem not_cells {W : World} {row : Option Nat} (h : ∀ r, row = some r → ∃ o : Obj, W.heap[r]? = some o ∧ o.isCells = false) {e : TypeId} : ∀ r cur, row = some r → W.heap[r]? ≠ some (.cells cur e (0, 0)) := fun r cur hr hc => by
  obtain ⟨o, h1, h2⟩ := h r hr
  rw [hc] at h1
  cases h1
  cases h2
theorem boxed_kept' {W W' : World} {row : Option Nat} {B : Nat} {t : TypeId} {v : Value} (h : Boxed W B t v) (hg : W.grownBy W' row) (hr : ∀ r cur, row = some r → W.heap[r]? ≠ some (.cells cur t (0, 0))) : Boxed W' B t v :=
  h.kept hg (fun e => hr B _ e.symm h)
theorem row_kept {W W' : World} {row : Option Nat} {B k n : Nat} {e : TypeId} {v : Value} {xs : List Value} (h : W.ownsRow B e k v n xs) (hg : W.grownBy W' row) (hr : ∀ r cur, row = some r → W.heap[r]? ≠ some (.cells cur e (0, 0))) : W'.ownsRow B e k v n xs := by
  refine ⟨h.1, ?_⟩
  rcases h.2 with h5 | ⟨g, cap', cur, hv, hB, hh, hrest⟩
  · exact .inl h5
  · refine .inr ⟨g, cap', cur, hv, hB, ?_, hrest⟩
    rw [hg.block g (lt_of_block hh) (fun e => hr g cur e.symm hh)]
    exact hh
theorem FcI.kept {w : World} {u : Value} {fs : List (List Nat)} {t : List Nat} {d : Int} {W W' : World} {row : Option Nat} (h : FcI w u fs t d W) (hg : W.grownBy W' row) (hr : ∀ r, row = some r → w.heap.size ≤ r ∧ ∃ o : Obj, W.heap[r]? = some o ∧ o.isCells = false) : FcI w u fs t d W' := by
  have hr2 : ∀ r, row = some r → ∃ o : Obj, W.heap[r]? = some o ∧ o.isCells = false := fun r e => (hr r e).2
  obtain ⟨fv, svs, k1, k2, k3, k4⟩ := h.fr
  obtain ⟨tv, k5, k6⟩ := h.tl
  exact ⟨boxed_kept' h.b0 hg (not_cells hr2), boxed_kept' h.b3 hg (not_cells hr2), ⟨fv, svs, boxed_kept' k1 hg (not_cells hr2), row_kept k2 hg (not_cells hr2), k3, fun i v l a b => (k4 i v l a b).kept hg (not_cells hr2)⟩, ⟨tv, boxed_kept' k5 hg (not_cells hr2), k6.kept hg (not_cells hr2)⟩, h.bl.grown hg h.bl.size (fun k e => (hr k e).1), Nat.le_trans h.sz hg.size⟩
theorem grown_of_below {W W' : World} (h : Below W.heap.size W W') : W.grownBy W' none := ⟨h.os, h.tape, h.output, h.size, fun k hk _ => h.block k hk⟩
theorem FcI.below {w : World} {u : Value} {fs : List (List Nat)} {t : List Nat} {d : Int} {W W' : World} (h : FcI w u fs t d W) (hb : Below W.heap.size W W') : FcI w u fs t d W' := h.kept (grown_of_below hb) (fun r e => by cases e)
theorem not_u8 {W : World} {B : Nat} {t e : TypeId} {v : Value} (h : Boxed W B t v) (hne : t ≠ e) : ∀ r cur, some B = some r → W.heap[r]? ≠ some (.cells cur e (0, 0)) := fun r cur hr hc => by
  cases hr
  rw [show W.heap[B]? = _ from h] at hc
  cases hc
  exact hne rfl
/-- The row lies beyond the boxes. -/
theorem row_set {W : World} {B k n p : Nat} {e : TypeId} {v u : Value} {xs : List Value} (h : W.ownsRow B e k v n xs) (hp : p < B) : (W.setCell ⟨p, 0, none⟩ u).ownsRow B e k v n xs := by
  refine ⟨h.1, ?_⟩
  rcases h.2 with h5 | ⟨g, cap', cur, hv, hB, hh, hrest⟩
  · exact .inl h5
  · refine .inr ⟨g, cap', cur, hv, hB, ?_, hrest⟩
    rw [heap_setCell_other W _ g _ (by show g ≠ p; omega)]
    exact hh
theorem FrOk.set {B p : Nat} {W : World} {v u : Value} {l : List Nat} (h : FrOk B W v l) (hp : p < B) : FrOk B (W.setCell ⟨p, 0, none⟩ u) v l := ⟨h.1, row_set h.2 hp⟩
theorem FcI.set3 {w : World} {u : Value} {fs : List (List Nat)} {t : List Nat} {d : Int} {W : World} (h : FcI w u fs t d W) (d' : Int) : FcI w u fs t d' (W.setCell ⟨w.heap.size + 1 + 1 + 1, 0, none⟩ (.int .i64 d')) := by
  obtain ⟨fv, svs, k1, k2, k3, k4⟩ := h.fr
  obtain ⟨tv, k5, k6⟩ := h.tl
  exact ⟨h.b0.other (by omega) _, h.b3.set _, ⟨fv, svs, k1.other (by omega) _, row_set k2 (by omega), k3, fun i v l a b => (k4 i v l a b).set (by omega)⟩, ⟨tv, k5.other (by omega) _, k6.set (by omega)⟩, h.bl.setCell (p := ⟨w.heap.size + 1 + 1 + 1, 0, none⟩) (by show w.heap.size ≤ w.heap.size + 1 + 1 + 1; omega) _, by have := h.sz; have := (KeepsWalks.setCell W ⟨w.heap.size + 1 + 1 + 1, 0, none⟩ (.int .i64 d')).size; omega⟩
theorem FcI.set2 {w : World} {u : Value} {fs : List (List Nat)} {t t' : List Nat} {d : Int} {W : World} {v : Value} (h : FcI w u fs t d W) (hv : FrOk (w.heap.size + 1 + 1 + 1 + 1 + 1) W v t') : FcI w u fs t' d (W.setCell ⟨w.heap.size + 1 + 1, 0, none⟩ v) := by
  obtain ⟨fv, svs, k1, k2, k3, k4⟩ := h.fr
  obtain ⟨tv, k5, k6⟩ := h.tl
  exact ⟨h.b0.other (by omega) _, h.b3.other (by omega) _, ⟨fv, svs, k1.other (by omega) _, row_set k2 (by omega), k3, fun i v l a b => (k4 i v l a b).set (by omega)⟩, ⟨v, k5.set _, hv.set (by omega)⟩, h.bl.setCell (p := ⟨w.heap.size + 1 + 1, 0, none⟩) (by show w.heap.size ≤ w.heap.size + 1 + 1; omega) _, by have := h.sz; have := (KeepsWalks.setCell W ⟨w.heap.size + 1 + 1, 0, none⟩ v).size; omega⟩
/-- The captured box stays. -/
theorem KpF.below {n₀ Bs : Nat} {W W' : World} (hn : n₀ ≤ W.heap.size) (h : Below W.heap.size W W') : KpF n₀ Bs W W' := ⟨h.mono hn, fun o ho _ => (h.block Bs (Array.getElem?_eq_some_iff.1 ho).1).trans ho⟩
theorem KpF.set {n₀ Bs p : Nat} {W : World} (v : Value) (hp : n₀ ≤ p) (hne : p ≠ Bs) : KpF n₀ Bs W (W.setCell ⟨p, 0, none⟩ v) :=
  ⟨(Below.refl n₀ W).setCell (p := ⟨p, 0, none⟩) hp _, fun o ho _ => (heap_setCell_other W ⟨p, 0, none⟩ Bs v (fun e => hne e.symm)).trans ho⟩
theorem own_block {W : World} {B k n : Nat} {e : TypeId} {v : Value} {xs : List Value} (h : W.ownsRow B e k v n xs) : ∀ r, v.ownBlock = some r → B ≤ r ∧ ∃ cur, W.heap[r]? = some (.cells cur e (0, 0)) := by
  intro r hr
  rcases h.2 with ⟨rfl, _⟩ | ⟨g, cap', cur, rfl, hB, hh, _⟩
  · cases hr
  · cases hr
    exact ⟨hB, cur, hh⟩
/-- A frame is put behind. -/
theorem FcI.push {w : World} {u : Value} {fs : List (List Nat)} {t : List Nat} {d : Int} {W : World} (h : FcI w u fs t d W) {fv : Value} {svs : List Value} (k2 : W.ownsRow (w.heap.size + 1 + 1 + 1 + 1 + 1) 26 1 fv svs.length svs) (k1 : Boxed W (w.heap.size + 1) 49 fv) (k3 : FrsOk (w.heap.size + 1 + 1 + 1 + 1 + 1) W svs fs)
    {sv : Value} {f : List Nat} (hf : FrOk (w.heap.size + 1 + 1 + 1 + 1 + 1) W sv f) {v' : Value} {w3 : World} (ho : w3.ownsRow (w.heap.size + 1 + 1 + 1 + 1 + 1) 26 1 v' (svs.length + 1) (svs ++ [sv])) (hg : W.grownBy w3 fv.ownBlock) :
    FcI w u (fs ++ [f]) t d (w3.setCell ⟨w.heap.size + 1, 0, none⟩ v') ∧ KeepsOthers W (w3.setCell ⟨w.heap.size + 1, 0, none⟩ v') ∧ KpF w.heap.size (w.heap.size + 1 + 1 + 1 + 1) W (w3.setCell ⟨w.heap.size + 1, 0, none⟩ v') := by
  have hob := own_block k2
  have box : ∀ {B : Nat} {e : TypeId} {x : Value}, B < w.heap.size + 1 + 1 + 1 + 1 + 1 → Boxed W B e x → Boxed w3 B e x := fun hB hx => hx.kept hg (fun e => by have := (hob _ e.symm).1; omega)
  have hfr : ∀ {v : Value} {l : List Nat}, FrOk (w.heap.size + 1 + 1 + 1 + 1 + 1) W v l → FrOk (w.heap.size + 1 + 1 + 1 + 1 + 1) w3 v l := fun hv => hv.kept hg (fun r cur hr hc => by
    obtain ⟨cur2, h2⟩ := (hob r hr).2
    rw [h2] at hc
    cases hc)
  obtain ⟨tv, k5, k6⟩ := h.tl
  have hko : KeepsOthers W w3 := KeepsOthers.of_grownBy hg (fun j o e ho => by
    obtain ⟨cur2, h2⟩ := (hob j e).2
    rw [h2] at ho
    cases ho
    rfl)
  have hbl : Below w.heap.size W w3 := (Below.refl _ W).grown hg h.bl.size (fun k e => by have := (hob k e).1; omega)
  have hs3 : w.heap.size + 1 + 1 + 1 + 1 + 1 ≤ w3.heap.size := Nat.le_trans h.sz hg.size
  refine ⟨⟨(box (by omega) h.b0).other (by omega) _, (box (by omega) h.b3).other (by omega) _, ⟨v', svs ++ [sv], (box (by omega) k1).set _, by rw [List.length_append]; exact row_set ho (by omega), by rw [List.length_append, List.length_append, k3.1]; rfl, fun i v l a b => ?_⟩, ⟨tv, (box (by omega) k5).other (by omega) _, (hfr k6).set (by omega)⟩,
    (h.bl.trans hbl).setCell (p := ⟨w.heap.size + 1, 0, none⟩) (by show w.heap.size ≤ w.heap.size + 1; omega) _, Nat.le_trans hs3 (KeepsWalks.setCell w3 ⟨w.heap.size + 1, 0, none⟩ v').size⟩, hko.trans (KeepsOthers.setCell _ _ _), ?_⟩
  · refine (hfr ?_).set (by omega)
    by_cases hi : i < svs.length
    · rw [List.getElem?_append_left hi] at a
      rw [List.getElem?_append_left (by rw [← k3.1]; exact hi)] at b
      exact k3.2 i v l a b
    · have e1 : i = svs.length := by
        have := (List.getElem?_eq_some_iff.1 a).1
        simp at this
        omega
      subst e1
      rw [List.getElem?_append_right (Nat.le_refl _), Nat.sub_self] at a
      rw [k3.1, List.getElem?_append_right (Nat.le_refl _), Nat.sub_self] at b
      simp at a b
      subst a b
      exact hf
  · refine KpF.trans ⟨hbl, fun o ho hc => ?_⟩ (KpF.set _ (by omega) (by omega))
    have hlt := (Array.getElem?_eq_some_iff.1 ho).1
    rw [hg.block _ hlt (fun e => by have := (hob _ e.symm).1; omega)]
    exact ho
theorem infoSl : (Try.prog.info? 26).map (fun i => (i.zero, i.size, i.bytes)) = some (some (.slice none 0 0), 1, 24) := by kernel_rfl
/-- The box of the part. -/
def PBox {n : Nat} (W : World) (B : Nat) (x : EvN n) : Prop := W.heap[B]? = some (.cells #[.int .i64 x.1.1, .int .i64 x.1.2.1] 75 (0, 0))
theorem lt_of_block' {W : World} {b : Nat} {o : Obj} (h : W.heap[b]? = some o) : b < W.heap.size := (Array.getElem?_eq_some_iff.1 h).1
set_option maxRecDepth 100000 in
set_option maxHeartbeats 4000000 in
theorem frames_in (w : World) (x : Option Addr) (b off cap : Nat) (bs : List Nat) (hlen : bs.length ≤ 1000000) (h8 : ∀ c ∈ bs, c < 256) (hrow : NRow .u8 w x bs.length cap bs) (hx : bs ≠ [] → x = some ⟨b, off, none⟩ ∧ b < w.heap.size ∧ ∀ j c, bs[j]? = some c → w.cell? ⟨b, off + j, none⟩ = some (.int .u8 (c : Nat))) :
    CallsIn Fence.wide 9 Try.prog 20 #[.slice x bs.length cap] w fun e W' => ∃ (ys : List (EvN bs.length)) (fv tv : Value) (svs : List Value), ys.map Subtype.val = evs 0 none bs ∧ e = .returned (.tuple #[fv, tv, .int .i64 (dmOf ys)]) ∧
      W'.ownsRow (w.heap.size + 1 + 1 + 1 + 1 + 1) 26 1 fv svs.length svs ∧ FrsOk (w.heap.size + 1 + 1 + 1 + 1 + 1) W' svs (frsOf bs ys) ∧ FrOk (w.heap.size + 1 + 1 + 1 + 1 + 1) W' tv (tlOf bs ys) ∧ Below w.heap.size w W' := by
  have h1 : 1 ≤ 9 := by omega
  have mixed : Try.prog.follows .mixedOrders = true := by kernel_rfl
  have hro : Fence.wide.round = none := rfl
  obtain ⟨u, hu⟩ : ∃ u : Value, u = .slice x bs.length cap := ⟨_, rfl⟩
  refine callsIn_of_wp_marks Try.func20 rfl trivial ?_ hro
  simp only [Try.ntmps20, List.size_toArray, List.length_cons, List.length_nil, Nat.reduceAdd, Nat.reduceSub, Array.replicate_succ, Array.replicate_zero, List.push_toArray, List.append_toArray, List.nil_append, List.cons_append]
  gi_wp2_with (refine ⟨trivial, ?_⟩; gi_at_call 38; refine (callsIn_wide.2 (frames_call _ _ _ _)).mono ?_; rintro e w' ⟨rfl, rfl⟩)
  rw [← hu]
  have b0 := Boxed.new w 26 u
  have b1 := Boxed.new (w.alloc (.cells #[u] 26)) 49 (.slice none 0 0)
  have b2 := Boxed.new ((w.alloc (.cells #[u] 26)).alloc (.cells #[.slice none 0 0] 49)) 26 (.slice none 0 0)
  have b3 := Boxed.new (((w.alloc (.cells #[u] 26)).alloc (.cells #[.slice none 0 0] 49)).alloc (.cells #[.slice none 0 0] 26)) 3 (.int .i64 bs.length)
  have b4 := Boxed.new ((((w.alloc (.cells #[u] 26)).alloc (.cells #[.slice none 0 0] 49)).alloc (.cells #[.slice none 0 0] 26)).alloc (.cells #[.int .i64 bs.length] 3)) 26 u
  obtain ⟨W0, hW0⟩ : ∃ W0, W0 = ((((w.alloc (.cells #[u] 26)).alloc (.cells #[.slice none 0 0] 49)).alloc (.cells #[.slice none 0 0] 26)).alloc (.cells #[.int .i64 bs.length] 3)).alloc (.cells #[u] 26) := ⟨_, rfl⟩
  have c0 : Boxed W0 w.heap.size 26 u := by rw [hW0]; exact (((b0.alloc _).alloc _).alloc _).alloc _
  have c1 : Boxed W0 (w.heap.size + 1) 49 (.slice none 0 0) := by rw [hW0]; simpa only [World.size_alloc] using ((b1.alloc _).alloc _).alloc _
  have c2 : Boxed W0 (w.heap.size + 1 + 1) 26 (.slice none 0 0) := by rw [hW0]; simpa only [World.size_alloc] using (b2.alloc _).alloc _
  have c3 : Boxed W0 (w.heap.size + 1 + 1 + 1) 3 (.int .i64 bs.length) := by rw [hW0]; simpa only [World.size_alloc] using b3.alloc _
  have c4 : Boxed W0 (w.heap.size + 1 + 1 + 1 + 1) 26 u := by rw [hW0]; simpa only [World.size_alloc] using b4
  have hsz : W0.heap.size = w.heap.size + 1 + 1 + 1 + 1 + 1 := by rw [hW0]; simp only [World.size_alloc]
  have hB0 : Below w.heap.size w W0 := by rw [hW0]; exact ((((((Below.refl _ w).alloc (Nat.le_refl _) _).alloc (by simp) _).alloc (by simp; omega) _).alloc (by simp; omega) _).alloc (by simp; omega) _)
  rw [← hW0]
  clear b0 b1 b2 b3 b4
  have hd0 : dmOf ([] : List (EvN bs.length)) = bs.length := by simp [dmOf]
  have hinv : FcInv w u (n := bs.length) bs [] W0 := ⟨c0, by rw [hd0]; exact c3, ⟨_, [], c1, World.ownsRow_nil _ _ _ _, rfl, by simp⟩, ⟨_, c2, ⟨none, 0, rfl⟩, World.ownsRow_nil _ _ _ _⟩, hB0, by omega⟩
  refine wpIn_rangeFunc_ownH hro h1 (gf := 62) (lb := #[.pointer (some ⟨w.heap.size + 1 + 1 + 1 + 1, 0, none⟩)]) rfl trivial (enters_of Try.func62 (by kernel_rfl) rfl)
    (frames_stops Fence.wide 8 trivial rfl (by omega) (w.heap.size + 1 + 1 + 1 + 1) w.heap.size x b off cap bs hlen h8 W0 (by omega) (by rw [← hu]; exact c4) (fun hne => ⟨(hx hne).1, (hx hne).2.1, fun j c hj => (hB0.cell (p := ⟨b, off + j, none⟩) (hx hne).2.1).trans ((hx hne).2.2 j c hj)⟩))
    (fun h k => h.trans k) (fun W l o o' hl h h1 h2 => KpF.put (by omega) (by omega) W l o o' hl h h1 h2) (Below.refl _ _) (fun _ => rfl)
    (fun pre W => FcInv w u bs pre W)
    (fun _ _ _ => False)
    (fun pre A B row hs hg hr => hs.kept hg (fun r e => ⟨by have := (hr r e).1; omega, (hr r e).2⟩))
    (fun _ _ _ _ _ hs _ _ => hs)
    hinv
    (fun x a' W => ∃ Bx, w.heap.size + 1 + 1 + 1 + 1 < Bx ∧ PBox W Bx x ∧ a' = { tmps := #[u, .pointer (some ⟨w.heap.size, 0, none⟩), .slice none 0 0, .slice none 0 0, .int .i64 0, .pointer (some ⟨w.heap.size + 1, 0, none⟩), .pointer (some ⟨w.heap.size + 1 + 1, 0, none⟩), .pointer (some ⟨w.heap.size + 1 + 1 + 1, 0, none⟩), .pointer (some ⟨Bx, 0, none⟩), .bool x.1.2.2, u, .int .i64 bs.length, u, .func (.func 62) #[] #[.pointer (some ⟨w.heap.size + 1 + 1 + 1 + 1, 0, none⟩)], .agg #[.int .i64 x.1.1, .int .i64 x.1.2.1], .bool x.1.2.2, undef, undef, undef, undef, undef, undef, undef, undef, undef, undef, undef, undef, undef, undef, undef, undef, undef, undef, undef, undef, undef, undef, undef, undef, undef, undef, undef, undef], defers := [] })
    (fun x a' _ X Y row hs hg hr => by
      obtain ⟨Bx, k1, k2, k3⟩ := hs
      refine ⟨Bx, k1, ?_, k3⟩
      unfold PBox at k2 ⊢
      rw [hg.block Bx (lt_of_block k2) (fun e => ?_)]
      · exact k2
      · obtain ⟨o, ho, hoc⟩ := (hr Bx e.symm).2
        rw [k2] at ho
        cases ho
        cases hoc)
    ?assign ?body ?done ?stop
  case assign =>
    rintro l pre x W K hI hK
    unfold encEv
    gi_wp2
    refine hK _ _ ((KeepsOthers.alloc _ _).from _) ⟨(Below.refl _ W).alloc hI.bl.size _, fun o ho hc => (Below.heap_alloc W _ _ (lt_of_block' ho)).trans ho⟩ (hI.kept (World.grownBy_alloc W _ none) (fun r e => by cases e)) ⟨W.heap.size, by have := hI.sz; omega, World.alloc_heap_new W _, by rw [hu]⟩
  case body =>
    rintro l pre ⟨⟨fr, to, wh⟩, hx1, hx2⟩ a' W hl ⟨r, hr⟩ hI ⟨Bx, hBx, bX, rfl⟩ hlt
    unfold PBox at bX
    dsimp only at hx1 hx2 bX
    obtain ⟨rfl, hb, hcs⟩ := hx (fun e => by rw [e] at hx2; simp at hx2; omega)
    have cX0 : W.cell? ⟨Bx, 0, none⟩ = some (.int .i64 (fr : Nat)) := by rw [cell_of_row W Bx 0 _ _ (0, 0) bX]; rfl
    have cX1 : W.cell? ⟨Bx, 1, none⟩ = some (.int .i64 (to : Nat)) := by rw [cell_of_row W Bx 1 _ _ (0, 0) bX]; rfl
    have cD := hI.b3.cell
    have fD := hI.b3.frozen
    have c0' := hI.b0.cell
    have hdm := dmOf_bd pre
    obtain ⟨dm, hdmv⟩ : ∃ dm, dmOf pre = dm := ⟨_, rfl⟩
    have hbd : -10000000000000 ≤ dm ∧ dm ≤ 10000000000000 := by
      have h5 : (pre.length : Int) * bs.length ≤ 1000000 * 1000000 := Int.mul_le_mul (by omega) (by omega) (by omega) (by omega)
      rw [← hdmv]
      unfold dmOf
      omega
    have hw1 : IntKind.i64.wrap ((to : Int) - fr) = (to : Int) - fr := by rw [IntKind.wrap_i64]; omega
    have hw2 : IntKind.i64.wrap (dm - ((to : Int) - fr)) = dm - ((to : Int) - fr) := by rw [IntKind.wrap_i64]; omega
    rw [hdmv] at cD
    have n1 : ¬ Bx = w.heap.size + 1 + 1 + 1 := by omega
    have n2 : ¬ Bx = w.heap.size + 1 + 1 := by omega
    have n3 : ¬ Bx = w.heap.size + 1 := by omega
    have n4 : ¬ Bx = w.heap.size := by omega
    have hcap : bs.length ≤ cap := hrow.le
    have hcm : cap ≤ maxLen := hrow.capLe
    have g1 : to ≤ cap := by omega
    have g2 : fr ≤ to := by omega
    have g3 : ¬ cap = fr := by omega
    obtain ⟨v3, hv3⟩ : ∃ v3 : Int, v3 = dm - ((to : Int) - fr) := ⟨_, rfl⟩
    have hI1 : FcI w u (frsOf bs pre) (tlOf bs pre) v3 (W.setCell ⟨w.heap.size + 1 + 1 + 1, 0, none⟩ (.int .i64 v3)) := hI.set3 v3
    have hlen2 : (evB bs (⟨(fr, to, true), hx1, hx2⟩ : EvN bs.length)).length = to - fr := by unfold evB; simp; omega
    have hevb : evB bs (⟨(fr, to, true), hx1, hx2⟩ : EvN bs.length) = (bs.take to).drop fr := rfl
    rw [hevb] at hlen2
    have hN : NRow .u8 (W.setCell ⟨w.heap.size + 1 + 1 + 1, 0, none⟩ (.int .i64 v3)) (some ⟨b, off + fr, none⟩) (to - fr) (cap - fr) ((bs.take to).drop fr) := by
      refine ⟨by omega, by omega, by rw [nats_length, hlen2]; omega, (fun e => by cases e), .inr ⟨b, off + fr, rfl, by have := hI1.bl.size; omega, fun j v hj => ?_⟩⟩
      unfold nats at hj
      rw [List.getElem?_map] at hj
      cases hc : ((bs.take to).drop fr)[j]? with
      | none => rw [hc] at hj; cases hj
      | some c =>
        rw [hc] at hj
        cases hj
        rw [List.getElem?_drop, List.getElem?_take] at hc
        split at hc
        · show (W.setCell ⟨w.heap.size + 1 + 1 + 1, 0, none⟩ (.int .i64 v3)).cell? ⟨b, off + fr + j, none⟩ = _
          rw [show off + fr + j = off + (fr + j) by omega]
          exact (hI1.bl.cell (p := ⟨b, off + (fr + j), none⟩) hb).trans (hcs _ _ hc)
        · cases hc
    have hclone := clone_call hN (by omega)
    have hkp1 : KpF w.heap.size (w.heap.size + 1 + 1 + 1 + 1) W (W.setCell ⟨w.heap.size + 1 + 1 + 1, 0, none⟩ (.int .i64 v3)) := KpF.set _ (by omega) (by omega)
    have hko1 := KeepsOthers.setCell W ⟨w.heap.size + 1 + 1 + 1, 0, none⟩ (.int .i64 v3)
    obtain ⟨W1, hW1⟩ : ∃ W1, W1 = W.setCell ⟨w.heap.size + 1 + 1 + 1, 0, none⟩ (.int .i64 v3) := ⟨_, rfl⟩
    cases wh with
    | true =>
      obtain ⟨fv, svs, k1, k2, k3⟩ := hI1.fr
      rw [← hW1] at hclone hI1 hkp1 hko1 k1 k2 k3
      obtain ⟨i0, hi0, hz0, hz1, hz2⟩ := info_parts infoSl
      have hsl : svs.length ≤ 1000001 := by rw [k3.1]; unfold frsOf; rw [List.length_map]; have := List.length_filter_le (fun x : EvN bs.length => x.1.2.2) pre; omega
      have hI1d : FcI w u (frsOf bs pre) (tlOf bs pre) v3 W1.drew := hI1.kept (World.grownBy_drew W1) (fun r e => by cases e)
      have hcd := clone_call (w := W1.drew) (x := some ⟨b, off + fr, none⟩) (n := to - fr) (cap := cap - fr) (l := (bs.take to).drop fr) (by rw [hW1]; exact hN.later ⟨rfl, rfl, rfl, Nat.le_refl _, fun _ _ => rfl⟩) (by omega)
      have k1d : Boxed W1.drew (w.heap.size + 1) 49 fv := k1
      have k1c := k1d.cell
      have hd0 : W1.drew.cell? ⟨w.heap.size, 0, none⟩ = some u := hI1d.b0.cell
      have hdX0 : W1.drew.cell? ⟨Bx, 0, none⟩ = some (.int .i64 (fr : Nat)) := by rw [hW1]; exact (World.cell?_setCell_other _ _ _ _ (by simp [n1]; try omega)).trans cX0
      have hdX1 : W1.drew.cell? ⟨Bx, 1, none⟩ = some (.int .i64 (to : Nat)) := by rw [hW1]; exact (World.cell?_setCell_other _ _ _ _ (by simp [n1]; try omega)).trans cX1
      rw [hv3] at hW1
      rw [hu] at hd0
      have q1 : W1.cell? ⟨w.heap.size + 1, 0, none⟩ = some fv := k1.cell
      have q2 : W1.cell? ⟨w.heap.size, 0, none⟩ = some (.slice (some ⟨b, off, none⟩) bs.length cap) := hd0
      have q3 : W1.cell? ⟨Bx, 0, none⟩ = some (.int .i64 (fr : Nat)) := hdX0
      have q4 : W1.cell? ⟨Bx, 1, none⟩ = some (.int .i64 (to : Nat)) := hdX1
      gi_wp2
      rw [← hW1]
      clear hW1
      refine wpIn_region_round (by kernel_rfl) mixed ?_
      change wpAny _ _ _ _ _ _ _ (World.drew _)
      have hno : ∀ Q : Exit → Act → World → Prop, ¬ LetsOut (noOut Q) := noOut_out
      refine wpAny_take (i := 2) (v := .pointer (some ⟨Bx, 0, none⟩)) rfl (by kernel_rfl) (by kernel_rfl) (by kernel_rfl) (fun _ _ _ h => h) (Or.inl ⟨by rfl, by intro w; go_simp⟩) ?_
      refine wpAny_take (i := 4) (v := .pointer (some ⟨Bx, 1, none⟩)) rfl (by kernel_rfl) (by kernel_rfl) (by kernel_rfl) (fun _ _ _ h => h) (Or.inl ⟨by rfl, by intro w; go_simp⟩) ?_
      refine wpAny_still [0, 1, 3, 5] [1, 6, 7, 8, 9, 10] 1 (fun | 0 => fv | 1 => .slice (some ⟨b, off, none⟩) bs.length cap | 3 => .int .i64 (fr : Nat) | _ => .int .i64 (to : Nat)) (hno _) rfl (by kernel_rfl) (by kernel_rfl) (by intro j hj hl oj hoj; simp only [List.mem_cons, List.not_mem_nil, or_false] at hj; rcases hj with rfl | rfl | rfl | rfl <;> cases hoj <;> exact ⟨by rfl, by go_simp⟩) ?_
      refine wpAny_still [0, 3, 5] [3, 6, 7, 8, 9, 10] 3 (fun | 0 => fv | 3 => .int .i64 (fr : Nat) | _ => .int .i64 (to : Nat)) (hno _) rfl (by kernel_rfl) (by kernel_rfl) (by intro j hj hl oj hoj; simp only [List.mem_cons, List.not_mem_nil, or_false] at hj; rcases hj with rfl | rfl | rfl <;> cases hoj <;> exact ⟨by rfl, by go_simp⟩) ?_
      refine wpAny_still [0, 5] [5, 6, 7, 8, 9, 10] 5 (fun | 0 => fv | _ => .int .i64 (to : Nat)) (hno _) rfl (by kernel_rfl) (by kernel_rfl) (by intro j hj hl oj hoj; simp only [List.mem_cons, List.not_mem_nil, or_false] at hj; rcases hj with rfl | rfl <;> cases hoj <;> exact ⟨by rfl, by go_simp⟩) ?_
      refine wpAny_take (i := 6) (v := .slice (some ⟨b, off + fr, none⟩) (to - fr) (cap - fr)) rfl (by kernel_rfl) (by kernel_rfl) (by kernel_rfl) (fun _ _ _ h => h) (Or.inl ⟨by rfl, by intro w; go_simp⟩) ?_
      have hkd : KpF w.heap.size (w.heap.size + 1 + 1 + 1 + 1) W1 W1.drew := KpF.below hI1.bl.size ((Below.refl _ W1).grown (World.grownBy_drew W1) (Nat.le_refl _) (fun k e => by cases e))
      have post : ∀ y c w2, Own w2 W1.drew.heap.size 5 1 y (to - fr) c (nats .u8 ((bs.take to).drop fr)) → Below W1.drew.heap.size W1.drew w2 →
          ∃ g cap' w3, (Builtin.append_ #[49, 49] 49 #[fv, .slice (some ⟨w2.heap.size, 0, none⟩) 1 1]).run Try.prog (w2.alloc (.cells #[.slice y (to - fr) c] 26)) = .ok (.slice (some ⟨g, 0, none⟩) (svs.length + 1) cap') w3 ∧ Boxed w2 (w.heap.size + 1) 49 fv ∧ Boxed w3 (w.heap.size + 1) 49 fv ∧
            (KeepsFrom W0.heap.size W (w3.setCell ⟨w.heap.size + 1, 0, none⟩ (.slice (some ⟨g, 0, none⟩) (svs.length + 1) cap')) ∧ KpF w.heap.size (w.heap.size + 1 + 1 + 1 + 1) W (w3.setCell ⟨w.heap.size + 1, 0, none⟩ (.slice (some ⟨g, 0, none⟩) (svs.length + 1) cap')) ∧ FcInv w u bs (pre ++ [⟨(fr, to, true), hx1, hx2⟩]) (w3.setCell ⟨w.heap.size + 1, 0, none⟩ (.slice (some ⟨g, 0, none⟩) (svs.length + 1) cap'))) := by
        intro y c w2 hown hbel
        have t3 : Boxed w2 (w.heap.size + 1) 49 fv := (hbel.block _ k1d.lt).trans k1d
        have ga := World.grownBy_alloc w2 (.cells #[.slice y (to - fr) c] 26) none
        have k2b : (w2.alloc (.cells #[.slice y (to - fr) c] 26)).ownsRow (w.heap.size + 1 + 1 + 1 + 1 + 1) 26 1 fv svs.length svs := row_kept (row_kept (W := W1.drew) k2 (grown_of_below hbel) (fun r cur e => by cases e)) ga (fun r cur e => by cases e)
        obtain ⟨v', w3, hrun, ho3, hg3, _⟩ := run_append_own (P := Try.prog) (w := (w2.alloc (.cells #[.slice y (to - fr) c] 26))) (w.heap.size + 1 + 1 + 1 + 1 + 1) 49 49 26 i0 _ 1 24 Try.underlying49 hi0 hz0 hz1 hz2 rfl (by omega) fv svs.length svs k2b ⟨w2.heap.size, 0, none⟩ 1 1 [.slice y (to - fr) c] rfl (cell_one_new _ _ _) (by simp [Value.oneCell']) (by unfold maxLen; omega) (by omega) (by have := hI1d.sz; have := hbel.size; simp; omega)
        have r1 : Boxed w3 (w.heap.size + 1) 49 fv := (t3.alloc _).kept hg3 (fun e => by have := (own_block k2b _ e.symm).1; omega)
        have hIa : FcI w u (frsOf bs pre) (tlOf bs pre) v3 (w2.alloc (.cells #[.slice y (to - fr) c] 26)) := (hI1d.below hbel).kept ga (fun r e => by cases e)
        have hfo : FrOk (w.heap.size + 1 + 1 + 1 + 1 + 1) (w2.alloc (.cells #[.slice y (to - fr) c] 26)) (.slice y (to - fr) c) ((bs.take to).drop fr) := FrOk.kept (W := w2) ⟨⟨y, c, by rw [hlen2]⟩, by rw [hlen2]; exact hown.mono hI1d.sz⟩ ga (fun r cur e => by cases e)
        have k3d : FrsOk (w.heap.size + 1 + 1 + 1 + 1 + 1) (w2.alloc (.cells #[.slice y (to - fr) c] 26)) svs (frsOf bs pre) := ⟨k3.1, fun i v l a b => (FrOk.kept (W := W1.drew) (k3.2 i v l a b) (grown_of_below hbel) (fun r cur e => by cases e)).kept ga (fun r cur e => by cases e)⟩
        obtain ⟨p1, p2, p3⟩ := hIa.push k2b (t3.alloc _) k3d hfo ho3 hg3
        obtain ⟨g, cap', rfl⟩ := ownsRow_succ ho3
        have kd : KeepsOthers W1 W1.drew := KeepsOthers.of_grownBy (World.grownBy_drew W1) (fun j o e => by cases e)
        have kb : KeepsOthers W1.drew w2 := KeepsOthers.of_grownBy (grown_of_below hbel) (fun j o e => by cases e)
        have ka : KeepsOthers w2 (w2.alloc (.cells #[.slice y (to - fr) c] 26)) := KeepsOthers.of_grownBy ga (fun j o e => by cases e)
        have hn2 : w.heap.size ≤ w2.heap.size := (hI1d.below hbel).bl.size
        refine ⟨g, cap', w3, hrun, t3, r1, ((((hko1.trans kd).trans kb).trans ka).trans p2).from _, (((hkp1.trans hkd).trans (KpF.below hI1d.bl.size hbel)).trans (KpF.below hn2 ((Below.refl _ w2).alloc (Nat.le_refl _) _))).trans p3, ?_⟩
        show FcI w u _ _ _ _
        rw [frsOf_snoc, tlOf_snoc, dmOf_snoc, hdmv]
        dsimp only
        rw [← hv3]
        exact p1
      clear hkd
      refine wpAny_two (i := 0) (j := 7) (by kernel_rfl) ?_ ?_
      · refine wpOp_value (v := fv) (w' := World.drew W1) rfl (by rfl) (by go_simp) ?_
        refine wpAny_one (i := 7) (by kernel_rfl) ?_
        refine wpOp_enter (args := #[.slice (some ⟨b, off + fr, none⟩) (to - fr) (cap - fr)]) (w' := World.drew W1) rfl (by rfl) (by go_simp) hcd ?_
        rintro e w2 ⟨y, c, rfl, hown, hbel⟩
        obtain ⟨g, cap', w3, hrun, t3, r1, hpost⟩ := post y c w2 hown hbel
        refine ⟨_, rfl, ?_⟩
        have e1 := r1.cell
        have e2 := r1.frozen
        refine wpAny_one (i := 8) (by kernel_rfl) ?_
        refine wpOp_value (v := .slice (some ⟨w2.heap.size, 0, none⟩) 1 1) (w' := w2.alloc (.cells #[.slice y (to - fr) c] 26)) rfl (by rfl) (by go_simp) ?_
        refine wpAny_one (i := 9) (by kernel_rfl) ?_
        refine wpOp_value (v := (.slice (some ⟨g, 0, none⟩) (svs.length + 1) cap')) (w' := w3) rfl (by rfl) ?_ ?_
        · refine run_exec_append ?_ ?_ hrun
          · go_simp
          · go_simp
        refine wpAny_one (i := 10) (by kernel_rfl) ?_
        refine wpOp_skip (w' := w3.setCell ⟨w.heap.size + 1, 0, none⟩ (.slice (some ⟨g, 0, none⟩) (svs.length + 1) cap')) rfl (by rfl) (by go_simp) ?_
        refine wpAny_done (by kernel_rfl) ?_ _
        exact hpost
      · refine wpOp_enter (args := #[.slice (some ⟨b, off + fr, none⟩) (to - fr) (cap - fr)]) (w' := World.drew W1) rfl (by rfl) (by go_simp) hcd ?_
        rintro e w2 ⟨y, c, rfl, hown, hbel⟩
        obtain ⟨g, cap', w3, hrun, t3, r1, hpost⟩ := post y c w2 hown hbel
        refine ⟨_, rfl, ?_⟩
        have e0 := t3.cell
        have e01 := (t3.alloc (.cells #[.slice y (to - fr) c] 26)).cell
        have e1 := r1.cell
        have e2 := r1.frozen
        refine wpAny_two (i := 0) (j := 8) (by kernel_rfl) ?_ ?_
        · refine wpOp_value (v := fv) (w' := w2) rfl (by rfl) (by go_simp) ?_
          refine wpAny_one (i := 8) (by kernel_rfl) ?_
          refine wpOp_value (v := .slice (some ⟨w2.heap.size, 0, none⟩) 1 1) (w' := w2.alloc (.cells #[.slice y (to - fr) c] 26)) rfl (by rfl) (by go_simp) ?_
          refine wpAny_one (i := 9) (by kernel_rfl) ?_
          refine wpOp_value (v := (.slice (some ⟨g, 0, none⟩) (svs.length + 1) cap')) (w' := w3) rfl (by rfl) ?_ ?_
          · refine run_exec_append ?_ ?_ hrun
            · go_simp
            · go_simp
          refine wpAny_one (i := 10) (by kernel_rfl) ?_
          refine wpOp_skip (w' := w3.setCell ⟨w.heap.size + 1, 0, none⟩ (.slice (some ⟨g, 0, none⟩) (svs.length + 1) cap')) rfl (by rfl) (by go_simp) ?_
          refine wpAny_done (by kernel_rfl) ?_ _
          exact hpost
        · refine wpOp_value (v := .slice (some ⟨w2.heap.size, 0, none⟩) 1 1) (w' := w2.alloc (.cells #[.slice y (to - fr) c] 26)) rfl (by rfl) (by go_simp) ?_
          refine wpAny_one (i := 0) (by kernel_rfl) ?_
          refine wpOp_value (v := fv) (w' := w2.alloc (.cells #[.slice y (to - fr) c] 26)) rfl (by rfl) (by go_simp) ?_
          refine wpAny_one (i := 9) (by kernel_rfl) ?_
          refine wpOp_value (v := (.slice (some ⟨g, 0, none⟩) (svs.length + 1) cap')) (w' := w3) rfl (by rfl) ?_ ?_
          · refine run_exec_append ?_ ?_ hrun
            · go_simp
            · go_simp
          refine wpAny_one (i := 10) (by kernel_rfl) ?_
          refine wpOp_skip (w' := w3.setCell ⟨w.heap.size + 1, 0, none⟩ (.slice (some ⟨g, 0, none⟩) (svs.length + 1) cap')) rfl (by rfl) (by go_simp) ?_
          refine wpAny_done (by kernel_rfl) ?_ _
          exact hpost
    | false =>
      obtain ⟨tv, t1, t2⟩ := hI1.tl
      rw [← hW1] at hclone hI1 hkp1 hko1 t1
      rw [hv3] at hW1
      gi_wp2_with (refine ⟨trivial, ?_⟩; rw [← hW1]; gi_at_call 39; refine (CallsIn.inRound l (callsIn_wide.2 hclone)).mono ?_; rintro e w2 ⟨y, c, rfl, hown, hbel⟩; have t3 : Boxed w2 (w.heap.size + 1 + 1) 26 tv := (hbel.block _ t1.lt).trans t1; have t4 := t3.cell; have t5 := t3.frozen)
      have hI2 := hI1.below hbel
      have hfo : FrOk (w.heap.size + 1 + 1 + 1 + 1 + 1) w2 (.slice y (to - fr) c) ((bs.take to).drop fr) := ⟨⟨y, c, by rw [hlen2]⟩, by rw [hlen2]; exact hown.mono hI1.sz⟩
      have hI3 := hI2.set2 hfo
      refine ⟨((hko1.trans (KeepsOthers.of_grownBy (grown_of_below hbel) (fun j o e => by cases e))).trans (KeepsOthers.setCell _ _ _)).from _, hkp1.trans ((KpF.below hI1.bl.size hbel).trans (KpF.set _ (by omega) (by omega))), ?_⟩
      show FcI w u _ _ _ _
      rw [frsOf_snoc, tlOf_snoc, dmOf_snoc, hdmv]
      dsimp only
      rw [← hv3]
      exact hI3
  case done =>
    rintro D ys W hD hys hI hK
    obtain ⟨fv, svs, k1, k2, k3⟩ := hI.fr
    obtain ⟨tv, k4, k5⟩ := hI.tl
    have e1 := k1.cell
    have e2 := k4.cell
    have e3 := hI.b3.cell
    gi_wp2
    refine wpIn_wide.2 ?_
    go_region
    gi_wp2
    have hId : FcI w u (frsOf bs ys) (tlOf bs ys) (dmOf ys) W.drew := hI.kept (World.grownBy_drew W) (fun r e => by cases e)
    have hKd : W.drew.heap[D]? = some (.deferred (some [])) := hK
    have hg := grownBy_putObj' W.drew D (.deferred none)
    have hnc : ∀ r, some D = some r → ∃ o : Obj, W.drew.heap[r]? = some o ∧ o.isCells = false := fun r e => by cases e; exact ⟨_, hKd, rfl⟩
    refine ⟨by simp, .inl ⟨_, _, rfl, run_takeDeferred hKd, ?_⟩⟩
    refine ⟨_, results_tmp3 rfl _ _ _, ys, fv, tv, svs, hys, rfl, row_kept (W := W.drew) k2 hg (not_cells hnc), ⟨k3.1, fun i v l a b => ((k3.2 i v l a b).kept (World.grownBy_drew W) (fun r cur e => by cases e)).kept hg (not_cells hnc)⟩, (k5.kept (World.grownBy_drew W) (fun r cur e => by cases e)).kept hg (not_cells hnc), ?_⟩
    exact (hId.kept hg (fun r e => by cases e; exact ⟨by omega, _, hKd, rfl⟩)).bl
  case stop =>
    rintro D c pre W _ _ h _
    exact h.elim
end Go.Proofs.Ytopmmodcaoaaeaa
namespace Go.Proofs.Ytopmmodcaoaaeaa
open Go.RowKit Sy
set_option linter.unusedVariables false
set_option linter.unusedSimpArgs false
/-- The parts that are whole; the last one that is not; how many bytes are in neither. -/
def frsE (bs : List Nat) (es : List Ev) : List (List Nat) := (es.filter fun e => e.2.2).map fun e => (bs.take e.2.1).drop e.1
def tlE (bs : List Nat) (es : List Ev) : List Nat := es.foldl (fun t e => if e.2.2 then t else (bs.take e.2.1).drop e.1) []
def dmE (n : Nat) (es : List Ev) : Int := (n : Int) - (es.map fun e => (e.2.1 : Int) - e.1).sum
theorem frsE_eq {n : Nat} (bs : List Nat) : ∀ ys : List (EvN n), frsOf bs ys = frsE bs (ys.map Subtype.val)
  | [] => rfl
  | y :: r => by
    have ih := frsE_eq bs r
    unfold frsOf frsE at ih ⊢
    rw [List.map_cons, List.filter_cons, List.filter_cons]
    split
    · rw [List.map_cons, List.map_cons, ih]; rfl
    · exact ih
theorem tlE_eq {n : Nat} (bs : List Nat) (ys : List (EvN n)) : tlOf bs ys = tlE bs (ys.map Subtype.val) := by
  unfold tlOf tlE
  rw [List.foldl_map]
  rfl
theorem dmE_eq {n : Nat} (ys : List (EvN n)) : dmOf ys = dmE n (ys.map Subtype.val) := by
  unfold dmOf dmE
  rw [List.map_map]
  rfl
/-- What Frames returns. -/
def frV (bs : List Nat) : List (List Nat) := frsE bs (evs 0 none bs)
def tlV (bs : List Nat) : List Nat := tlE bs (evs 0 none bs)
def dmV (bs : List Nat) : Int := dmE bs.length (evs 0 none bs)
theorem seg_own {F : Nat → Prop} {w : World} {B e s n cap : Nat} {x : Option Addr} {cells : List Value} (h : w.ownsRow B e s (.slice x n cap) n cells) (hF : ∀ b, B ≤ b → b < w.heap.size → F b) : Seg F w x n cap s cells := by
  refine Seg.of_own (e := e) ⟨h.1, h.2.imp id fun ⟨g, cap, cur, h1, h2, h3⟩ => ⟨g, cap, cur, h1, Nat.zero_le _, h3⟩⟩ (fun b hb => ?_)
  rcases h.2 with ⟨hv, _⟩ | ⟨g, cap', cur, hv, hB, hh, _⟩
  · rw [hv] at hb; simp [hblk] at hb
  · rw [hv] at hb
    simp [hblk] at hb
    subst hb
    exact hF _ hB (lt_of_block hh)
theorem reps_nats {F : Nat → Prop} {w : World} : ∀ l : List Nat, Reps F w (l.map encU) (nats .u8 l)
  | [] => by unfold Reps; rfl
  | c :: r => by
    rw [List.map_cons]
    unfold Reps
    refine ⟨.int .u8 (c : Nat), nats .u8 r, rfl, ?_, reps_nats r⟩
    unfold encU Rep
    exact ⟨rfl, rfl⟩
theorem rep_frok {F : Nat → Prop} {B : Nat} {W : World} {v : Value} {l : List Nat} (h : FrOk B W v l) (hF : ∀ b, B ≤ b → b < W.heap.size → F b) : Rep F W (encUs l) v := by
  obtain ⟨⟨y, c, rfl⟩, ho⟩ := h
  unfold encUs Rep
  refine ⟨y, c, nats .u8 l, by rw [List.length_map], reps_nats l, ?_, by rw [List.length_map]; exact seg_own ho hF⟩
  intro z hz
  obtain ⟨q, _, rfl⟩ := List.mem_map.1 hz
  simp [encU, T.width]
theorem reps_frs {F : Nat → Prop} {B : Nat} {W : World} (hF : ∀ b, B ≤ b → b < W.heap.size → F b) : ∀ (svs : List Value) (ls : List (List Nat)), FrsOk B W svs ls → Reps F W (ls.map encUs) svs
  | [], [], _ => by unfold List.map Reps; rfl
  | [], _ :: _, h => by cases h.1
  | _ :: _, [], h => by cases h.1
  | v :: svs, l :: ls, h => by
    rw [List.map_cons]
    unfold Reps
    have h0 := h.2 0 v l rfl rfl
    obtain ⟨y, c, rfl⟩ := h0.1
    refine ⟨_, svs, rfl, rep_frok h0 hF, reps_frs hF svs ls ⟨by simpa using h.1, fun i v' l' a b => h.2 (i + 1) v' l' (by simpa using a) (by simpa using b)⟩⟩
theorem row_slice {W : World} {B e k n : Nat} {v : Value} {xs : List Value} (h : W.ownsRow B e k v n xs) : ∃ x cap, v = .slice x n cap := by
  rcases h.2 with ⟨hv, hn⟩ | ⟨g, cap', cur, hv, hB, hh, _⟩
  · exact ⟨none, 0, by rw [hv, hn]⟩
  · exact ⟨_, _, hv⟩
theorem frames_fn (bs : List Nat) (hlen : bs.length ≤ 1000000) (h8 : ∀ c ∈ bs, c < 256) : FnOk Try.prog 20 [.t (encUs bs)] [] (.tup [.t (.sl 1 ((frV bs).map encUs)), .t (encUs (tlV bs)), .t (.int (dmV bs))]) [] := by
  intro G w us hh hr
  unfold RepPs at hr
  obtain ⟨u1, r1, rfl, h1, hr⟩ := hr
  unfold RepPs at hr
  subst hr
  unfold RepS encUs Rep at h1
  obtain ⟨x, cap, cells, rfl, h3, h4, h5⟩ := h1
  obtain rfl := cells_u8n h3
  rw [List.length_map] at h5 ⊢
  have hx : ∃ b off, bs ≠ [] → x = some ⟨b, off, none⟩ ∧ b < w.heap.size ∧ ∀ j c, bs[j]? = some c → w.cell? ⟨b, off + j, none⟩ = some (.int .u8 (c : Nat)) := by
    rcases h5.cells with h7 | ⟨b, off, rfl, hb, h7⟩
    · exact ⟨0, 0, fun h => absurd (List.length_eq_zero_iff.1 h7) h⟩
    · refine ⟨b, off, fun _ => ⟨rfl, hh.fb b hb, fun j c hj => h7 j _ ?_⟩⟩
      unfold nats
      rw [List.getElem?_map, hj]
      rfl
  obtain ⟨b, off, hx⟩ := hx
  have hrow : NRow .u8 w x bs.length cap bs := by
    refine ⟨h5.le, h5.capLe, h5.len, h5.nil, ?_⟩
    rcases h5.cells with h7 | ⟨b, off, rfl, hb, h7⟩
    · exact .inl h7
    · exact .inr ⟨b, off, rfl, hh.fb b hb, h7⟩
  refine Calls.mono (callsIn_wide.1 (frames_in w x b off cap bs hlen h8 hrow hx)) ?_
  rintro e W' ⟨ys, fv, tv, svs, hys, rfl, k1, k2, k3, k4⟩
  have hF : ∀ c, w.heap.size + 1 + 1 + 1 + 1 + 1 ≤ c → c < W'.heap.size → (G.F c ∨ (w.heap.size ≤ c ∧ c < W'.heap.size)) := fun c h1 h2 => .inr ⟨by omega, h2⟩
  obtain ⟨x', cap', rfl⟩ := row_slice k1
  rw [frsE_eq, hys] at k2
  rw [tlE_eq, hys] at k3
  rw [dmE_eq, hys]
  refine ⟨_, ⟨fun c => G.F c ∨ (w.heap.size ≤ c ∧ c < W'.heap.size), G.β, G.φ⟩, rfl, ⟨k4.os, k4.tape, k4.output, k4.size, fun c hc _ => k4.block c hc, fun l c k h => by simp [lkB] at h, fun _ h => .inl h, ?_, fun _ _ => rfl⟩, ⟨fun l c h => by simp [lkB] at h, fun l c h => by simp [lkB] at h, fun l c k h => by simp [lkB] at h, fun l l' c c' k h => by simp [lkB] at h, ?_⟩, ?_⟩
  · rintro c (h | h)
    · exact .inl h
    · exact .inr (.inr h.1)
  · rintro c (h | h)
    · exact Nat.lt_of_lt_of_le (hh.fb c h) k4.size
    · exact h.2
  · unfold RepS
    refine ⟨[_, _, _], rfl, ?_⟩
    unfold RepPs
    refine ⟨_, _, rfl, ?_, ?_⟩
    · unfold RepS Rep
      refine ⟨x', cap', svs, ?_, reps_frs hF _ _ k2, ?_, ?_⟩
      · rw [List.length_map]; exact congrArg (fun n => Value.slice x' n cap') k2.1
      · intro z hz
        obtain ⟨q, _, rfl⟩ := List.mem_map.1 hz
        simp [encUs, T.width]
      · rw [List.length_map, show (frV bs).length = svs.length from k2.1.symm]
        exact seg_own k1 hF
    unfold RepPs
    refine ⟨_, _, rfl, ?_, ?_⟩
    · unfold RepS
      exact rep_frok k3 hF
    unfold RepPs
    refine ⟨_, _, rfl, ?_, by unfold RepPs; rfl⟩
    unfold RepS Rep
    exact ⟨rfl, rfl⟩
end Go.Proofs.Ytopmmodcaoaaeaa
