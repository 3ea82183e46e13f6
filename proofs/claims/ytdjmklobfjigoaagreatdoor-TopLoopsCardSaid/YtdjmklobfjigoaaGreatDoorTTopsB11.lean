/- Several texts of this proof, one behind the other. No condition. -/
import Derived.Test.YtdjmklobfjigoaaGreatDoorTTopsB10
import Derived.Test.YtdjmklobfjigoaaGreatDoorTTopsB9
import Derived.Shelf.RegionOpen
import Derived.RangeFuncBox
import Derived.Shelf.Abstract
import Derived.WalkKit
import Derived.OwnWalkIn
import Derived.TacticsInMore
import Derived.LoopNIn
import Derived.LoopIn
set_option maxRecDepth 100000
set_option maxHeartbeats 16000000
set_option linter.unusedVariables false
set_option linter.unusedSimpArgs false
namespace Go.Proofs.YtdjmklobfjigoaaGreatDoor
open Go.RowKit Sy
attribute [local go_sem] Oper.semAt_some
abbrev Prt := List Nat × Int × Int
def absI (r : Int) : Int := max r (-r)
def prtYs (node : Int) (inn : Bool) : Nat → List Prt → List Int → List (Nat × Int)
  | k, p :: ps, r :: rs => if p.2.1 = node ∧ r ≠ 0 ∧ decide (r > 0) = inn then (k, absI r) :: prtYs node inn (k + 1) ps rs else prtYs node inn (k + 1) ps rs
  | _, _, _ => []
def encY (y : Nat × Int) : List Value := [.int .i64 y.1, .int .i64 y.2]
structure PrtRd (b1 b2 b3 : Nat) (node : Int) (inn : Bool) (rates : List Int) (A : World) (xb : Nat) (rb ro rc : Nat) : Prop where
  c1 : A.cell? ⟨b1, 0, none⟩ = some (.pointer (some ⟨xb, 0, none⟩))
  c2 : A.cell? ⟨b2, 0, none⟩ = some (.int .i64 node)
  c3 : A.cell? ⟨b3, 0, none⟩ = some (.bool inn)
  c7 : A.cell? ⟨xb, 7, none⟩ = some (.slice (some ⟨rb, ro, none⟩) rates.length rc)
  le : rates.length ≤ rc
  rs : ∀ i r, rates[i]? = some r → A.cell? ⟨rb, ro + i, none⟩ = some (.int .i64 r)
def PrtAt (pb po : Nat) (ports : List Prt) (A : World) : Prop := ∀ i p, ports[i]? = some p → A.cell? ⟨pb, po + i * 3, none⟩ = some (.string (str p.1)) ∧ A.cell? ⟨pb, po + i * 3 + 1, none⟩ = some (.int .i64 p.2.1) ∧ A.cell? ⟨pb, po + i * 3 + 2, none⟩ = some (.int .i64 p.2.2)
theorem cell_more {A : World} (o2 : Obj) {b o : Nat} {v : Value} (h : A.cell? ⟨b, o, none⟩ = some v) : (A.alloc o2).cell? ⟨b, o, none⟩ = some v := by
  rw [cell_block (Below.heap_alloc A _ b ?_)]
  · exact h
  · obtain ⟨oo, h1, _⟩ := cells_of_cell h
    exact (Array.getElem?_eq_some_iff.1 h1).1
theorem PrtAt.more {pb po : Nat} {ports : List Prt} {A : World} (h : PrtAt pb po ports A) (o2 : Obj) : PrtAt pb po ports (A.alloc o2) := fun i p hp => by
  obtain ⟨h1, h2, h3⟩ := h i p hp
  exact ⟨cell_more o2 h1, cell_more o2 h2, cell_more o2 h3⟩
theorem PrtAt.keep {pb po : Nat} {ports : List Prt} {A B : World} (h : PrtAt pb po ports A) {F0 : Nat → Prop} (hF : F0 pb) (hk : ∀ b o, F0 b → B.cell? ⟨b, o, none⟩ = A.cell? ⟨b, o, none⟩) : PrtAt pb po ports B := fun i p hp => by
  obtain ⟨h1, h2, h3⟩ := h i p hp
  exact ⟨(hk pb _ hF).trans h1, (hk pb _ hF).trans h2, (hk pb _ hF).trans h3⟩
theorem ports1_in (l : Nat) (b1 b2 b3 : Nat) (node : Int) (inn : Bool) (ports : List Prt) (rates : List Int) (hlen : rates.length = ports.length) (hl2 : ports.length ≤ 1000) (hrate : ∀ r ∈ rates, -1000000000 ≤ r ∧ r ≤ 1000000000) (F0 : Nat → Prop)
    (J : Nat → World → Prop) (Jx : World → Prop) (W : World) (hJ : ∀ k A B, J k A → Below A.heap.size A B → J k B) (hJx : ∀ A B, Jx A → Below A.heap.size A B → Jx B)
    (hRd : ∀ k A, J k A → ∃ xb rb ro rc, PrtRd b1 b2 b3 node inn rates A xb rb ro rc)
    (hY : ∀ k y A, (prtYs node inn 0 ports rates)[k]? = some y → J k A → YieldAt Fence.wide 7 Tryz.prog l (encY y).toArray A fun e B => (∀ b o, F0 b → B.cell? ⟨b, o, none⟩ = A.cell? ⟨b, o, none⟩) ∧ ((e = .returned (.bool true) ∧ J (k + 1) B) ∨ (e = .returned (.bool false) ∧ Jx B)))
    (h0 : J 0 W) (xb pb po pc : Nat) (g1 : W.cell? ⟨b1, 0, none⟩ = some (.pointer (some ⟨xb, 0, none⟩))) (g2 : W.cell? ⟨xb, 2, none⟩ = some (.slice (some ⟨pb, po, none⟩) ports.length pc)) (g3 : ports.length ≤ pc) (g4 : F0 pb)
    (g5 : PrtAt pb po ports W) :
    CallsIn Fence.wide 8 Tryz.prog 98 #[.func (.yield l) #[] #[], .pointer (some ⟨b1, 0, none⟩), .pointer (some ⟨b2, 0, none⟩), .pointer (some ⟨b3, 0, none⟩)] W fun e B => (∃ v, e = .returned v) ∧ (J (prtYs node inn 0 ports rates).length B ∨ Jx B) := by
  obtain ⟨ys, hys⟩ : ∃ ys, prtYs node inn 0 ports rates = ys := ⟨_, rfl⟩
  rw [hys] at hY ⊢
  have hn : (8 : Nat) - 1 = 7 := rfl
  refine callsIn_of_wp Tryz.func98 rfl trivial ?_ rfl
  simp only [Tryz.ntmps98, List.size_toArray, List.length_cons, List.length_nil, Nat.reduceAdd, Nat.reduceSub, Array.replicate_succ, Array.replicate_zero, List.push_toArray, List.append_toArray, List.nil_append, List.cons_append]
  gi_wp2
  gi_loopw [14] (fun i wr => ∃ (k kk : Nat), k ≤ ports.length ∧ i = .int .i64 k ∧ ys.drop kk = prtYs node inn k (ports.drop k) (rates.drop k) ∧ kk ≤ ys.length ∧ J kk wr ∧ PrtAt pb po ports wr)
    (fun i _ => ports.length - (intOf i).toNat)
  case atStart => exact ⟨0, 0, Nat.zero_le _, rfl, by simpa using hys.symm, Nat.zero_le _, h0, g5⟩
  case round =>
    obtain ⟨k, kk, hk, rfl, hdr, hkk, hJk, hF⟩ := hrel
    obtain ⟨xb', rb, ro, rc, R⟩ := hRd kk wr hJk
    have c1 := R.c1
    have c2 := R.c2
    have c3 := R.c3
    have c7 := R.c7
    have hle := R.le
    by_cases hlt : k < ports.length
    · obtain ⟨⟨nm, nd, pr⟩, hp⟩ := has_get hlt
      obtain ⟨r, hr⟩ : ∃ r, rates[k]? = some r := has_get (by omega)
      have q1 := R.rs k r hr
      obtain ⟨p1, p2, p3⟩ := hF k _ hp
      dsimp only at p1 p2 p3
      have hd1 : ports.drop k = (nm, nd, pr) :: ports.drop (k + 1) := drop_get hp
      have hd2 : rates.drop k = r :: rates.drop (k + 1) := drop_get hr
      rw [hd1, hd2] at hdr
      obtain ⟨o2, ho2⟩ : ∃ o2 : Obj, o2 = .cells #[.string (str nm), .int .i64 nd, .int .i64 pr] 28 := ⟨_, rfl⟩
      have n1 : (wr.alloc o2).cell? ⟨wr.heap.size, 1, none⟩ = some (.int .i64 nd) := by
        have := World.alloc_heap_new wr o2
        rw [ho2] at this ⊢
        rw [cell_of_row _ _ 1 _ _ (0, 0) this]; rfl
      have a1 := cell_more o2 c1
      have a2 := cell_more o2 c2
      have a3 := cell_more o2 c3
      have a7 := cell_more o2 c7
      have aq := cell_more o2 q1
      have hF2 := hF.more o2
      have hb2 : Below wr.heap.size wr (wr.alloc o2) := (Below.refl _ wr).alloc (Nat.le_refl _) _
      have hJ2 := hJ kk _ _ hJk hb2
      rw [ho2] at a1 a2 a3 a7 aq n1 hF2 hJ2
      have hrb := hrate r (List.mem_of_getElem? hr)
      have hng : IntKind.i64.wrap (0 - r) = - r := by rw [IntKind.wrap_i64]; omega
      have hng2 : IntKind.i64.wrap (-r) = - r := by rw [IntKind.wrap_i64]; omega
      by_cases hnd : nd = node
      · subst hnd
        by_cases hr0 : r = 0
        · subst hr0
          gi_wp2
          go_roundw
          case rel => exact ⟨k + 1, kk, by omega, by simp, by simpa [prtYs] using hdr, hkk, hJ2, hF2⟩
          case measure => simp [intOf]; omega
        · by_cases hsg : 0 < r
          · have hx1 : ¬ r < -r := by omega
            cases inn with
            | true =>
              have hab : absI r = r := by unfold absI; omega
              have hdr2 : ys.drop kk = (k, r) :: prtYs nd true (k + 1) (ports.drop (k + 1)) (rates.drop (k + 1)) := by rw [hdr]; simp only [prtYs]; rw [if_pos (by simp [hr0, hsg]), hab]
              have hyk : ys[kk]? = some (k, r) := by
                have := congrArg (fun l => l[0]?) hdr2
                simpa using this
              have hkl : kk < ys.length := (List.getElem?_eq_some_iff.1 hyk).1
              obtain ⟨fn, tmps, assign, body, hy, hR⟩ := hY kk _ _ hyk hJ2
              unfold encY at hy
              dsimp only at hy
              gi_wp2
              refine hR.mono ?_
              rintro e W3 ⟨hk3, ⟨rfl, hJ3⟩ | ⟨rfl, hJx3⟩⟩
              · gi_wp2
                go_roundw
                case rel => exact ⟨k + 1, kk + 1, by omega, by simp, by rw [← List.drop_drop, hdr2]; rfl, hkl, hJ3, hF2.keep g4 hk3⟩
                case measure => simp [intOf]; omega
              · gi_wp2
                refine bodyPost_ret (results_none rfl _ _ _) rfl ?_
                exact ⟨⟨_, rfl⟩, .inr hJx3⟩
            | false =>
              gi_wp2
              go_roundw
              case rel => exact ⟨k + 1, kk, by omega, by simp, by rw [hdr]; simp only [prtYs]; rw [if_neg (by simp; try omega)], hkk, hJ2, hF2⟩
              case measure => simp [intOf]; omega
          · have hx1 : r < -r := by omega
            cases inn with
            | true =>
              gi_wp2
              go_roundw
              case rel => exact ⟨k + 1, kk, by omega, by simp, by rw [hdr]; simp only [prtYs]; rw [if_neg (by simp; try omega)], hkk, hJ2, hF2⟩
              case measure => simp [intOf]; omega
            | false =>
              have hab : absI r = (-r) := by unfold absI; omega
              have hdr2 : ys.drop kk = (k, (-r)) :: prtYs nd false (k + 1) (ports.drop (k + 1)) (rates.drop (k + 1)) := by rw [hdr]; simp only [prtYs]; rw [if_pos (by simp [hr0, hsg]), hab]
              have hyk : ys[kk]? = some (k, (-r)) := by
                have := congrArg (fun l => l[0]?) hdr2
                simpa using this
              have hkl : kk < ys.length := (List.getElem?_eq_some_iff.1 hyk).1
              obtain ⟨fn, tmps, assign, body, hy, hR⟩ := hY kk _ _ hyk hJ2
              unfold encY at hy
              dsimp only at hy
              gi_wp2
              refine hR.mono ?_
              rintro e W3 ⟨hk3, ⟨rfl, hJ3⟩ | ⟨rfl, hJx3⟩⟩
              · gi_wp2
                go_roundw
                case rel => exact ⟨k + 1, kk + 1, by omega, by simp, by rw [← List.drop_drop, hdr2]; rfl, hkl, hJ3, hF2.keep g4 hk3⟩
                case measure => simp [intOf]; omega
              · gi_wp2
                refine bodyPost_ret (results_none rfl _ _ _) rfl ?_
                exact ⟨⟨_, rfl⟩, .inr hJx3⟩
      · gi_wp2
        go_roundw
        case rel => exact ⟨k + 1, kk, by omega, by simp, by simpa [prtYs, hnd] using hdr, hkk, hJ2, hF2⟩
        case measure => simp [intOf]; omega
    · obtain rfl : k = ports.length := by omega
      have hkl : kk = ys.length := by
        rw [List.drop_length] at hdr
        have := congrArg List.length hdr
        simp [prtYs] at this
        omega
      gi_wp2
      go_end0
      exact ⟨⟨_, rfl⟩, .inl (by rw [← hkl]; exact hJk)⟩
end Go.Proofs.YtdjmklobfjigoaaGreatDoor
namespace Go.Proofs.YtdjmklobfjigoaaGreatDoor
open Go.RowKit Sy
open Go.IntWalk renaming iteOmega → iO, toNatUp → tN
def endA (a b r : Int) : Int := if r < 0 then b else a
def endB (a b r : Int) : Int := if r < 0 then a else b
theorem ends_fn (nm v7 : Value) (h1 : nm.oneCell' = true) (h7 : v7.oneCell' = true) (a b c d e r : Int) : FnOk Tryz.prog 97 [.t (.agg [.lit nm, .int a, .int b, .int c, .int d, .int e, .lit v7]), .t (.int r)] [] (.tup [.t (.int (endA a b r)), .t (.int (endB a b r))]) [] := by
  refine FnOk.intro fact_mixed Tryz.func97 rfl Tryz.ntmps97 (by rfl) (by simp) ?_
  by_cases hr : r < 0
  · have e1 : endA a b r = b := if_pos hr
    have e2 : endB a b r = a := if_pos hr
    repeat (first | (refine nf1_sound rfl ?_; simp [go_sem, ↓iO, iO, tN]) | refine anI ?_ | refine ⟨dcK, ?_⟩ | ((first | refine iP ?_ | refine iN ?_); try simp [go_sem, ↓iO, iO, tN]))
    first | rw [RetQ_ret] | rw [RetQ_normal]
    refine ⟨[], ?_⟩
    simp [go_sem, ↓iO, iO, tN, e1, e2]
  · have e1 : endA a b r = a := if_neg hr
    have e2 : endB a b r = b := if_neg hr
    repeat (first | (refine nf1_sound rfl ?_; simp [go_sem, ↓iO, iO, tN]) | refine anI ?_ | refine ⟨dcK, ?_⟩ | ((first | refine iP ?_ | refine iN ?_); try simp [go_sem, ↓iO, iO, tN]))
    first | rw [RetQ_ret] | rw [RetQ_normal]
    refine ⟨[], ?_⟩
    simp [go_sem, ↓iO, iO, tN, e1, e2]
theorem fn_calls {P : Program} {f : FuncId} {ss : List S} {r : S} {us : List Value} {w : World} (h : FnOk P f ss [] r []) (hr : RepPs (lawG w) w ss us) :
    Calls P f us.toArray w fun e w' => ∃ v G', e = .returned v ∧ Below w.heap.size w w' ∧ RepS G' w' r v := by
  refine (h (lawG w) w us ⟨fun l b h => by simp [lkB] at h, fun l b h => by simp [lkB] at h, fun l b k h => by simp [lkB] at h, fun l l' b b' k h => by simp [lkB] at h, fun b h => h⟩ hr).mono ?_
  rintro e w' ⟨v, G', rfl, h1, _, h3⟩
  exact ⟨v, G', rfl, ⟨h1.os, h1.tape, h1.output, h1.size, fun k hk => h1.block k hk (fun ⟨l, x, h4, _⟩ => by simp [lkB] at h4)⟩, h3⟩
theorem ends_call (nm v7 : Value) (h1 : nm.oneCell' = true) (h7 : v7.oneCell' = true) (a b c d e r : Int) (w : World) :
    Calls Tryz.prog 97 #[.agg #[nm, .int .i64 a, .int .i64 b, .int .i64 c, .int .i64 d, .int .i64 e, v7], .int .i64 r] w fun e w' => e = .returned (.tuple #[.int .i64 (endA a b r), .int .i64 (endB a b r)]) ∧ Below w.heap.size w w' := by
  refine (fn_calls (us := [_, _]) (ends_fn nm v7 h1 h7 a b c d e r) ?_).mono ?_
  · refine reps_cons ?_ (reps_cons (rep_lit rfl) reps_nil)
    unfold RepS Rep
    refine ⟨[nm, .int .i64 a, .int .i64 b, .int .i64 c, .int .i64 d, .int .i64 e, v7], rfl, ?_⟩
    have one : ∀ {F : Nat → Prop} {w : World} {v : Value} {xs : List T} {cs : List Value}, v.oneCell' = true → Reps F w xs cs → Reps F w (.lit v :: xs) (v :: cs) := fun {F w v xs cs} hv hx => by
      show Reps _ _ (.lit v :: xs) _
      unfold Reps Rep
      exact ⟨v, cs, by rw [cells_one hv]; rfl, ⟨rfl, hv⟩, hx⟩
    exact one h1 (one rfl (one rfl (one rfl (one rfl (one rfl (one h7 (by unfold Reps; rfl)))))))
  · rintro e' w' ⟨v, G', rfl, hb, hr⟩
    unfold RepS at hr
    obtain ⟨us, rfl, hr⟩ := hr
    unfold RepPs at hr
    obtain ⟨v1, r1, rfl, k1, hr⟩ := hr
    unfold RepPs at hr
    obtain ⟨v2, r2, rfl, k2, hr⟩ := hr
    unfold RepPs at hr
    subst hr
    unfold RepS Rep at k1 k2
    rw [k1.1, k2.1]
    exact ⟨rfl, hb⟩
end Go.Proofs.YtdjmklobfjigoaaGreatDoor
namespace Go.Proofs.YtdjmklobfjigoaaGreatDoor
open Go.RowKit Sy
attribute [local go_sem] Oper.semAt_some
structure SegV where
  nm : List Nat
  fr : Int
  to : Int
  cp : Int
  rs : Int
  wv : Int
def tgt (inn : Bool) (a b r : Int) : Int := if inn then endB a b r else endA a b r
def segYs (node : Int) (inn : Bool) : Nat → List SegV → List Int → List (Nat × Int)
  | k, p :: ps, r :: rs => if r ≠ 0 ∧ tgt inn p.fr p.to r = node then (k, absI r) :: segYs node inn (k + 1) ps rs else segYs node inn (k + 1) ps rs
  | _, _, _ => []
def SegAt (pb po : Nat) (segs : List SegV) (A : World) : Prop := ∀ i p, segs[i]? = some p → A.cell? ⟨pb, po + i * 7, none⟩ = some (.string (str p.nm)) ∧ A.cell? ⟨pb, po + i * 7 + 1, none⟩ = some (.int .i64 p.fr) ∧ A.cell? ⟨pb, po + i * 7 + 2, none⟩ = some (.int .i64 p.to) ∧
  A.cell? ⟨pb, po + i * 7 + 3, none⟩ = some (.int .i64 p.cp) ∧ A.cell? ⟨pb, po + i * 7 + 4, none⟩ = some (.int .i64 p.rs) ∧ A.cell? ⟨pb, po + i * 7 + 5, none⟩ = some (.int .i64 p.wv) ∧ ∃ x n c, A.cell? ⟨pb, po + i * 7 + 6, none⟩ = some (.slice x n c)
theorem cell_bel {A B : World} {b o : Nat} {v : Value} (h : A.cell? ⟨b, o, none⟩ = some v) (hb : Below A.heap.size A B) : B.cell? ⟨b, o, none⟩ = some v := by
  rw [cell_block (hb.block b ?_)]
  · exact h
  · obtain ⟨oo, h1, _⟩ := cells_of_cell h
    exact (Array.getElem?_eq_some_iff.1 h1).1
theorem SegAt.bel {pb po : Nat} {segs : List SegV} {A B : World} (h : SegAt pb po segs A) (hb : Below A.heap.size A B) : SegAt pb po segs B := fun i p hp => by
  obtain ⟨h1, h2, h3, h4, h5, h6, x7, n7, c7, h8⟩ := h i p hp
  exact ⟨cell_bel h1 hb, cell_bel h2 hb, cell_bel h3 hb, cell_bel h4 hb, cell_bel h5 hb, cell_bel h6 hb, x7, n7, c7, cell_bel h8 hb⟩
theorem SegAt.keep {pb po : Nat} {segs : List SegV} {A B : World} (h : SegAt pb po segs A) {F0 : Nat → Prop} (hF : F0 pb) (hk : ∀ b o, F0 b → B.cell? ⟨b, o, none⟩ = A.cell? ⟨b, o, none⟩) : SegAt pb po segs B := fun i p hp => by
  obtain ⟨h1, h2, h3, h4, h5, h6, x7, n7, c7, h8⟩ := h i p hp
  exact ⟨(hk pb _ hF).trans h1, (hk pb _ hF).trans h2, (hk pb _ hF).trans h3, (hk pb _ hF).trans h4, (hk pb _ hF).trans h5, (hk pb _ hF).trans h6, x7, n7, c7, (hk pb _ hF).trans h8⟩
structure SegRd (b1 b2 b3 : Nat) (node : Int) (inn : Bool) (rates : List Int) (A : World) (xb : Nat) (rb ro rc : Nat) : Prop where
  c1 : A.cell? ⟨b1, 0, none⟩ = some (.pointer (some ⟨xb, 0, none⟩))
  c2 : A.cell? ⟨b2, 0, none⟩ = some (.bool inn)
  c3 : A.cell? ⟨b3, 0, none⟩ = some (.int .i64 node)
  c7 : A.cell? ⟨xb, 6, none⟩ = some (.slice (some ⟨rb, ro, none⟩) rates.length rc)
  le : rates.length ≤ rc
  rs : ∀ i r, rates[i]? = some r → A.cell? ⟨rb, ro + i, none⟩ = some (.int .i64 r)
theorem segs1_in (l : Nat) (b1 b2 b3 : Nat) (node : Int) (inn : Bool) (segs : List SegV) (rates : List Int) (hlen : rates.length = segs.length) (hl2 : segs.length ≤ 1000) (hrate : ∀ r ∈ rates, -1000000000 ≤ r ∧ r ≤ 1000000000) (F0 : Nat → Prop)
    (J : Nat → World → Prop) (Jx : World → Prop) (W : World) (hJ : ∀ k A B, J k A → Below A.heap.size A B → J k B) (hJx : ∀ A B, Jx A → Below A.heap.size A B → Jx B)
    (hRd : ∀ k A, J k A → ∃ xb rb ro rc, SegRd b1 b2 b3 node inn rates A xb rb ro rc)
    (hY : ∀ k y A, (segYs node inn 0 segs rates)[k]? = some y → J k A → YieldAt Fence.wide 7 Tryz.prog l (encY y).toArray A fun e B => (∀ b o, F0 b → B.cell? ⟨b, o, none⟩ = A.cell? ⟨b, o, none⟩) ∧ ((e = .returned (.bool true) ∧ J (k + 1) B) ∨ (e = .returned (.bool false) ∧ Jx B)))
    (h0 : J 0 W) (xb pb po pc : Nat) (g1 : W.cell? ⟨b1, 0, none⟩ = some (.pointer (some ⟨xb, 0, none⟩))) (g2 : W.cell? ⟨xb, 1, none⟩ = some (.slice (some ⟨pb, po, none⟩) segs.length pc)) (g3 : segs.length ≤ pc) (g4 : F0 pb)
    (g5 : SegAt pb po segs W) :
    CallsIn Fence.wide 8 Tryz.prog 99 #[.func (.yield l) #[] #[], .pointer (some ⟨b1, 0, none⟩), .pointer (some ⟨b2, 0, none⟩), .pointer (some ⟨b3, 0, none⟩)] W fun e B => (∃ v, e = .returned v) ∧ (J (segYs node inn 0 segs rates).length B ∨ Jx B) := by
  obtain ⟨ys, hys⟩ : ∃ ys, segYs node inn 0 segs rates = ys := ⟨_, rfl⟩
  rw [hys] at hY ⊢
  refine callsIn_of_wp Tryz.func99 rfl trivial ?_ rfl
  simp only [Tryz.ntmps99, List.size_toArray, List.length_cons, List.length_nil, Nat.reduceAdd, Nat.reduceSub, Array.replicate_succ, Array.replicate_zero, List.push_toArray, List.append_toArray, List.nil_append, List.cons_append]
  gi_wp2
  gi_loopw [16] (fun i wr => ∃ (k kk : Nat), k ≤ segs.length ∧ i = .int .i64 k ∧ ys.drop kk = segYs node inn k (segs.drop k) (rates.drop k) ∧ kk ≤ ys.length ∧ J kk wr ∧ SegAt pb po segs wr)
    (fun i _ => segs.length - (intOf i).toNat)
  case atStart => exact ⟨0, 0, Nat.zero_le _, rfl, by simpa using hys.symm, Nat.zero_le _, h0, g5⟩
  case round =>
    obtain ⟨k, kk, hk, rfl, hdr, hkk, hJk, hF⟩ := hrel
    obtain ⟨xb', rb, ro, rc, R⟩ := hRd kk wr hJk
    have c1 := R.c1
    have c2 := R.c2
    have c3 := R.c3
    have c7 := R.c7
    have hle := R.le
    by_cases hlt : k < segs.length
    · obtain ⟨⟨nm, fr, to, cp, rs, wv⟩, hp⟩ := has_get hlt
      obtain ⟨r, hr⟩ : ∃ r, rates[k]? = some r := has_get (by omega)
      have q1 := R.rs k r hr
      obtain ⟨p1, p2, p3, p4, p5, p6, x7, n7, k7, p7⟩ := hF k _ hp
      dsimp only at p1 p2 p3 p4 p5 p6 p7
      have hd1 : segs.drop k = ⟨nm, fr, to, cp, rs, wv⟩ :: segs.drop (k + 1) := drop_get hp
      have hd2 : rates.drop k = r :: rates.drop (k + 1) := drop_get hr
      rw [hd1, hd2] at hdr
      obtain ⟨o2, ho2⟩ : ∃ o2 : Obj, o2 = .cells #[.string (str nm), .int .i64 fr, .int .i64 to, .int .i64 cp, .int .i64 rs, .int .i64 wv, .slice x7 n7 k7] 38 := ⟨_, rfl⟩
      have hb2 : Below wr.heap.size wr (wr.alloc o2) := (Below.refl _ wr).alloc (Nat.le_refl _) _
      have nb := World.alloc_heap_new wr o2
      have a1 := cell_bel c1 hb2
      have a2 := cell_bel c2 hb2
      have a3 := cell_bel c3 hb2
      have a7 := cell_bel c7 hb2
      have aq := cell_bel q1 hb2
      have hF2 := hF.bel hb2
      have hJ2 := hJ kk _ _ hJk hb2
      rw [ho2] at a1 a2 a3 a7 aq hF2 hJ2 nb
      obtain ⟨ea, hea⟩ : ∃ ea, endA fr to r = ea := ⟨_, rfl⟩
      obtain ⟨eb, heb⟩ : ∃ eb, endB fr to r = eb := ⟨_, rfl⟩
      have hcall := ends_call (.string (str nm)) (.slice x7 n7 k7) rfl rfl fr to cp rs wv r
      rw [hea, heb] at hcall
      have hrb := hrate r (List.mem_of_getElem? hr)
      have hng : IntKind.i64.wrap (0 - r) = - r := by rw [IntKind.wrap_i64]; omega
      have hng2 : IntKind.i64.wrap (-r) = - r := by rw [IntKind.wrap_i64]; omega
      by_cases hr0 : r = 0
      · subst hr0
        gi_wp2_with (refine ⟨trivial, ?_⟩; gi_at_call 97; refine (callsIn_wide.2 (hcall _)).mono ?_; rintro e w3 ⟨rfl, hbel⟩; have a1 := cell_bel a1 hbel; have a2 := cell_bel a2 hbel; have a3 := cell_bel a3 hbel; have hF3 := hF2.bel hbel; have hJ3 := hJ kk _ _ hJ2 hbel)
        go_roundw
        case rel => exact ⟨k + 1, kk, by omega, by simp, by rw [hdr]; simp only [segYs]; rw [if_neg (by simp [tgt, hea, heb])], hkk, hJ3, hF3⟩
        case measure => simp [intOf]; omega
      · by_cases hsg : 0 < r
        · have hx1 : ¬ r < -r := by omega
          cases inn with
          | true =>
            by_cases hnd : eb = node
            · subst hnd
              have hab : absI r = r := by unfold absI; omega
              have hdr2 : ys.drop kk = (k, r) :: segYs eb true (k + 1) (segs.drop (k + 1)) (rates.drop (k + 1)) := by rw [hdr]; simp only [segYs]; rw [if_pos (by simp [tgt, hea, heb, hr0]), hab]
              have hyk : ys[kk]? = some (k, r) := by
                have := congrArg (fun l => l[0]?) hdr2
                simpa using this
              have hkl : kk < ys.length := (List.getElem?_eq_some_iff.1 hyk).1
              gi_wp2_with (refine ⟨trivial, ?_⟩; gi_at_call 97; refine (callsIn_wide.2 (hcall _)).mono ?_; rintro e w3 ⟨rfl, hbel⟩; have a1 := cell_bel a1 hbel; have a2 := cell_bel a2 hbel; have a3 := cell_bel a3 hbel; have hF3 := hF2.bel hbel; have hJ3 := hJ kk _ _ hJ2 hbel; obtain ⟨fn, tmps, assign, body, hy, hR⟩ := hY kk _ _ hyk hJ3; unfold encY at hy; dsimp only at hy)
              refine hR.mono ?_
              rintro e W3 ⟨hk3, ⟨rfl, hJ4⟩ | ⟨rfl, hJx3⟩⟩
              · gi_wp2
                go_roundw
                case rel => exact ⟨k + 1, kk + 1, by omega, by simp, by rw [← List.drop_drop, hdr2]; rfl, hkl, hJ4, hF3.keep g4 hk3⟩
                case measure => simp [intOf]; omega
              · gi_wp2
                refine bodyPost_ret (results_none rfl _ _ _) rfl ?_
                exact ⟨⟨_, rfl⟩, .inr hJx3⟩
            · have hnx : (eb != node) = true := by simp [hnd]
              gi_wp2_with (refine ⟨trivial, ?_⟩; gi_at_call 97; refine (callsIn_wide.2 (hcall _)).mono ?_; rintro e w3 ⟨rfl, hbel⟩; have a1 := cell_bel a1 hbel; have a2 := cell_bel a2 hbel; have a3 := cell_bel a3 hbel; have hF3 := hF2.bel hbel; have hJ3 := hJ kk _ _ hJ2 hbel)
              go_roundw
              case rel => exact ⟨k + 1, kk, by omega, by simp, by rw [hdr]; simp only [segYs]; rw [if_neg (by simp [tgt, hea, heb, hnd])], hkk, hJ3, hF3⟩
              case measure => simp [intOf]; omega
          | false =>
            by_cases hnd : ea = node
            · subst hnd
              have hab : absI r = r := by unfold absI; omega
              have hdr2 : ys.drop kk = (k, r) :: segYs ea false (k + 1) (segs.drop (k + 1)) (rates.drop (k + 1)) := by rw [hdr]; simp only [segYs]; rw [if_pos (by simp [tgt, hea, heb, hr0]), hab]
              have hyk : ys[kk]? = some (k, r) := by
                have := congrArg (fun l => l[0]?) hdr2
                simpa using this
              have hkl : kk < ys.length := (List.getElem?_eq_some_iff.1 hyk).1
              gi_wp2_with (refine ⟨trivial, ?_⟩; gi_at_call 97; refine (callsIn_wide.2 (hcall _)).mono ?_; rintro e w3 ⟨rfl, hbel⟩; have a1 := cell_bel a1 hbel; have a2 := cell_bel a2 hbel; have a3 := cell_bel a3 hbel; have hF3 := hF2.bel hbel; have hJ3 := hJ kk _ _ hJ2 hbel; obtain ⟨fn, tmps, assign, body, hy, hR⟩ := hY kk _ _ hyk hJ3; unfold encY at hy; dsimp only at hy)
              refine hR.mono ?_
              rintro e W3 ⟨hk3, ⟨rfl, hJ4⟩ | ⟨rfl, hJx3⟩⟩
              · gi_wp2
                go_roundw
                case rel => exact ⟨k + 1, kk + 1, by omega, by simp, by rw [← List.drop_drop, hdr2]; rfl, hkl, hJ4, hF3.keep g4 hk3⟩
                case measure => simp [intOf]; omega
              · gi_wp2
                refine bodyPost_ret (results_none rfl _ _ _) rfl ?_
                exact ⟨⟨_, rfl⟩, .inr hJx3⟩
            · have hnx : (ea != node) = true := by simp [hnd]
              gi_wp2_with (refine ⟨trivial, ?_⟩; gi_at_call 97; refine (callsIn_wide.2 (hcall _)).mono ?_; rintro e w3 ⟨rfl, hbel⟩; have a1 := cell_bel a1 hbel; have a2 := cell_bel a2 hbel; have a3 := cell_bel a3 hbel; have hF3 := hF2.bel hbel; have hJ3 := hJ kk _ _ hJ2 hbel)
              go_roundw
              case rel => exact ⟨k + 1, kk, by omega, by simp, by rw [hdr]; simp only [segYs]; rw [if_neg (by simp [tgt, hea, heb, hnd])], hkk, hJ3, hF3⟩
              case measure => simp [intOf]; omega
        · have hx1 : r < -r := by omega
          cases inn with
          | true =>
            by_cases hnd : eb = node
            · subst hnd
              have hab : absI r = (-r) := by unfold absI; omega
              have hdr2 : ys.drop kk = (k, (-r)) :: segYs eb true (k + 1) (segs.drop (k + 1)) (rates.drop (k + 1)) := by rw [hdr]; simp only [segYs]; rw [if_pos (by simp [tgt, hea, heb, hr0]), hab]
              have hyk : ys[kk]? = some (k, (-r)) := by
                have := congrArg (fun l => l[0]?) hdr2
                simpa using this
              have hkl : kk < ys.length := (List.getElem?_eq_some_iff.1 hyk).1
              gi_wp2_with (refine ⟨trivial, ?_⟩; gi_at_call 97; refine (callsIn_wide.2 (hcall _)).mono ?_; rintro e w3 ⟨rfl, hbel⟩; have a1 := cell_bel a1 hbel; have a2 := cell_bel a2 hbel; have a3 := cell_bel a3 hbel; have hF3 := hF2.bel hbel; have hJ3 := hJ kk _ _ hJ2 hbel; obtain ⟨fn, tmps, assign, body, hy, hR⟩ := hY kk _ _ hyk hJ3; unfold encY at hy; dsimp only at hy)
              refine hR.mono ?_
              rintro e W3 ⟨hk3, ⟨rfl, hJ4⟩ | ⟨rfl, hJx3⟩⟩
              · gi_wp2
                go_roundw
                case rel => exact ⟨k + 1, kk + 1, by omega, by simp, by rw [← List.drop_drop, hdr2]; rfl, hkl, hJ4, hF3.keep g4 hk3⟩
                case measure => simp [intOf]; omega
              · gi_wp2
                refine bodyPost_ret (results_none rfl _ _ _) rfl ?_
                exact ⟨⟨_, rfl⟩, .inr hJx3⟩
            · have hnx : (eb != node) = true := by simp [hnd]
              gi_wp2_with (refine ⟨trivial, ?_⟩; gi_at_call 97; refine (callsIn_wide.2 (hcall _)).mono ?_; rintro e w3 ⟨rfl, hbel⟩; have a1 := cell_bel a1 hbel; have a2 := cell_bel a2 hbel; have a3 := cell_bel a3 hbel; have hF3 := hF2.bel hbel; have hJ3 := hJ kk _ _ hJ2 hbel)
              go_roundw
              case rel => exact ⟨k + 1, kk, by omega, by simp, by rw [hdr]; simp only [segYs]; rw [if_neg (by simp [tgt, hea, heb, hnd])], hkk, hJ3, hF3⟩
              case measure => simp [intOf]; omega
          | false =>
            by_cases hnd : ea = node
            · subst hnd
              have hab : absI r = (-r) := by unfold absI; omega
              have hdr2 : ys.drop kk = (k, (-r)) :: segYs ea false (k + 1) (segs.drop (k + 1)) (rates.drop (k + 1)) := by rw [hdr]; simp only [segYs]; rw [if_pos (by simp [tgt, hea, heb, hr0]), hab]
              have hyk : ys[kk]? = some (k, (-r)) := by
                have := congrArg (fun l => l[0]?) hdr2
                simpa using this
              have hkl : kk < ys.length := (List.getElem?_eq_some_iff.1 hyk).1
              gi_wp2_with (refine ⟨trivial, ?_⟩; gi_at_call 97; refine (callsIn_wide.2 (hcall _)).mono ?_; rintro e w3 ⟨rfl, hbel⟩; have a1 := cell_bel a1 hbel; have a2 := cell_bel a2 hbel; have a3 := cell_bel a3 hbel; have hF3 := hF2.bel hbel; have hJ3 := hJ kk _ _ hJ2 hbel; obtain ⟨fn, tmps, assign, body, hy, hR⟩ := hY kk _ _ hyk hJ3; unfold encY at hy; dsimp only at hy)
              refine hR.mono ?_
              rintro e W3 ⟨hk3, ⟨rfl, hJ4⟩ | ⟨rfl, hJx3⟩⟩
              · gi_wp2
                go_roundw
                case rel => exact ⟨k + 1, kk + 1, by omega, by simp, by rw [← List.drop_drop, hdr2]; rfl, hkl, hJ4, hF3.keep g4 hk3⟩
                case measure => simp [intOf]; omega
              · gi_wp2
                refine bodyPost_ret (results_none rfl _ _ _) rfl ?_
                exact ⟨⟨_, rfl⟩, .inr hJx3⟩
            · have hnx : (ea != node) = true := by simp [hnd]
              gi_wp2_with (refine ⟨trivial, ?_⟩; gi_at_call 97; refine (callsIn_wide.2 (hcall _)).mono ?_; rintro e w3 ⟨rfl, hbel⟩; have a1 := cell_bel a1 hbel; have a2 := cell_bel a2 hbel; have a3 := cell_bel a3 hbel; have hF3 := hF2.bel hbel; have hJ3 := hJ kk _ _ hJ2 hbel)
              go_roundw
              case rel => exact ⟨k + 1, kk, by omega, by simp, by rw [hdr]; simp only [segYs]; rw [if_neg (by simp [tgt, hea, heb, hnd])], hkk, hJ3, hF3⟩
              case measure => simp [intOf]; omega
    · obtain rfl : k = segs.length := by omega
      have hkl : kk = ys.length := by
        rw [List.drop_length] at hdr
        have := congrArg List.length hdr
        simp [segYs] at this
        omega
      gi_wp2
      go_end0
      exact ⟨⟨_, rfl⟩, .inl (by rw [← hkl]; exact hJk)⟩
end Go.Proofs.YtdjmklobfjigoaaGreatDoor
namespace Go.Proofs.YtdjmklobfjigoaaGreatDoor
open Go.RowKit Sy
open Go.IntWalk renaming iteOmega → iO, toNatUp → tN
def modN (x n : Int) : Int := if n < 1 then 0 else x % n
theorem modN_range {x n : Int} (h : 1 ≤ n) : 0 ≤ modN x n ∧ modN x n < n := by
  unfold modN; rw [if_neg (by omega)]
  exact ⟨Int.emod_nonneg _ (by omega), Int.emod_lt_of_pos _ (by omega)⟩
theorem modN_pos {x n : Int} (h : 1 ≤ n) : modN x n = x % n := by unfold modN; rw [if_neg (by omega)]
theorem tmod_neg {x n : Int} (h1 : 1 ≤ n) (h : x.tmod n < 0) : x.tmod n + n = x % n := by
  have h2 := Int.tmod_def x n
  have h3 := Int.emod_def x n
  rw [Int.tmod_eq_emod] at *
  split at h
  · have := Int.emod_nonneg x (show n ≠ 0 by omega); omega
  · rename_i hh
    rw [if_neg hh]
    have : ((n.natAbs : Nat) : Int) = n := by omega
    omega
theorem tmod_pos {x n : Int} (h1 : 1 ≤ n) (h : 0 ≤ x.tmod n) : x.tmod n = x % n := by
  rw [Int.tmod_eq_emod] at *
  split
  · omega
  · rename_i hh
    rw [if_neg hh] at h
    have h3 : ((n.natAbs : Nat) : Int) = n := by omega
    have := Int.emod_lt_of_pos x (show 0 < n by omega)
    omega
theorem mod_fn (x n : Int) (h2 : n ≤ 9223372036854775807) : FnOk Tryz.prog 41 [.t (.int x), .t (.int n)] [] (.t (.int (modN x n))) [] := by
  refine FnOk.intro fact_mixed Tryz.func41 rfl Tryz.ntmps41 (by rfl) (by simp) ?_
  by_cases h1 : n < 1
  · have R : modN x n = 0 := by unfold modN; rw [if_pos h1]
    repeat (first | (refine nf1_sound rfl ?_; simp [go_sem, ↓iO, iO, tN, R]) | refine anI ?_ | refine ⟨dcK, ?_⟩ | ((first | refine iP ?_ | refine iN ?_); try simp [go_sem, ↓iO, iO, tN, R]))
    first | rw [RetQ_ret] | rw [RetQ_normal]
    refine ⟨[], ?_⟩
    simp [go_sem, ↓iO, iO, tN, R]
  · have R : modN x n = x % n := modN_pos (by omega)
    have h5 := Int.emod_nonneg x (show n ≠ 0 by omega)
    have h6 := Int.emod_lt_of_pos x (show 0 < n by omega)
    by_cases h3 : 0 ≤ x
    · repeat (first | (refine nf1_sound rfl ?_; simp [go_sem, ↓iO, iO, tN, R]) | refine anI ?_ | refine ⟨dcK, ?_⟩ | ((first | refine iP ?_ | refine iN ?_); try simp [go_sem, ↓iO, iO, tN, R]))
      first | rw [RetQ_ret] | rw [RetQ_normal]
      refine ⟨[], ?_⟩
      simp [go_sem, ↓iO, iO, tN, R]
    · obtain ⟨t, ht⟩ : ∃ t, t = x.tmod n := ⟨_, rfl⟩
      obtain ⟨m, hm⟩ : ∃ m, m = x % n := ⟨_, rfl⟩
      have h7 : t < 0 → t + n = m := by rw [ht, hm]; exact tmod_neg (by omega)
      have h8 : 0 ≤ t → t = m := by rw [ht, hm]; exact tmod_pos (by omega)
      rw [← hm] at h5 h6 R
      have ht' := ht.symm
      clear hm ht
      by_cases h4 : t < 0
      · have h9 := h7 h4
        clear h7 h8
        repeat (first | (refine nf1_sound rfl ?_; simp [go_sem, ↓iO, iO, tN, R, ht']) | refine anI ?_ | refine ⟨dcK, ?_⟩ | ((first | refine iP ?_ | refine iN ?_); try simp [go_sem, ↓iO, iO, tN, R, ht']))
        first | rw [RetQ_ret] | rw [RetQ_normal]
        refine ⟨[], ?_⟩
        simp [go_sem, ↓iO, iO, tN, R, h9]
      · have h9 := h8 (by omega)
        clear h7 h8
        repeat (first | (refine nf1_sound rfl ?_; simp [go_sem, ↓iO, iO, tN, R, ht']) | refine anI ?_ | refine ⟨dcK, ?_⟩ | ((first | refine iP ?_ | refine iN ?_); try simp [go_sem, ↓iO, iO, tN, R, ht']))
        first | rw [RetQ_ret] | rw [RetQ_normal]
        refine ⟨[], ?_⟩
        simp [go_sem, ↓iO, iO, tN, R, h9]
@[go_sem] def encI (n : Int) : T := .int n
@[go_sem] def encIs (l : List Int) : T := .sl 1 (l.map encI)
@[go_sem] def srcC (l : List Int) (k : Nat) : S := .t (.agg [encIs l, .int k])
@[go_sem] def srcB (l : List Int) (k : Nat) : Blk := .box 70 (srcC l k)
structure SrcOk (l : List Int) (k : Nat) : Prop where
  len : l.length ≤ 2000
  le : k ≤ l.length
  wf : ∀ z ∈ l, -9223372036854775808 ≤ z ∧ z ≤ 9223372036854775807
def rawV (l : List Int) (k : Nat) : Int := l.getD k 0
def nextK (l : List Int) (k : Nat) : Nat := if k < l.length then k + 1 else k
theorem SrcOk.next {l : List Int} {k : Nat} (h : SrcOk l k) : SrcOk l (nextK l k) := by
  refine ⟨h.len, ?_, h.wf⟩
  have := h.le
  unfold nextK; split <;> omega
theorem raw_fn (l : List Int) (k : Nat) (h : SrcOk l k) : FnOk Tryz.prog 42 [.pt 0 [] 0] [(0, srcB l k)] (.t (.int (rawV l k))) [(0, srcB l (nextK l k))] := by
  have h1 := h.len
  have h2 := h.le
  refine FnOk.intro fact_mixed Tryz.func42 rfl Tryz.ntmps42 (by rfl) (by simp) ?_
  by_cases hk : k < l.length
  · obtain ⟨z, hz⟩ := has_get hk
    have R : rawV l k = z := by unfold rawV; simp [List.getD, hz]
    have R2 : nextK l k = k + 1 := by unfold nextK; rw [if_pos hk]
    repeat (first | (refine nf1_sound rfl ?_; simp [go_sem, ↓iO, iO, tN, R, R2, hz]) | refine anI ?_ | refine ⟨dcK, ?_⟩ | ((first | refine iP ?_ | refine iN ?_); try simp [go_sem, ↓iO, iO, tN, R, R2, hz]))
    first | rw [RetQ_ret] | rw [RetQ_normal]
    refine ⟨[(0, some 0)], ?_⟩
    simp [go_sem, ↓iO, iO, tN]
  · have R : rawV l k = 0 := by unfold rawV; simp [List.getD, List.getElem?_eq_none (show l.length ≤ k by omega)]
    have R2 : nextK l k = k := by unfold nextK; rw [if_neg hk]
    repeat (first | (refine nf1_sound rfl ?_; simp [go_sem, ↓iO, iO, tN, R, R2]) | refine anI ?_ | refine ⟨dcK, ?_⟩ | ((first | refine iP ?_ | refine iN ?_); try simp [go_sem, ↓iO, iO, tN, R, R2]))
    first | rw [RetQ_ret] | rw [RetQ_normal]
    refine ⟨[(0, some 0)], ?_⟩
    simp [go_sem, ↓iO, iO, tN]
def nV (l : List Int) (k : Nat) (n : Int) : Int := modN (rawV l k) n
theorem nV_range {l : List Int} {k : Nat} {n : Int} (h : 1 ≤ n) : 0 ≤ nV l k n ∧ nV l k n < n := modN_range h
theorem n_fn (l : List Int) (k : Nat) (n : Int) (h : SrcOk l k) (hn : n ≤ 9223372036854775807) : FnOk Tryz.prog 21 [.pt 0 [] 0, .t (.int n)] [(0, srcB l k)] (.t (.int (nV l k n))) [(0, srcB l (nextK l k))] := by
  refine FnOk.intro fact_mixed Tryz.func21 rfl Tryz.ntmps21 (by rfl) (by simp) ?_
  repeat (first | (refine nf1_sound rfl ?_; simp [go_sem, ↓iO, iO, tN]) | refine anI ?_ | refine ⟨dcK, ?_⟩ | ((first | refine iP ?_ | refine iN ?_); try simp [go_sem, ↓iO, iO, tN]))
  refine CallK.fn (raw_fn l k h) [(0, 0)] [] [] (by kernel_rfl) ?_ ?_ ?_ (Or.inl rfl) ?_ <;> simp [go_sem, ↓iO, iO, tN]
  repeat (refine anI ?_)
  try (refine ⟨dcK, ?_⟩)
  refine CallK.fn (mod_fn (rawV l k) n hn) [] [] [] (by kernel_rfl) ?_ ?_ ?_ (Or.inl rfl) ?_ <;> simp [go_sem, ↓iO, iO, tN]
  repeat (refine anI ?_)
  try (refine ⟨dcK, ?_⟩)
  repeat (first | (refine nf1_sound rfl ?_; simp [go_sem, ↓iO, iO, tN]) | refine anI ?_ | refine ⟨dcK, ?_⟩ | ((first | refine iP ?_ | refine iN ?_); try simp [go_sem, ↓iO, iO, tN]))
  first | rw [RetQ_ret] | rw [RetQ_normal]
  refine ⟨[(0, some 0)], ?_⟩
  simp [go_sem, ↓iO, iO, tN, nV]
def newL2 (l : List Int) : List Int := l.take 2000
theorem new_fn (l : List Int) (hl : l.length ≤ 9223372036854775807) : FnOk Tryz.prog 7 [.t (encIs l)] [] (.pt 1000 [] 0) [(1000, srcB (newL2 l) 0)] := by
  have hmin : (min (l.length : Int) 2000).toNat = min l.length 2000 := by omega
  have h0 : 0 ≤ min (l.length : Int) 2000 ∧ min (l.length : Int) 2000 ≤ l.length := by omega
  refine FnOk.intro fact_mixed Tryz.func7 rfl Tryz.ntmps7 (by rfl) (by simp) ?_
  repeat (first | (refine nf1_sound rfl ?_; simp [go_sem, ↓iO, iO, tN, hmin, h0.1, h0.2]) | refine anI ?_ | refine ⟨dcK, ?_⟩ | ((first | refine iP ?_ | refine iN ?_); try simp [go_sem, ↓iO, iO, tN, hmin, h0.1, h0.2]))
  first | rw [RetQ_ret] | rw [RetQ_normal]
  refine ⟨[(1000, some 109)], ?_⟩
  simp [go_sem, ↓iO, iO, tN, newL2]
  omega
theorem new_ok {l : List Int} (wf : ∀ z ∈ l, -9223372036854775808 ≤ z ∧ z ≤ 9223372036854775807) : SrcOk (newL2 l) 0 :=
  ⟨by unfold newL2; simp; omega, Nat.zero_le _, fun z hz => wf z (List.mem_of_mem_take hz)⟩
end Go.Proofs.YtdjmklobfjigoaaGreatDoor
namespace Go.Proofs.YtdjmklobfjigoaaGreatDoor
open Go.RowKit Sy
@[go_sem] def encPt (p : Int × Int × Int) : T := .agg [.int p.1, .int p.2.1, .int p.2.2]
abbrev Sgm := SegV × List (Int × Int × Int)
@[go_sem] def encSg (s : Sgm) : T := .agg [.lit (.string (str s.1.nm)), .int s.1.fr, .int s.1.to, .int s.1.cp, .int s.1.rs, .int s.1.wv, .sl 3 (s.2.map encPt)]
@[go_sem] def encPr (p : Prt) : T := .agg [.lit (.string (str p.1)), .int p.2.1, .int p.2.2]
theorem t_at_nil (x : T) : x.at [] = some (0, x) := by cases x <;> simp [T.at]
theorem rep_slice {F : Nat → Prop} {W : World} {s : Nat} {xs : List T} {v : Value} (h : Rep F W (.sl s xs) v) (hne : xs ≠ []) :
    ∃ b o c, v = .slice (some ⟨b, o, none⟩) xs.length c ∧ xs.length ≤ c ∧ F b ∧ ∀ i x, xs[i]? = some x → ∃ u, Rep F W x u ∧ ∀ j y, u.cells.toList[j]? = some y → W.cell? ⟨b, o + (i * s + j), none⟩ = some y := by
  unfold Rep at h
  obtain ⟨x, cap, cells, rfl, h2, h3, h4⟩ := h
  rcases h4.cells with h5 | ⟨b, o, rfl, hF, h5⟩
  · exact (hne (List.length_eq_zero_iff.1 h5)).elim
  · refine ⟨b, o, cap, rfl, h4.le, hF, fun i x hx => ?_⟩
    obtain ⟨u, hu, h6, _⟩ := Reps.get h2 hx
    refine ⟨u, hu, fun j y hj => ?_⟩
    have h7 := h6 j y hj
    rw [widths_take_const h3 (Nat.le_of_lt (List.getElem?_eq_some_iff.1 hx).1)] at h7
    exact h5 _ _ h7
theorem rep_int {F : Nat → Prop} {W : World} {n : Int} {u : Value} (h : Rep F W (.int n) u) : u = .int .i64 n := by unfold Rep at h; exact h.1
theorem rep_pt {G : Gh} {W : World} {l : Nat} {u : Value} (h : RepS G W (.pt l [] 0) u) : ∃ b, hblk (G.β l) = some b ∧ u = .pointer (some ⟨b, 0, none⟩) := by unfold RepS at h; exact h
theorem box_cell {G : Gh} {W : World} {h : Nat → Option Blk} (hh : HeapOk G W h) {l : Nat} {blk : Blk} (hl : h l = some blk) {b : Nat} (hb : hblk (G.β l) = some b) {p : List Nat} {off : Nat} {y : S} (ha : blk.at p = some (off, y)) :
    ∃ v, RepS G W y v ∧ v.cells.size = y.width ∧ (∀ c ∈ v.cells.toList, c.oneCell' = true) ∧ ∀ j c, v.cells.toList[j]? = some c → W.cell? ⟨b, off + j, none⟩ = some c := RepB.at_spec (hh.rep l blk hl) (hh.inn l blk hl) ha hb
theorem one_cell {v : Value} {b off : Nat} {W : World} (h : ∀ j c, v.cells.toList[j]? = some c → W.cell? ⟨b, off + j, none⟩ = some c) (hv : v.oneCell' = true) : W.cell? ⟨b, off, none⟩ = some v := h 0 v (by rw [cells_one hv]; rfl)
def lineI (l1 l2 l3 lx : Nat) (c2 c3 : S) (e2 e3 : TypeId) (net plan : List T) (rest : List S) : List (Nat × Blk) :=
  [(l1, .box 71 (.pt lx [] 0)), (l2, .box e2 c2), (l3, .box e3 c3), (lx, .box 76 (.ag (.t (.agg net) :: .t (.agg plan) :: rest)))]
theorem line_read {l1 l2 l3 lx : Nat} {c2 c3 : T} {e2 e3 : TypeId} {net plan : List T} {rest : List S} {lb : List Value} {F : Nat → Prop} {W : World} (hd : nodupB [l1, l2, l3, lx] = true)
    (h : RdI (lineI l1 l2 l3 lx (.t c2) (.t c3) e2 e3 net plan rest) [.pt l1 [] 0, .pt l2 [] 0, .pt l3 [] 0] lb F W) : ∃ (b1 b2 b3 xb : Nat) (v2 v3 : Value) (G : Gh), G.F = F ∧ lb = [.pointer (some ⟨b1, 0, none⟩), .pointer (some ⟨b2, 0, none⟩), .pointer (some ⟨b3, 0, none⟩)] ∧
      W.cell? ⟨b1, 0, none⟩ = some (.pointer (some ⟨xb, 0, none⟩)) ∧ Rep F W c2 v2 ∧ (v2.oneCell' = true → W.cell? ⟨b2, 0, none⟩ = some v2) ∧ Rep F W c3 v3 ∧ (v3.oneCell' = true → W.cell? ⟨b3, 0, none⟩ = some v3) ∧
      (∀ p off y, (Blk.box 76 (.ag (.t (.agg net) :: .t (.agg plan) :: rest))).at p = some (off, .t y) → ∃ v, Rep F W y v ∧ ∀ j c, v.cells.toList[j]? = some c → W.cell? ⟨xb, off + j, none⟩ = some c) := by
  obtain ⟨G, hF, hh, hc⟩ := h
  simp only [nodupB, List.contains_cons, List.contains_nil, Bool.or_false, Bool.and_true, Bool.not_false, Bool.and_eq_true, Bool.not_eq_true', Bool.or_eq_false_iff, beq_eq_false_iff_ne] at hd
  obtain ⟨⟨d1, d2, d3⟩, ⟨d4, d5⟩, d6⟩ := hd
  have k1 : lkB (lineI l1 l2 l3 lx (.t c2) (.t c3) e2 e3 net plan rest) l1 = some (.box 71 (.pt lx [] 0)) := by simp [lineI, lkB]
  have k2 : lkB (lineI l1 l2 l3 lx (.t c2) (.t c3) e2 e3 net plan rest) l2 = some (.box e2 (.t c2)) := by simp [lineI, lkB, Ne.symm d1]
  have k3 : lkB (lineI l1 l2 l3 lx (.t c2) (.t c3) e2 e3 net plan rest) l3 = some (.box e3 (.t c3)) := by simp [lineI, lkB, Ne.symm d2, Ne.symm d4]
  have k4 : lkB (lineI l1 l2 l3 lx (.t c2) (.t c3) e2 e3 net plan rest) lx = some (.box 76 (.ag (.t (.agg net) :: .t (.agg plan) :: rest))) := by simp [lineI, lkB, Ne.symm d3, Ne.symm d5, Ne.symm d6]
  unfold RepPs at hc
  obtain ⟨u1, r1, rfl, m1, hc⟩ := hc
  unfold RepPs at hc
  obtain ⟨u2, r2, rfl, m2, hc⟩ := hc
  unfold RepPs at hc
  obtain ⟨u3, r3, rfl, m3, hc⟩ := hc
  unfold RepPs at hc
  subst hc
  obtain ⟨b1, n1, rfl⟩ := rep_pt m1
  obtain ⟨b2, n2, rfl⟩ := rep_pt m2
  obtain ⟨b3, n3, rfl⟩ := rep_pt m3
  obtain ⟨w1, q1, _, q2, q3⟩ := box_cell hh k1 n1 (p := []) (off := 0) (y := .pt lx [] 0) (by simp [Blk.at, S.at])
  obtain ⟨xb, n4, rfl⟩ := rep_pt q1
  obtain ⟨v2, t1, _, t2, t3⟩ := box_cell hh k2 n2 (p := []) (off := 0) (y := .t c2) (by simp [Blk.at, S.at, t_at_nil])
  obtain ⟨v3, s1, _, s2, s3⟩ := box_cell hh k3 n3 (p := []) (off := 0) (y := .t c3) (by simp [Blk.at, S.at, t_at_nil])
  unfold RepS at t1 s1
  rw [hF] at t1 s1
  refine ⟨b1, b2, b3, xb, v2, v3, G, hF, rfl, one_cell q3 rfl, t1, fun h => one_cell t3 h, s1, fun h => one_cell s3 h, fun p off y ha => ?_⟩
  obtain ⟨v, z1, _, _, z2⟩ := box_cell hh k4 n4 ha
  unfold RepS at z1
  rw [hF] at z1
  exact ⟨v, z1, z2⟩
theorem prt_at {F : Nat → Prop} {W : World} {b o : Nat} {ports : List Prt} (h : ∀ i x, (ports.map encPr)[i]? = some x → ∃ u, Rep F W x u ∧ ∀ j y, u.cells.toList[j]? = some y → W.cell? ⟨b, o + (i * 3 + j), none⟩ = some y) : PrtAt b o ports W := by
  intro i p hp
  obtain ⟨u, hu, hc⟩ := h i (encPr p) (by rw [List.getElem?_map, hp]; rfl)
  unfold encPr Rep at hu
  obtain ⟨cells, rfl, hu⟩ := hu
  unfold Reps at hu
  obtain ⟨v1, c1, rfl, h1, hu⟩ := hu
  unfold Reps at hu
  obtain ⟨v2, c2, rfl, h2, hu⟩ := hu
  unfold Reps at hu
  obtain ⟨v3, c3, rfl, h3, hu⟩ := hu
  unfold Reps at hu
  subst hu
  unfold Rep at h1 h2 h3
  obtain ⟨rfl, _⟩ := h1
  obtain ⟨rfl, _⟩ := h2
  obtain ⟨rfl, _⟩ := h3
  refine ⟨?_, ?_, ?_⟩
  · have := hc 0 _ rfl; simpa [Nat.add_assoc] using this
  · have := hc 1 _ rfl; simpa [Nat.add_assoc] using this
  · have := hc 2 _ rfl; simpa [Nat.add_assoc] using this
theorem seg_at {F : Nat → Prop} {W : World} {b o : Nat} {segs : List Sgm} (h : ∀ i x, (segs.map encSg)[i]? = some x → ∃ u, Rep F W x u ∧ ∀ j y, u.cells.toList[j]? = some y → W.cell? ⟨b, o + (i * 7 + j), none⟩ = some y) : SegAt b o (segs.map (·.1)) W := by
  intro i p hp
  rw [List.getElem?_map] at hp
  obtain ⟨⟨p', pts⟩, hp1, rfl⟩ := Option.map_eq_some_iff.1 hp
  obtain ⟨u, hu, hc⟩ := h i (encSg (p', pts)) (by rw [List.getElem?_map, hp1]; rfl)
  unfold encSg Rep at hu
  obtain ⟨cells, rfl, hu⟩ := hu
  unfold Reps at hu
  obtain ⟨v1, c1, rfl, h1, hu⟩ := hu
  unfold Reps at hu
  obtain ⟨v2, c2, rfl, h2, hu⟩ := hu
  unfold Reps at hu
  obtain ⟨v3, c3, rfl, h3, hu⟩ := hu
  unfold Reps at hu
  obtain ⟨v4, c4, rfl, h4, hu⟩ := hu
  unfold Reps at hu
  obtain ⟨v5, c5, rfl, h5, hu⟩ := hu
  unfold Reps at hu
  obtain ⟨v6, c6, rfl, h6, hu⟩ := hu
  unfold Reps at hu
  obtain ⟨v7, c7, rfl, h7, hu⟩ := hu
  unfold Reps at hu
  subst hu
  unfold Rep at h1 h2 h3 h4 h5 h6 h7
  obtain ⟨rfl, _⟩ := h1
  obtain ⟨rfl, _⟩ := h2
  obtain ⟨rfl, _⟩ := h3
  obtain ⟨rfl, _⟩ := h4
  obtain ⟨rfl, _⟩ := h5
  obtain ⟨rfl, _⟩ := h6
  obtain ⟨x7, cap7, cs7, rfl, _⟩ := h7
  refine ⟨?_, ?_, ?_, ?_, ?_, ?_, x7, (pts.map encPt).length, cap7, ?_⟩
  · have := hc 0 _ rfl; simpa [Nat.add_assoc] using this
  · have := hc 1 _ rfl; simpa [Nat.add_assoc] using this
  · have := hc 2 _ rfl; simpa [Nat.add_assoc] using this
  · have := hc 3 _ rfl; simpa [Nat.add_assoc] using this
  · have := hc 4 _ rfl; simpa [Nat.add_assoc] using this
  · have := hc 5 _ rfl; simpa [Nat.add_assoc] using this
  · have := hc 6 _ rfl; simpa [Nat.add_assoc] using this
theorem rates_at {F : Nat → Prop} {W : World} {v : Value} {rates : List Int} (h : Rep F W (.sl 1 (rates.map encI)) v) (hne : rates ≠ []) : ∃ rb ro rc, v = .slice (some ⟨rb, ro, none⟩) rates.length rc ∧ rates.length ≤ rc ∧ ∀ i r, rates[i]? = some r → W.cell? ⟨rb, ro + i, none⟩ = some (.int .i64 r) := by
  obtain ⟨b, o, c, rfl, h1, _, h2⟩ := rep_slice h (by simpa using hne)
  refine ⟨b, o, c, by simp, by simpa using h1, fun i r hr => ?_⟩
  obtain ⟨u, hu, h3⟩ := h2 i (encI r) (by rw [List.getElem?_map, hr]; rfl)
  unfold encI at hu
  obtain rfl := rep_int hu
  have := h3 0 _ rfl
  simpa using this
theorem ports_iter (l1 l2 l3 lx : Nat) (hd : nodupB [l1, l2, l3, lx] = true) (node : Int) (inn : Bool) (nodes segsT statT : T) (ports : List Prt) (vap stl : T) (ratesT pumpsT : T) (rates : List Int) (rest : List S) (hw1 : nodes.width = 1) (hw2 : segsT.width = 1) (hw3 : ratesT.width = 1) (hw4 : statT.width = 1) (hw5 : vap.width = 1) (hw6 : stl.width = 1)
    (hlen : rates.length = ports.length) (hne : ports ≠ []) (hl2 : ports.length ≤ 1000) (hrate : ∀ r ∈ rates, -1000000000 ≤ r ∧ r ≤ 1000000000) :
    IterSy Tryz.prog 98 [.pt l1 [] 0, .pt l2 [] 0, .pt l3 [] 0] (lineI l1 l2 l3 lx (.t (.int node)) (.t (.bool inn)) 3 4 [nodes, segsT, .sl 3 (ports.map encPr), statT, vap, stl] [ratesT, .sl 1 (rates.map encI), pumpsT] rest)
      ((prtYs node inn 0 ports rates).map encY) := by
  intro lb F0 l J Jx W hR0 hJ hJx hRd hY h0
  have hrne : rates ≠ [] := by
    intro e; rw [e] at hlen; exact hne (List.length_eq_zero_iff.1 hlen.symm)
  obtain ⟨b1, b2, b3, xb, v2, v3, G, _, rfl, c1, c2, c2', c3, c3', cx⟩ := line_read hd hR0
  obtain ⟨v, k1, k2⟩ := cx [0, 2] 2 (.sl 3 (ports.map encPr)) (by simp [Blk.at, S.at, T.at, S.widths, S.width, T.width, T.widths, hw1, hw2])
  obtain ⟨pb, po, pc, rfl, k3, k4, k5⟩ := rep_slice k1 (by simpa using hne)
  have hcp := k2 0 _ rfl
  simp only [List.length_map] at hcp k3
  have hlb : ([Value.pointer (some ⟨b1, 0, none⟩), .pointer (some ⟨b2, 0, none⟩), .pointer (some ⟨b3, 0, none⟩)] : List Value).toArray = #[.pointer (some ⟨b1, 0, none⟩), .pointer (some ⟨b2, 0, none⟩), .pointer (some ⟨b3, 0, none⟩)] := rfl
  rw [hlb]
  have := ports1_in l b1 b2 b3 node inn ports rates hlen hl2 hrate F0 J Jx W hJ hJx ?_ ?_ h0 xb pb po pc c1 hcp k3 k4 (prt_at k5)
  · rw [List.length_map]; exact this
  · intro k A hA
    obtain ⟨F, hF⟩ := hRd k A hA
    obtain ⟨b1', b2', b3', xb', v2', v3', G', _, e, d1, d2, d2', d3, d3', dx⟩ := line_read hd hF
    simp only [List.cons.injEq, Value.pointer.injEq, Option.some.injEq, Addr.mk.injEq, and_true] at e
    obtain ⟨rfl, rfl, rfl⟩ := e
    obtain ⟨v, j1, j2⟩ := dx [1, 1] 7 (.sl 1 (rates.map encI)) (by simp [Blk.at, S.at, T.at, S.widths, S.width, T.width, T.widths, hw1, hw2, hw3, hw4, hw5, hw6])
    obtain ⟨rb, ro, rc, rfl, j3, j4⟩ := rates_at j1 hrne
    unfold Rep at d2 d3
    obtain ⟨rfl, _⟩ := d2
    obtain ⟨rfl, _⟩ := d3
    exact ⟨xb', rb, ro, rc, d1, d2' rfl, d3' rfl, j2 0 _ rfl, j3, j4⟩
  · intro k y A hy hA
    exact hY k (encY y) A (by rw [List.getElem?_map, hy]; rfl) hA
theorem segs_iter (l1 l2 l3 lx : Nat) (hd : nodupB [l1, l2, l3, lx] = true) (node : Int) (inn : Bool) (nodes portsT statT : T) (segs : List Sgm) (vap stl : T) (pratesT pumpsT : T) (rates : List Int) (rest : List S) (hw1 : nodes.width = 1) (hw2 : portsT.width = 1) (hw4 : statT.width = 1) (hw5 : vap.width = 1) (hw6 : stl.width = 1)
    (hlen : rates.length = segs.length) (hne : segs ≠ []) (hl2 : segs.length ≤ 1000) (hrate : ∀ r ∈ rates, -1000000000 ≤ r ∧ r ≤ 1000000000) :
    IterSy Tryz.prog 99 [.pt l1 [] 0, .pt l2 [] 0, .pt l3 [] 0] (lineI l1 l2 l3 lx (.t (.bool inn)) (.t (.int node)) 4 3 [nodes, .sl 7 (segs.map encSg), portsT, statT, vap, stl] [.sl 1 (rates.map encI), pratesT, pumpsT] rest)
      ((segYs node inn 0 (segs.map (·.1)) rates).map encY) := by
  intro lb F0 l J Jx W hR0 hJ hJx hRd hY h0
  have hrne : rates ≠ [] := by
    intro e; rw [e] at hlen; exact hne (List.length_eq_zero_iff.1 hlen.symm)
  obtain ⟨b1, b2, b3, xb, v2, v3, G, _, rfl, c1, c2, c2', c3, c3', cx⟩ := line_read hd hR0
  obtain ⟨v, k1, k2⟩ := cx [0, 1] 1 (.sl 7 (segs.map encSg)) (by simp [Blk.at, S.at, T.at, S.widths, S.width, T.width, T.widths, hw1])
  obtain ⟨pb, po, pc, rfl, k3, k4, k5⟩ := rep_slice k1 (by simpa using hne)
  have hcp := k2 0 _ rfl
  simp only [List.length_map] at hcp k3
  have hlb : ([Value.pointer (some ⟨b1, 0, none⟩), .pointer (some ⟨b2, 0, none⟩), .pointer (some ⟨b3, 0, none⟩)] : List Value).toArray = #[.pointer (some ⟨b1, 0, none⟩), .pointer (some ⟨b2, 0, none⟩), .pointer (some ⟨b3, 0, none⟩)] := rfl
  rw [hlb]
  have := segs1_in l b1 b2 b3 node inn (segs.map (·.1)) rates (by simpa using hlen) (by simpa using hl2) hrate F0 J Jx W hJ hJx ?_ ?_ h0 xb pb po pc c1 (by simpa using hcp) (by simpa using k3) k4 (seg_at k5)
  · rw [List.length_map]; exact this
  · intro k A hA
    obtain ⟨F, hF⟩ := hRd k A hA
    obtain ⟨b1', b2', b3', xb', v2', v3', G', _, e, d1, d2, d2', d3, d3', dx⟩ := line_read hd hF
    simp only [List.cons.injEq, Value.pointer.injEq, Option.some.injEq, Addr.mk.injEq, and_true] at e
    obtain ⟨rfl, rfl, rfl⟩ := e
    obtain ⟨v, j1, j2⟩ := dx [1, 0] 6 (.sl 1 (rates.map encI)) (by simp [Blk.at, S.at, T.at, S.widths, S.width, T.width, T.widths, hw1, hw2, hw4, hw5, hw6])
    obtain ⟨rb, ro, rc, rfl, j3, j4⟩ := rates_at j1 hrne
    unfold Rep at d2 d3
    obtain ⟨rfl, _⟩ := d2
    obtain ⟨rfl, _⟩ := d3
    exact ⟨xb', rb, ro, rc, d1, d2' rfl, d3' rfl, j2 0 _ rfl, j3, j4⟩
  · intro k y A hy hA
    exact hY k (encY y) A (by rw [List.getElem?_map, hy]; rfl) hA
end Go.Proofs.YtdjmklobfjigoaaGreatDoor
namespace Go.Proofs.YtdjmklobfjigoaaGreatDoor
open Go.RowKit Sy
open Go.IntWalk renaming iteOmega → iO, toNatUp → tN
theorem merged_fn (l : List (Int × Int)) (h : Pc.Sane l) : FnOk Tryz.prog 32 [.t (encPs l)] [] (.own 1000) [(1000, blkP (Pc.join l))] := by
  have hlen := h.len
  refine FnOk.intro fact_mixed Tryz.func32 rfl Tryz.ntmps32 (by rfl) (by simp) ?_
  repeat (first | (refine nf1_sound rfl ?_; simp [go_sem, ↓iO, iO, tN]) | refine anI ?_ | refine ⟨dcK, ?_⟩ | ((first | refine iP ?_ | refine iN ?_); try simp [go_sem, ↓iO, iO, tN]))
  refine nf1_sound' _ _ _ ?_; simp only [nf1]
  refine CW.loop (ι := Nat) (fun k => ⟨[(3, .own 500), (7, .t (encPs l)), (8, .t (.int l.length)), (9, .t (.int k))], [(500, blkP (Pc.join (l.take k)))]⟩) (fun k => k ≤ l.length) (fun k => l.length - k) 0 [(500, none)] (by omega) ?_ ?_
  · simp [go_sem, ↓iO, iO, tN, Pc.join]
  intro k hk
  by_cases hb : k < l.length
  · obtain ⟨p, hp⟩ := has_get hb
    have hs := Pc.join_snoc hp
    have hpv := h.each p (mem_get hp)
    have hjl := Pc.join_length (l.take k)
    rw [List.length_take] at hjl
    have hje := join_each (h.take k)
    obtain ⟨out, hout⟩ : ∃ out, out = Pc.join (l.take k) := ⟨_, rfl⟩
    rw [← hout] at hs hjl hje
    by_cases hz : p.2 = 0
    · rw [Pc.jstep_zero hz] at hs
      repeat (first | (refine nf1_sound rfl ?_; simp [go_sem, ↓iO, iO, tN, hp, hz, ← hout]) | refine anI ?_ | refine ⟨dcK, ?_⟩ | ((first | refine iP ?_ | refine iN ?_); try simp [go_sem, ↓iO, iO, tN, hp, hz, ← hout]))
      rw [RoundQ_normal]; refine ⟨k + 1, [(500, some 500)], ?_, ?_, ?_⟩
      · omega
      · omega
      simp [go_sem, ↓iO, iO, tN, hs, ← hout]
    · rcases List.eq_nil_or_concat out with rfl | ⟨o, q, rfl⟩
      · rw [Pc.jstep_new hz (by simp)] at hs
        repeat (first | (refine nf1_sound rfl ?_; simp [go_sem, ↓iO, iO, tN, hp, hz, ← hout]) | refine anI ?_ | refine ⟨dcK, ?_⟩ | ((first | refine iP ?_ | refine iN ?_); try simp [go_sem, ↓iO, iO, tN, hp, hz, ← hout]))
        rw [RoundQ_normal]; refine ⟨k + 1, [(500, some 118)], ?_, ?_, ?_⟩
        · omega
        · omega
        simp [go_sem, ↓iO, iO, tN, hs, ← hout]
      · simp only [List.concat_eq_append] at *
        simp only [List.length_append, List.length_singleton] at hjl
        have hq := hje q (by simp)
        by_cases he : q.1 = p.1
        · rw [Pc.jstep_same hz (by simp) he, List.dropLast_concat] at hs
          repeat (first | (refine nf1_sound rfl ?_; simp [go_sem, ↓iO, iO, tN, hp, hz, ← hout, he]) | refine anI ?_ | refine ⟨dcK, ?_⟩ | ((first | refine iP ?_ | refine iN ?_); try simp [go_sem, ↓iO, iO, tN, hp, hz, ← hout, he]))
          rw [RoundQ_normal]; refine ⟨k + 1, [(500, some 500)], ?_, ?_, ?_⟩
          · omega
          · omega
          simp [go_sem, ↓iO, iO, tN, hs, ← hout, he]
        · rw [Pc.jstep_new hz (by simpa using he)] at hs
          repeat (first | (refine nf1_sound rfl ?_; simp [go_sem, ↓iO, iO, tN, hp, hz, ← hout, he]) | refine anI ?_ | refine ⟨dcK, ?_⟩ | ((first | refine iP ?_ | refine iN ?_); try simp [go_sem, ↓iO, iO, tN, hp, hz, ← hout, he]))
          rw [RoundQ_normal]; refine ⟨k + 1, [(500, some 118)], ?_, ?_, ?_⟩
          · omega
          · omega
          simp [go_sem, ↓iO, iO, tN, hs, ← hout, he]
  · obtain rfl : k = l.length := by omega
    repeat (first | (refine nf1_sound rfl ?_; simp [go_sem, ↓iO, iO, tN]) | refine anI ?_ | refine ⟨dcK, ?_⟩ | ((first | refine iP ?_ | refine iN ?_); try simp [go_sem, ↓iO, iO, tN]))
    first | rw [RetQ_ret] | rw [RetQ_normal]
    refine ⟨[(1000, some 500)], ?_⟩
    simp [go_sem, ↓iO, iO, tN, List.take_length]
theorem join_fn (l0 m : List (Int × Int)) (h : Pc.Sane (l0 ++ m)) (hz : ∀ p ∈ m, p.2 ≠ 0) : FnOk Tryz.prog 36 [.own 0, .t (encPs m)] [(0, blkP (Pc.join l0))] (.own 1000) [(1000, blkP (Pc.join (l0 ++ m)))] := by
  have hlen := h.len
  rw [List.length_append] at hlen
  have jsn : ∀ (k : Nat) (p : Int × Int), m[k]? = some p → Pc.join (l0 ++ m.take (k + 1)) = Pc.jstep (Pc.join (l0 ++ m.take k)) p := by
    intro k p hp
    obtain ⟨hk, rfl⟩ := List.getElem?_eq_some_iff.1 hp
    unfold Pc.join
    rw [List.take_succ_eq_append_getElem hk, ← List.append_assoc, List.foldl_append]
    rfl
  have tk : ∀ k, l0 ++ m.take k = (l0 ++ m).take (l0.length + k) := by
    intro k
    rw [List.take_append, Nat.add_sub_cancel_left, List.take_of_length_le (l := l0) (by omega)]
  refine FnOk.intro fact_mixed Tryz.func36 rfl Tryz.ntmps36 (by rfl) (by simp) ?_
  repeat (first | (refine nf1_sound rfl ?_; simp [go_sem, ↓iO, iO, tN]) | refine anI ?_ | refine ⟨dcK, ?_⟩ | ((first | refine iP ?_ | refine iN ?_); try simp [go_sem, ↓iO, iO, tN]))
  refine nf1_sound' _ _ _ ?_; simp only [nf1]
  refine CW.loop (ι := Nat) (fun k => ⟨[(0, .own 500), (8, .t (encPs m)), (9, .t (.int m.length)), (10, .t (.int k))], [(500, blkP (Pc.join (l0 ++ m.take k)))]⟩) (fun k => k ≤ m.length) (fun k => m.length - k) 0 [(500, some 0)] (by omega) ?_ ?_
  · simp [go_sem, ↓iO, iO, tN]
  intro k hk
  by_cases hb : k < m.length
  · obtain ⟨p, hp⟩ := has_get hb
    have hs := jsn k p hp
    have hpv := h.each p (List.mem_append_right _ (mem_get hp))
    have hz := hz p (mem_get hp)
    have hjl := Pc.join_length (l0 ++ m.take k)
    rw [List.length_append, List.length_take] at hjl
    have hje := join_each (l := l0 ++ m.take k) (by rw [tk]; exact h.take _)
    obtain ⟨out, hout⟩ : ∃ out, out = Pc.join (l0 ++ m.take k) := ⟨_, rfl⟩
    rw [← hout] at hs hjl hje
    rcases List.eq_nil_or_concat out with rfl | ⟨o, q, rfl⟩
    · rw [Pc.jstep_new hz (by simp)] at hs
      repeat (first | (refine nf1_sound rfl ?_; simp [go_sem, ↓iO, iO, tN, hp, hz, ← hout]) | refine anI ?_ | refine ⟨dcK, ?_⟩ | ((first | refine iP ?_ | refine iN ?_); try simp [go_sem, ↓iO, iO, tN, hp, hz, ← hout]))
      rw [RoundQ_normal]; refine ⟨k + 1, [(500, some 143)], ?_, ?_, ?_⟩
      · omega
      · omega
      simp [go_sem, ↓iO, iO, tN, hs, ← hout]
    · simp only [List.concat_eq_append] at *
      simp only [List.length_append, List.length_singleton] at hjl
      have hq := hje q (by simp)
      by_cases he : q.1 = p.1
      · rw [Pc.jstep_same hz (by simp) he, List.dropLast_concat] at hs
        repeat (first | (refine nf1_sound rfl ?_; simp [go_sem, ↓iO, iO, tN, hp, hz, ← hout, he]) | refine anI ?_ | refine ⟨dcK, ?_⟩ | ((first | refine iP ?_ | refine iN ?_); try simp [go_sem, ↓iO, iO, tN, hp, hz, ← hout, he]))
        rw [RoundQ_normal]; refine ⟨k + 1, [(500, some 500)], ?_, ?_, ?_⟩
        · omega
        · omega
        simp [go_sem, ↓iO, iO, tN, hs, ← hout, he]
      · rw [Pc.jstep_new hz (by simpa using he)] at hs
        repeat (first | (refine nf1_sound rfl ?_; simp [go_sem, ↓iO, iO, tN, hp, hz, ← hout, he]) | refine anI ?_ | refine ⟨dcK, ?_⟩ | ((first | refine iP ?_ | refine iN ?_); try simp [go_sem, ↓iO, iO, tN, hp, hz, ← hout, he]))
        rw [RoundQ_normal]; refine ⟨k + 1, [(500, some 143)], ?_, ?_, ?_⟩
        · omega
        · omega
        simp [go_sem, ↓iO, iO, tN, hs, ← hout, he]
  · obtain rfl : k = m.length := by omega
    repeat (first | (refine nf1_sound rfl ?_; simp [go_sem, ↓iO, iO, tN]) | refine anI ?_ | refine ⟨dcK, ?_⟩ | ((first | refine iP ?_ | refine iN ?_); try simp [go_sem, ↓iO, iO, tN]))
    first | rw [RetQ_ret] | rw [RetQ_normal]
    refine ⟨[(1000, some 500)], ?_⟩
    simp [go_sem, ↓iO, iO, tN, List.take_length]
@[go_sem] def encGv (o : Option (List (Int × Int))) : T := match o with
  | some l => .sl 2 (l.map encP)
  | none => .lit (.slice none 0 0)
theorem width_gv (o : Option (List (Int × Int))) : (encGv o).width = 1 := by cases o <;> rfl
theorem widths_gv : ∀ l : List (Option (List (Int × Int))), T.widths (l.map encGv) = l.length
  | [] => rfl
  | x :: r => by simp only [List.map_cons, T.widths, widths_gv r, width_gv, List.length_cons]; omega
@[go_sem] def blkG (l : List (Option (List (Int × Int)))) : Blk := .list 41 1 (l.map encGv)
@[go_sem] def lineB (net plan : List T) (feeds order : T) : Blk := .box 76 (.ag [.t (.agg net), .t (.agg plan), .t feeds, .t order, .own 1, .own 2, .own 3])
theorem ports_fn (net plan : List T) (feeds order : T) (fi gi oo : List (Option (List (Int × Int)))) (node : Int) (inn : Bool) : FnOk Tryz.prog 68 [.pt 0 [] 0, .t (.int node), .t (.bool inn)] [(0, lineB net plan feeds order), (1, blkG fi), (2, blkG gi), (3, blkG oo)] (.fn 98 [.pt 1000 [] 0, .pt 1001 [] 0, .pt 1002 [] 0])
    [(0, lineB net plan feeds order), (1, blkG fi), (2, blkG gi), (3, blkG oo), (1000, .box 71 (.pt 0 [] 0)), (1001, .box 3 (.t (.int node))), (1002, .box 4 (.t (.bool inn)))] := by
  refine FnOk.intro fact_mixed Tryz.func68 rfl Tryz.ntmps68 (by rfl) (by simp) ?_
  repeat (first | (refine nf1_sound rfl ?_; simp [go_sem, ↓iO, iO, tN]) | refine anI ?_ | refine ⟨dcK, ?_⟩ | ((first | refine iP ?_ | refine iN ?_); try simp [go_sem, ↓iO, iO, tN]))
  first | rw [RetQ_ret] | rw [RetQ_normal]
  refine ⟨[(0, some 0), (1, some 1), (2, some 2), (3, some 3), (1000, some 103), (1001, some 104), (1002, some 105)], ?_⟩
  simp [go_sem, ↓iO, iO, tN]
theorem segments_fn (net plan : List T) (feeds order : T) (fi gi oo : List (Option (List (Int × Int)))) (node : Int) (inn : Bool) : FnOk Tryz.prog 69 [.pt 0 [] 0, .t (.int node), .t (.bool inn)] [(0, lineB net plan feeds order), (1, blkG fi), (2, blkG gi), (3, blkG oo)] (.fn 99 [.pt 1000 [] 0, .pt 1001 [] 0, .pt 1002 [] 0])
    [(0, lineB net plan feeds order), (1, blkG fi), (2, blkG gi), (3, blkG oo), (1000, .box 71 (.pt 0 [] 0)), (1001, .box 4 (.t (.bool inn))), (1002, .box 3 (.t (.int node)))] := by
  refine FnOk.intro fact_mixed Tryz.func69 rfl Tryz.ntmps69 (by rfl) (by simp) ?_
  repeat (first | (refine nf1_sound rfl ?_; simp [go_sem, ↓iO, iO, tN]) | refine anI ?_ | refine ⟨dcK, ?_⟩ | ((first | refine iP ?_ | refine iN ?_); try simp [go_sem, ↓iO, iO, tN]))
  first | rw [RetQ_ret] | rw [RetQ_normal]
  refine ⟨[(0, some 0), (1, some 1), (2, some 2), (3, some 3), (1000, some 103), (1001, some 105), (1002, some 104)], ?_⟩
  simp [go_sem, ↓iO, iO, tN]
attribute [go_sem] ThenB_normal EndQ_normal
structure LineD where
  nodes : T
  segs : List Sgm
  ports : List Prt
  stat : T
  vap : T
  stl : T
  rates : List Int
  prates : List Int
  pumps : T
  feeds : List Int
structure LineOk (d : LineD) : Prop where
  w1 : d.nodes.width = 1
  w2 : d.stat.width = 1
  w3 : d.vap.width = 1
  w4 : d.stl.width = 1
  w5 : d.pumps.width = 1
  lenR : d.rates.length = d.segs.length
  lenP : d.prates.length = d.ports.length
  lenF : d.feeds.length = d.ports.length
  neS : d.segs ≠ []
  neP : d.ports ≠ []
  maxS : d.segs.length ≤ 1000
  maxP : d.ports.length ≤ 1000
  bR : ∀ r ∈ d.rates, -1000000 ≤ r ∧ r ≤ 1000000
  bP : ∀ r ∈ d.prates, -1000000 ≤ r ∧ r ≤ 1000000
  bF : ∀ r ∈ d.feeds, -1000000 ≤ r ∧ r ≤ 1000000
@[go_sem] def LineD.net (d : LineD) : List T := [d.nodes, .sl 7 (d.segs.map encSg), .sl 3 (d.ports.map encPr), d.stat, d.vap, d.stl]
@[go_sem] def LineD.plan (d : LineD) : List T := [.sl 1 (d.rates.map encI), .sl 1 (d.prates.map encI), d.pumps]
theorem prtYs_get {node : Int} {inn : Bool} : ∀ {ps : List Prt} {rs : List Int} {k : Nat} {y : Nat × Int}, y ∈ prtYs node inn k ps rs → k ≤ y.1 ∧ y.1 < k + ps.length ∧ 0 < y.2 ∧ ∃ r ∈ rs, y.2 = absI r
  | [], rs, k, y, h => by simp [prtYs] at h
  | p :: ps, [], k, y, h => by simp [prtYs] at h
  | p :: ps, r :: rs, k, y, h => by
    simp only [prtYs] at h
    have go : y ∈ prtYs node inn (k + 1) ps rs → k ≤ y.1 ∧ y.1 < k + (p :: ps).length ∧ 0 < y.2 ∧ ∃ r' ∈ r :: rs, y.2 = absI r' := fun h => by
      obtain ⟨h1, h2, h3, r', h4, h5⟩ := prtYs_get h
      exact ⟨by omega, by simp only [List.length_cons]; omega, h3, r', by simp [h4], h5⟩
    split at h
    · rename_i hc
      rcases List.mem_cons.1 h with rfl | h
      · refine ⟨Nat.le_refl _, by simp, ?_, r, by simp, rfl⟩
        have := hc.2.1
        simp only [absI]; omega
      · exact go h
    · exact go h
theorem prtYs_len2 (node : Int) (inn : Bool) : ∀ (k : Nat) (ps : List Prt) (rs : List Int), (prtYs node inn k ps rs).length ≤ ps.length
  | k, [], rs => by simp [prtYs]
  | k, p :: ps, [] => by simp [prtYs]
  | k, p :: ps, r :: rs => by
    have := prtYs_len2 node inn (k + 1) ps rs
    simp only [prtYs]
    split <;> simp <;> omega
def prtPc (feeds : List Int) (ys : List (Nat × Int)) : List (Int × Int) := ys.map fun y => (feeds.getD y.1 0, y.2)
theorem segYs_get {node : Int} {inn : Bool} : ∀ {ps : List SegV} {rs : List Int} {k : Nat} {y : Nat × Int}, y ∈ segYs node inn k ps rs → k ≤ y.1 ∧ y.1 < k + ps.length ∧ 0 < y.2 ∧ ∃ r ∈ rs, y.2 = absI r
  | [], rs, k, y, h => by simp [segYs] at h
  | p :: ps, [], k, y, h => by simp [segYs] at h
  | p :: ps, r :: rs, k, y, h => by
    simp only [segYs] at h
    have go : y ∈ segYs node inn (k + 1) ps rs → k ≤ y.1 ∧ y.1 < k + (p :: ps).length ∧ 0 < y.2 ∧ ∃ r' ∈ r :: rs, y.2 = absI r' := fun h => by
      obtain ⟨h1, h2, h3, r', h4, h5⟩ := segYs_get h
      exact ⟨by omega, by simp only [List.length_cons]; omega, h3, r', by simp [h4], h5⟩
    split at h
    · rename_i hc
      rcases List.mem_cons.1 h with rfl | h
      · refine ⟨Nat.le_refl _, by simp, ?_, r, by simp, rfl⟩
        have := hc.1
        simp only [absI]; omega
      · exact go h
    · exact go h
def gvAt (gi : List (Option (List (Int × Int)))) (z : Nat × Int) : List (Int × Int) := (gi.getD z.1 none).getD []
def comesV (d : LineD) (gi : List (Option (List (Int × Int)))) (node : Int) : List (Int × Int) := prtPc d.feeds (prtYs node true 0 d.ports d.prates) ++ (segYs node true 0 (d.segs.map (·.1)) d.rates).flatMap (gvAt gi)
theorem stream_fn (d : LineD) (hd : LineOk d) (order : T) (w6 : order.width = 1) (fi gi oo : List (Option (List (Int × Int)))) (node : Int) (hg : gi.length = d.segs.length) (hS : Pc.Sane (comesV d gi node)) (hnz : ∀ z ∈ segYs node true 0 (d.segs.map (·.1)) d.rates, ∀ p ∈ gvAt gi z, p.2 ≠ 0) :
    FnOk Tryz.prog 67 [.pt 0 [] 0, .t (.int node)] [(0, lineB d.net d.plan (.sl 1 (d.feeds.map encI)) order), (1, blkG fi), (2, blkG gi), (3, blkG oo)]
      (.own 1000) [(0, lineB d.net d.plan (.sl 1 (d.feeds.map encI)) order), (1, blkG fi), (2, blkG gi), (3, blkG oo), (1000, blkP (Pc.join (comesV d gi node)))] := by
  unfold comesV at hS ⊢
  refine FnOk.intro fact_mixed Tryz.func67 rfl Tryz.ntmps67 (by rfl) (by simp) ?_
  repeat (first | (refine nf1_sound rfl ?_; simp [go_sem, ↓iO, iO, tN]) | refine anI ?_ | refine ⟨dcK, ?_⟩ | ((first | refine iP ?_ | refine iN ?_); try simp [go_sem, ↓iO, iO, tN]))
  refine CallK.fn (ports_fn d.net d.plan (.sl 1 (d.feeds.map encI)) order fi gi oo node true) [(0, 0), (1, 1), (2, 2), (3, 3), (1000, 500), (1001, 501), (1002, 502)] [] [] (by kernel_rfl) ?_ ?_ ?_ (Or.inl rfl) ?_ <;> simp [go_sem, ↓iO, iO, tN]
  repeat (refine anI ?_)
  try (refine ⟨dcK, ?_⟩)
  refine nf1_sound' _ _ _ ?_; simp only [nf1]
  obtain ⟨Y, hY⟩ : ∃ Y, prtYs node true 0 d.ports d.prates = Y := ⟨_, rfl⟩
  have hYg : ∀ y ∈ Y, y.1 < d.ports.length ∧ 0 < y.2 ∧ y.2 ≤ 1000000 := fun y hy => by
    rw [← hY] at hy
    obtain ⟨h1, h2, h3, r, h4, h5⟩ := prtYs_get hy
    have := hd.bP r h4
    unfold absI at h5
    exact ⟨by omega, h3, by omega⟩
  obtain ⟨pc, hpc⟩ : ∃ pc, prtPc d.feeds Y = pc := ⟨_, rfl⟩
  obtain ⟨Z, hZ⟩ : ∃ Z, segYs node true 0 (d.segs.map (·.1)) d.rates = Z := ⟨_, rfl⟩
  have hZg : ∀ z ∈ Z, z.1 < d.segs.length ∧ 0 < z.2 := fun y hy => by
    rw [← hZ] at hy
    obtain ⟨h1, h2, h3, _⟩ := segYs_get hy
    exact ⟨by simpa using h2, h3⟩
  rw [hY, hpc, hZ] at hS
  rw [hZ] at hnz
  rw [hY, hpc, hZ]
  refine CW.rangeF (N := 41) [(0, .pt 0 [] 0), (1, .t (.int node)), (2, .pt 102 [] 0), (5, .pt 105 [] 0), (11, .fn 98 [.pt 500 [] 0, .pt 501 [] 0, .pt 502 [] 0])]
    (fun k => [(0, lineB d.net d.plan (.sl 1 (d.feeds.map encI)) order), (1, blkG fi), (2, blkG gi), (3, blkG oo), (102, .box 71 (.pt 0 [] 0)), (105, .box 41 (.own 510)), (510, blkP (Pc.join (pc.take k))), (500, .box 71 (.pt 0 [] 0)), (501, .box 3 (.t (.int node))), (502, .box 4 (.t (.bool true)))])
    [(0, some 0), (1, some 1), (2, some 2), (3, some 3), (102, some 102), (105, some 105), (510, none), (500, some 500), (501, some 501), (502, some 502)]
    (lineI 500 501 502 0 (.t (.int node)) (.t (.bool true)) 3 4 d.net d.plan [.t (.sl 1 (d.feeds.map encI)), .t order, .own 1, .own 2, .own 3]) (Y.map encY)
    [(0, some 0), (1, some 1), (2, some 2), (3, some 3), (102, some 102), (105, some 105), (510, some 510), (500, some 500), (501, some 501), (502, some 502)]
    ?_ rfl (by kernel_rfl) (by kernel_rfl) (by kernel_rfl) (by kernel_rfl) (by kernel_rfl) (by kernel_rfl) (by kernel_rfl) ?_ ?_ ?_ rfl ?_ ?_ ?_
  · simp [go_sem, ↓iO, iO, tN, Pc.join]
  · intro y hy
    obtain ⟨z, _, rfl⟩ := List.mem_map.1 hy
    rfl
  · intro y hy v hv
    obtain ⟨z, _, rfl⟩ := List.mem_map.1 hy
    simp [encY] at hv
    rcases hv with rfl | rfl <;> rfl
  · rw [← hY]
    exact ports_iter 500 501 502 0 rfl node true d.nodes (.sl 7 (d.segs.map encSg)) d.stat d.ports d.vap d.stl (.sl 1 (d.rates.map encI)) d.pumps d.prates _ hd.w1 rfl rfl hd.w2 hd.w3 hd.w4 hd.lenP hd.neP hd.maxP (fun r hr => by have := hd.bP r hr; omega)
  · intro k hk
    simp [go_sem, ↓iO, iO, tN, lineI]
    rfl
  · intro k y hy
    obtain ⟨z, hz, rfl⟩ : ∃ z, Y[k]? = some z ∧ y = encY z := by
      rw [List.getElem?_map] at hy
      obtain ⟨z, h1, h2⟩ := Option.map_eq_some_iff.1 hy
      exact ⟨z, h1, h2.symm⟩
    obtain ⟨z1, z2⟩ := z
    obtain ⟨q1, q2, q3⟩ := hYg _ (List.mem_of_getElem? hz)
    dsimp only at q1 q2 q3
    obtain ⟨f, hf⟩ : ∃ f, d.feeds[z1]? = some f := has_get (by rw [hd.lenF]; exact q1)
    have hpk : pc[k]? = some (f, z2) := by rw [← hpc]; simp [prtPc, hz, List.getD, hf]
    have hlf := hd.lenF
    have hmx := hd.maxP
    have w1 := hd.w1
    have w2 := hd.w2
    have w3 := hd.w3
    have w4 := hd.w4
    have w5 := hd.w5
    have q4 : z1 < d.feeds.length := by omega
    have hf2 : d.feeds[z1] = f := by rw [List.getElem?_eq_getElem q4] at hf; exact Option.some.inj hf
    have j1 := join_fn (pc.take k) [(f, z2)] (by
      refine ⟨?_, fun p hp => ?_⟩
      · have : pc.length = Y.length := by rw [← hpc]; simp [prtPc]
        have h3 := prtYs_len2 node true 0 d.ports d.prates
        rw [hY] at h3
        simp; omega
      · rcases List.mem_append.1 hp with hp | hp
        · have hp := List.mem_of_mem_take hp
          rw [← hpc] at hp
          obtain ⟨y, hy, rfl⟩ := List.mem_map.1 hp
          have := hYg y hy
          dsimp only; omega
        · simp at hp; subst hp; dsimp only; omega) (by simp; omega)
    have e1 : pc.take k ++ [(f, z2)] = pc.take (k + 1) := by
      obtain ⟨hk, e⟩ := List.getElem?_eq_some_iff.1 hpk
      rw [List.take_succ_eq_append_getElem hk, e]
    rw [e1] at j1
    refine ⟨[(0, 0), (1, 1), (2, 2), (3, 3), (4, 102), (5, 105), (6, 510), (1000, 511)], [(2, .pt 4 [] 0), (5, .pt 5 [] 0)],
      [(0, lineB d.net d.plan (.sl 1 (d.feeds.map encI)) order), (1, blkG fi), (2, blkG gi), (3, blkG oo), (4, .box 71 (.pt 0 [] 0)), (5, .box 41 (.own 6)), (6, blkP (Pc.join (pc.take k)))],
      [(0, lineB d.net d.plan (.sl 1 (d.feeds.map encI)) order), (1, blkG fi), (2, blkG gi), (3, blkG oo), (4, .box 71 (.pt 0 [] 0)), (5, .box 41 (.own 1000)), (1000, blkP (Pc.join (pc.take (k + 1))))],
      [(0, some 0), (1, some 1), (2, some 2), (3, some 3), (102, some 102), (105, some 105), (510, some 511), (500, some 500), (501, some 501), (502, some 502)], ?_⟩
    refine ⟨by kernel_rfl, ?_, ?_, rfl, by kernel_rfl, ?_, ?_⟩
    · simp [go_sem, ↓iO, iO, tN]
    · simp [go_sem, ↓iO, iO, tN, slotsR, S.ren]
    · simp [go_sem, ↓iO, iO, tN, psS, encY, hf, w1, w2, w3, w4, w5, q4]
      repeat (refine anI ?_)
      refine CallK.fn (j1) [(0, 6), (1000, 600)] [124] [] (by kernel_rfl) ?_ ?_ ?_ (Or.inr ⟨?_, ?_⟩) ?_ <;> simp [go_sem, ↓iO, iO, tN, w1, w2, w3, w4, w5, hf, hf2]
      repeat (refine anI ?_)
      try (refine ⟨dcK, ?_⟩)
      refine ⟨[(0, some 0), (1, some 1), (2, some 2), (3, some 3), (4, some 4), (5, some 5), (1000, some 600)], ?_⟩
      simp [go_sem, ↓iO, iO, tN]
    · simp [go_sem, ↓iO, iO, tN]
  · have hpl : (Y.map encY).length = pc.length := by rw [← hpc]; simp [prtPc]
    rw [hpl]
    simp [go_sem, ↓iO, iO, tN, List.take_length]
    repeat (first | (refine nf1_sound rfl ?_; simp [go_sem, ↓iO, iO, tN]) | refine anI ?_ | refine ⟨dcK, ?_⟩ | ((first | refine iP ?_ | refine iN ?_); try simp [go_sem, ↓iO, iO, tN]))
    refine CallK.fn (segments_fn d.net d.plan (.sl 1 (d.feeds.map encI)) order fi gi oo node true) [(0, 0), (1, 1), (2, 2), (3, 3), (1000, 520), (1001, 521), (1002, 522)] [] [] (by kernel_rfl) ?_ ?_ ?_ (Or.inl rfl) ?_ <;> simp [go_sem, ↓iO, iO, tN]
    repeat (refine anI ?_)
    try (refine ⟨dcK, ?_⟩)
    refine nf1_sound' _ _ _ ?_; simp only [nf1]
    refine CW.rangeF (N := 41) [(0, .pt 0 [] 0), (1, .t (.int node)), (2, .pt 102 [] 0), (5, .pt 105 [] 0), (28, .fn 99 [.pt 520 [] 0, .pt 521 [] 0, .pt 522 [] 0])]
      (fun k => [(0, lineB d.net d.plan (.sl 1 (d.feeds.map encI)) order), (1, blkG fi), (2, blkG gi), (3, blkG oo), (102, .box 71 (.pt 0 [] 0)), (105, .box 41 (.own 510)), (510, blkP (Pc.join (pc ++ (Z.take k).flatMap (gvAt gi)))), (520, .box 71 (.pt 0 [] 0)), (521, .box 4 (.t (.bool true))), (522, .box 3 (.t (.int node)))])
      [(0, some 0), (1, some 1), (2, some 2), (3, some 3), (102, some 102), (105, some 105), (510, some 510), (520, some 520), (521, some 521), (522, some 522)]
      (lineI 520 521 522 0 (.t (.bool true)) (.t (.int node)) 4 3 d.net d.plan [.t (.sl 1 (d.feeds.map encI)), .t order, .own 1, .own 2, .own 3]) (Z.map encY)
      [(0, some 0), (1, some 1), (2, some 2), (3, some 3), (102, some 102), (105, some 105), (510, some 510), (520, some 520), (521, some 521), (522, some 522)]
      ?_ rfl (by kernel_rfl) (by kernel_rfl) (by kernel_rfl) (by kernel_rfl) (by kernel_rfl) (by kernel_rfl) (by kernel_rfl) ?_ ?_ ?_ rfl ?_ ?_ ?_
    · simp [go_sem, ↓iO, iO, tN]
    · intro y hy
      obtain ⟨z, _, rfl⟩ := List.mem_map.1 hy
      rfl
    · intro y hy v hv
      obtain ⟨z, _, rfl⟩ := List.mem_map.1 hy
      simp [encY] at hv
      rcases hv with rfl | rfl <;> rfl
    · rw [← hZ]
      exact segs_iter 520 521 522 0 rfl node true d.nodes (.sl 3 (d.ports.map encPr)) d.stat d.segs d.vap d.stl (.sl 1 (d.prates.map encI)) d.pumps d.rates _ hd.w1 rfl hd.w2 hd.w3 hd.w4 hd.lenR hd.neS hd.maxS (fun r hr => by have := hd.bR r hr; omega)
    · intro k hk
      simp [go_sem, ↓iO, iO, tN, lineI]
      rfl
    · intro k y hy
      obtain ⟨z, hz, rfl⟩ : ∃ z, Z[k]? = some z ∧ y = encY z := by
        rw [List.getElem?_map] at hy
        obtain ⟨z, h1, h2⟩ := Option.map_eq_some_iff.1 hy
        exact ⟨z, h1, h2.symm⟩
      obtain ⟨q1, q2⟩ := hZg _ (List.mem_of_getElem? hz)
      have hnz := hnz _ (List.mem_of_getElem? hz)
      obtain ⟨o, ho⟩ : ∃ o, gi[z.1]? = some o := has_get (by rw [hg]; exact q1)
      have hgv : gvAt gi z = o.getD [] := by unfold gvAt; rw [List.getD_eq_getElem?_getD, ho]; rfl
      have e1 : (Z.take (k + 1)).flatMap (gvAt gi) = (Z.take k).flatMap (gvAt gi) ++ gvAt gi z := by
        obtain ⟨hk, e⟩ := List.getElem?_eq_some_iff.1 hz
        rw [List.take_succ_eq_append_getElem hk, e, List.flatMap_append]; simp
      obtain ⟨z1, z2⟩ := z
      dsimp only at q1 q2 ho
      have j1 := join_fn (pc ++ (Z.take k).flatMap (gvAt gi)) (gvAt gi (z1, z2)) (by
        have h3 : pc ++ Z.flatMap (gvAt gi) = (pc ++ (Z.take k).flatMap (gvAt gi)) ++ gvAt gi (z1, z2) ++ (Z.drop (k + 1)).flatMap (gvAt gi) := by
          rw [List.append_assoc pc, ← e1, List.append_assoc, ← List.flatMap_append, List.take_append_drop]
        rw [h3] at hS
        exact ⟨by have := hS.len; simp only [List.length_append] at this ⊢; omega, fun p hp => hS.each p (List.mem_append_left _ hp)⟩) hnz
      rw [List.append_assoc, ← e1] at j1
      rw [hgv] at j1
      have w1 := hd.w1
      have w2 := hd.w2
      have w3 := hd.w3
      have w4 := hd.w4
      have w5 := hd.w5
      have hmx := hd.maxS
      have q4 : z1 < gi.length := by omega
      have hf2 : gi[z1] = o := by rw [List.getElem?_eq_getElem q4] at ho; exact Option.some.inj ho
      refine ⟨[(0, 0), (1, 1), (2, 2), (3, 3), (4, 102), (5, 105), (6, 510), (1000, 511)], [(2, .pt 4 [] 0), (5, .pt 5 [] 0)],
        [(0, lineB d.net d.plan (.sl 1 (d.feeds.map encI)) order), (1, blkG fi), (2, blkG gi), (3, blkG oo), (4, .box 71 (.pt 0 [] 0)), (5, .box 41 (.own 6)), (6, blkP (Pc.join (pc ++ (Z.take k).flatMap (gvAt gi))))],
        [(0, lineB d.net d.plan (.sl 1 (d.feeds.map encI)) order), (1, blkG fi), (2, blkG gi), (3, blkG oo), (4, .box 71 (.pt 0 [] 0)), (5, .box 41 (.own 1000)), (1000, blkP (Pc.join (pc ++ (Z.take (k + 1)).flatMap (gvAt gi))))],
        [(0, some 0), (1, some 1), (2, some 2), (3, some 3), (102, some 102), (105, some 105), (510, some 511), (520, some 520), (521, some 521), (522, some 522)], ?_⟩
      refine ⟨by kernel_rfl, ?_, ?_, rfl, by kernel_rfl, ?_, ?_⟩
      · simp [go_sem, ↓iO, iO, tN]
      · simp [go_sem, ↓iO, iO, tN, slotsR, S.ren]
      · obtain ⟨J, hJ⟩ : ∃ J, Pc.join (pc ++ (Z.take k).flatMap (gvAt gi)) = J := ⟨_, rfl⟩
        obtain ⟨J2, hJ2⟩ : ∃ J2, Pc.join (pc ++ (Z.take (k + 1)).flatMap (gvAt gi)) = J2 := ⟨_, rfl⟩
        rw [hJ, hJ2] at j1
        rw [hJ, hJ2]
        cases o with
        | none =>
          simp [go_sem, ↓iO, iO, tN, psS, encY, ho, w1, w2, w3, w4, w5, w6, q4, hf2, widths_gv, width_gv]
          repeat (refine anI ?_)
          refine CallK.fn (j1) [(0, 6), (1000, 600)] [] [] (by kernel_rfl) ?_ ?_ ?_ (Or.inl rfl) ?_ <;> simp [go_sem, ↓iO, iO, tN, w1, w2, w3, w4, w5, w6, ho, hf2]
          repeat (refine anI ?_)
          try (refine ⟨dcK, ?_⟩)
          refine ⟨[(0, some 0), (1, some 1), (2, some 2), (3, some 3), (4, some 4), (5, some 5), (1000, some 600)], ?_⟩
          simp [go_sem, ↓iO, iO, tN]
        | some l =>
          simp [go_sem, ↓iO, iO, tN, psS, encY, ho, w1, w2, w3, w4, w5, w6, q4, hf2, widths_gv, width_gv]
          repeat (refine anI ?_)
          refine CallK.fn (j1) [(0, 6), (1000, 600)] [] [] (by kernel_rfl) ?_ ?_ ?_ (Or.inl rfl) ?_ <;> simp [go_sem, ↓iO, iO, tN, w1, w2, w3, w4, w5, w6, ho, hf2]
          repeat (refine anI ?_)
          try (refine ⟨dcK, ?_⟩)
          refine ⟨[(0, some 0), (1, some 1), (2, some 2), (3, some 3), (4, some 4), (5, some 5), (1000, some 600)], ?_⟩
          simp [go_sem, ↓iO, iO, tN]
      · simp [go_sem, ↓iO, iO, tN]
    · have hpl : (Z.map encY).length = Z.length := by simp
      rw [hpl]
      simp [go_sem, ↓iO, iO, tN, List.take_length]
      repeat (first | (refine nf1_sound rfl ?_; simp [go_sem, ↓iO, iO, tN]) | refine anI ?_ | refine ⟨dcK, ?_⟩ | ((first | refine iP ?_ | refine iN ?_); try simp [go_sem, ↓iO, iO, tN]))
      first | rw [RetQ_ret] | rw [RetQ_normal]
      refine ⟨[(0, some 0), (1, some 1), (2, some 2), (3, some 3), (1000, some 510)], ?_⟩
      simp [go_sem, ↓iO, iO, tN]
theorem clone_fn (l : List (Int × Int)) (hl : l.length ≤ 1000000) : FnOk Tryz.prog 37 [.t (encPs l)] [] (.own 1000) [(1000, blkP l)] := by
  refine FnOk.intro fact_mixed Tryz.func37 rfl Tryz.ntmps37 (by rfl) (by simp) ?_
  iterate 1 (refine nf1_sound rfl ?_; simp [go_sem, ↓iO, iO, tN]; (repeat (refine anI ?_)); try (refine ⟨dcK, ?_⟩))
  refine CW.seq (CW.seq (CW.nilTest (k := 2) (xs := l.map encP) (e := 40) (by simp [go_sem]) (by simp [go_sem]) ?_ ?_))
  · intro hx
    have hx : l = [] := by simpa using hx
    simp [go_sem, ↓iO, iO, tN]
    repeat (first | (refine nf1_sound rfl ?_; simp [go_sem, ↓iO, iO, tN]) | refine anI ?_ | refine ⟨dcK, ?_⟩ | ((first | refine iP ?_ | refine iN ?_); try simp [go_sem, ↓iO, iO, tN]))
    first | rw [RetQ_ret] | rw [RetQ_normal]
    refine ⟨[(1000, none)], ?_⟩
    simp [go_sem, ↓iO, iO, tN, hx]
  · simp [go_sem, ↓iO, iO, tN]
    repeat (first | (refine nf1_sound rfl ?_; simp [go_sem, ↓iO, iO, tN]) | refine anI ?_ | refine ⟨dcK, ?_⟩ | ((first | refine iP ?_ | refine iN ?_); try simp [go_sem, ↓iO, iO, tN]))
    first | rw [RetQ_ret] | rw [RetQ_normal]
    refine ⟨[(1000, some 107)], ?_⟩
    simp [go_sem, ↓iO, iO, tN]
theorem cut_fn (l : List (Int × Int)) (k : Int) (h : Pc.Sane l) (hk : 0 ≤ k) (hk2 : k ≤ 1000000000000) : FnOk Tryz.prog 123 [.t (encPs l), .t (.int k)] [] (.tup [.own 1000, .own 1001])
    [(1000, blkP (Pc.join (Pc.heads l k))), (1001, blkP (Pc.join (Pc.tails l k)))] := by
  have hlen := h.len
  refine FnOk.intro fact_mixed Tryz.func123 rfl Tryz.ntmps123 (by rfl) (by simp) ?_
  repeat (first | (refine nf1_sound rfl ?_; simp [go_sem, ↓iO, iO, tN]) | refine anI ?_ | refine ⟨dcK, ?_⟩ | ((first | refine iP ?_ | refine iN ?_); try simp [go_sem, ↓iO, iO, tN]))
  refine CallK.fn (clone_fn l (by omega)) [(1000, 111)] [] [] (by kernel_rfl) ?_ ?_ ?_ (Or.inl rfl) ?_ <;> simp [go_sem, ↓iO, iO, tN]
  repeat (refine anI ?_)
  try (refine ⟨dcK, ?_⟩)
  refine CallK.fn (clone_fn l (by omega)) [(1000, 113)] [] [] (by kernel_rfl) ?_ ?_ ?_ (Or.inl rfl) ?_ <;> simp [go_sem, ↓iO, iO, tN]
  repeat (refine anI ?_)
  try (refine ⟨dcK, ?_⟩)
  repeat (first | (refine nf1_sound rfl ?_; simp [go_sem, ↓iO, iO, tN]) | refine anI ?_ | refine ⟨dcK, ?_⟩ | ((first | refine iP ?_ | refine iN ?_); try simp [go_sem, ↓iO, iO, tN]))
  refine nf1_sound' _ _ _ ?_; simp only [nf1]
  refine CW.loop (ι := Nat) (fun i => ⟨[(6, .own 500), (7, .own 501), (1, .t (.int (Pc.rest (l.take i) k))), (14, .t (encPs l)), (15, .t (.int l.length)), (16, .t (.int i))], [(500, blkP (Pc.heads (l.take i) k ++ l.drop i)), (501, blkP (Pc.tails (l.take i) k ++ l.drop i))]⟩)
    (fun i => i ≤ l.length) (fun i => l.length - i) 0 [(500, some 111), (501, some 113)] (by omega) ?_ ?_
  · simp [go_sem, ↓iO, iO, tN, Pc.heads, Pc.tails, Pc.rest]
  intro i hi
  have hrr := Pc.rest_range (l.take i) (fun p hp => ((h.take i).each p hp).1) k hk
  by_cases hb : i < l.length
  · obtain ⟨p, hp⟩ := has_get hb
    have hpv := h.each p (mem_get hp)
    have e1 := Pc.heads_snoc k hp
    have e2 := Pc.tails_snoc k hp
    have e3 := Pc.rest_snoc k hp
    have e4 := drop_get hp
    have l1 : (Pc.heads (l.take i) k).length = i := by rw [Pc.heads_length, List.length_take]; omega
    have l2 : (Pc.tails (l.take i) k).length = i := by rw [Pc.tails_length, List.length_take]; omega
    obtain ⟨hd, hhd⟩ : ∃ x, x = Pc.heads (l.take i) k := ⟨_, rfl⟩
    obtain ⟨tl, htl⟩ : ∃ x, x = Pc.tails (l.take i) k := ⟨_, rfl⟩
    obtain ⟨r, hr⟩ : ∃ x, x = Pc.rest (l.take i) k := ⟨_, rfl⟩
    obtain ⟨d, hdd⟩ : ∃ x, x = l.drop (i + 1) := ⟨_, rfl⟩
    rw [← hr] at e1 e2 e3 hrr
    rw [← hhd] at e1 l1
    rw [← htl] at e2 l2
    rw [← hdd] at e4
    have hdl : d.length = l.length - (i + 1) := by rw [hdd, List.length_drop]
    have hm : 0 ≤ min p.2 r ∧ min p.2 r ≤ p.2 ∧ min p.2 r ≤ r := by omega
    repeat (first | (refine nf1_sound rfl ?_; simp [go_sem, ↓iO, iO, tN, hp, ← hhd, ← htl, ← hr, e4, l1, l2]) | refine anI ?_ | refine ⟨dcK, ?_⟩ | ((first | refine iP ?_ | refine iN ?_); try simp [go_sem, ↓iO, iO, tN, hp, ← hhd, ← htl, ← hr, e4, l1, l2]))
    have hdm : (l.map encP).drop (i + 1) = d.map encP := by rw [hdd, List.map_drop]
    rw [RoundQ_normal]; refine ⟨i + 1, [(500, some 500), (501, some 501)], ?_, ?_, ?_⟩
    · omega
    · omega
    simp [go_sem, ↓iO, iO, tN, e1, e2, e3, hdm]
  · obtain rfl : i = l.length := by omega
    repeat (first | (refine nf1_sound rfl ?_; simp [go_sem, ↓iO, iO, tN]) | refine anI ?_ | refine ⟨dcK, ?_⟩ | ((first | refine iP ?_ | refine iN ?_); try simp [go_sem, ↓iO, iO, tN]))
    refine CallK.fn (merged_fn (Pc.heads l k) (heads_sane h hk)) [(1000, 150)] [500] [] (by kernel_rfl) ?_ ?_ ?_ (Or.inr ⟨?_, ?_⟩) ?_ <;> simp [go_sem, ↓iO, iO, tN]
    repeat (refine anI ?_)
    try (refine ⟨dcK, ?_⟩)
    refine CallK.fn (merged_fn (Pc.tails l k) (tails_sane h hk)) [(1000, 152)] [501] [] (by kernel_rfl) ?_ ?_ ?_ (Or.inr ⟨?_, ?_⟩) ?_ <;> simp [go_sem, ↓iO, iO, tN]
    repeat (refine anI ?_)
    try (refine ⟨dcK, ?_⟩)
    repeat (first | (refine nf1_sound rfl ?_; simp [go_sem, ↓iO, iO, tN]) | refine anI ?_ | refine ⟨dcK, ?_⟩ | ((first | refine iP ?_ | refine iN ?_); try simp [go_sem, ↓iO, iO, tN]))
    first | rw [RetQ_ret] | rw [RetQ_normal]
    refine ⟨[(1000, some 150), (1001, some 152)], ?_⟩
    simp [go_sem, ↓iO, iO, tN]
end Go.Proofs.YtdjmklobfjigoaaGreatDoor
