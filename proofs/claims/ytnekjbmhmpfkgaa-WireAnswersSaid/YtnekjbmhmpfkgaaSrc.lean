/- The reader of numbers that the laws use, as contracts: New, Raw, N, Pick. Lists are below 2^40 long. -/
import Derived.Test.YtnekjbmhmpfkgaaRows
import Derived.Test.YtnekjbmhmpfkgaaLib2
import Derived.Test.YtnekjbmhmpfkgaaMod
import Derived.BigQuiet
namespace Go.Proofs.Ytnekjbmhmpfkgaa
open Go.RowKit
set_option linter.unusedVariables false
set_option linter.unusedSimpArgs false

/-- The reader in block p reads the list l, and has read k numbers; w0: the world in which the list came in. -/
structure SrcAt (w0 w : World) (p : Nat) (l : List Int) (k : Nat) : Prop where
  base : Below w0.heap.size w0 w
  ge : w0.heap.size ≤ p
  blk : ∃ x n cap, w.heap[p]? = some (.cells #[.slice x n cap, .int .i64 (k : Int)] 51 (0, 0)) ∧ IRow .i64 w0 x n cap l ∧ n ≤ 2000 ∧ k ≤ n
  wf : ∀ z ∈ l, -9223372036854775808 ≤ z ∧ z ≤ 9223372036854775807

def rawV (l : List Int) (k : Nat) : Int := l.getD k 0
def nextK (l : List Int) (k : Nat) : Nat := if k < l.length then k + 1 else k

theorem raw_range {w0 w : World} {p : Nat} {l : List Int} {k : Nat} (h : SrcAt w0 w p l k) : -9223372036854775808 ≤ rawV l k ∧ rawV l k ≤ 9223372036854775807 := by
  unfold rawV
  rw [List.getD_eq_getElem?_getD]
  cases hz : l[k]? with
  | none => simp
  | some z => exact h.wf z (List.mem_of_getElem? hz)

set_option maxRecDepth 100000 in
set_option maxHeartbeats 1000000 in
theorem raw_any (w0 w : World) (p : Nat) (l : List Int) (k : Nat) (h : SrcAt w0 w p l k) :
    Calls Try.prog 26 #[.pointer (some ⟨p, 0, none⟩)] w fun e w' => e = .returned (.int .i64 (rawV l k)) ∧ SrcAt w0 w' p l (nextK l k) ∧ w.grownBy w' (some p) := by
  obtain ⟨x, n, cap, hh, hr, hn, hk⟩ := h.blk
  have hl := hr.length
  have c0 : w.cell? ⟨p, 0, none⟩ = some (.slice x n cap) := by rw [cell_of_row w p 0 _ _ _ hh]; rfl
  have c1 : w.cell? ⟨p, 1, none⟩ = some (.int .i64 (k : Int)) := by rw [cell_of_row w p 1 _ _ _ hh]; rfl
  have f1 : w.frozen? ⟨p, 1, none⟩ = false := frozen_of_row w p 1 _ _ hh
  have Hl := Lib.hid hl
  clear hl
  by_cases hlt : k < n
  · have R : Hid (nextK l k = k + 1) := by unfold Hid nextK; rw [if_pos (by rw [Hl.out]; exact hlt)]
    obtain ⟨b, off, rfl, hbl, hc⟩ := hr.pos (by omega)
    obtain ⟨z, hz⟩ := has_get (l := l) (k := k) (by rw [Hl.out]; exact hlt)
    have V := Lib.hid (show rawV l k = z by unfold rawV; rw [List.getD_eq_getElem?_getD, hz]; rfl)
    have hcz := ((bcell h.base).1 b (off + k) hbl).trans (hc k z hz)
    have hge := h.ge
    have hlt' := lt_of_block hh
    have d0 : (w.setCell ⟨p, 1, none⟩ (.int .i64 ((k : Int) + 1))).cell? ⟨p, 0, none⟩ = some (.slice (some ⟨b, off, none⟩) n cap) := by
      rw [cell_of_row _ p 0 _ _ _ (heap_setCell_same w p 1 _ _ _ hh)]; rfl
    have d1 : (w.setCell ⟨p, 1, none⟩ (.int .i64 ((k : Int) + 1))).cell? ⟨p, 1, none⟩ = some (.int .i64 ((k : Int) + 1)) := by
      rw [cell_of_row _ p 1 _ _ _ (heap_setCell_same w p 1 _ _ _ hh)]; rfl
    have dz : (w.setCell ⟨p, 1, none⟩ (.int .i64 ((k : Int) + 1))).cell? ⟨b, off + k, none⟩ = some (.int .i64 z) := by
      rw [World.cell?_of_block (w := w) (heap_setCell_other w _ _ _ (by show b ≠ p; omega))]; exact hcz
    have Hb := Lib.hid (heap_setCell_same w p 1 _ _ (.int .i64 ((k : Int) + 1)) hh)
    have Hg : w.grownBy (w.setCell ⟨p, 1, none⟩ (.int .i64 ((k : Int) + 1))) (some p) := ⟨rfl, rfl, rfl, by simp, fun j _ hj => heap_setCell_other w _ _ _ (fun e => hj (by rw [e]))⟩
    have Hh := Lib.hid hh
    clear hc hz hh
    go_enter Try.func26, Try.ntmps26
    go_wp2
    go_quiet (fail)
    go_wp2
    go_quiet (fail)
    go_wp2
    go_ret
    refine ⟨ret_int V.out.symm, ?_, ⟨rfl, rfl, rfl, Hg.size, Hg.block⟩⟩
    rw [R.out]
    exact ⟨below_drewN ((below_drewN h.base _).setCell hge _) _, hge, ⟨some ⟨b, off, none⟩, n, cap, Hb.out, hr, hn, by omega⟩, h.wf⟩
  · obtain rfl : k = n := by omega
    have R : Hid (nextK l k = k) := by unfold Hid nextK; rw [if_neg (by rw [Hl.out]; omega)]
    have V := Lib.hid (show rawV l k = 0 by unfold rawV; rw [List.getD_eq_getElem?_getD, List.getElem?_eq_none (by rw [Hl.out]; omega)]; rfl)
    have Hh := Lib.hid hh
    clear hh
    go_enter Try.func26, Try.ntmps26
    go_wp2
    go_quiet (fail)
    go_wp2
    go_ret
    refine ⟨ret_int V.out.symm, ?_, ⟨rfl, rfl, rfl, Nat.le_refl _, fun _ _ _ => rfl⟩⟩
    rw [R.out]
    exact ⟨h.base.trans ⟨rfl, rfl, rfl, Nat.le_refl _, fun _ _ => rfl⟩, h.ge, h.blk, h.wf⟩

theorem SrcAt.grown {w0 w w' : World} {p : Nat} {l : List Int} {k : Nat} (h : SrcAt w0 w p l k) (hb : Below w.heap.size w w') : SrcAt w0 w' p l k := by
  obtain ⟨x, n, cap, hh, hr, hn, hk⟩ := h.blk
  exact ⟨h.base.trans (hb.mono h.base.size), h.ge, ⟨x, n, cap, by rw [hb.block p (lt_of_block hh)]; exact hh, hr, hn, hk⟩, h.wf⟩
/-- Other blocks stay as they are while a number is read. -/
theorem Row.read {w w' : World} {x : Option Addr} {n cap s : Nat} {xs : List Value} (h : Row w x n cap s xs) {p : Nat} (hg : w.grownBy w' (some p)) (hp : ∀ a, x = some a → 0 < n → a.block ≠ p) : Row w' x n cap s xs := by
  refine ⟨h.le, h.capLe, h.len, h.nil, ?_⟩
  by_cases h0 : n = 0
  · exact .inl h0
  · obtain ⟨b, off, hx, hlt, hc⟩ := h.pos (by omega)
    refine .inr ⟨b, off, hx, Nat.lt_of_lt_of_le hlt hg.size, fun j u hu => ?_⟩
    have hne : b ≠ p := hp _ hx (by omega)
    rw [World.cell?_of_block (w := w) (hg.block b hlt (fun e => hne (by cases e; rfl)))]
    exact hc j u hu

theorem rawV_nextK_le {l : List Int} {k : Nat} : nextK l k ≤ k + 1 := by unfold nextK; split <;> omega

/-- The next number, reduced. -/
def nV (l : List Int) (k : Nat) (n : Int) : Int := modN (rawV l k) n

set_option maxRecDepth 100000 in
set_option maxHeartbeats 1000000 in
theorem n_any (w0 w : World) (p : Nat) (l : List Int) (k : Nat) (n : Int) (h : SrcAt w0 w p l k) (hn : n ≤ 9223372036854775807) :
    Calls Try.prog 18 #[.pointer (some ⟨p, 0, none⟩), .int .i64 n] w fun e w' => e = .returned (.int .i64 (nV l k n)) ∧ SrcAt w0 w' p l (nextK l k) ∧ w.grownBy w' (some p) := by
  have hr := raw_range h
  go_enter Try.func18, Try.ntmps18
  go_wp2_with fail
  refine (raw_any w0 _ p l k h).mono ?_
  rintro e w1 ⟨rfl, h1, hg1⟩
  go_wp2_with fail
  refine (mod_any _ _ _ hn hr.1 hr.2).mono ?_
  rintro e w2 ⟨rfl, rfl⟩
  go_wp2
  go_ret
  exact ⟨rfl, h1, hg1⟩

set_option maxRecDepth 100000 in
set_option maxHeartbeats 1000000 in
theorem new_any (w : World) (x : Option Addr) (n cap : Nat) (l : List Int) (hr : IRow .i64 w x n cap l) (hwf : ∀ z ∈ l, -9223372036854775808 ≤ z ∧ z ≤ 9223372036854775807) :
    Calls Try.prog 15 #[.slice x n cap] w fun e w' => ∃ p, e = .returned (.pointer (some ⟨p, 0, none⟩)) ∧ SrcAt w w' p (l.take 2000) 0 ∧ p < w'.heap.size := by
  have hle := hr.le
  have hl := hr.length
  have hmax := hr.capLe
  unfold maxLen at hmax
  have Hl := Lib.hid hl
  clear hl
  by_cases h : n ≤ 2000
  · go_enter Try.func15, Try.ntmps15
    go_wp2
    refine bodyPost_ret (results_tmp rfl _ _ _) rfl ?_
    refine ⟨w.heap.size, rfl, ⟨(Below.refl _ _).alloc (Nat.le_refl _) _, Nat.le_refl _, ⟨x, n, cap, heap_alloc_new w _, ?_, by omega, by omega⟩, fun z hz => hwf z (List.mem_of_mem_take hz)⟩, by simp⟩
    rw [List.take_of_length_le (by rw [Hl.out]; omega)]
    exact hr
  · go_enter Try.func15, Try.ntmps15
    go_wp2
    refine bodyPost_ret (results_tmp rfl _ _ _) rfl ?_
    refine ⟨w.heap.size, rfl, ⟨(Below.refl _ _).alloc (Nat.le_refl _) _, Nat.le_refl _, ⟨x, 2000, cap, heap_alloc_new w _, hr.take (by omega), by omega, by omega⟩, fun z hz => hwf z (List.mem_of_mem_take hz)⟩, by simp⟩

/-- One of some numbers. -/
def pickV (l : List Int) (k : Nat) (c : List Int) : Int := c.getD (nV l k c.length).toNat 0

set_option maxRecDepth 100000 in
set_option maxHeartbeats 1000000 in
theorem pick_any (w0 w : World) (p : Nat) (l : List Int) (k : Nat) (x : Option Addr) (n cap : Nat) (c : List Int) (h : SrcAt w0 w p l k) (hr : IRow .i64 w x n cap c) (hp : ∀ a, x = some a → a.block ≠ p) (hn : 0 < n) (hn2 : n ≤ 1000) :
    Calls Try.prog 19 #[.pointer (some ⟨p, 0, none⟩), .slice x n cap] w fun e w' => e = .returned (.int .i64 (pickV l k c)) ∧ SrcAt w0 w' p l (nextK l k) ∧ w.grownBy w' (some p) := by
  have hl := hr.length
  have hrange := modN_range (x := rawV l k) (n := n) (by omega)
  obtain ⟨i, hi⟩ := Int.eq_ofNat_of_zero_le hrange.1
  have hin : i < n := by omega
  have V : Hid (pickV l k c = c.getD i 0) := by
    unfold Hid pickV nV
    rw [hl, hi]
    rfl
  obtain ⟨z, hz⟩ := has_get (l := c) (k := i) (by omega)
  have V2 : Hid (pickV l k c = z) := by unfold Hid; rw [V.out, List.getD_eq_getElem?_getD, hz]; rfl
  have hnV : Hid (nV l k n = (i : Int)) := hi
  clear hl hrange hi
  have Hz := Lib.hid hz
  clear hz
  go_enter Try.func19, Try.ntmps19
  go_wp2_with fail
  refine (n_any w0 _ p l k n h (by omega)).mono ?_
  rintro e w1 ⟨rfl, h1, hg1⟩
  rw [hnV.out]
  have hr1 : IRow .i64 w1 x n cap c := Row.read hr hg1 (fun a ha _ => hp a ha)
  obtain ⟨b, off, rfl, hbl, hc⟩ := hr1.pos hn
  have hcz := hc i z Hz.out
  clear hc
  go_wp2
  go_ret
  exact ⟨ret_int V2.out.symm, h1, hg1⟩
end Go.Proofs.Ytnekjbmhmpfkgaa
