/- Unstuff as a contract: it reads a frame's bytes. The length is below 2^40. -/
import Derived.Test.YtnekjbmhmpfkgaaRows
import Derived.Test.YtnekjbmhmpfkgaaLib
import Derived.Test.YtnekjbmhmpfkgaaElems
import Derived.Test.YtnekjbmhmpfkgaaWirePlain
import Derived.Test.YtnekjbmhmpfkgaaStuff
namespace Go.Proofs.Ytnekjbmhmpfkgaa
open Go.RowKit
set_option linter.unusedVariables false
set_option linter.unusedSimpArgs false

set_option maxRecDepth 100000 in
set_option maxHeartbeats 1000000 in
theorem unstuff_any (x : Option Addr) (n cap : Nat) (bs : List Nat) (w : World) (hr : NRow .u8 w x n cap bs) (hb8 : ∀ c ∈ bs, c < 256) (hsm : n ≤ 1099511627776) :
    Calls Try.prog 14 #[.slice x n cap] w (GivesE w 5 1 (nats .u8 (Wire.unstuff bs).1) (Wire.unstuff bs).2) := by
  have hn := hr.length
  have hnc := hr.le
  have hmax := hr.capLe
  unfold maxLen at hmax
  by_cases h2 : n < 2
  · have R : Hid (Wire.unstuff bs = ([], 2)) := by unfold Hid Wire.unstuff; rw [if_pos (by omega)]
    have Hn := Lib.hid hn
    clear hn
    go_enter Try.func14, Try.ntmps14
    go_wp2
    go_ret2
    rw [R.out]
    exact ⟨none, 0, 0, rfl, Own.none, Below.refl _ _⟩
  · obtain ⟨b, off, rfl, hblt, hc⟩ := hr.pos (by omega)
    obtain ⟨c0, hc0⟩ := has_get (l := bs) (k := 0) (by omega)
    obtain ⟨c1, hc1⟩ := has_get (l := bs) (k := n - 1) (by omega)
    have hk0 := hc 0 c0 hc0
    have hk1 := hc (n - 1) c1 hc1
    rw [Nat.add_zero] at hk0
    have Hn := Lib.hid hn
    have Hc := Lib.hid hc
    have H0 := Lib.hid hc0
    have H1 := Lib.hid hc1
    clear hn hc hc0 hc1
    by_cases hbad : c0 = 126 ∧ c1 = 124
    · obtain ⟨rfl, rfl⟩ := hbad
      go_enter Try.func14, Try.ntmps14
      go_wp2
      have hil : (Wire.inside bs).length = n - 1 - 1 := by unfold Wire.inside; rw [List.length_take, List.length_drop, Hn.out]; omega
      have hig : ∀ k, (Wire.inside bs)[k]? = if k < n - 2 then bs[k + 1]? else none := by
        intro k; unfold Wire.inside; rw [List.getElem?_take, Hn.out, List.getElem?_drop, Nat.add_comm 1 k]
      have Hil := Lib.hid hil
      have Hig := Lib.hid hig
      clear hil hig
      have hR : Hid (Wire.unstuff bs = Wire.ures (Wire.usteps (Wire.inside bs) ([], false))) := by
        unfold Hid
        rw [Wire.unstuff, if_neg (by rw [Hn.out]; exact h2), if_pos ⟨H0.out, by rw [Hn.out]; exact H1.out⟩]
      go_loopw [5, 6, 30] (fun v esc i wr => ∃ (k : Nat) (out : List Nat) (eb : Bool) (x' : Option Addr) (m cap' : Nat), k ≤ n - 1 - 1 ∧ i = .int .i64 (k : Int) ∧ esc = .bool eb ∧ v = .slice x' m cap' ∧
          out.length ≤ k ∧ Wire.usteps ((Wire.inside bs).drop k) (out, eb) = Wire.usteps (Wire.inside bs) ([], false) ∧ Own wr w.heap.size 5 1 x' m cap' (nats .u8 out) ∧ Below w.heap.size w wr) (fun _ _ i _ => n - 1 - 1 - (intOf i).toNat)
      case atStart => exact ⟨0, [], false, none, 0, 0, by omega, rfl, rfl, rfl, by simp, rfl, Own.none, Below.refl _ _⟩
      case round =>
        obtain ⟨k, out, eb, x', m, cap', hk, rfl, rfl, rfl, hol, hu, ho, hb⟩ := hrel
        have hm := ho.length
        rw [nats_length] at hm
        have hml : m ≤ 1099511627776 := by omega
        have Hu := Lib.hid hu
        have hsz := hb.size
        clear hu hm
        by_cases h : k < n - 1 - 1
        · obtain ⟨c, hcg⟩ := has_get (l := bs) (k := k + 1) (by rw [Hn.out]; omega)
          have hck := ((bcell hb).1 b (off + (k + 1)) hblt).trans (Hc.out (k + 1) c hcg)
          have hck' : wr.cell? ⟨b, off + 1 + k, none⟩ = some (.int .u8 (c : Int)) := by rw [show off + 1 + k = off + (k + 1) by omega]; exact hck
          have hc8 := hb8 c (mem_get hcg)
          have Hd := Lib.hid (show (Wire.inside bs).drop k = c :: (Wire.inside bs).drop (k + 1) from drop_get (by rw [Hig.out, if_pos (by omega)]; exact hcg))
          clear hck hcg
          have hx : bits BinOp.xor IntKind.u8 (c : Int) 32 = ((c ^^^ 32 : Nat) : Int) := u8_xor_nat c 32 hc8 (by omega)
          have Hst := Lib.hid (fun s' => (fun hs => by rw [← Hu.out, Hd.out, Wire.usteps, hs] : Wire.ustep (out, eb) c = some s' → Wire.usteps ((Wire.inside bs).drop (k + 1)) s' = Wire.usteps (Wire.inside bs) ([], false)))
          have Hno := Lib.hid (fun hs => (by rw [hR.out, ← Hu.out, Hd.out, Wire.usteps, hs]; rfl : Wire.unstuff bs = ([], 3)) : Wire.ustep (out, eb) c = none → Wire.unstuff bs = ([], 3))
          cases eb
          · by_cases hend : c = 126 ∨ c = 124
            · have R := Lib.hid (Hno.out (by unfold Wire.ustep; rw [if_neg (by simp), if_pos hend]))
              rcases hend with h6 | h4
              · have hb6 : ((c : Int) == 126) = true := by simp; omega
                have hc1 : 126 ≤ c := by omega
                have hc2 : c ≤ 126 := by omega
                clear h6
                go_wp2
                go_ret2; rw [R.out]; exact ⟨none, 0, 0, rfl, Own.none, hb⟩
              · have hb6 : ((c : Int) == 126) = false := by simp; omega
                have hb4 : ((c : Int) == 124) = true := by simp; omega
                have hc1 : 124 ≤ c := by omega
                have hc2 : c ≤ 124 := by omega
                clear h4
                go_wp2
                go_ret2; rw [R.out]; exact ⟨none, 0, 0, rfl, Own.none, hb⟩
            · by_cases hesc : c = 125
              · have R := Lib.hid (Hst.out (out, true) (by unfold Wire.ustep; rw [if_neg (by simp), if_neg hend, if_pos hesc]))
                have hc1 : 125 ≤ c := by omega
                have hc2 : c ≤ 125 := by omega
                have hb6 : ((c : Int) == 126) = false := by simp; omega
                have hb4 : ((c : Int) == 124) = false := by simp; omega
                have hb5 : ((c : Int) == 125) = true := by simp; omega
                clear hend hesc
                go_wp2
                go_roundw
                case rel => exact ⟨k + 1, out, true, _, _, _, by omega, by go_num, rfl, rfl, by omega, R.out, ho, hb⟩
                case measure => simp [intOf]; omega
              · have R := Lib.hid (Hst.out (out ++ [c], false) (by unfold Wire.ustep; rw [if_neg (by simp), if_neg hend, if_neg hesc]))
                have hb6 : ((c : Int) == 126) = false := by simp; omega
                have hb4 : ((c : Int) == 124) = false := by simp; omega
                have hb5 : ((c : Int) == 125) = false := by simp; omega
                clear hend hesc
                go_wp2_with (at_builtin; refine wpList_app rfl _ _ 22 rfl elemU8 rfl (ho.alloc _) rfl (Own.lit1 _ _ _ (Nat.le_refl _)).row (one_oneCell _ _) (by omega) (maxLen_of (by omega)) (by simp; omega) ?_; intro x1 cap1 w1 ho1 hg1 hb1)
                go_roundw
                case rel => exact ⟨k + 1, out ++ [c], false, _, _, _, by omega, by go_num, rfl, rfl, by simp; omega, R.out, by rw [nats_append]; exact ho1, (hb.alloc hsz _).trans hb1⟩
                case measure => simp [intOf]; omega
          · by_cases hs : Wire.spec (c ^^^ 32) = true
            · have R := Lib.hid (Hst.out (out ++ [c ^^^ 32], false) (by unfold Wire.ustep; rw [if_pos rfl, if_pos hs]))
              have Hx := Lib.hid hx
              generalize c ^^^ 32 = c' at *
              go_wp2_with (first | (go_at_call 24; refine (special_any _ _).mono ?_; rintro e w' ⟨rfl, rfl⟩) | (at_builtin; refine wpList_app rfl _ _ 22 rfl elemU8 rfl (ho.alloc _) rfl (Own.lit1 _ _ _ (Nat.le_refl _)).row (one_oneCell _ _) (by omega) (maxLen_of (by omega)) (by simp; omega) ?_; intro x1 cap1 w1 ho1 hg1 hb1))
              go_roundw
              case rel => exact ⟨k + 1, out ++ [c'], false, _, _, _, by omega, by go_num, rfl, rfl, by simp; omega, R.out, by rw [nats_append]; exact ho1, (hb.alloc hsz _).trans hb1⟩
              case measure => simp [intOf]; omega
            · have hs' : Wire.spec (c ^^^ 32) = false := by simpa using hs
              have R := Lib.hid (Hno.out (by unfold Wire.ustep; rw [if_pos rfl, if_neg hs]))
              clear hs
              generalize c ^^^ 32 = c' at *
              go_wp2_with (go_at_call 24; refine (special_any _ _).mono ?_; rintro e w' ⟨rfl, rfl⟩)
              go_ret2; rw [R.out]; exact ⟨none, 0, 0, rfl, Own.none, hb⟩
        · have R := Lib.hid (show Wire.unstuff bs = Wire.ures (some (out, eb)) by rw [hR.out, ← Hu.out, List.drop_eq_nil_of_le (by rw [Hil.out]; omega)]; rfl)
          cases eb
          · go_wp2
            go_ret2; rw [R.out]; exact ⟨_, _, _, rfl, ho, hb⟩
          · go_wp2
            go_ret2; rw [R.out]; exact ⟨none, 0, 0, rfl, Own.none, hb⟩
    · have R : Hid (Wire.unstuff bs = ([], 3)) := by
        unfold Hid Wire.unstuff
        rw [if_neg (by rw [Hn.out]; exact h2), if_neg (by rw [Hn.out, H0.out, H1.out]; simpa using hbad)]
      go_enter Try.func14, Try.ntmps14
      go_wp2
      all_goals
        first
        | (exfalso; omega)
        | (go_ret2; rw [R.out]; exact ⟨none, 0, 0, rfl, Own.none, Below.refl _ _⟩)
end Go.Proofs.Ytnekjbmhmpfkgaa
