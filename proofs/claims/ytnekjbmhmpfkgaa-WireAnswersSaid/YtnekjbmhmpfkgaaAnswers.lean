/- The law WireAnswers as a contract: it answers true. No condition. -/
import Derived.Test.YtnekjbmhmpfkgaaRefInt
import Derived.Test.YtnekjbmhmpfkgaaSrc
import Derived.Test.YtnekjbmhmpfkgaaUnstuff
import Derived.Deep.DeepCutAuto
namespace Go.Proofs.Ytnekjbmhmpfkgaa
open Go.RowKit
set_option linter.unusedVariables false
set_option linter.unusedSimpArgs false

/-- A slice of bytes that can be read, not in block p. -/
def Good (w : World) (p : Nat) (v : Value) : Prop :=
  ∃ x n cap bs, v = .slice x n cap ∧ NRow .u8 w x n cap bs ∧ (∀ c ∈ bs, c < 256) ∧ n ≤ 700 ∧ ∀ a, x = some a → 0 < n → a.block ≠ p
theorem Good.later {w w' : World} {p : Nat} {v : Value} (h : Good w p v) (hb : Below w.heap.size w w') : Good w' p v := by
  obtain ⟨x, n, cap, bs, rfl, hr, h8, hn, hp⟩ := h
  exact ⟨x, n, cap, bs, rfl, hr.later hb, h8, hn, hp⟩
theorem Good.read {w w' : World} {p : Nat} {v : Value} (h : Good w p v) (hg : w.grownBy w' (some p)) : Good w' p v := by
  obtain ⟨x, n, cap, bs, rfl, hr, h8, hn, hp⟩ := h
  exact ⟨x, n, cap, bs, rfl, Row.read hr hg hp, h8, hn, hp⟩
theorem Good.own {w : World} {B e p : Nat} {x : Option Addr} {n cap : Nat} {bs : List Nat} (h : Own w B e 1 x n cap (nats .u8 bs)) (h8 : ∀ c ∈ bs, c < 256) (hn : n ≤ 700) (hp : p < B) : Good w p (.slice x n cap) := by
  refine ⟨x, n, cap, bs, rfl, h.row, h8, hn, fun a ha h0 => ?_⟩
  obtain ⟨g, hx, hB, _⟩ := h.pos h0
  rw [hx] at ha
  cases ha
  show g ≠ p
  omega
theorem grown_trans {w1 w2 w3 : World} {p : Nat} (h1 : w1.grownBy w2 (some p)) (h2 : w2.grownBy w3 (some p)) : w1.grownBy w3 (some p) :=
  ⟨h2.os.trans h1.os, h2.tape.trans h1.tape, h2.output.trans h1.output, Nat.le_trans h1.size h2.size, fun k hk hne => (h2.block k (Nat.lt_of_lt_of_le hk h1.size) hne).trans (h1.block k hk hne)⟩
theorem grown_below {w w' : World} {p : Nat} (h : Below w.heap.size w w') : w.grownBy w' (some p) := ⟨h.os, h.tape, h.output, h.size, fun k hk _ => h.block k hk⟩
theorem below_read {B : Nat} {w0 w w' : World} {p : Nat} (h : Below B w0 w) (hg : w.grownBy w' (some p)) (hB : B ≤ w.heap.size) (hp : B ≤ p) : Below B w0 w' := h.grown hg hB (fun k hk => by cases hk; exact hp)

theorem grown_set {wL w1 : World} {p g i : Nat} {u : Value} (h : wL.grownBy w1 (some p)) (hg : wL.heap.size ≤ g) : wL.grownBy (w1.setCell ⟨g, i, none⟩ u) (some p) :=
  ⟨h.os, h.tape, h.output, by simpa using h.size, fun k hk hne => (heap_setCell_other w1 ⟨g, i, none⟩ k u (by show k ≠ g; omega)).trans (h.block k hk hne)⟩
theorem SrcAt.lt {w0 w : World} {p : Nat} {l : List Int} {k : Nat} (h : SrcAt w0 w p l k) : p < w.heap.size := by
  obtain ⟨x, n, cap, hh, _⟩ := h.blk
  exact lt_of_block hh
theorem SrcAt.set {w0 w : World} {p g i : Nat} {l : List Int} {k : Nat} {u : Value} (h : SrcAt w0 w p l k) (hg : g ≠ p) (hg0 : w0.heap.size ≤ g) : SrcAt w0 (w.setCell ⟨g, i, none⟩ u) p l k := by
  obtain ⟨x, n, cap, hh, hr, hn, hk⟩ := h.blk
  exact ⟨h.base.setCell hg0 _, h.ge, ⟨x, n, cap, by rw [heap_setCell_other _ _ _ _ (fun e => hg e.symm)]; exact hh, hr, hn, hk⟩, h.wf⟩
theorem u8_wrap (v : Int) : ∃ c : Nat, IntKind.u8.wrap v = (c : Int) ∧ c < 256 := by
  refine ⟨(v % 256).toNat, ?_, by omega⟩
  rw [IntKind.wrap_u8]; omega

theorem app_lt {a b : List Nat} (ha : ∀ c ∈ a, c < 256) (hb : ∀ c ∈ b, c < 256) : ∀ c ∈ a ++ b, c < 256 := by
  intro c hc
  rcases List.mem_append.1 hc with hc | hc
  · exact ha c hc
  · exact hb c hc

set_option maxRecDepth 100000 in
set_option maxHeartbeats 4000000 in
theorem answers_walk (x : Option Addr) (n cap : Nat) (bs : List Nat) (at_ z : Int) (y : Option Addr) (m capm : Nat) (l : List Int) (w : World) (hr : NRow .u8 w x n cap bs) (hbs : ∀ c ∈ bs, c < 256) (hrl : IRow .i64 w y m capm l) (hwl : ∀ z ∈ l, -9223372036854775808 ≤ z ∧ z ≤ 9223372036854775807)
    (ha1 : -9223372036854775808 ≤ at_) (ha2 : at_ ≤ 9223372036854775807) (hz1 : -9223372036854775808 ≤ z) (hz2 : z ≤ 9223372036854775807) :
    Calls Try.prog 6 #[.slice x n cap, .int .i64 at_, .int .i64 z, .slice y m capm] w fun e w' => e = .returned (.bool true) ∧ Below w.heap.size w w' := by
  have hn := hr.length
  have Hn := Lib.hid hn
  clear hn
  by_cases h1 : 300 < n
  · go_enter Try.func6, Try.ntmps6
    go_wp2_with (go_at_call 8; refine (awake_any _).mono ?_; rintro e w1 ⟨rfl, hb⟩)
    go_ret
    exact ⟨rfl, hb⟩
  · have h1' : n ≤ 300 := by omega
    clear h1
    have hbl := Wire.body_length bs
    rw [Hn.out] at hbl
    have hs8 := Wire.stuff_lt hbs
    have hpl := Wire.put_len10 (Wire.fold_lt hz1 hz2)
    have hc8 := app_lt hbs (Wire.put_bytes (Wire.fold z))
    have hcbl := Wire.body_length (bs ++ Wire.put (Wire.fold z))
    rw [List.length_append, Hn.out] at hcbl
    have hsc8 := Wire.stuff_lt hc8
    go_enter Try.func6, Try.ntmps6
    go_wp2_with fail
    refine (new_any _ _ _ _ l hrl hwl).mono ?_
    rintro e w1 ⟨p, rfl, hs1, hp1⟩
    have hb1 := hs1.base
    go_wp2_with fail
    refine (rput_any _ _ _ bs z _ (hr.later hb1) (by omega) hz1 hz2).mono ?_
    rintro e w2 ⟨x2, n2, cap2, rfl, ho2, hb2⟩
    have hn2 := ho2.length
    rw [nats_length, List.length_append, Hn.out] at hn2
    have hn2le : n2 ≤ 310 := by omega
    have Hn2 := Lib.hid hn2
    clear hn2
    have hbw2 := hb1.trans (hb2.mono hb1.size)
    go_wp2_with fail
    refine (rstuff_any _ _ _ bs _ (hr.later hbw2) hbs (by omega)).mono ?_
    rintro e w3 ⟨x3, n3, cap3, rfl, ho3, hb3⟩
    have hn3 := ho3.length
    rw [nats_length, Wire.stuff_length] at hn3
    have hn3le : n3 ≤ 602 := by omega
    have Hn3 := Lib.hid hn3
    clear hn3
    have hbw3 := hbw2.trans (hb3.mono hbw2.size)
    go_wp2_with fail
    refine (rstuff_any _ _ _ _ _ (ho2.later hb3).row hc8 (by omega)).mono ?_
    rintro e w4 ⟨x4, n4, cap4, rfl, ho4, hb4⟩
    have hn4 := ho4.length
    rw [nats_length, Wire.stuff_length] at hn4
    have hn4le : n4 ≤ 622 := by omega
    have Hn4 := Lib.hid hn4
    clear hn4
    have hbw4 := hbw3.trans (hb4.mono hbw3.size)
    go_wp2_with fail
    refine (rstuff_any _ _ _ bs _ (hr.later hbw4) hbs (by omega)).mono ?_
    rintro e w5 ⟨x5, n5, cap5, rfl, ho5, hb5⟩
    have hn5 := ho5.length
    rw [nats_length, Wire.stuff_length] at hn5
    have hn5le : n5 ≤ 602 := by omega
    have Hn5 := Lib.hid hn5
    clear hn5
    have hbw5 := hbw4.trans (hb5.mono hbw4.size)
    have hsz1 := hb1.size
    have hsz2 := hb2.size
    have hsz3 := hb3.size
    have hsz4 := hb4.size
    have hsz5 := hb5.size
    go_wp2_with (first
      | (at_builtin; refine wpList_app rfl (.tmp 41) (.tmp 42) 22 rfl elemU8 rfl (ho5.alloc _) rfl (Own.lit1 _ _ _ (Nat.le_refl _)).row (one_oneCell _ _) (by omega) (maxLen_of (by omega)) (by simp; omega) ?_; intro x6 cap6 w6 ho6 hg6 hb6; have hbw6 : Below w.heap.size w w6 := (hbw5.alloc hbw5.size _).trans (hb6.mono hbw4.size))
      | (at_builtin; refine wpList_app rfl (.tmp 44) (.tmp 45) 22 rfl elemU8 rfl (Own.lit1 w6 _ _ (Nat.le_refl _)) rfl (Row.later hr (hbw6.alloc hbw6.size _)) (nats_oneCell _ _) (by omega) (maxLen_of (by omega)) (by simp) ?_; intro x7 cap7 w7 ho7 hg7 hb7; have hbw7 : Below w.heap.size w w7 := (hbw6.alloc hbw6.size _).trans (hb7.mono hbw6.size))
      | (at_builtin; refine wpList_app rfl (.tmp 47) (.tmp 48) 22 rfl elemU8 rfl (Own.lit1 w7 _ _ (Nat.le_refl _)) rfl (Row.later hr (hbw7.alloc hbw7.size _)) (nats_oneCell _ _) (by omega) (maxLen_of (by omega)) (by simp) ?_; intro x8 cap8 w8 ho8 hg8 hb8; have hbw8 : Below w.heap.size w w8 := (hbw7.alloc hbw7.size _).trans (hb8.mono hbw7.size))
      | (at_builtin; refine wpList_app rfl (.tmp 49) (.tmp 50) 22 rfl elemU8 rfl (ho8.alloc _) rfl (Own.lit1 _ _ _ (Nat.le_refl _)).row (one_oneCell _ _) (by omega) (maxLen_of (by omega)) (by have := hb8.size; simp at this; simp; omega) ?_; intro x9 cap9 w9 ho9 hg9 hb9))
    have hbw9 : Below w.heap.size w w9 := (hbw8.alloc hbw8.size _).trans (hb9.mono hbw7.size)
    have k5 : Below w4.heap.size w4 w5 := hb5
    have k6 : Below w4.heap.size w5 w6 := ((Below.refl _ _).alloc hsz5 _).trans hb6
    have k7 : Below w6.heap.size w6 w7 := ((Below.refl _ _).alloc (Nat.le_refl _) _).trans hb7
    have k8 : Below w7.heap.size w7 w8 := ((Below.refl _ _).alloc (Nat.le_refl _) _).trans hb8
    have k9 : Below w7.heap.size w8 w9 := ((Below.refl _ _).alloc k8.size _).trans hb9
    have t6 := k6.size
    have t7 := k7.size
    have t8 := k8.size
    have t9 := k9.size
    have j7 : Below w7.heap.size w7 w9 := k8.trans k9
    have j6 : Below w6.heap.size w6 w9 := k7.trans (j7.mono t7)
    have j4 : Below w4.heap.size w4 w9 := (k5.trans k6).trans (j6.mono (by omega))
    have j3 : Below w3.heap.size w3 w9 := hb4.trans (j4.mono hsz4)
    have j2 : Below w2.heap.size w2 w9 := hb3.trans (j3.mono hsz3)
    have hge := hs1.ge
    have g0 : Good w9 p (.slice x n cap) := ⟨x, n, cap, bs, rfl, hr.later hbw9, hbs, by omega, fun a ha h0 => by
      obtain ⟨b, off, hx, hlt, _⟩ := hr.pos h0
      rw [hx] at ha
      cases ha
      show b ≠ p
      omega⟩
    have g1 : Good w9 p (.slice x2 n2 cap2) := Good.own (ho2.later j2) hc8 (by omega) hp1
    have g2 : Good w9 p (.slice x3 n3 cap3) := Good.own (ho3.later j3) hs8 (by omega) (by omega)
    have g3 : Good w9 p (.slice x4 n4 cap4) := Good.own (ho4.later j4) hsc8 (by omega) (by omega)
    have g4 : Good w9 p (.slice x6 (n5 + 1) cap6) := Good.own (bs := Wire.stuff bs ++ [124]) (by rw [nats_append]; exact ho6.later j6) (app_lt hs8 (by simp)) (by omega) (by omega)
    have g5 : Good w9 p (.slice x7 (1 + n) cap7) := Good.own (bs := [126] ++ bs) (by rw [nats_append]; exact ho7.later j7) (app_lt (by simp) hbs) (by omega) (by omega)
    have g6 : Good w9 p (.slice x9 (1 + n + 1) cap9) := Good.own (bs := [126] ++ bs ++ [124]) (by rw [nats_append, nats_append]; exact ho9) (app_lt (app_lt (by simp) hbs) (by simp)) (by omega) (by omega)
    have hs9 : SrcAt w w9 p (l.take 2000) 0 := hs1.grown (hb2.trans (j2.mono hsz2))
    have hp9 : p < w9.heap.size := by omega
    have hcp : ∀ a, x2 = some a → 0 < n2 → a.block ≠ p := fun a ha h0 => by
      obtain ⟨g, hx, hB, _⟩ := ho2.pos h0
      rw [hx] at ha
      cases ha
      show g ≠ p
      omega
    have hcw9 : NRow .u8 w9 x2 n2 cap2 (bs ++ Wire.put (Wire.fold z)) := (ho2.later j2).row
    clear k5 k6 k7 k8 k9 t6 t7 t8 t9 j7 j6 j4 j3 hb9 hg9 ho9 hbw8 hb8 hg8 ho8 hbw7 hb7 hg7 ho7 hbw6 hb6 hg6 ho6 hbw5 Hn5 hb5 ho5 hbw4 Hn4 hb4 ho4 hbw3 Hn3 hb3 ho3 hbw2 Hn2 hb2 ho2 hsz1 hsz2 hsz3 hsz4 hsz5 hs1 hp1 hb1 j2
    obtain ⟨vs, hvs⟩ : ∃ vs : Array Value, vs = #[.slice x n cap, .slice x2 n2 cap2, .slice x3 n3 cap3, .slice x4 n4 cap4, .slice x6 (n5 + 1) cap6, .slice x7 (1 + n) cap7, .slice x9 (1 + n + 1) cap9] := ⟨_, rfl⟩
    have hv : Hid (∀ j, j < 7 → ∃ v, vs[j]? = some v ∧ Good w9 p v) := by
      intro j hj
      subst hvs
      match j, hj with
      | 0, _ => exact ⟨_, rfl, g0⟩
      | 1, _ => exact ⟨_, rfl, g1⟩
      | 2, _ => exact ⟨_, rfl, g2⟩
      | 3, _ => exact ⟨_, rfl, g3⟩
      | 4, _ => exact ⟨_, rfl, g4⟩
      | 5, _ => exact ⟨_, rfl, g5⟩
      | 6, _ => exact ⟨_, rfl, g6⟩
      | j + 7, h => exact absurd h (by omega)
    rw [← hvs]
    clear hvs g0 g1 g2 g3 g4 g5 g6
    have hL : Below w9.heap.size w9 (w9.alloc (.cells vs 22)) := (Below.refl _ _).alloc (Nat.le_refl _) _
    have hbL : Below w.heap.size w (w9.alloc (.cells vs 22)) := hbw9.trans (hL.mono hbw9.size)
    have hqL : Hid ((w9.alloc (.cells vs 22)).heap[w9.heap.size]? = some (.cells vs 22 (0, 0))) := heap_alloc_new _ _
    have hsL := hs9.grown hL
    have hzL : (w9.alloc (.cells vs 22)).heap.size = w9.heap.size + 1 := by simp
    generalize hwL : w9.alloc (.cells vs 22) = wL at *
    clear hwL
    have HzL := Lib.hid hzL
    clear hzL hs9
    go_loopw [54] (fun i wr => ∃ (j k : Nat), j ≤ 7 ∧ i = .int .i64 (j : Int) ∧ SrcAt w wr p (l.take 2000) k ∧ wL.grownBy wr (some p)) (fun i _ => 7 - (intOf i).toNat)
    case atStart => exact ⟨0, 0, by omega, rfl, hsL, World.grownBy.refl _ _⟩
    case round =>
      obtain ⟨j, k, hj, rfl, hsr, hgr⟩ := hrel
      have hbr : Below w.heap.size w wr := hsr.base
      by_cases hj7 : j < 7
      · obtain ⟨v, hvj, hgv⟩ := hv.out j hj7
        have hgL := hgv.later hL
        obtain ⟨xx, nn, capp, bb, rfl, hrr, hr8, hnn, hpp⟩ := hgL.read hgr
        have hcell : wr.cell? ⟨w9.heap.size, j, none⟩ = some (.slice xx nn capp) := by
          rw [cell_of_row wr _ j vs 22 (0, 0) (by rw [hgr.block _ (by rw [HzL.out]; omega) (by intro e; cases e; omega)]; exact hqL.out)]
          exact hvj
        clear hvj hgv
        go_upto_region 8 with (fail)
        go_cut [65] (fun s65 wx => ∃ (tb : Bool) (k2 : Nat), s65 = .bool tb ∧ (tb = true → 0 < nn) ∧ SrcAt w wx p (l.take 2000) k2 ∧ wL.grownBy wx (some p))
        case first =>
          by_cases hn0 : 0 < nn
          · go_wp2_with fail
            refine (n_any w _ p _ k 3 hsr (by omega)).mono ?_
            rintro e wa ⟨rfl, hsa, hga⟩
            go_wp2_with fail
            go_meet
            exact ⟨_, _, rfl, fun _ => hn0, hsa, grown_trans hgr hga⟩
          · go_wp2_with fail
            go_meet
            exact ⟨_, _, rfl, (fun h => by cases h), hsr, hgr⟩
        case rest =>
          obtain ⟨tb, k2, rfl, htb, hs2, hg2⟩ := hcut
          have Htb := Lib.hid htb
          clear htb
          go_upto_if 65 with (fail)
          go_cut [12] (fun s12 wx => ∃ (k3 : Nat), SrcAt w wx p (l.take 2000) k3 ∧ wL.grownBy wx (some p) ∧ Good wx p s12)
          case first =>
            cases tb
            · go_wp2_with fail
              go_meet
              exact ⟨_, hs2, hg2, hgL.read hg2⟩
            · have hn0 : 0 < nn := Htb.out rfl
              obtain ⟨x', n', cap', bb', he, hr2, h28, h2n, h2p⟩ := hgL.read hg2
              cases he
              have hp2 := hs2.lt
              have hsz2 := hg2.size
              have hwx := hs2.base.size
              go_wp2_with (at_builtin; refine wpList_clone rfl (.tmp 66) (.tmp 67) 22 rfl elemU8 rfl (Own.empty _ _ 1 (Nat.le_refl _)) rfl (Row.later hr2 ((Below.refl _ _).alloc (Nat.le_refl _) _)) (nats_oneCell _ _) (by omega) (maxLen_of (by omega)) (by simp) ?_; intro x10 cap10 wa ho10 hg10 hb10)
              have hba : Below wc.heap.size wc wa := ((Below.refl _ _).alloc (Nat.le_refl _) _).trans hb10
              clear hg10 hb10
              have hsa := hs2.grown hba
              have hga := grown_trans hg2 (grown_below hba)
              obtain ⟨g, rfl, hgB, hgl, _, _⟩ := ho10.pos hn0
              have hrange := modN_range (x := rawV (l.take 2000) k2) (n := nn) (by omega)
              obtain ⟨i, hi⟩ := Int.eq_ofNat_of_zero_le hrange.1
              have hin : i < nn := by omega
              have hi' : Hid (nV (l.take 2000) k2 nn = (i : Int)) := hi
              clear hrange hi
              refine (n_any w _ p _ k2 nn hsa (by omega)).mono ?_
              rintro e wb ⟨rfl, hsb, hgb⟩
              rw [hi'.out]
              have hob : Own wb wc.heap.size 5 1 (some ⟨g, 0, none⟩) nn cap10 (nats .u8 bb') := ho10.grown hgb (fun a ha e => by cases ha; have e2 : p = g := Option.some.inj e; omega)
              have hgb2 := grown_trans hga hgb
              go_wp2_with fail
              have hbal : Below wb.heap.size wb (wb.alloc (.cells #[.int .i64 124, .int .i64 125, .int .i64 126, .int .i64 93, .int .i64 94, .int .i64 0, .int .i64 128] 3)) := (Below.refl _ _).alloc (Nat.le_refl _) _
              have hpb := hsb.lt
              have hlit : IRow .i64 (wb.alloc (.cells #[.int .i64 124, .int .i64 125, .int .i64 126, .int .i64 93, .int .i64 94, .int .i64 0, .int .i64 128] 3)) (some ⟨wb.heap.size, 0, none⟩) 7 7 [124, 125, 126, 93, 94, 0, 128] :=
                IRow.litg (k := .i64) rfl [124, 125, 126, 93, 94, 0, 128] (cs := #[.int .i64 124, .int .i64 125, .int .i64 126, .int .i64 93, .int .i64 94, .int .i64 0, .int .i64 128]) rfl 3 rfl (maxLen_of (by omega))
              refine (pick_any w _ p _ _ _ 7 7 [124, 125, 126, 93, 94, 0, 128] (hsb.grown hbal) hlit (fun a ha => by cases ha; show wb.heap.size ≠ p; omega) (by omega) (by omega)).mono ?_
              rintro e wd ⟨rfl, hsd, hgd⟩
              generalize pickV (l.take 2000) (nextK (l.take 2000) k2) [124, 125, 126, 93, 94, 0, 128] = pv at *
              obtain ⟨c, hc, hc8'⟩ := u8_wrap pv
              have hod : Own wd wc.heap.size 5 1 (some ⟨g, 0, none⟩) nn cap10 (nats .u8 bb') := (hob.later hbal).grown hgd (fun a ha e => by cases ha; have e2 : p = g := Option.some.inj e; omega)
              have hgd2 := grown_trans (grown_trans hgb2 (grown_below hbal)) hgd
              obtain ⟨g', hgg, _, hgl2, hgc2, hgf2⟩ := hod.pos hn0
              cases hgg
              have hbl' : bb'.length = nn := hr2.length
              obtain ⟨co, hco⟩ := has_get (l := bb') (k := i) (by omega)
              have hck2 := hgc2 i _ (nats_get (k := .u8) hco)
              have hfk2 := hgf2 i
              have hset := hod.set i (.int .u8 (c : Int))
              rw [show (nats .u8 bb').set i (.int .u8 (c : Int)) = nats .u8 (bb'.set i c) by simp [nats]] at hset
              have hall' : ∀ y ∈ bb'.set i c, y < 256 := by
                intro y hy
                rcases List.mem_or_eq_of_mem_set hy with h | h
                · exact h28 y h
                · omega
              have Hbl := Lib.hid hbl'
              have Hco := Lib.hid hco
              clear hgc2 hgf2 hbl' hco
              go_wp2_with fail
              go_meet
              exact ⟨_, hsd.set (by omega) (by omega), grown_set hgd2 (by omega), Good.own hset hall' h2n (by omega)⟩
          case rest =>
            obtain ⟨k3, hs3, hg3, x', n', cap', bb', rfl, hr3, h38, h3n, h3p⟩ := hcut
            go_wp2_with fail
            refine (n_any w _ p _ k3 _ hs3 (by omega)).mono ?_
            rintro e we ⟨rfl, hse, hge'⟩
            have hge2 := grown_trans hg3 hge'
            have hre : NRow .u8 we x' n' cap' bb' := Row.read hr3 hge' h3p
            generalize nV (l.take 2000) k3 ((n' : Int) + 2) = nv at *
            go_wp2_with fail
            have hcs : Hid (∀ q, q < 4 → ∃ zq : Int, (we.alloc (.cells #[.int .i64 at_, .int .i64 0, .int .i64 (n : Int), .int .i64 nv] 3)).cell? ⟨we.heap.size, q, none⟩ = some (.int .i64 zq)) := by
              intro q hq
              rw [cell_of_row _ _ q _ _ _ (heap_alloc_new we _)]
              match q, hq with
              | 0, _ => exact ⟨_, rfl⟩
              | 1, _ => exact ⟨_, rfl⟩
              | 2, _ => exact ⟨_, rfl⟩
              | 3, _ => exact ⟨_, rfl⟩
              | q + 4, h => exact absurd h (by omega)
            have hbf : Below we.heap.size we (we.alloc (.cells #[.int .i64 at_, .int .i64 0, .int .i64 (n : Int), .int .i64 nv] 3)) := (Below.refl _ _).alloc (Nat.le_refl _) _
            have hsf := hse.grown hbf
            have hgf := grown_trans hge2 (grown_below hbf)
            have hrf := hre.later hbf
            generalize hwf : we.alloc (.cells #[.int .i64 at_, .int .i64 0, .int .i64 (n : Int), .int .i64 nv] 3) = wf at *
            clear hwf hbf hse hge2 hge' hre hs3 hg3 hr3
            go_loop [89] (fun i => ∃ (q : Nat), q ≤ 4 ∧ i = .int .i64 (q : Int)) (fun i => 4 - (intOf i).toNat)
            case atStart => exact ⟨0, by omega, rfl⟩
            case round =>
              obtain ⟨q, hq4, rfl⟩ := hrel
              by_cases hq : q < 4
              · obtain ⟨zq, hcq⟩ := hcs.out q hq
                go_wp2_with fail
                refine (int_any _ _ _ _ zq _ hrf h38 (by omega)).mono ?_
                rintro e wz ⟨rfl, rfl⟩
                unfold Trip
                go_wp2_with fail
                refine (rint_any _ _ _ _ zq _ hrf h38 (by omega)).mono ?_
                rintro e wz ⟨rfl, rfl⟩
                unfold Trip
                generalize Wire.getI bb' zq = r at *
                obtain ⟨r1, r2, r3⟩ := r
                have e1 : (r1 != r1) = false := by simp
                have e2 : (r2 != r2) = false := by simp
                have e3 : (r3 != r3) = false := by simp
                go_wp2
                go_round
                case rel => exact ⟨q + 1, by omega, by go_num⟩
                case measure => simp [intOf]; omega
              · go_wp2_with fail
                refine (unstuff_any _ _ _ _ _ hrf h38 (by omega)).mono ?_
                rintro e wg ⟨xa, na, capa, rfl, hoa, hba⟩
                go_wp2_with fail
                refine (runstuff_any _ _ _ _ _ (hrf.later hba) h38 (by omega)).mono ?_
                rintro e wh ⟨xc, nc, capc, rfl, hoc, hbc⟩
                have hoa' := hoa.later hbc
                have hrh := (hrf.later hba).later hbc
                have hsh := (hsf.grown hba).grown hbc
                have hgh := grown_trans (grown_trans hgf (grown_below hba)) (grown_below hbc)
                generalize (Wire.unstuff bb').2 = er at *
                generalize (Wire.unstuff bb').1 = d at *
                clear hoa hba hbc hrf hsf hgf
                go_wp2_with fail
                have kA : ∀ w', Below wh.heap.size wh w' → (convert 22 9 (.slice xa na capa)).run Try.prog w' = .ok (.string (str d)) w' :=
                  fun w' hb => run_str w' 22 5 9 Try.underlying22 Try.underlying5 Try.underlying9 (hoa'.later hb).row
                have kC : ∀ w', Below wh.heap.size wh w' → (convert 22 9 (.slice xc nc capc)).run Try.prog w' = .ok (.string (str d)) w' :=
                  fun w' hb => run_str w' 22 5 9 Try.underlying22 Try.underlying5 Try.underlying9 (hoc.later hb).row
                refine wp_region_rg' wh (by kernel_rfl) (Below.refl _ _) [131, 132, 133, 134, 135, 136, 137, 138, 139, 140, 141, 142, 143, 144, 145, 146, 147, 148, 149, 150, 151, 152, 153, 154, 155, 156]
                  [Is (.slice xa na capa), Is (.string (str d)), Is (.slice xc nc capc), Is (.string (str d)), Is (.bool false), Is (.bool false), Is (.int .i64 er), Is (.int .i64 er), Is (.bool false), Is (.bool false), Is (.bool false),
                    Is (.slice x' n' cap'), (fun v w => ∃ x n cap, v = .slice x n cap ∧ NRow .u8 w x n cap (Wire.stuff bb')), Is (.string (str (Wire.stuff bb'))), Is (.slice x' n' cap'), (fun v w => ∃ x n cap, v = .slice x n cap ∧ NRow .u8 w x n cap (Wire.stuff bb')), Is (.string (str (Wire.stuff bb'))), Is (.bool false), Is (.bool false), Is (.bool false),
                    Is (.slice x' n' cap'), Is (.int .u32 ((Crc.sum bb' : Nat) : Int)), Is (.slice x' n' cap'), Is (.int .u32 ((Crc.sum bb' : Nat) : Int)), Is (.bool false), Is (.bool false)]
                  [(21, .slice xa na capa), (23, .slice xc nc capc), (22, .int .i64 er), (24, .int .i64 er), (12, .slice x' n' cap')]
                  [none, none, none, none, none, none, some (136, false), some (136, false), some (136, false), none, none, some (141, false), some (141, false), some (141, false), some (141, false), some (141, false), some (141, false), some (141, false), none, none, some (150, false), some (150, false), some (150, false), some (150, false), some (150, false), none]
                  [[21], [131], [23], [133], [132, 134], [135], [22, 136], [24, 136], [137, 138, 136], [136, 139], [140], [12, 141], [142, 141], [143, 141], [12, 141], [145, 141], [146, 141], [144, 147, 141], [141, 148], [149], [12, 150], [151, 150], [12, 150], [153, 150], [152, 154, 150], [150, 155]]
                  rfl ?_ (by kernel_rfl) (by kernel_rfl) ⟨rfl, rfl, rfl, rfl, rfl, trivial⟩ ?_ ?_
                · refine ⟨Is.stays _, Is.stays _, Is.stays _, Is.stays _, Is.stays _, Is.stays _, Is.stays _, Is.stays _, Is.stays _, Is.stays _, Is.stays _, Is.stays _, ?_, Is.stays _, Is.stays _, ?_, Is.stays _, Is.stays _, Is.stays _, Is.stays _, Is.stays _, Is.stays _, Is.stays _, Is.stays _, Is.stays _, Is.stays _, trivial⟩
                  all_goals
                    rintro v wa wb ⟨x5, n5, cap5, rfl, h5⟩ hb
                    exact ⟨x5, n5, cap5, rfl, h5.later hb⟩
                · simp only [List.zip_cons_cons, List.zip_nil_left, List.map_cons, List.map_nil, List.cons_append, List.nil_append, rgAllL, KnownL, List.lookup, Nat.reduceBEq, Is, rgDo, and_true]
                  refine ⟨?_, ?_, ?_, ?_, ?_, ?_, ?_, ?_, ?_, ?_, ?_, ?_, ?_, ?_, ?_, ?_, ?_, ?_, ?_, ?_, ?_, ?_, ?_, ?_, ?_, ?_⟩
                  all_goals
                    intro A w' hC hK
                    have hc : ∀ v, A.eval (.const v) = v := fun _ => rfl
                    have hf : ∀ f, A.eval (.func f) = .func (.func f) #[] #[] := fun _ => rfl
                    generalize A.eval = ρ at *
                    try (simp [go_sem, rgUpon, Is, Below.refl, hc, hf, hK, kA w' hC, kC w' hC]; done)
                  · simp [go_sem, rgUpon, Is, hc, hf, hK]
                    refine (stuff_any _ _ _ bb' _ (hrh.later hC) h38 (by omega)).mono ?_
                    rintro e w4 ⟨x4, n4, cap4, rfl, ho4, hb4⟩
                    exact ⟨_, rfl, hb4, x4, n4, cap4, rfl, ho4.row⟩
                  · obtain ⟨⟨x5, n5, cap5, hx, hr5⟩, hK⟩ := hK
                    have k5 := run_str (P := Try.prog) w' 22 5 9 Try.underlying22 Try.underlying5 Try.underlying9 hr5
                    simp [go_sem, rgUpon, Is, Below.refl, hc, hf, hK, hx, k5]
                  · simp [go_sem, rgUpon, Is, hc, hf, hK]
                    refine (rstuff_any _ _ _ bb' _ (hrh.later hC) h38 (by omega)).mono ?_
                    rintro e w4 ⟨x4, n4, cap4, rfl, ho4, hb4⟩
                    exact ⟨_, rfl, hb4, x4, n4, cap4, rfl, ho4.row⟩
                  · obtain ⟨⟨x5, n5, cap5, hx, hr5⟩, hK⟩ := hK
                    have k5 := run_str (P := Try.prog) w' 22 5 9 Try.underlying22 Try.underlying5 Try.underlying9 hr5
                    simp [go_sem, rgUpon, Is, Below.refl, hc, hf, hK, hx, k5]
                  · simp [go_sem, rgUpon, Is, hc, hf, hK]
                    refine (sum_any _ _ _ bb' _ (hrh.later hC) h38).mono ?_
                    rintro e w4 ⟨rfl, hb4⟩
                    exact ⟨rfl, hb4⟩
                  · simp [go_sem, rgUpon, Is, hc, hf, hK]
                    refine (rsum_any _ _ _ bb' _ (hrh.later hC) h38).mono ?_
                    rintro e w4 ⟨rfl, rfl⟩
                    exact ⟨rfl, Below.refl _ _⟩
                · simp only [List.zip_cons_cons, List.zip_nil_left, rgFin]
                  intro _ _ _ _ _ _ _ _ _ _ _ _ _ _ _ _ _ _ _ _ _ _ _ _ _ v2 w4 hb4 hF
                  have hv2 := hF.2
                  subst hv2
                  clear hF
                  simp only [Act.put, List.setIfInBounds_toArray, List.set_cons_zero, List.set_cons_succ]
                  have hs4 := hsh.grown hb4
                  have hg4 := grown_trans hgh (grown_below hb4)
                  go_wp2
                  go_roundw
                  case rel => exact ⟨j + 1, _, by omega, by go_num, hs4, hg4⟩
                  case measure => simp [intOf]; omega
      · have hcr : NRow .u8 wr x2 n2 cap2 (bs ++ Wire.put (Wire.fold z)) := Row.read (hcw9.later hL) hgr hcp
        have hrr := hr.later hbr
        go_wp2_with fail
        have kC : ∀ w', Below wr.heap.size wr w' → (convert 22 9 (.slice x2 n2 cap2)).run Try.prog w' = .ok (.string (str (bs ++ Wire.put (Wire.fold z)))) w' :=
          fun w' hb => run_str w' 22 5 9 Try.underlying22 Try.underlying5 Try.underlying9 (hcr.later hb)
        refine wp_region_rg' wr (by kernel_rfl) (Below.refl _ _) [158, 159, 160, 161, 162, 163, 164, 165, 166, 167, 8]
          [Is (.slice x n cap), Is (.int .i64 z), (fun v w => ∃ x n cap, v = .slice x n cap ∧ NRow .u8 w x n cap (bs ++ Wire.put (Wire.fold z))), Is (.string (str (bs ++ Wire.put (Wire.fold z)))), Is (.slice x2 n2 cap2), Is (.string (str (bs ++ Wire.put (Wire.fold z)))), Is (.bool true), Is (.bool true), Is (.bool true), Is (.bool true), Is (.bool true)]
          [(0, .slice x n cap), (2, .int .i64 z), (10, .slice x2 n2 cap2)]
          [none, none, none, none, none, none, none, none, some (165, true), none, none]
          [[0], [2], [158, 159], [160], [10], [162], [161, 163], [164], [165], [165, 166], [167]]
          rfl ?_ (by kernel_rfl) (by kernel_rfl) ⟨rfl, rfl, rfl, trivial⟩ ?_ ?_
        · refine ⟨Is.stays _, Is.stays _, ?_, Is.stays _, Is.stays _, Is.stays _, Is.stays _, Is.stays _, Is.stays _, Is.stays _, Is.stays _, trivial⟩
          rintro v wa wb ⟨x5, n5, cap5, rfl, h5⟩ hb
          exact ⟨x5, n5, cap5, rfl, h5.later hb⟩
        · simp only [List.zip_cons_cons, List.zip_nil_left, List.map_cons, List.map_nil, List.cons_append, List.nil_append, rgAllL, KnownL, List.lookup, Nat.reduceBEq, Is, rgDo, and_true]
          refine ⟨?_, ?_, ?_, ?_, ?_, ?_, ?_, ?_, ?_, ?_, ?_⟩
          all_goals
            intro A w' hC hK
            have hc : ∀ v, A.eval (.const v) = v := fun _ => rfl
            have hf : ∀ f, A.eval (.func f) = .func (.func f) #[] #[] := fun _ => rfl
            generalize A.eval = ρ at *
            try (simp [go_sem, rgUpon, Is, Below.refl, hc, hf, hK, kC w' hC]; done)
          · simp [go_sem, rgUpon, Is, hc, hf, hK]
            refine (put_any _ _ _ bs z _ (hrr.later hC) (by omega) hz1 hz2).mono ?_
            rintro e w4 ⟨x4, n4, cap4, rfl, ho4, hb4⟩
            exact ⟨_, rfl, hb4, x4, n4, cap4, rfl, ho4.row⟩
          · obtain ⟨x5, n5, cap5, hx, hr5⟩ := hK
            have k5 := run_str (P := Try.prog) w' 22 5 9 Try.underlying22 Try.underlying5 Try.underlying9 hr5
            simp [go_sem, rgUpon, Is, Below.refl, hc, hf, hx, k5]
          · simp [go_sem, rgUpon, Is, hc, hf, hK]
            refine (awake_any _).mono ?_
            rintro e w4 ⟨rfl, hb4⟩
            exact ⟨rfl, hb4⟩
        · simp only [List.zip_cons_cons, List.zip_nil_left, rgFin]
          intro _ _ _ _ _ _ _ _ _ _ v2 w4 hb4 hF
          have hv2 := hF.2
          subst hv2
          clear hF
          simp only [Act.put, List.setIfInBounds_toArray, List.set_cons_zero, List.set_cons_succ]
          go_wp2
          go_ret
          exact ⟨rfl, hbr.trans (hb4.mono hbr.size)⟩
end Go.Proofs.Ytnekjbmhmpfkgaa
