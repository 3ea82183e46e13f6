/- The law WireSums as a contract: it answers true, whatever the bytes. No condition. -/
import Derived.Test.YtnekjbmhmpfkgaaSum
import Derived.Test.YtnekjbmhmpfkgaaMod
import Derived.Test.YtnekjbmhmpfkgaaAwake
namespace Go.Proofs.Ytnekjbmhmpfkgaa
open Go.RowKit
set_option linter.unusedVariables false
set_option linter.unusedSimpArgs false

set_option maxRecDepth 100000 in
set_option maxHeartbeats 1000000 in
theorem sums_walk (x : Option Addr) (n cap : Nat) (bs : List Nat) (z : Int) (by_ : Nat) (w : World) (hr : NRow .u8 w x n cap bs) (hb8 : ∀ c ∈ bs, c < 256) (hz1 : -9223372036854775808 ≤ z) (hz2 : z ≤ 9223372036854775807) (hy : by_ < 256) :
    Calls Try.prog 3 #[.slice x n cap, .int .i64 z, .int .u8 (by_ : Int)] w fun e w' => e = .returned (.bool true) ∧ Below w.heap.size w w' := by
  have hn := hr.length
  have Hn := Lib.hid hn
  clear hn
  by_cases hbig : 300 < n ∨ n = 0 ∨ by_ = 0
  · have hn0 : ¬ 300 < n → ((n : Int) == 0) = decide (n = 0) := fun _ => by rw [Bool.eq_iff_iff]; simp
    have hy0 : ((by_ : Int) == 0) = decide (by_ = 0) := by rw [Bool.eq_iff_iff]; simp
    by_cases h3 : 300 < n
    · clear hn0 hy0
      go_enter Try.func3, Try.ntmps3
      go_wp2_with (go_at_call 8; refine (awake_any _).mono ?_; rintro e w1 ⟨rfl, hb⟩)
      go_ret
      exact ⟨rfl, hb⟩
    · by_cases h0 : n = 0
      · subst h0
        clear hn0 hy0
        go_enter Try.func3, Try.ntmps3
        go_wp2_with (go_at_call 8; refine (awake_any _).mono ?_; rintro e w1 ⟨rfl, hb⟩)
        go_ret
        exact ⟨rfl, hb⟩
      · obtain rfl : by_ = 0 := by omega
        have hn1 : ((n : Int) == 0) = false := by simp; omega
        clear hn0 hy0
        go_enter Try.func3, Try.ntmps3
        go_wp2_with (go_at_call 8; refine (awake_any _).mono ?_; rintro e w1 ⟨rfl, hb⟩)
        go_ret
        exact ⟨rfl, hb⟩
  · have hn1 : ((n : Int) == 0) = false := by simp; omega
    have hy1 : ((by_ : Int) == 0) = false := by simp; omega
    have hnle : n ≤ 300 := by omega
    have hnpos : 0 < n := by omega
    have hypos : 0 < by_ := by omega
    clear hbig
    go_enter Try.func3, Try.ntmps3
    go_wp2_with (at_builtin; refine wpList_app rfl _ _ 22 rfl elemU8 rfl (B := w.heap.size) (Own.litg rfl #[] _ 1 0 (Nat.le_refl _) (maxLen_of (by omega)) rfl) rfl (Row.later hr ((Below.refl _ _).alloc (Nat.le_refl _) _)) (nats_oneCell _ _) (by omega) (maxLen_of (by omega)) (by simp) ?_; intro x1 cap1 w1 ho1 hg1 hb1)
    have hbA : Below w.heap.size w w1 := ((Below.refl _ _).alloc (Nat.le_refl _) _).trans hb1
    have ho : Own w1 w.heap.size 5 1 x1 n cap1 (nats .u8 bs) := by simpa using ho1
    clear ho1 hg1 hb1
    refine (mod_any z n _ (by omega) hz1 hz2).mono ?_
    rintro e w2 ⟨rfl, rfl⟩
    have hi := modN_range (x := z) (n := n) (by omega)
    obtain ⟨i, hie⟩ := Int.eq_ofNat_of_zero_le hi.1
    rw [hie] at hi ⊢
    have hin : i < n := by omega
    clear hi hie
    obtain ⟨g, rfl, hgB, hgl, hgc, hgf⟩ := ho.pos hnpos
    obtain ⟨c, hcg⟩ := has_get (l := bs) (k := i) (by rw [Hn.out]; exact hin)
    have hck := hgc i _ (nats_get (k := .u8) hcg)
    have hfk := hgf i
    have hc8 := hb8 c (mem_get hcg)
    have hx : bits BinOp.xor IntKind.u8 (c : Int) (by_ : Int) = ((c ^^^ by_ : Nat) : Int) := u8_xor_nat c by_ hc8 hy
    have ho2 := ho.set i (.int .u8 ((c ^^^ by_ : Nat) : Int))
    have hE : (nats .u8 bs).set i (.int .u8 ((c ^^^ by_ : Nat) : Int)) = nats .u8 (bs.set i (c ^^^ by_)) := by simp [nats]
    rw [hE] at ho2
    have hd8 : c ^^^ by_ < 256 := Nat.xor_lt_two_pow (n := 8) (by omega) (by omega)
    have hs8 : ∀ d ∈ bs.set i (c ^^^ by_), d < 256 := by
      intro d hd
      rcases List.mem_or_eq_of_mem_set hd with h1 | h1
      · exact hb8 d h1
      · omega
    have hne : Hid (Crc.sum (bs.set i (c ^^^ by_)) ≠ Crc.sum bs) := by
      obtain ⟨hi2, hc2⟩ := List.getElem?_eq_some_iff.1 hcg
      refine Crc.sum_set_ne hb8 hi2 hd8 ?_
      rw [hc2]
      intro h
      have h2 : c ^^^ (c ^^^ by_) = c ^^^ c := by rw [h]
      rw [← Nat.xor_assoc, Nat.xor_self, Nat.zero_xor] at h2
      omega
    have hbB : Below w.heap.size w (w1.setCell ⟨g, i, none⟩ (.int .u8 ((c ^^^ by_ : Nat) : Int))) := hbA.setCell hgB _
    have Hcg := Lib.hid hcg
    have HE := Lib.hid hE
    clear hgc hgf hcg hE
    generalize hcs : bs.set i (c ^^^ by_) = cs at *
    clear hcs HE
    generalize c ^^^ by_ = d at *
    have hr2 : NRow .u8 (w1.setCell ⟨g, i, none⟩ (.int .u8 (d : Int))) x n cap bs := hr.later hbB
    go_wp2_with fail
    clear hck hfk hx
    generalize w1.setCell ⟨g, i, none⟩ (.int .u8 (d : Int)) = w3 at *
    refine (sum_any _ _ _ bs _ hr2 hb8).mono ?_
    rintro e w4 ⟨rfl, hb4⟩
    go_wp2_with fail
    refine (sum_any _ _ _ cs _ (ho2.later hb4).row hs8).mono ?_
    rintro e w5 ⟨rfl, hb5⟩
    have hbC : Below w.heap.size w w5 := (hbB.trans (hb4.mono hbB.size)).trans (hb5.mono (Nat.le_trans hbB.size hb4.size))
    have hneb : (((Crc.sum bs : Nat) : Int) != ((Crc.sum cs : Nat) : Int)) = true := by
      simp only [bne_iff_ne, ne_eq]
      intro h
      exact hne.out (by omega)
    generalize Crc.sum bs = s1 at *
    generalize Crc.sum cs = s2 at *
    go_wp2_with (go_at_call 8; refine (awake_any _).mono ?_; rintro e w6 ⟨rfl, hb6⟩)
    go_ret
    exact ⟨rfl, hbC.trans (hb6.mono hbC.size)⟩
end Go.Proofs.Ytnekjbmhmpfkgaa
