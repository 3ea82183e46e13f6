/- telegram.fields as a contract. No condition. -/
import Derived.Test.YtopmmodcaoaaeaaTgC
import Derived.Test.YtopmmodcaoaaeaaWInt
namespace Go.Proofs.Ytopmmodcaoaaeaa
open Go.RowKit Sy
open Go.IntWalk renaming iteOmega → iO, toNatUp → tN
set_option linter.unusedVariables false
set_option linter.unusedSimpArgs false
/-- Numbers read one behind the other: where each begins, its value, its error. -/
def aG (bs : List Nat) : Nat → Int
  | 0 => 0
  | i + 1 => (Wire.getI bs (aG bs i)).2.1
def vG (bs : List Nat) (i : Nat) : Int := (Wire.getI bs (aG bs i)).1
def eG (bs : List Nat) (i : Nat) : Int := (Wire.getI bs (aG bs i)).2.2
theorem g_at (bs : List Nat) (i : Nat) : Wire.getI bs (aG bs i) = (vG bs i, aG bs (i + 1), eG bs i) := rfl
def tgOf (bs : List Nat) : Tg := ⟨vG bs 0, vG bs 1, vG bs 2, vG bs 3, vG bs 4, (List.range (vG bs 5).toNat).map fun i => vG bs (6 + i)⟩
def tg0 : Tg := ⟨0, 0, 0, 0, 0, []⟩
def fieldsV (bs : List Nat) : Tg × Bool :=
  if (∀ i ∈ List.range 6, eG bs i = 0) ∧ (0 ≤ vG bs 5 ∧ vG bs 5 ≤ 16) ∧ ∀ i ∈ List.range (vG bs 5).toNat, eG bs (6 + i) = 0 then
    (tgOf bs, decide (aG bs (6 + (vG bs 5).toNat) = bs.length ∧ TgOk (tgOf bs))) else (tg0, false)
abbrev tgS (t : Tg) (l : Nat) : S := .ag [.t (.int t.st), .t (.int t.ep), .t (.int t.sq), .t (.int t.tm), .t (.int t.kd), .own l]
/-- What the second loop writes. -/
def wrV (n : Nat) (v : Nat → Int) : Nat → List Int
  | 0 => List.replicate n 0
  | k + 1 => (wrV n v k).set k (v k)
theorem wrV_len (n : Nat) (v : Nat → Int) : ∀ k, (wrV n v k).length = n
  | 0 => by simp [wrV]
  | k + 1 => by simp [wrV, wrV_len n v k]
theorem wrV_get (n : Nat) (v : Nat → Int) : ∀ (k i : Nat), i < n → (wrV n v k)[i]? = some (if i < k then v i else 0)
  | 0, i, hi => by simp only [wrV]; rw [List.getElem?_replicate, if_pos hi, if_neg (by omega)]
  | k + 1, i, hi => by
    simp only [wrV]
    by_cases e : k = i
    · subst e
      rw [List.getElem?_set_self (by rw [wrV_len]; exact hi), if_pos (by omega)]
    · rw [List.getElem?_set_ne e, wrV_get n v k i hi]
      by_cases h : i < k
      · rw [if_pos h, if_pos (by omega)]
      · rw [if_neg h, if_neg (by omega)]
theorem wrV_all (n : Nat) (v : Nat → Int) : wrV n v n = (List.range n).map v := by
  apply List.ext_getElem?
  intro i
  by_cases hi : i < n
  · rw [wrV_get n v n i hi, if_pos hi, List.getElem?_map, List.getElem?_range hi]; rfl
  · rw [List.getElem?_eq_none (by rw [wrV_len]; omega), List.getElem?_eq_none (by simp; omega)]
set_option maxRecDepth 100000 in
set_option maxHeartbeats 16000000 in
theorem fields_fn (bs : List Nat) (hb : bs.length ≤ 1000000) (h8 : ∀ c ∈ bs, c < 256) (t : Tg) (g : Bool) (hr : fieldsV bs = (t, g)) : FnOk Try.prog 69 [.t (encUs bs)] [] (.tup [tgS t 1000, .t (.bool g)]) [(1000, blkI t.vs)] := by
  have hi := fun k => int_fn bs (aG bs k) (by omega) h8 _ _ _ (g_at bs k)
  unfold fieldsV at hr
  have ha0 : aG bs 0 = 0 := rfl
  have htg : tgOf bs = ⟨vG bs 0, vG bs 1, vG bs 2, vG bs 3, vG bs 4, (List.range (vG bs 5).toNat).map fun i => vG bs (6 + i)⟩ := rfl
  obtain ⟨A, hA⟩ : ∃ A : Nat → Int, ∀ i, aG bs i = A i := ⟨_, fun _ => rfl⟩
  obtain ⟨V, hV⟩ : ∃ A : Nat → Int, ∀ i, vG bs i = A i := ⟨_, fun _ => rfl⟩
  obtain ⟨R, hR⟩ : ∃ A : Nat → Int, ∀ i, eG bs i = A i := ⟨_, fun _ => rfl⟩
  simp only [hA, hV, hR] at hi hr ha0 htg
  rw [htg] at hr
  clear hA hV hR htg
  refine FnOk.intro fact_mixed Try.func69 rfl Try.ntmps69 (by rfl) (by simp) ?_
  repeat (first | (refine nf1_sound rfl ?_; simp [go_sem, ↓iO, iO, tN]; (repeat (refine anI ?_)); try (refine ⟨dcK, ?_⟩)) | ((first | refine itePos (by omega) ?_ | refine iteNeg (by omega) ?_); try simp [go_sem, ↓iO, iO, tN]) | (refine ⟨dcK, ?_⟩))
  refine nf1_sound' _ _ _ ?_; simp only [nf1]
  refine CW.loop (ι := Nat) (fun k => ⟨[(0, .t (encUs bs)), (2, .pt 502 [] 0), (3, .t (.lit (.bool false))), (4, .pt 504 [] 0), (5, .t (.int (A k))), (6, .pt 506 [] 0), (7, .t (.int 0)), (16, .wn 516 [] 0 6), (17, .t (.int 6)), (18, .t (.int k))],
    [(502, .box 38 (.t (.agg [.int 0, .int 0, .int 0, .int 0, .int 0, .nil]))), (504, .box 38 (.t (.agg [.int (if 0 < k then V 0 else 0), .int (if 1 < k then V 1 else 0), .int (if 2 < k then V 2 else 0), .int (if 3 < k then V 3 else 0), .int (if 4 < k then V 4 else 0), .nil]))), (506, .box 3 (.t (.int (if 5 < k then V 5 else 0)))), (516, .box 120 (.ag [.pt 504 [0] 0, .pt 504 [1] 1, .pt 504 [2] 2, .pt 504 [3] 3, .pt 504 [4] 4, .pt 506 [] 0]))]⟩)
    (fun k => k ≤ 6 ∧ ∀ i, i < k → R i = 0) (fun k => 7 - k) 0 [(502, some 102), (504, some 104), (506, some 106), (516, some 116)] ⟨by omega, by intros; omega⟩ ?_ ?_
  · simp [go_sem, ↓iO, iO, tN, ha0]
  rintro k ⟨hk, hok⟩
  by_cases hk6 : k < 6
  · have hc := hi k
    by_cases hRk : R k = 0
    · have hok2 : ∀ i, i < k + 1 → R i = 0 := fun i h => by
        by_cases e : i = k
        · rw [e]; exact hRk
        · exact hok i (by omega)
      have hkc : k = 0 ∨ k = 1 ∨ k = 2 ∨ k = 3 ∨ k = 4 ∨ k = 5 := by omega
      rcases hkc with rfl | rfl | rfl | rfl | rfl | rfl
      · repeat (first | (refine nf1_sound rfl ?_; simp [go_sem, ↓iO, iO, tN]; (repeat (refine anI ?_)); try (refine ⟨dcK, ?_⟩)) | ((first | refine itePos (by omega) ?_ | refine iteNeg (by omega) ?_); try simp [go_sem, ↓iO, iO, tN]) | (refine ⟨dcK, ?_⟩))
        refine CallK.fn (hc) [] [] [] (by kernel_rfl) ?_ ?_ ?_ (Or.inl rfl) ?_ <;> simp [go_sem, ↓iO, iO, tN]
        repeat (refine anI ?_)
        try (refine ⟨dcK, ?_⟩)
        repeat (first | (refine nf1_sound rfl ?_; simp [go_sem, ↓iO, iO, tN, hRk]; (repeat (refine anI ?_)); try (refine ⟨dcK, ?_⟩)) | ((first | refine itePos (by omega) ?_ | refine iteNeg (by omega) ?_); try simp [go_sem, ↓iO, iO, tN, hRk]) | (refine ⟨dcK, ?_⟩))
        rw [RoundQ_normal]; refine ⟨0 + 1, [(502, some 502), (504, some 504), (506, some 506), (516, some 516)], ?_, ?_, ?_⟩
        · exact ⟨by omega, fun i h => hok2 i h⟩
        · omega
        simp [go_sem, ↓iO, iO, tN]
      · repeat (first | (refine nf1_sound rfl ?_; simp [go_sem, ↓iO, iO, tN]; (repeat (refine anI ?_)); try (refine ⟨dcK, ?_⟩)) | ((first | refine itePos (by omega) ?_ | refine iteNeg (by omega) ?_); try simp [go_sem, ↓iO, iO, tN]) | (refine ⟨dcK, ?_⟩))
        refine CallK.fn (hc) [] [] [] (by kernel_rfl) ?_ ?_ ?_ (Or.inl rfl) ?_ <;> simp [go_sem, ↓iO, iO, tN]
        repeat (refine anI ?_)
        try (refine ⟨dcK, ?_⟩)
        repeat (first | (refine nf1_sound rfl ?_; simp [go_sem, ↓iO, iO, tN, hRk]; (repeat (refine anI ?_)); try (refine ⟨dcK, ?_⟩)) | ((first | refine itePos (by omega) ?_ | refine iteNeg (by omega) ?_); try simp [go_sem, ↓iO, iO, tN, hRk]) | (refine ⟨dcK, ?_⟩))
        rw [RoundQ_normal]; refine ⟨1 + 1, [(502, some 502), (504, some 504), (506, some 506), (516, some 516)], ?_, ?_, ?_⟩
        · exact ⟨by omega, fun i h => hok2 i h⟩
        · omega
        simp [go_sem, ↓iO, iO, tN]
      · repeat (first | (refine nf1_sound rfl ?_; simp [go_sem, ↓iO, iO, tN]; (repeat (refine anI ?_)); try (refine ⟨dcK, ?_⟩)) | ((first | refine itePos (by omega) ?_ | refine iteNeg (by omega) ?_); try simp [go_sem, ↓iO, iO, tN]) | (refine ⟨dcK, ?_⟩))
        refine CallK.fn (hc) [] [] [] (by kernel_rfl) ?_ ?_ ?_ (Or.inl rfl) ?_ <;> simp [go_sem, ↓iO, iO, tN]
        repeat (refine anI ?_)
        try (refine ⟨dcK, ?_⟩)
        repeat (first | (refine nf1_sound rfl ?_; simp [go_sem, ↓iO, iO, tN, hRk]; (repeat (refine anI ?_)); try (refine ⟨dcK, ?_⟩)) | ((first | refine itePos (by omega) ?_ | refine iteNeg (by omega) ?_); try simp [go_sem, ↓iO, iO, tN, hRk]) | (refine ⟨dcK, ?_⟩))
        rw [RoundQ_normal]; refine ⟨2 + 1, [(502, some 502), (504, some 504), (506, some 506), (516, some 516)], ?_, ?_, ?_⟩
        · exact ⟨by omega, fun i h => hok2 i h⟩
        · omega
        simp [go_sem, ↓iO, iO, tN]
      · repeat (first | (refine nf1_sound rfl ?_; simp [go_sem, ↓iO, iO, tN]; (repeat (refine anI ?_)); try (refine ⟨dcK, ?_⟩)) | ((first | refine itePos (by omega) ?_ | refine iteNeg (by omega) ?_); try simp [go_sem, ↓iO, iO, tN]) | (refine ⟨dcK, ?_⟩))
        refine CallK.fn (hc) [] [] [] (by kernel_rfl) ?_ ?_ ?_ (Or.inl rfl) ?_ <;> simp [go_sem, ↓iO, iO, tN]
        repeat (refine anI ?_)
        try (refine ⟨dcK, ?_⟩)
        repeat (first | (refine nf1_sound rfl ?_; simp [go_sem, ↓iO, iO, tN, hRk]; (repeat (refine anI ?_)); try (refine ⟨dcK, ?_⟩)) | ((first | refine itePos (by omega) ?_ | refine iteNeg (by omega) ?_); try simp [go_sem, ↓iO, iO, tN, hRk]) | (refine ⟨dcK, ?_⟩))
        rw [RoundQ_normal]; refine ⟨3 + 1, [(502, some 502), (504, some 504), (506, some 506), (516, some 516)], ?_, ?_, ?_⟩
        · exact ⟨by omega, fun i h => hok2 i h⟩
        · omega
        simp [go_sem, ↓iO, iO, tN]
      · repeat (first | (refine nf1_sound rfl ?_; simp [go_sem, ↓iO, iO, tN]; (repeat (refine anI ?_)); try (refine ⟨dcK, ?_⟩)) | ((first | refine itePos (by omega) ?_ | refine iteNeg (by omega) ?_); try simp [go_sem, ↓iO, iO, tN]) | (refine ⟨dcK, ?_⟩))
        refine CallK.fn (hc) [] [] [] (by kernel_rfl) ?_ ?_ ?_ (Or.inl rfl) ?_ <;> simp [go_sem, ↓iO, iO, tN]
        repeat (refine anI ?_)
        try (refine ⟨dcK, ?_⟩)
        repeat (first | (refine nf1_sound rfl ?_; simp [go_sem, ↓iO, iO, tN, hRk]; (repeat (refine anI ?_)); try (refine ⟨dcK, ?_⟩)) | ((first | refine itePos (by omega) ?_ | refine iteNeg (by omega) ?_); try simp [go_sem, ↓iO, iO, tN, hRk]) | (refine ⟨dcK, ?_⟩))
        rw [RoundQ_normal]; refine ⟨4 + 1, [(502, some 502), (504, some 504), (506, some 506), (516, some 516)], ?_, ?_, ?_⟩
        · exact ⟨by omega, fun i h => hok2 i h⟩
        · omega
        simp [go_sem, ↓iO, iO, tN]
      · repeat (first | (refine nf1_sound rfl ?_; simp [go_sem, ↓iO, iO, tN]; (repeat (refine anI ?_)); try (refine ⟨dcK, ?_⟩)) | ((first | refine itePos (by omega) ?_ | refine iteNeg (by omega) ?_); try simp [go_sem, ↓iO, iO, tN]) | (refine ⟨dcK, ?_⟩))
        refine CallK.fn (hc) [] [] [] (by kernel_rfl) ?_ ?_ ?_ (Or.inl rfl) ?_ <;> simp [go_sem, ↓iO, iO, tN]
        repeat (refine anI ?_)
        try (refine ⟨dcK, ?_⟩)
        repeat (first | (refine nf1_sound rfl ?_; simp [go_sem, ↓iO, iO, tN, hRk]; (repeat (refine anI ?_)); try (refine ⟨dcK, ?_⟩)) | ((first | refine itePos (by omega) ?_ | refine iteNeg (by omega) ?_); try simp [go_sem, ↓iO, iO, tN, hRk]) | (refine ⟨dcK, ?_⟩))
        rw [RoundQ_normal]; refine ⟨5 + 1, [(502, some 502), (504, some 504), (506, some 506), (516, some 516)], ?_, ?_, ?_⟩
        · exact ⟨by omega, fun i h => hok2 i h⟩
        · omega
        simp [go_sem, ↓iO, iO, tN]
    · rw [if_neg (fun h => hRk (h.1 k (List.mem_range.2 hk6)))] at hr
      obtain ⟨rfl, rfl⟩ := Prod.mk.inj hr
      have hkc : k = 0 ∨ k = 1 ∨ k = 2 ∨ k = 3 ∨ k = 4 ∨ k = 5 := by omega
      rcases hkc with rfl | rfl | rfl | rfl | rfl | rfl
      · repeat (first | (refine nf1_sound rfl ?_; simp [go_sem, ↓iO, iO, tN]; (repeat (refine anI ?_)); try (refine ⟨dcK, ?_⟩)) | ((first | refine itePos (by omega) ?_ | refine iteNeg (by omega) ?_); try simp [go_sem, ↓iO, iO, tN]) | (refine ⟨dcK, ?_⟩))
        refine CallK.fn (hc) [] [] [] (by kernel_rfl) ?_ ?_ ?_ (Or.inl rfl) ?_ <;> simp [go_sem, ↓iO, iO, tN]
        repeat (refine anI ?_)
        try (refine ⟨dcK, ?_⟩)
        repeat (first | (refine nf1_sound rfl ?_; simp [go_sem, ↓iO, iO, tN, hRk]; (repeat (refine anI ?_)); try (refine ⟨dcK, ?_⟩)) | ((first | refine itePos (by omega) ?_ | refine iteNeg (by omega) ?_); try simp [go_sem, ↓iO, iO, tN, hRk]) | (refine ⟨dcK, ?_⟩))
        first | rw [RetQ_ret] | rw [RetQ_normal]
        refine ⟨[(1000, none)], ?_⟩
        simp [go_sem, ↓iO, iO, tN, tg0, wkXs]
      · repeat (first | (refine nf1_sound rfl ?_; simp [go_sem, ↓iO, iO, tN]; (repeat (refine anI ?_)); try (refine ⟨dcK, ?_⟩)) | ((first | refine itePos (by omega) ?_ | refine iteNeg (by omega) ?_); try simp [go_sem, ↓iO, iO, tN]) | (refine ⟨dcK, ?_⟩))
        refine CallK.fn (hc) [] [] [] (by kernel_rfl) ?_ ?_ ?_ (Or.inl rfl) ?_ <;> simp [go_sem, ↓iO, iO, tN]
        repeat (refine anI ?_)
        try (refine ⟨dcK, ?_⟩)
        repeat (first | (refine nf1_sound rfl ?_; simp [go_sem, ↓iO, iO, tN, hRk]; (repeat (refine anI ?_)); try (refine ⟨dcK, ?_⟩)) | ((first | refine itePos (by omega) ?_ | refine iteNeg (by omega) ?_); try simp [go_sem, ↓iO, iO, tN, hRk]) | (refine ⟨dcK, ?_⟩))
        first | rw [RetQ_ret] | rw [RetQ_normal]
        refine ⟨[(1000, none)], ?_⟩
        simp [go_sem, ↓iO, iO, tN, tg0, wkXs]
      · repeat (first | (refine nf1_sound rfl ?_; simp [go_sem, ↓iO, iO, tN]; (repeat (refine anI ?_)); try (refine ⟨dcK, ?_⟩)) | ((first | refine itePos (by omega) ?_ | refine iteNeg (by omega) ?_); try simp [go_sem, ↓iO, iO, tN]) | (refine ⟨dcK, ?_⟩))
        refine CallK.fn (hc) [] [] [] (by kernel_rfl) ?_ ?_ ?_ (Or.inl rfl) ?_ <;> simp [go_sem, ↓iO, iO, tN]
        repeat (refine anI ?_)
        try (refine ⟨dcK, ?_⟩)
        repeat (first | (refine nf1_sound rfl ?_; simp [go_sem, ↓iO, iO, tN, hRk]; (repeat (refine anI ?_)); try (refine ⟨dcK, ?_⟩)) | ((first | refine itePos (by omega) ?_ | refine iteNeg (by omega) ?_); try simp [go_sem, ↓iO, iO, tN, hRk]) | (refine ⟨dcK, ?_⟩))
        first | rw [RetQ_ret] | rw [RetQ_normal]
        refine ⟨[(1000, none)], ?_⟩
        simp [go_sem, ↓iO, iO, tN, tg0, wkXs]
      · repeat (first | (refine nf1_sound rfl ?_; simp [go_sem, ↓iO, iO, tN]; (repeat (refine anI ?_)); try (refine ⟨dcK, ?_⟩)) | ((first | refine itePos (by omega) ?_ | refine iteNeg (by omega) ?_); try simp [go_sem, ↓iO, iO, tN]) | (refine ⟨dcK, ?_⟩))
        refine CallK.fn (hc) [] [] [] (by kernel_rfl) ?_ ?_ ?_ (Or.inl rfl) ?_ <;> simp [go_sem, ↓iO, iO, tN]
        repeat (refine anI ?_)
        try (refine ⟨dcK, ?_⟩)
        repeat (first | (refine nf1_sound rfl ?_; simp [go_sem, ↓iO, iO, tN, hRk]; (repeat (refine anI ?_)); try (refine ⟨dcK, ?_⟩)) | ((first | refine itePos (by omega) ?_ | refine iteNeg (by omega) ?_); try simp [go_sem, ↓iO, iO, tN, hRk]) | (refine ⟨dcK, ?_⟩))
        first | rw [RetQ_ret] | rw [RetQ_normal]
        refine ⟨[(1000, none)], ?_⟩
        simp [go_sem, ↓iO, iO, tN, tg0, wkXs]
      · repeat (first | (refine nf1_sound rfl ?_; simp [go_sem, ↓iO, iO, tN]; (repeat (refine anI ?_)); try (refine ⟨dcK, ?_⟩)) | ((first | refine itePos (by omega) ?_ | refine iteNeg (by omega) ?_); try simp [go_sem, ↓iO, iO, tN]) | (refine ⟨dcK, ?_⟩))
        refine CallK.fn (hc) [] [] [] (by kernel_rfl) ?_ ?_ ?_ (Or.inl rfl) ?_ <;> simp [go_sem, ↓iO, iO, tN]
        repeat (refine anI ?_)
        try (refine ⟨dcK, ?_⟩)
        repeat (first | (refine nf1_sound rfl ?_; simp [go_sem, ↓iO, iO, tN, hRk]; (repeat (refine anI ?_)); try (refine ⟨dcK, ?_⟩)) | ((first | refine itePos (by omega) ?_ | refine iteNeg (by omega) ?_); try simp [go_sem, ↓iO, iO, tN, hRk]) | (refine ⟨dcK, ?_⟩))
        first | rw [RetQ_ret] | rw [RetQ_normal]
        refine ⟨[(1000, none)], ?_⟩
        simp [go_sem, ↓iO, iO, tN, tg0, wkXs]
      · repeat (first | (refine nf1_sound rfl ?_; simp [go_sem, ↓iO, iO, tN]; (repeat (refine anI ?_)); try (refine ⟨dcK, ?_⟩)) | ((first | refine itePos (by omega) ?_ | refine iteNeg (by omega) ?_); try simp [go_sem, ↓iO, iO, tN]) | (refine ⟨dcK, ?_⟩))
        refine CallK.fn (hc) [] [] [] (by kernel_rfl) ?_ ?_ ?_ (Or.inl rfl) ?_ <;> simp [go_sem, ↓iO, iO, tN]
        repeat (refine anI ?_)
        try (refine ⟨dcK, ?_⟩)
        repeat (first | (refine nf1_sound rfl ?_; simp [go_sem, ↓iO, iO, tN, hRk]; (repeat (refine anI ?_)); try (refine ⟨dcK, ?_⟩)) | ((first | refine itePos (by omega) ?_ | refine iteNeg (by omega) ?_); try simp [go_sem, ↓iO, iO, tN, hRk]) | (refine ⟨dcK, ?_⟩))
        first | rw [RetQ_ret] | rw [RetQ_normal]
        refine ⟨[(1000, none)], ?_⟩
        simp [go_sem, ↓iO, iO, tN, tg0, wkXs]
  · obtain rfl : k = 6 := by omega
    by_cases hn : 0 ≤ V 5 ∧ V 5 ≤ 16
    · obtain ⟨n, hnn⟩ : ∃ n : Nat, V 5 = (n : Int) := ⟨(V 5).toNat, by omega⟩
      have hn16 : n ≤ 16 := by omega
      have hnt : (V 5).toNat = n := by omega
      rw [hnt] at hr
      have hwl := wrV_len n (fun i => V (6 + i))
      have hwa := wrV_all n (fun i => V (6 + i))
      have hw0 : wrV n (fun i => V (6 + i)) 0 = List.replicate n 0 := rfl
      have hws : ∀ i, (wrV n (fun i => V (6 + i)) i).set i (V (6 + i)) = wrV n (fun i => V (6 + i)) (i + 1) := fun _ => rfl
      obtain ⟨W, hW⟩ : ∃ W : Nat → List Int, ∀ i, wrV n (fun i => V (6 + i)) i = W i := ⟨_, fun _ => rfl⟩
      simp only [hW] at hwl hwa hw0 hws
      clear hW
      repeat (first | (refine nf1_sound rfl ?_; simp [go_sem, ↓iO, iO, tN, hnn]; (repeat (refine anI ?_)); try (refine ⟨dcK, ?_⟩)) | ((first | refine itePos (by omega) ?_ | refine iteNeg (by omega) ?_); try simp [go_sem, ↓iO, iO, tN, hnn]) | (refine ⟨dcK, ?_⟩))
      refine nf1_sound' _ _ _ ?_; simp only [nf1]
      refine CW.loop (ι := Nat) (fun i => ⟨[(0, .t (encUs bs)), (2, .pt 502 [] 0), (3, .t (.lit (.bool false))), (4, .pt 504 [] 0), (5, .t (.int (A (6 + i)))), (7, .t (.int 0)), (50, .t (.int n)), (51, .t (.int i))],
        [(502, .box 38 (.t (.agg [.int 0, .int 0, .int 0, .int 0, .int 0, .nil]))), (504, .box 38 (.ag [.t (.int (V 0)), .t (.int (V 1)), .t (.int (V 2)), .t (.int (V 3)), .t (.int (V 4)), .own 546])), (546, blkI (W i))]⟩)
        (fun i => i ≤ n ∧ ∀ j, j < i → R (6 + j) = 0) (fun i => n - i) 0 [(502, some 502), (504, some 504), (546, some 146)] ⟨by omega, by intros; omega⟩ ?_ ?_
      · simp [go_sem, ↓iO, iO, tN, hw0]
      rintro i ⟨hin, hok2⟩
      have hwli := hwl i
      by_cases hi2 : i < n
      · have hc := hi (6 + i)
        by_cases hRi : R (6 + i) = 0
        · have e := hws i
          have e6 : A (6 + i + 1) = A (6 + (i + 1)) := rfl
          obtain ⟨y, hy⟩ := has_get (show i < (W i).length by omega)
          repeat (first | (refine nf1_sound rfl ?_; simp [go_sem, ↓iO, iO, tN]; (repeat (refine anI ?_)); try (refine ⟨dcK, ?_⟩)) | ((first | refine itePos (by omega) ?_ | refine iteNeg (by omega) ?_); try simp [go_sem, ↓iO, iO, tN]) | (refine ⟨dcK, ?_⟩))
          refine CallK.fn (hc) [] [] [] (by kernel_rfl) ?_ ?_ ?_ (Or.inl rfl) ?_ <;> simp [go_sem, ↓iO, iO, tN, hy]
          repeat (refine anI ?_)
          try (refine ⟨dcK, ?_⟩)
          repeat (first | (refine nf1_sound rfl ?_; simp [go_sem, ↓iO, iO, tN, hRi, hy]; (repeat (refine anI ?_)); try (refine ⟨dcK, ?_⟩)) | ((first | refine itePos (by omega) ?_ | refine iteNeg (by omega) ?_); try simp [go_sem, ↓iO, iO, tN, hRi, hy]) | (refine ⟨dcK, ?_⟩))
          rw [RoundQ_normal]; refine ⟨i + 1, [(502, some 502), (504, some 504), (546, some 546)], ?_, ?_, ?_⟩
          · refine ⟨by omega, fun j h => ?_⟩
            by_cases e : j = i
            · rw [e]; exact hRi
            · exact hok2 j (by omega)
          · omega
          simp [go_sem, ↓iO, iO, tN, ← e, e6]
        · rw [if_neg (fun h => hRi (h.2.2 i (List.mem_range.2 hi2)))] at hr
          obtain ⟨rfl, rfl⟩ := Prod.mk.inj hr
          obtain ⟨y, hy⟩ := has_get (show i < (W i).length by omega)
          repeat (first | (refine nf1_sound rfl ?_; simp [go_sem, ↓iO, iO, tN]; (repeat (refine anI ?_)); try (refine ⟨dcK, ?_⟩)) | ((first | refine itePos (by omega) ?_ | refine iteNeg (by omega) ?_); try simp [go_sem, ↓iO, iO, tN]) | (refine ⟨dcK, ?_⟩))
          refine CallK.fn (hc) [] [] [] (by kernel_rfl) ?_ ?_ ?_ (Or.inl rfl) ?_ <;> simp [go_sem, ↓iO, iO, tN, hy]
          repeat (refine anI ?_)
          try (refine ⟨dcK, ?_⟩)
          repeat (first | (refine nf1_sound rfl ?_; simp [go_sem, ↓iO, iO, tN, hRi, hy]; (repeat (refine anI ?_)); try (refine ⟨dcK, ?_⟩)) | ((first | refine itePos (by omega) ?_ | refine iteNeg (by omega) ?_); try simp [go_sem, ↓iO, iO, tN, hRi, hy]) | (refine ⟨dcK, ?_⟩))
          first | rw [RetQ_ret] | rw [RetQ_normal]
          refine ⟨[(1000, none)], ?_⟩
          simp [go_sem, ↓iO, iO, tN, tg0, wkXs]
      · obtain rfl : i = n := by omega
        rw [if_pos ⟨fun j hj => hok j (List.mem_range.1 hj), hn, fun j hj => hok2 j (List.mem_range.1 hj)⟩] at hr
        obtain ⟨rfl, rfl⟩ := Prod.mk.inj hr
        rw [← hwa]
        obtain ⟨q, hq⟩ : ∃ q, TgOk ⟨V 0, V 1, V 2, V 3, V 4, W i⟩ = q := ⟨_, rfl⟩
        by_cases hA : A (6 + i) = bs.length
        · by_cases hT : TgOk ⟨V 0, V 1, V 2, V 3, V 4, W i⟩
          · have cv := valid_fn ⟨V 0, V 1, V 2, V 3, V 4, W i⟩ (by dsimp only; omega) true (decide_eq_true hT)
            rw [decide_eq_true ⟨hA, hT⟩]
            repeat (first | (refine nf1_sound rfl ?_; simp [go_sem, ↓iO, iO, tN, hA]; (repeat (refine anI ?_)); try (refine ⟨dcK, ?_⟩)) | ((first | refine itePos (by omega) ?_ | refine iteNeg (by omega) ?_); try simp [go_sem, ↓iO, iO, tN, hA]) | (refine ⟨dcK, ?_⟩))
            refine CallK.fn (cv) [] [546] [] (by kernel_rfl) ?_ ?_ ?_ (Or.inr ⟨?_, ?_⟩) ?_ <;> simp [go_sem, ↓iO, iO, tN, hA]
            repeat (refine anI ?_)
            try (refine ⟨dcK, ?_⟩)
            repeat (first | (refine nf1_sound rfl ?_; simp [go_sem, ↓iO, iO, tN]; (repeat (refine anI ?_)); try (refine ⟨dcK, ?_⟩)) | ((first | refine itePos (by omega) ?_ | refine iteNeg (by omega) ?_); try simp [go_sem, ↓iO, iO, tN]) | (refine ⟨dcK, ?_⟩))
            first | rw [RetQ_ret] | rw [RetQ_normal]
            refine ⟨[(1000, some 546)], ?_⟩
            simp [go_sem, ↓iO, iO, tN]
          · have cv := valid_fn ⟨V 0, V 1, V 2, V 3, V 4, W i⟩ (by dsimp only; omega) false (decide_eq_false hT)
            rw [decide_eq_false (fun h => hT h.2)]
            repeat (first | (refine nf1_sound rfl ?_; simp [go_sem, ↓iO, iO, tN, hA]; (repeat (refine anI ?_)); try (refine ⟨dcK, ?_⟩)) | ((first | refine itePos (by omega) ?_ | refine iteNeg (by omega) ?_); try simp [go_sem, ↓iO, iO, tN, hA]) | (refine ⟨dcK, ?_⟩))
            refine CallK.fn (cv) [] [546] [] (by kernel_rfl) ?_ ?_ ?_ (Or.inr ⟨?_, ?_⟩) ?_ <;> simp [go_sem, ↓iO, iO, tN, hA]
            repeat (refine anI ?_)
            try (refine ⟨dcK, ?_⟩)
            repeat (first | (refine nf1_sound rfl ?_; simp [go_sem, ↓iO, iO, tN]; (repeat (refine anI ?_)); try (refine ⟨dcK, ?_⟩)) | ((first | refine itePos (by omega) ?_ | refine iteNeg (by omega) ?_); try simp [go_sem, ↓iO, iO, tN]) | (refine ⟨dcK, ?_⟩))
            first | rw [RetQ_ret] | rw [RetQ_normal]
            refine ⟨[(1000, some 546)], ?_⟩
            simp [go_sem, ↓iO, iO, tN]
        · rw [decide_eq_false (fun h => hA h.1)]
          repeat (first | (refine nf1_sound rfl ?_; simp [go_sem, ↓iO, iO, tN, hA]; (repeat (refine anI ?_)); try (refine ⟨dcK, ?_⟩)) | ((first | refine itePos (by omega) ?_ | refine iteNeg (by omega) ?_); try simp [go_sem, ↓iO, iO, tN, hA]) | (refine ⟨dcK, ?_⟩))
          first | rw [RetQ_ret] | rw [RetQ_normal]
          refine ⟨[(1000, some 546)], ?_⟩
          simp [go_sem, ↓iO, iO, tN]
    · rw [if_neg (fun h => hn h.2.1)] at hr
      obtain ⟨rfl, rfl⟩ := Prod.mk.inj hr
      by_cases h0 : V 5 < 0
      · repeat (first | (refine nf1_sound rfl ?_; simp [go_sem, ↓iO, iO, tN]; (repeat (refine anI ?_)); try (refine ⟨dcK, ?_⟩)) | ((first | refine itePos (by omega) ?_ | refine iteNeg (by omega) ?_); try simp [go_sem, ↓iO, iO, tN]) | (refine ⟨dcK, ?_⟩))
        first | rw [RetQ_ret] | rw [RetQ_normal]
        refine ⟨[(1000, none)], ?_⟩
        simp [go_sem, ↓iO, iO, tN, tg0, wkXs]
      · have h1 : 16 < V 5 := by omega
        repeat (first | (refine nf1_sound rfl ?_; simp [go_sem, ↓iO, iO, tN]; (repeat (refine anI ?_)); try (refine ⟨dcK, ?_⟩)) | ((first | refine itePos (by omega) ?_ | refine iteNeg (by omega) ?_); try simp [go_sem, ↓iO, iO, tN]) | (refine ⟨dcK, ?_⟩))
        first | rw [RetQ_ret] | rw [RetQ_normal]
        refine ⟨[(1000, none)], ?_⟩
        simp [go_sem, ↓iO, iO, tN, tg0, wkXs]
end Go.Proofs.Ytopmmodcaoaaeaa
