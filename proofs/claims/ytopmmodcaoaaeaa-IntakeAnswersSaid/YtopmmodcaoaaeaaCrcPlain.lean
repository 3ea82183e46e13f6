/- The checksum CRC-32 as plain arithmetic: its table, one byte's step, that a step loses nothing. No condition. -/
namespace Go.Proofs.Ytopmmodcaoaaeaa.Crc
set_option linter.unusedVariables false
set_option linter.unusedSimpArgs false
/-- One bit. -/
def bit (x : Nat) : Nat := (x / 2) ^^^ (3988292384 * (x &&& 1) % 4294967296)
/-- n bits. -/
def bitsN : Nat → Nat → Nat
  | 0, x => x
  | n + 1, x => bit (bitsN n x)
def tab (i : Nat) : Nat := bitsN 8 i
def upd (x c : Nat) : Nat := tab ((x % 256) ^^^ c) ^^^ (x / 256)
def run (bs : List Nat) : Nat := bs.foldl upd 4294967295
def sum (bs : List Nat) : Nat := 4294967295 - run bs

theorem bit_lt {x : Nat} (h : x < 4294967296) : bit x < 4294967296 := by
  unfold bit
  exact Nat.xor_lt_two_pow (n := 32) (by omega) (by omega)
theorem bitsN_lt {x : Nat} (h : x < 4294967296) : ∀ n, bitsN n x < 4294967296
  | 0 => h
  | n + 1 => bit_lt (bitsN_lt h n)
theorem tab_lt {i : Nat} (h : i < 256) : tab i < 4294967296 := bitsN_lt (by omega) 8
theorem idx_lt {x c : Nat} (h : c < 256) : (x % 256) ^^^ c < 256 := Nat.xor_lt_two_pow (n := 8) (by omega) (by omega)
theorem upd_lt {x c : Nat} (hx : x < 4294967296) (h : c < 256) : upd x c < 4294967296 := by
  unfold upd
  exact Nat.xor_lt_two_pow (n := 32) (tab_lt (idx_lt h)) (by omega)
theorem fold_lt : ∀ (bs : List Nat) (x : Nat), x < 4294967296 → (∀ c ∈ bs, c < 256) → bs.foldl upd x < 4294967296
  | [], _, h, _ => h
  | c :: bs, x, h, hb => fold_lt bs (upd x c) (upd_lt h (hb c (by simp))) (fun d hd => hb d (by simp [hd]))
theorem run_lt {bs : List Nat} (hb : ∀ c ∈ bs, c < 256) : run bs < 4294967296 := fold_lt bs _ (by omega) hb

/-- From a high byte of the table back to its place. -/
def back : List Nat := [
  0, 65, 195, 130, 134, 199, 69, 4, 77, 12, 142, 207, 203, 138, 8, 73,
  154, 219, 89, 24, 28, 93, 223, 158, 215, 150, 20, 85, 81, 16, 146, 211,
  117, 52, 182, 247, 243, 178, 48, 113, 56, 121, 251, 186, 190, 255, 125, 60,
  239, 174, 44, 109, 105, 40, 170, 235, 162, 227, 97, 32, 36, 101, 231, 166,
  234, 171, 41, 104, 108, 45, 175, 238, 167, 230, 100, 37, 33, 96, 226, 163,
  112, 49, 179, 242, 246, 183, 53, 116, 61, 124, 254, 191, 187, 250, 120, 57,
  159, 222, 92, 29, 25, 88, 218, 155, 210, 147, 17, 80, 84, 21, 151, 214,
  5, 68, 198, 135, 131, 194, 64, 1, 72, 9, 139, 202, 206, 143, 13, 76,
  149, 212, 86, 23, 19, 82, 208, 145, 216, 153, 27, 90, 94, 31, 157, 220,
  15, 78, 204, 141, 137, 200, 74, 11, 66, 3, 129, 192, 196, 133, 7, 70,
  224, 161, 35, 98, 102, 39, 165, 228, 173, 236, 110, 47, 43, 106, 232, 169,
  122, 59, 185, 248, 252, 189, 63, 126, 55, 118, 244, 181, 177, 240, 114, 51,
  127, 62, 188, 253, 249, 184, 58, 123, 50, 115, 241, 176, 180, 245, 119, 54,
  229, 164, 38, 103, 99, 34, 160, 225, 168, 233, 107, 42, 46, 111, 237, 172,
  10, 75, 201, 136, 140, 205, 79, 14, 71, 6, 132, 197, 193, 128, 2, 67,
  144, 209, 83, 18, 22, 87, 213, 148, 221, 156, 30, 95, 91, 26, 152, 217]
theorem back_tab : ∀ i, i < 256 → back[tab i / 16777216]? = some i := by decide +kernel
/-- The table's high bytes are all different. -/
theorem tab_top : ∀ i, i < 256 → ∀ j, j < 256 → tab i / 16777216 = tab j / 16777216 → i = j := by
  intro i hi j hj h
  have h1 := back_tab i hi
  rw [h, back_tab j hj] at h1
  exact (Option.some.inj h1).symm

theorem xor_cancel_right {a b c : Nat} (h : a ^^^ c = b ^^^ c) : a = b := by
  have := congrArg (· ^^^ c) h
  simpa [Nat.xor_assoc] using this
theorem xor_cancel_left {a b c : Nat} (h : c ^^^ a = c ^^^ b) : a = b := by
  rw [Nat.xor_comm c a, Nat.xor_comm c b] at h; exact xor_cancel_right h
theorem xor_div (a b k : Nat) : (a ^^^ b) / 2 ^ k = (a / 2 ^ k) ^^^ (b / 2 ^ k) := by
  simp only [← Nat.shiftRight_eq_div_pow]
  exact Nat.shiftRight_xor_distrib ..

/-- A step with one byte loses nothing of the state. -/
theorem upd_inj {x y c d : Nat} (hx : x < 4294967296) (hy : y < 4294967296) (hc : c < 256) (hd : d < 256) (h : upd x c = upd y d) :
    (x % 256) ^^^ c = (y % 256) ^^^ d ∧ x / 256 = y / 256 := by
  have h1 := congrArg (· / 2 ^ 24) h
  simp only [upd, xor_div] at h1
  rw [Nat.div_div_eq_div_mul, Nat.div_div_eq_div_mul, Nat.div_eq_of_lt (show x < 256 * 2 ^ 24 by omega), Nat.div_eq_of_lt (show y < 256 * 2 ^ 24 by omega)] at h1
  have h2 := tab_top _ (idx_lt hc) _ (idx_lt hd) (by simpa using h1)
  refine ⟨h2, ?_⟩
  unfold upd at h
  rw [h2] at h
  exact xor_cancel_left h
theorem upd_inj_state {x y c : Nat} (hx : x < 4294967296) (hy : y < 4294967296) (hc : c < 256) (h : upd x c = upd y c) : x = y := by
  obtain ⟨h1, h2⟩ := upd_inj hx hy hc hc h
  have := xor_cancel_right h1
  omega
theorem upd_inj_byte {x c d : Nat} (hx : x < 4294967296) (hc : c < 256) (hd : d < 256) (h : upd x c = upd x d) : c = d :=
  xor_cancel_left (upd_inj hx hx hc hd h).1
theorem fold_inj : ∀ (bs : List Nat) (x y : Nat), x < 4294967296 → y < 4294967296 → (∀ c ∈ bs, c < 256) → bs.foldl upd x = bs.foldl upd y → x = y
  | [], _, _, _, _, _, h => h
  | c :: bs, x, y, hx, hy, hb, h =>
    have hc := hb c (by simp)
    upd_inj_state hx hy hc (fold_inj bs _ _ (upd_lt hx hc) (upd_lt hy hc) (fun d hd => hb d (by simp [hd])) h)

/-- ONE BYTE CHANGED: ANOTHER SUM. -/
theorem sum_set_ne {bs : List Nat} {i d : Nat} (hb : ∀ c ∈ bs, c < 256) (hi : i < bs.length) (hd : d < 256) (hne : d ≠ bs[i]) : sum (bs.set i d) ≠ sum bs := by
  intro h
  have hs : ∀ c ∈ bs.set i d, c < 256 := by
    intro c hc
    rcases List.mem_or_eq_of_mem_set hc with h1 | h1
    · exact hb c h1
    · omega
  have hr : run (bs.set i d) = run bs := by
    have h1 := run_lt hb
    have h2 := run_lt hs
    unfold sum at h
    omega
  have e1 : bs = bs.take i ++ bs[i] :: bs.drop (i + 1) := by simp
  have e2 : bs.set i d = bs.take i ++ d :: bs.drop (i + 1) := by
    rw [List.set_eq_take_append_cons_drop, if_pos hi]
  have hx : (bs.take i).foldl upd 4294967295 < 4294967296 := fold_lt _ _ (by omega) (fun c hc => hb c (List.mem_of_mem_take hc))
  have hbi : bs[i] < 256 := hb _ (List.getElem_mem hi)
  unfold run at hr
  rw [e2] at hr
  conv at hr => rhs; rw [e1]
  rw [List.foldl_append, List.foldl_append, List.foldl_cons, List.foldl_cons] at hr
  have h3 := fold_inj _ _ _ (upd_lt hx hd) (upd_lt hx hbi) (fun c hc => hb c (List.mem_of_mem_drop hc)) hr
  exact hne (upd_inj_byte hx hd hbi h3)
end Go.Proofs.Ytopmmodcaoaaeaa.Crc
