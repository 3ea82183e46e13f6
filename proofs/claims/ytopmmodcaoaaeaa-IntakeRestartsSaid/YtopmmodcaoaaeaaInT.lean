/- In the law's streams no frame is read as one of station 1 and of an Epoch of 200 or more. No condition. The law IntakeRestarts: a station that restarts with a greater Epoch is heard from its Seq 0 on. No condition. -/
import Derived.Test.YtopmmodcaoaaeaaInK
import Derived.Test.YtopmmodcaoaaeaaInX
import Derived.Test.YtopmmodcaoaaeaaKArg
namespace Go.Proofs.Ytopmmodcaoaaeaa
open Go.RowKit Sy
open Go.IntWalk renaming iteOmega → iO, toNatUp → tN
set_option linter.unusedVariables false
set_option linter.unusedSimpArgs false
theorem body_app (a b : List Nat) : Wire.body (a ++ b) = Wire.body a ++ Wire.body b := by simp [Wire.body]
theorem putZ_small {n : Int} (h : 0 ≤ n ∧ n < 64) : putZ n = [n.toNat * 2] := by
  unfold putZ Wire.fold
  rw [if_pos h.1]
  unfold Wire.put
  rw [dif_pos (by omega)]
/-- No byte 3. -/
def no3 (n : Int) : Prop := ∀ c ∈ Wire.body (putZ n), c ≠ 3
theorem no3_small {n : Int} (h : 0 ≤ n ∧ n < 64) : no3 n := by
  intro c hc
  rw [putZ_small h] at hc
  have e : Wire.body [n.toNat * 2] = Wire.esc (n.toNat * 2) := by simp [Wire.body]
  rw [e] at hc
  by_cases hs : Wire.spec (n.toNat * 2) = true
  · rw [Wire.esc_yes hs] at hc
    rcases Wire.spec_iff.1 hs with g | g | g
    · rw [g] at hc; simp at hc; omega
    · rw [g] at hc; simp at hc; omega
    · omega
  · rw [Wire.esc_no (by simpa using hs)] at hc
    simp at hc
    omega
theorem put_end {u : Nat} (h : u < 128) : Wire.put u = [u] := by unfold Wire.put; rw [dif_pos h]
theorem put_more {u : Nat} (h : ¬ u < 128) : Wire.put u = (u % 128 + 128) :: Wire.put (u / 128) := by rw [Wire.put]; rw [dif_neg h]
theorem no3_of {n : Int} {l : List Nat} (h : putZ n = l) (hl : (Wire.body l).contains 3 = false) : no3 n := by
  intro c hc e
  subst e
  rw [h] at hc
  rw [List.contains_iff_mem.2 hc] at hl
  cases hl
theorem no3_125 : no3 125 := no3_of (l := [250, 1]) (by show Wire.put 250 = _; rw [put_more (by omega), put_end (by omega)]) (by decide)
theorem no3_126 : no3 126 := no3_of (l := [252, 1]) (by show Wire.put 252 = _; rw [put_more (by omega), put_end (by omega)]) (by decide)
theorem no3_1000 : no3 1000 := no3_of (l := [208, 15]) (by show Wire.put 2000 = _; rw [put_more (by omega), put_end (by omega)]) (by decide)
theorem no3_m1 : no3 (-1) := no3_of (l := [1]) (by show Wire.put 1 = _; rw [put_end (by omega)]) (by decide)
theorem no3_m63 : no3 (-63) := no3_of (l := [125]) (by show Wire.put 125 = _; rw [put_end (by omega)]) (by decide)
theorem no3_m62 : no3 (-62) := no3_of (l := [123]) (by show Wire.put 123 = _; rw [put_end (by omega)]) (by decide)
theorem no3_time : no3 1099511627776 := no3_of (l := [128, 128, 128, 128, 128, 64]) (by show Wire.put 2199023255552 = _; iterate 5 rw [put_more (by omega)]
                                                                                        rw [put_end (by omega)]) (by decide)
theorem no3_big : no3 9007199254740992 := no3_of (l := [128, 128, 128, 128, 128, 128, 128, 32]) (by show Wire.put 18014398509481984 = _; iterate 7 rw [put_more (by omega)]
                                                                                                    rw [put_end (by omega)]) (by decide)
theorem no3_mbig : no3 (-9007199254740992) := no3_of (l := [255, 255, 255, 255, 255, 255, 255, 31]) (by show Wire.put 18014398509481983 = _; iterate 7 rw [put_more (by omega)]
                                                                                                        rw [put_end (by omega)]) (by decide)
theorem nums3 {t : Tg} (hs : 0 ≤ t.st ∧ t.st < 3) (hd : DrTg t) : ∀ n ∈ numsL t, no3 n := by
  have h1 := hd.ep
  have h2 := hd.sq
  have h3 := hd.tm
  have h4 := hd.kd
  have h5 := hd.ln
  intro n hn
  unfold numsL at hn
  simp only [List.mem_append, List.mem_cons, List.not_mem_nil, or_false] at hn
  simp only [List.mem_cons, List.not_mem_nil, or_false] at h3
  rcases hn with (rfl | rfl | rfl | rfl | rfl | rfl) | hn
  · exact no3_small (by omega)
  · exact no3_small (by omega)
  · exact no3_small (by omega)
  · rcases h3 with h | h | h | h | h
    · rw [h]; exact no3_small (by omega)
    · rw [h]; exact no3_125
    · rw [h]; exact no3_small (by omega)
    · rw [h]; exact no3_small (by omega)
    · rw [h]; exact no3_time
  · exact no3_small (by omega)
  · exact no3_small (by omega)
  · have := hd.vs n hn
    simp only [List.mem_cons, List.not_mem_nil, or_false] at this
    rcases this with h | h | h | h | h | h | h | h | h | h
    · rw [h]; exact no3_small (by omega)
    · rw [h]; exact no3_m1
    · rw [h]; exact no3_small (by omega)
    · rw [h]; exact no3_small (by omega)
    · rw [h]; exact no3_m63
    · rw [h]; exact no3_m62
    · rw [h]; exact no3_big
    · rw [h]; exact no3_mbig
    · rw [h]; exact no3_126
    · rw [h]; exact no3_1000
/-- A frame as it is drawn: its inner bytes. -/
structure FrI (b : List Nat) : Prop where
  pl : ∀ c ∈ b, c ≠ 126 ∧ c ≠ 124
  hd : ∃ a0 a1 a2 m, b = a0 :: a1 :: a2 :: m ∧ a0 ≠ 3 ∧ a1 ≠ 3 ∧ a2 ≠ 3
  late : ∀ i, b[i]? = some 3 → b.length ≤ i + 8
theorem frI {t : Tg} (hs : 0 ≤ t.st ∧ t.st < 3) (hd : DrTg t) : FrI (Wire.body (insideV t)) := by
  have h1 := hd.ep
  have h2 := hd.sq
  have e0 : ∀ n : Int, 0 ≤ n ∧ n < 6 → Wire.body (putZ n) = [n.toNat * 2] := fun n hn => by
    rw [putZ_small (by omega)]
    have : Wire.body [n.toNat * 2] = Wire.esc (n.toNat * 2) := by simp [Wire.body]
    rw [this, Wire.esc_no]
    cases h : Wire.spec (n.toNat * 2) with
    | false => rfl
    | true => have := Wire.spec_iff.1 h; omega
  have e1 : Wire.body (insideV t) = Wire.body (putL (numsL t)) ++ Wire.body [Crc.sum (putL (numsL t)) % 256, Crc.sum (putL (numsL t)) / 256 % 256, Crc.sum (putL (numsL t)) / 65536 % 256, Crc.sum (putL (numsL t)) / 16777216 % 256] := by
    unfold insideV sealV
    rw [body_app]
  refine ⟨fun c hc => Wire.body_inner hc, ?_, fun i hi => ?_⟩
  · have e2 : putL (numsL t) = putZ t.st ++ (putZ t.ep ++ (putZ t.sq ++ putL ([t.tm, t.kd, (t.vs.length : Int)] ++ t.vs))) := by simp [putL, numsL]
    rw [e1, e2, body_app, body_app, body_app, e0 _ (by omega), e0 _ (by omega), e0 _ (by omega)]
    exact ⟨_, _, _, _, rfl, by omega, by omega, by omega⟩
  · rw [e1] at hi ⊢
    have hl := (Wire.body_length [Crc.sum (putL (numsL t)) % 256, Crc.sum (putL (numsL t)) / 256 % 256, Crc.sum (putL (numsL t)) / 65536 % 256, Crc.sum (putL (numsL t)) / 16777216 % 256]).2
    rw [List.length_append]
    simp only [List.length_cons, List.length_nil] at hl
    by_cases h : i < (Wire.body (putL (numsL t))).length
    · rw [List.getElem?_append_left h] at hi
      have hm := List.mem_of_getElem? hi
      unfold Wire.body at hm
      obtain ⟨c, hc, hc2⟩ := List.mem_flatMap.1 hm
      unfold putL at hc
      obtain ⟨n, hn, hn2⟩ := List.mem_flatMap.1 hc
      exact absurd rfl (nums3 hs hd n hn 3 (List.mem_flatMap.2 ⟨c, hn2, hc2⟩))
    · omega
/-- Not of an Epoch that is so late. -/
def NB (f : List Nat) : Prop := f[3]? = some 3 → f.length < 13
def OKs (s : Option (List Nat)) : Prop := ∀ p, s = some p → 1 ≤ p.length ∧ p[3]? ≠ some 3
def ChOk (f : List Nat) : Prop := ∀ s, OKs s → (∀ F ∈ scanO s f, NB F) ∧ OKs (scanS s f) ∧ (scanO s f).length ≤ 1
theorem OKs.none : OKs none := fun p e => by cases e
theorem OKs.some {p : List Nat} (h1 : 1 ≤ p.length) (h2 : p[3]? ≠ some 3) : OKs (some p) := fun q e => by cases e; exact ⟨h1, h2⟩
/-- What begins with 126 does not look back. -/
theorem ch_start {r : List Nat} (h : (∀ F ∈ scanO (some [126]) r, NB F) ∧ OKs (scanS (some [126]) r) ∧ (scanO (some [126]) r).length ≤ 1) : ChOk (126 :: r) := fun s _ => by
  rw [scanO_cons, scanS_cons, if_pos rfl, if_pos rfl]
  exact h
theorem scan_end (p : List Nat) : scanO (some p) [124] = [p ++ [124]] ∧ scanS (some p) [124] = none := by
  rw [scanO_cons, scanS_cons, if_neg (by omega), if_pos rfl, if_neg (by omega), if_pos rfl]
  exact ⟨rfl, rfl⟩
theorem one_nb {F : List Nat} (h : NB F) : (∀ G ∈ [F], NB G) ∧ OKs none ∧ [F].length ≤ 1 := ⟨fun G hG => by simp at hG; subst hG; exact h, OKs.none, by simp⟩
theorem ch_open {r : List Nat} (hp : ∀ c ∈ r, c ≠ 126 ∧ c ≠ 124) (h3 : r[2]? ≠ some 3) : ChOk (126 :: r) := by
  refine ch_start ?_
  obtain ⟨h1, h2⟩ := scan_plain r [126] hp
  rw [h1, h2]
  exact ⟨by simp, OKs.some (by simp) (by simpa using h3), by simp⟩
theorem ch_whole {r : List Nat} (hp : ∀ c ∈ r, c ≠ 126 ∧ c ≠ 124) (h3 : r[2]? = some 3 → r.length < 11) : ChOk (126 :: (r ++ [124])) := by
  refine ch_start ?_
  obtain ⟨h1, h2⟩ := scan_plain r [126] hp
  rw [(scan_app _ _ _).1, (scan_app _ _ _).2, h1, h2, (scan_end _).1, (scan_end _).2, List.nil_append]
  refine one_nb fun h => ?_
  have hl : ([126] ++ r ++ [124]).length = r.length + 2 := by simp
  rw [hl]
  have e : ([126] ++ r ++ [124])[3]? = (r ++ [124])[2]? := by simp
  rw [e] at h
  by_cases h2 : 2 < r.length
  · rw [List.getElem?_append_left h2] at h
    have := h3 h
    omega
  · omega
theorem ch_again {b1 b2 : List Nat} (hp1 : ∀ c ∈ b1, c ≠ 126 ∧ c ≠ 124) (hp2 : ∀ c ∈ b2, c ≠ 126 ∧ c ≠ 124) (h3 : b2[2]? = some 3 → b2.length < 11) : ChOk (126 :: (b1 ++ 126 :: (b2 ++ [124]))) := by
  refine ch_start ?_
  obtain ⟨h1, h2⟩ := scan_plain b1 [126] hp1
  have h := ch_whole hp2 h3 none OKs.none
  rw [(scan_app _ _ _).1, (scan_app _ _ _).2, h1, h2, List.nil_append, scanO_cons, scanS_cons, if_pos rfl, if_pos rfl]
  rw [scanO_cons, scanS_cons, if_pos rfl, if_pos rfl] at h
  exact h
theorem noise_none {r : List Nat} (h : ∀ c ∈ r, c ≠ 126) : scanO none r = [] ∧ scanS none r = none := by
  induction r with
  | nil => exact ⟨rfl, rfl⟩
  | cons c r ih =>
    have ih := ih (fun x hx => h x (List.mem_cons_of_mem _ hx))
    rw [scanO_cons, scanS_cons, if_neg (h c (List.mem_cons_self ..)), if_neg (h c (List.mem_cons_self ..))]
    split
    · exact ih
    · exact ih
theorem ch_cut {b1 b2 : List Nat} (hp1 : ∀ c ∈ b1, c ≠ 126 ∧ c ≠ 124) (hp2 : ∀ c ∈ b2, c ≠ 126) (h3 : b1[2]? ≠ some 3) : ChOk (126 :: (b1 ++ 124 :: b2)) := by
  refine ch_start ?_
  obtain ⟨h1, h2⟩ := scan_plain b1 [126] hp1
  obtain ⟨n1, n2⟩ := noise_none hp2
  rw [(scan_app _ _ _).1, (scan_app _ _ _).2, h1, h2, List.nil_append, show (124 :: b2) = [124] ++ b2 from rfl, (scan_app [124] _ _).1, (scan_app [124] _ _).2, (scan_end _).1, (scan_end _).2, n1, n2, List.append_nil]
  refine one_nb fun h => ?_
  have e : ([126] ++ b1 ++ [124])[3]? = (b1 ++ [124])[2]? := by simp
  rw [e] at h
  by_cases h2 : 2 < b1.length
  · rw [List.getElem?_append_left h2] at h
    exact absurd h h3
  · simp; omega
/-- A list that goes on. -/
theorem app3 {p q : List Nat} (h1 : 1 ≤ p.length) (h2 : p[3]? ≠ some 3) (h3 : ∀ i, i < 3 → q[i]? ≠ some 3) : (p ++ q)[3]? ≠ some 3 := by
  by_cases h : 3 < p.length
  · rw [List.getElem?_append_left h]; exact h2
  · rw [List.getElem?_append_right (by omega)]
    exact h3 _ (by omega)
theorem ch_join {x : Nat} {b : List Nat} (hx : x ≠ 126 ∧ x ≠ 124) (hx3 : x ≠ 3) (hp : ∀ c ∈ b, c ≠ 126 ∧ c ≠ 124) (h0 : b[0]? ≠ some 3) (h1 : b[1]? ≠ some 3) (hl : 2 ≤ b.length) : ChOk (x :: (b ++ [124])) := fun s hs => by
  cases s with
  | none =>
    obtain ⟨n1, n2⟩ := noise_none (r := x :: (b ++ [124])) (fun c hc => by
      simp only [List.mem_cons, List.mem_append, List.not_mem_nil, or_false] at hc
      rcases hc with rfl | hc | rfl
      · exact hx.1
      · exact (hp c hc).1
      · omega)
    rw [n1, n2]
    exact ⟨by simp, OKs.none, by simp⟩
  | some p =>
    obtain ⟨p1, p2⟩ := hs p rfl
    have hp' : ∀ c ∈ x :: b, c ≠ 126 ∧ c ≠ 124 := fun c hc => by
      rcases List.mem_cons.1 hc with rfl | hc
      · exact hx
      · exact hp c hc
    obtain ⟨s1, s2⟩ := scan_plain (x :: b) p hp'
    rw [show x :: (b ++ [124]) = (x :: b) ++ [124] from rfl, (scan_app _ _ _).1, (scan_app _ _ _).2, s1, s2, (scan_end _).1, (scan_end _).2, List.nil_append]
    refine one_nb fun h => ?_
    rw [List.append_assoc] at h
    refine absurd h (app3 p1 p2 fun i hi => ?_)
    match i, hi with
    | 0, _ => simpa using hx3
    | 1, _ => rw [List.cons_append, List.getElem?_cons_succ, List.getElem?_append_left (by omega)]; exact h0
    | 2, _ => rw [List.cons_append, List.getElem?_cons_succ, List.getElem?_append_left (by omega)]; exact h1
theorem ch_shut {b : List Nat} (hp : ∀ c ∈ b, c ≠ 126) : ChOk (124 :: b) := fun s hs => by
  obtain ⟨n1, n2⟩ := noise_none hp
  cases s with
  | none =>
    obtain ⟨m1, m2⟩ := noise_none (r := 124 :: b) (fun c hc => by
      rcases List.mem_cons.1 hc with rfl | hc
      · omega
      · exact hp c hc)
    rw [m1, m2]
    exact ⟨by simp, OKs.none, by simp⟩
  | some p =>
    obtain ⟨p1, p2⟩ := hs p rfl
    rw [show (124 :: b) = [124] ++ b from rfl, (scan_app [124] _ _).1, (scan_app [124] _ _).2, (scan_end _).1, (scan_end _).2, n1, n2, List.append_nil]
    exact one_nb fun h => absurd h (app3 p1 p2 fun i hi => by
      match i, hi with
      | 0, _ => simp
      | 1, _ => simp
      | 2, _ => simp)
theorem ch_byte {v : Nat} (hv : v ≠ 3) : ChOk [v] := fun s hs => by
  rw [scanO_cons, scanS_cons]
  by_cases h1 : v = 126
  · rw [if_pos h1, if_pos h1]
    exact ⟨by simp [scanO], OKs.some (by simp) (by simp), by simp [scanO]⟩
  · rw [if_neg h1, if_neg h1]
    by_cases h2 : v = 124
    · subst h2
      exact ch_shut (b := []) (by simp) s hs |> fun h => by rw [scanO_cons, scanS_cons, if_neg h1, if_neg h1] at h; exact h
    · rw [if_neg h2, if_neg h2]
      refine ⟨by simp [scanO], ?_, by simp [scanO]⟩
      cases s with
      | none => exact OKs.none
      | some p =>
        obtain ⟨p1, p2⟩ := hs p rfl
        exact OKs.some (by simp) (app3 p1 p2 fun i hi => by
          match i, hi with
          | 0, _ => simpa using hv
          | 1, _ => simp
          | 2, _ => simp)
theorem ch_nil : ChOk [] := fun s hs => ⟨by simp [scanO], hs, by simp [scanO]⟩
theorem ch_last {b : List Nat} (hp : ∀ c ∈ b, c ≠ 126 ∧ c ≠ 124) : ChOk (126 :: (b ++ [126])) := by
  refine ch_start ?_
  obtain ⟨h1, h2⟩ := scan_plain b [126] hp
  rw [(scan_app _ _ _).1, (scan_app _ _ _).2, h1, h2, List.nil_append, scanO_cons, scanS_cons, if_pos rfl, if_pos rfl]
  exact ⟨by simp [scanO], OKs.some (by simp) (by simp), by simp [scanO]⟩
theorem v_cases {v : Nat} (h : v ∈ [0, 124, 125, 126, 200]) : v = 126 ∨ v = 124 ∨ (v ≠ 126 ∧ v ≠ 124 ∧ v ≠ 3) := by
  simp only [List.mem_cons, List.not_mem_nil, or_false] at h
  omega
theorem ch_frame {b : List Nat} (h : FrI b) {f' ins : List Nat} (hc : Chg (126 :: (b ++ [124])) f' ins) : ChOk f' ∧ (ins = [] ∨ ∃ v, ins = [v] ∧ ChOk [v]) := by
  obtain ⟨a0, a1, a2, m, hb, n0, n1, n2⟩ := h.hd
  have hp := h.pl
  have b0 : b[0]? ≠ some 3 := by rw [hb]; simpa using n0
  have b1 : b[1]? ≠ some 3 := by rw [hb]; simpa using n1
  have b2 : b[2]? ≠ some 3 := by rw [hb]; simpa using n2
  have bl : 3 ≤ b.length := by rw [hb]; simp
  have whole : ChOk (126 :: (b ++ [124])) := ch_whole hp (fun e => absurd e b2)
  rcases hc with ⟨p, v, hpl, hv, rfl, rfl⟩ | ⟨k, hk, rfl, rfl⟩ | ⟨v, hv, rfl, rfl⟩ | ⟨rfl, rfl⟩
  · refine ⟨?_, .inl rfl⟩
    cases p with
    | zero =>
      show ChOk (v :: (b ++ [124]))
      rcases v_cases hv with rfl | rfl | ⟨g1, g2, g3⟩
      · exact whole
      · refine ch_shut fun c hc => ?_
        rcases List.mem_append.1 hc with hc | hc
        · exact (hp c hc).1
        · simp at hc; omega
      · exact ch_join ⟨g1, g2⟩ g3 hp b0 b1 (by omega)
    | succ q =>
      show ChOk (126 :: ((b ++ [124]).set q v))
      by_cases hq : q < b.length
      · rw [List.set_append_left _ _ hq]
        have hset : b.set q v = b.take q ++ v :: b.drop (q + 1) := by rw [List.set_eq_take_append_cons_drop, if_pos hq]
        rcases v_cases hv with rfl | rfl | ⟨g1, g2, g3⟩
        · rw [hset, List.append_assoc, List.cons_append]
          refine ch_again (fun c hc => hp c (List.mem_of_mem_take hc)) (fun c hc => hp c (List.mem_of_mem_drop hc)) (fun e => ?_)
          rw [List.getElem?_drop] at e
          have := h.late _ e
          rw [List.length_drop]
          omega
        · rw [hset, List.append_assoc, List.cons_append]
          refine ch_cut (fun c hc => hp c (List.mem_of_mem_take hc)) (fun c hc => ?_) (fun e => ?_)
          · rcases List.mem_append.1 hc with hc | hc
            · exact (hp c (List.mem_of_mem_drop hc)).1
            · simp at hc; omega
          · rw [List.getElem?_take] at e
            split at e
            · exact b2 e
            · cases e
        · refine ch_whole (fun c hc => ?_) (fun e => ?_)
          · rcases List.mem_or_eq_of_mem_set hc with hc | hc
            · exact hp c hc
            · rw [hc]; exact ⟨g1, g2⟩
          · rw [List.getElem?_set] at e
            split at e
            · exact absurd (Option.some.inj e) g3
            · exact absurd e b2
      · obtain rfl : q = b.length := by simp at hpl; omega
        rw [List.set_append_right _ _ (Nat.le_refl _), Nat.sub_self, List.set_cons_zero]
        rcases v_cases hv with rfl | rfl | ⟨g1, g2, g3⟩
        · exact ch_last hp
        · exact whole
        · refine ch_open (fun c hc => ?_) ?_
          · rcases List.mem_append.1 hc with hc | hc
            · exact hp c hc
            · simp at hc; rw [hc]; exact ⟨g1, g2⟩
          · rw [List.getElem?_append_left (by omega)]
            exact b2
  · refine ⟨?_, .inl rfl⟩
    cases k with
    | zero => exact ch_nil
    | succ j =>
      have hj : j ≤ b.length := by simp at hk; omega
      rw [List.take_succ_cons, List.take_append_of_le_length hj]
      refine ch_open (fun c hc => hp c (List.mem_of_mem_take hc)) (fun e => ?_)
      rw [List.getElem?_take] at e
      split at e
      · exact b2 e
      · cases e
  · refine ⟨whole, .inr ⟨v, rfl, ch_byte ?_⟩⟩
    rcases v_cases hv with rfl | rfl | ⟨_, _, g⟩
    · omega
    · omega
    · exact g
  · exact ⟨whole, .inl rfl⟩
theorem ch_two {a b : List Nat} {k l : Nat} {s : Option (List Nat)} (h1 : (∀ F ∈ scanO s a, NB F) ∧ OKs (scanS s a) ∧ (scanO s a).length ≤ k) (h2 : ∀ s, OKs s → (∀ F ∈ scanO s b, NB F) ∧ OKs (scanS s b) ∧ (scanO s b).length ≤ l) :
    (∀ F ∈ scanO s (a ++ b), NB F) ∧ OKs (scanS s (a ++ b)) ∧ (scanO s (a ++ b)).length ≤ k + l := by
  obtain ⟨a1, a2, a3⟩ := h1
  obtain ⟨b1, b2, b3⟩ := h2 _ a2
  rw [(scan_app _ _ _).1, (scan_app _ _ _).2]
  refine ⟨fun F hF => ?_, b2, by rw [List.length_append]; omega⟩
  rcases List.mem_append.1 hF with h | h
  · exact a1 F h
  · exact b1 F h
theorem step_nb {g : List Nat} (hg : StrStep g) (s : Option (List Nat)) (hs : OKs s) : (∀ F ∈ scanO s g, NB F) ∧ OKs (scanS s g) ∧ (scanO s g).length ≤ 3 := by
  obtain ⟨t, f', ins, _, hd, hst, hc, hg⟩ := hg
  obtain ⟨h1, h2⟩ := ch_frame (frI hst hd) hc
  have hi : ∀ s, OKs s → (∀ F ∈ scanO s ins, NB F) ∧ OKs (scanS s ins) ∧ (scanO s ins).length ≤ 1 := by
    rcases h2 with rfl | ⟨v, rfl, h2⟩
    · exact ch_nil
    · exact h2
  rcases hg with rfl | rfl
  · obtain ⟨c1, c2, c3⟩ := ch_two (hi s hs) h1
    exact ⟨c1, c2, by omega⟩
  · exact ch_two (ch_two (hi s hs) h1) h1
theorem Strm.nb {n : Nat} {b : List Nat} (h : Strm n b) : (∀ F ∈ scanO none b, NB F) ∧ OKs (scanS none b) ∧ (scanO none b).length ≤ 3 * n := by
  induction h with
  | nil => exact ⟨by simp [scanO], OKs.none, by simp [scanO]⟩
  | app _ hg ih =>
    obtain ⟨c1, c2, c3⟩ := ch_two ih (step_nb hg)
    exact ⟨c1, c2, by omega⟩
theorem putZ_pos (n : Int) : 1 ≤ (putZ n).length := by
  unfold putZ
  generalize Wire.fold n = u
  by_cases h : u < 128
  · rw [put_end h]; simp
  · rw [put_more h]; simp
/-- What is read of such a frame. -/
theorem late_ep {f : List Nat} {t : Tg} (h8 : ∀ c ∈ f, c < 256) (hd : decV f = (t, 0)) (hn : NB f) (hs : t.st = 1) : t.ep < 200 := by
  obtain ⟨ht, hf⟩ := dec_back h8 hd
  have hep := ht.ep
  by_cases hlt : t.ep < 200
  · exact hlt
  · have e2 : putL (numsL t) = putZ t.st ++ (putZ t.ep ++ (putZ t.sq ++ (putZ t.tm ++ (putZ t.kd ++ (putZ (t.vs.length : Int) ++ putL t.vs))))) := by simp [putL, numsL]
    obtain ⟨u, hu⟩ : ∃ u : Nat, t.ep.toNat * 2 = u := ⟨_, rfl⟩
    have e3 : putZ t.ep = [u % 128 + 128, 3] := by
      unfold putZ Wire.fold
      rw [if_pos (by omega), hu, put_more (by omega), put_end (by omega), show u / 128 = 3 by omega]
    have e4 : putZ t.st = [2] := by rw [hs]; show Wire.put 2 = _; exact put_end (by omega)
    have e5 : Wire.body [2] = [2] := by decide
    have e6 : Wire.body [u % 128 + 128, 3] = [u % 128 + 128, 3] := by
      have : Wire.body [u % 128 + 128, 3] = Wire.esc (u % 128 + 128) ++ Wire.esc 3 := by simp [Wire.body]
      rw [this, Wire.esc_no, Wire.esc_no]
      · rfl
      · decide
      · cases h : Wire.spec (u % 128 + 128) with
        | false => rfl
        | true => have := Wire.spec_iff.1 h; omega
    have hl := (Wire.body_length (insideV t)).1
    have hf3 : f[3]? = some 3 := by
      rw [hf]
      unfold Wire.stuff insideV sealV
      rw [e2, e3, e4]
      simp only [body_app, e5, e6, List.append_assoc]
      rfl
    have hlen : 13 ≤ f.length := by
      have p1 := putZ_pos t.sq
      have p2 := putZ_pos t.tm
      have p3 := putZ_pos t.kd
      have p4 := putZ_pos (t.vs.length : Int)
      have hi : (insideV t).length = (putL (numsL t)).length + 4 := by unfold insideV sealV; simp
      rw [e2, e3, e4] at hi
      simp only [List.length_append, List.length_cons, List.length_nil] at hi
      rw [hf, Wire.stuff_length]
      omega
    have := hn hf3
    omega
theorem acc_memR {i : In} {x : Tg} (h : InOk i) (hx : TgOk x) : accV i x = (i, [], 4) ∨ ∃ w0, WtOk w0 i.win ∧ w0.st = x.st ∧ (w0 ∈ i.sts ∨ (∀ w ∈ i.sts, w.st ≠ x.st) ∧ w0 = ⟨x.st, x.ep, 0, []⟩) ∧
    ∃ i', accV i x = (i', (takeV w0 x i.win).2, 0) ∧ i'.win = i.win ∧ i'.tail = i.tail ∧ ∀ w, w ∈ i'.sts ↔ (w = (takeV w0 x i.win).1 ∨ (w ∈ i.sts ∧ w.st ≠ x.st)) := by
  by_cases h64 : i.sts.length < 64
  · exact .inr (acc_mem h hx h64)
  have h64 : i.sts.length = 64 := by have := h.sl; omega
  have hwin : 0 ≤ i.win := by have := h.wn; omega
  have new : ∀ p, newA i x p = (i, [], 4) := fun p => by unfold newA; rw [if_pos h64]
  have no : (i.sts.map (·.st))[lb x.st (i.sts.map (·.st))]? ≠ some x.st → ∀ w ∈ i.sts, w.st ≠ x.st := fun hk w hw he =>
    hk (lb_mem h.asc (by rw [← he]; exact List.mem_map.2 ⟨w, hw, rfl⟩))
  unfold accV
  rw [if_pos hx]
  unfold accA
  cases hw : i.sts[lb x.st (i.sts.map (·.st))]? with
  | none => exact .inl (new _)
  | some w =>
    dsimp only
    by_cases hs : w.st = x.st
    · rw [if_pos hs]
      refine .inr ⟨w, h.each w (mem_get hw), hs, .inl (mem_get hw), _, rfl, rfl, rfl, fun v => ?_⟩
      dsimp only
      have hpl := (List.getElem?_eq_some_iff.1 hw).1
      constructor
      · intro hv
        obtain ⟨j, hj⟩ := List.mem_iff_getElem?.1 hv
        rw [List.getElem?_set] at hj
        split at hj
        · rename_i e
          subst e
          exact .inl (Option.some.inj hj).symm
        · rename_i hne
          refine .inr ⟨mem_get hj, fun he => hne ?_⟩
          exact asc_inj (a := x.st) h.asc (by rw [List.getElem?_map, hw, ← hs]; rfl) (by rw [List.getElem?_map, hj, ← he]; rfl)
      · rintro (rfl | ⟨hv, hne⟩)
        · exact List.mem_iff_getElem?.2 ⟨_, List.getElem?_set_self hpl⟩
        · obtain ⟨j, hj⟩ := List.mem_iff_getElem?.1 hv
          refine List.mem_iff_getElem?.2 ⟨j, ?_⟩
          rw [List.getElem?_set_ne]
          · exact hj
          · rintro rfl
            rw [hw] at hj
            obtain rfl := Option.some.inj hj
            exact hne hs
    · rw [if_neg hs]
      exact .inl (new _)
theorem endV_ep (w : Wt) (o : List Tg) (win : Int) : (endV w o win).1.ep = w.ep := by
  unfold endV
  split
  · rfl
  · split <;> rfl
theorem takeV_ep (w : Wt) (t : Tg) (win : Int) : (takeV w t win).1.ep = w.ep ∨ (takeV w t win).1.ep = t.ep := by
  unfold takeV putV
  split
  · exact .inl rfl
  · split
    · split
      · exact .inr rfl
      · exact .inr (endV_ep _ _ _)
    · split
      · exact .inl rfl
      · exact .inl (endV_ep _ _ _)
theorem accV_sts (i : In) (t : Tg) : (accV i t).1.sts.length ≤ i.sts.length + 1 := by
  have new : ∀ p, (newA i t p).1.sts.length ≤ i.sts.length + 1 := fun p => by
    unfold newA
    split
    · dsimp only; omega
    · simp; omega
  unfold accV accA
  split
  · split
    · split
      · simp
      · exact new _
    · exact new _
  · dsimp only; omega
/-- The Epoch that is known of station 1 is small, and there is room. -/
structure EpI (s : In) (n : Nat) : Prop where
  ok : InOk s
  ep : ∀ w ∈ s.sts, w.st = 1 → w.ep < 200
  ln : s.sts.length ≤ n
theorem EpI.acc {s : In} {n : Nat} (h : EpI s n) {t : Tg} (ht : TgOk t) (he : t.st = 1 → t.ep < 200) : EpI (accV s t).1 (n + 1) := by
  have hl := accV_sts s t
  have hl2 := h.ln
  refine ⟨accV_ok h.ok, ?_, by omega⟩
  rcases acc_memR h.ok ht with h4 | ⟨w0, k1, k2, k3, i', k4, k5, k6, k7⟩
  · rw [h4]; exact h.ep
  · rw [k4]
    intro w hw hs
    rcases (k7 w).1 hw with rfl | ⟨hw, _⟩
    · have hwin : 0 ≤ s.win := by have := h.ok.wn; omega
      have e1 := (takeV_ok k1 ht k2.symm hwin).2.1
      have hs1 : t.st = 1 := by rw [← k2, ← e1]; exact hs
      rcases takeV_ep w0 t s.win with e | e
      · rw [e]
        rcases k3 with k3 | ⟨_, rfl⟩
        · exact h.ep w0 k3 (by rw [k2]; exact hs1)
        · exact he hs1
      · rw [e]; exact he hs1
    · exact h.ep w hw hs
theorem EpI.fold : ∀ (fs : List (List Nat)) {s : In × List Tg} {n : Nat}, (∀ f ∈ fs, (∀ c ∈ f, c < 256) ∧ NB f) → EpI s.1 n → EpI (fs.foldl stepF s).1 (n + fs.length)
  | [], _, _, _, h => h
  | f :: r, s, n, h8, h => by
    rw [List.foldl_cons]
    have e : n + (f :: r).length = n + 1 + r.length := by simp; omega
    rw [e]
    refine EpI.fold r (fun g hg => h8 g (List.mem_cons_of_mem _ hg)) ?_
    obtain ⟨g8, gn⟩ := h8 f (List.mem_cons_self ..)
    unfold stepF
    split
    · rename_i he
      have hd : decV f = ((decV f).1, 0) := by rw [← he]
      exact h.acc (dec_back g8 hd).1 (late_ep g8 hd gn)
    · have := h.ln
      exact ⟨h.ok, h.ep, by omega⟩
/-- The state of which the law speaks. -/
theorem state_ep {win : Int} (h0 : InOk ⟨win, [], []⟩) {n : Nat} {bs : List Nat} (h : Strm n bs) (hn : n ≤ 13) : EpI (feedV ⟨win, [], []⟩ bs).1 39 := by
  obtain ⟨h1, _, h3⟩ := h.nb
  have h8 := h.len.2
  have hf := EpI.fold (scanO none bs) (s := (⟨win, [], []⟩, [])) (n := 0) (fun f hf => ⟨fun c hc => by
    rw [← (frV_scan bs).1] at hf
    exact h8 c ((frV_mem hf).2 c hc), h1 f hf⟩) ⟨h0, by simp, by simp⟩
  rw [feedV_eq]
  have hl := hf.ln
  exact ⟨feedV_eq ⟨win, [], []⟩ bs ▸ feedV_ok h0 bs, hf.ep, by show (List.foldl stepF _ _).1.sts.length ≤ 39; dsimp only [List.nil_append]; omega⟩
end Go.Proofs.Ytopmmodcaoaaeaa
namespace Go.Proofs.Ytopmmodcaoaaeaa
open Go.RowKit Sy
open Go.IntWalk renaming iteOmega → iO, toNatUp → tN
set_option linter.unusedVariables false
set_option linter.unusedSimpArgs false
def rT (ep sq : Int) : Tg := ⟨1, ep, sq, 0, 0, []⟩
theorem rT_ok {ep sq : Int} (h : 0 ≤ ep ∧ ep ≤ 255) (hs : 0 ≤ sq ∧ sq ≤ 1000) : TgOk (rT ep sq) := ⟨by simp [rT], by simp [rT]; omega, by simp [rT]; omega, by simp [rT], by simp [rT], by simp [rT], by simp [rT]⟩
theorem tk_a {w : Wt} (hs : w.st = 1) (he : w.ep < 200) {win : Int} (h0 : 0 ≤ win) : (takeV w (rT 200 0) win).1 = ⟨1, 200, 1, []⟩ := by
  unfold takeV
  rw [if_neg (by simp only [rT]; omega), if_pos (by simp only [rT]; omega)]
  simp [putV, endV, gvW, gvL, giveN, lb, keys, rT, hs]
theorem tk_a0 {win : Int} (h0 : 0 ≤ win) : (takeV ⟨1, 200, 0, []⟩ (rT 200 0) win).1 = ⟨1, 200, 1, []⟩ := by
  simp [takeV, putV, endV, gvW, gvL, giveN, lb, keys, rT]
theorem tk_b {win : Int} : takeV ⟨1, 200, 1, []⟩ (rT 199 5) win = (⟨1, 200, 1, []⟩, []) := by simp [takeV, rT]
theorem tk_c {win : Int} (h0 : 0 ≤ win) : takeV ⟨1, 200, 1, []⟩ (rT 200 1) win = (⟨1, 200, 2, []⟩, [rT 200 1]) := by
  simp [takeV, putV, endV, gvW, gvL, giveN, lb, keys, rT]
theorem tk_d {win : Int} : takeV ⟨1, 200, 2, []⟩ (rT 200 1) win = (⟨1, 200, 2, []⟩, []) := by simp [takeV, rT]
/-- What changes nothing. -/
theorem accV_idem {i : In} (h : InOk i) {x : Tg} (hx : TgOk x) {w : Wt} (hw : w ∈ i.sts) (hs : w.st = x.st) {o : List Tg} (ht : takeV w x i.win = (w, o)) : accV i x = (i, o, 0) := by
  have hm := lb_mem h.asc (t := x.st) (List.mem_map.2 ⟨w, hw, hs⟩)
  rw [List.getElem?_map] at hm
  unfold accV
  rw [if_pos hx]
  unfold accA
  cases hv : i.sts[lb x.st (i.sts.map (·.st))]? with
  | none => rw [hv] at hm; cases hm
  | some v =>
    rw [hv] at hm
    have hvs : v.st = x.st := by simpa using hm
    obtain rfl : v = w := h.uniq (mem_get hv) hw (hvs.trans hs.symm)
    dsimp only
    rw [if_pos hvs, ht]
    dsimp only
    rw [List.set_getElem?_self' hv]
theorem restart_plain {s : In} (h : EpI s 39) : ∃ a o c, accV s (rT 200 0) = (a, o, 0) ∧ accV a (rT 199 5) = (a, [], 0) ∧ accV a (rT 200 1) = (c, [rT 200 1], 0) ∧ accV c (rT 200 1) = (c, [], 0) ∧ InOk a ∧ InOk c ∧ a.tail = s.tail ∧ c.tail = s.tail ∧ o.length ≤ 17 := by
  have hwin : 0 ≤ s.win := by have := h.ok.wn; omega
  have hl := h.ln
  have t0 := rT_ok (ep := 200) (sq := 0) (by omega) (by omega)
  have t1 := rT_ok (ep := 199) (sq := 5) (by omega) (by omega)
  have t2 := rT_ok (ep := 200) (sq := 1) (by omega) (by omega)
  obtain ⟨w0, k1, k2, k3, a, k4, k5, k6, k7⟩ := acc_mem h.ok t0 (by omega)
  have ha := accV_ok (t := rT 200 0) h.ok
  have hla := accV_sts s (rT 200 0)
  have hol := accV_len h.ok (rT 200 0)
  rw [k4] at ha hla hol
  dsimp only at ha hla hol
  have e1 : (takeV w0 (rT 200 0) s.win).1 = ⟨1, 200, 1, []⟩ := by
    rcases k3 with k3 | ⟨_, rfl⟩
    · exact tk_a k2 (h.ep w0 k3 k2) hwin
    · exact tk_a0 hwin
  have m1 : (⟨1, 200, 1, []⟩ : Wt) ∈ a.sts := (k7 _).2 (.inl e1.symm)
  have f2 := accV_idem ha t1 m1 rfl tk_b
  obtain ⟨w2, j1, j2, j3, c, j4, j5, j6, j7⟩ := acc_mem ha t2 (by omega)
  have hc := accV_ok (t := rT 200 1) ha
  rw [j4] at hc
  dsimp only at hc
  have e2 : w2 = ⟨1, 200, 1, []⟩ := by
    rcases j3 with j3 | ⟨j3, _⟩
    · exact ha.uniq j3 m1 j2
    · exact absurd rfl (j3 _ m1)
  subst e2
  have hwa : 0 ≤ a.win := by rw [k5]; exact hwin
  rw [tk_c hwa] at j4 j7
  dsimp only at j4 j7
  have m2 : (⟨1, 200, 2, []⟩ : Wt) ∈ c.sts := (j7 _).2 (.inl rfl)
  exact ⟨a, _, c, k4, f2, j4, accV_idem hc t2 m2 rfl tk_d, ha, hc, k6, j6.trans k6, hol⟩
set_option maxRecDepth 100000 in
set_option maxHeartbeats 16000000 in
theorem restarts_fn (l : List Int) (hl : l.length ≤ 9223372036854775807) (wl : ∀ z ∈ l, -9223372036854775808 ≤ z ∧ z ≤ 9223372036854775807) : FnOk Try.prog 4 [.t (encIs l)] [] (.t (.bool true)) [] := by
  have hnl := new_fn l hl
  have hsr := new_ok wl
  obtain ⟨W, hW⟩ : ∃ W, newL2 l = W := ⟨_, rfl⟩
  rw [hW] at hnl hsr
  have ca := inawake_fn
  obtain ⟨K1, win, n, bs, hK1, hwin, hbs, hn, c1⟩ := state_ex hsr
  have hi0 : InOk ⟨win, [], []⟩ := inOk_of (by dsimp only; omega) (by dsimp only; omega) (by simp) (by simp) (.inl rfl) (by simp) trivial
  have hep := state_ep hi0 hbs hn
  have h8 := feedV_8 (i := ⟨win, [], []⟩) (b := bs) (by simp) hbs.len.2
  obtain ⟨s, hs⟩ : ∃ s, (feedV ⟨win, [], []⟩ bs).1 = s := ⟨_, rfl⟩
  rw [hs] at c1 hep h8
  obtain ⟨a, o, c, p1, p2, p3, p4, p5, p6, p7, p8, p9⟩ := restart_plain hep
  have d1 := accept_fn s (rT 200 0) (hep.ok.sized h8) (by simp [rT]) hep.ok
  have d2 := accept_fn a (rT 199 5) (p5.sized (by rw [p7]; exact h8)) (by simp [rT]) p5
  have d3 := accept_fn a (rT 200 1) (p5.sized (by rw [p7]; exact h8)) (by simp [rT]) p5
  have d4 := accept_fn c (rT 200 1) (p6.sized (by rw [p8]; exact h8)) (by simp [rT]) p6
  rw [p1] at d1
  rw [p2] at d2
  rw [p3] at d3
  rw [p4] at d4
  have s1 := p5.same
  have s2 := p6.same
  clear p1 p2 p3 p4 p5 p6 p7 p8 hs hep h8 hbs
  obtain ⟨a1, a2, a3⟩ := a
  obtain ⟨b1, b2, b3⟩ := s
  obtain ⟨f1, f2, f3⟩ := c
  simp only [rT] at d1 d2 d3 d4
  refine FnOk.intro fact_mixed Try.func4 rfl Try.ntmps4 (by rfl) (by simp) ?_
  repeat (first | (refine nf1_sound rfl ?_; simp [go_sem, ↓iO, iO, tN]; (repeat (refine anI ?_)); try (refine ⟨dcK, ?_⟩)) | ((first | refine itePos (by omega) ?_ | refine iteNeg (by omega) ?_); try simp [go_sem, ↓iO, iO, tN]) | (refine ⟨dcK, ?_⟩))
  refine CallK.fn (hnl) [(1000, 605)] [] [] (by kernel_rfl) ?_ ?_ ?_ (Or.inl rfl) ?_ <;> simp [go_sem, ↓iO, iO, tN]
  repeat (refine anI ?_)
  try (refine ⟨dcK, ?_⟩)
  refine CallK.fn (c1) [(0, 605)] [] [] (by kernel_rfl) ?_ ?_ ?_ (Or.inl rfl) ?_ <;> simp [go_sem, ↓iO, iO, tN]
  repeat (refine anI ?_)
  try (refine ⟨dcK, ?_⟩)
  repeat (first | (refine nf1_sound rfl ?_; simp [go_sem, ↓iO, iO, tN]; (repeat (refine anI ?_)); try (refine ⟨dcK, ?_⟩)) | ((first | refine itePos (by omega) ?_ | refine iteNeg (by omega) ?_); try simp [go_sem, ↓iO, iO, tN]) | (refine ⟨dcK, ?_⟩))
  refine CallK.fn (d1) [] [] [] (by kernel_rfl) ?_ ?_ ?_ (Or.inl rfl) ?_ <;> simp [go_sem, ↓iO, iO, tN]
  repeat (refine anI ?_)
  try (refine ⟨dcK, ?_⟩)
  repeat (first | (refine nf1_sound rfl ?_; simp [go_sem, ↓iO, iO, tN]; (repeat (refine anI ?_)); try (refine ⟨dcK, ?_⟩)) | ((first | refine itePos (by omega) ?_ | refine iteNeg (by omega) ?_); try simp [go_sem, ↓iO, iO, tN]) | (refine ⟨dcK, ?_⟩))
  refine CallK.fn (d2) [] [] [] (by kernel_rfl) ?_ ?_ ?_ (Or.inl rfl) ?_ <;> simp [go_sem, ↓iO, iO, tN]
  repeat (refine anI ?_)
  try (refine ⟨dcK, ?_⟩)
  repeat (first | (refine nf1_sound rfl ?_; simp [go_sem, ↓iO, iO, tN]; (repeat (refine anI ?_)); try (refine ⟨dcK, ?_⟩)) | ((first | refine itePos (by omega) ?_ | refine iteNeg (by omega) ?_); try simp [go_sem, ↓iO, iO, tN]) | (refine ⟨dcK, ?_⟩))
  refine CallK.fn (d3) [] [] [] (by kernel_rfl) ?_ ?_ ?_ (Or.inl rfl) ?_ <;> simp [go_sem, ↓iO, iO, tN]
  repeat (refine anI ?_)
  try (refine ⟨dcK, ?_⟩)
  repeat (first | (refine nf1_sound rfl ?_; simp [go_sem, ↓iO, iO, tN]; (repeat (refine anI ?_)); try (refine ⟨dcK, ?_⟩)) | ((first | refine itePos (by omega) ?_ | refine iteNeg (by omega) ?_); try simp [go_sem, ↓iO, iO, tN]) | (refine ⟨dcK, ?_⟩))
  refine CallK.fn (d4) [] [] [] (by kernel_rfl) ?_ ?_ ?_ (Or.inl rfl) ?_ <;> simp [go_sem, ↓iO, iO, tN]
  repeat (refine anI ?_)
  try (refine ⟨dcK, ?_⟩)
  repeat (first | (refine nf1_sound rfl ?_; simp [go_sem, ↓iO, iO, tN]; (repeat (refine anI ?_)); try (refine ⟨dcK, ?_⟩)) | ((first | refine itePos (by omega) ?_ | refine iteNeg (by omega) ?_); try simp [go_sem, ↓iO, iO, tN]) | (refine ⟨dcK, ?_⟩))
  refine CallK.fn (s1) [] [] [] (by kernel_rfl) ?_ ?_ ?_ (Or.inl rfl) ?_ <;> simp [go_sem, ↓iO, iO, tN]
  repeat (refine anI ?_)
  try (refine ⟨dcK, ?_⟩)
  refine CallK.fn (s2) [] [] [] (by kernel_rfl) ?_ ?_ ?_ (Or.inl rfl) ?_ <;> simp [go_sem, ↓iO, iO, tN]
  repeat (refine anI ?_)
  try (refine ⟨dcK, ?_⟩)
  refine CallK.fn (ca) [] [] [] (by kernel_rfl) ?_ ?_ ?_ (Or.inl rfl) ?_ <;> simp [go_sem, ↓iO, iO, tN]
  repeat (refine anI ?_)
  try (refine ⟨dcK, ?_⟩)
  repeat (first | (refine nf1_sound rfl ?_; simp [go_sem, ↓iO, iO, tN]; (repeat (refine anI ?_)); try (refine ⟨dcK, ?_⟩)) | ((first | refine itePos (by omega) ?_ | refine iteNeg (by omega) ?_); try simp [go_sem, ↓iO, iO, tN]) | (refine ⟨dcK, ?_⟩))
  first | rw [RetQ_ret] | rw [RetQ_normal]
  refine ⟨[], ?_⟩
  simp [go_sem, ↓iO, iO, tN]
theorem restarts_all (x0 : T) (h0 : InSh (.sl (.int .i64)) x0) :
    FnOk Try.prog 4 [.t x0] [] (.t (.bool true)) [] := by
  obtain ⟨l, rfl, hl, wl⟩ := ints_in h0
  exact restarts_fn l hl wl
end Go.Proofs.Ytopmmodcaoaaeaa
