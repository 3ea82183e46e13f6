/- Several texts of this proof, one behind the other. No condition. -/
import Derived.Test.YtdjmklobfjigoaaGreatDoorTTrnsB14
import Derived.Test.YtdjmklobfjigoaaGreatDoorTTrnsB11
import Derived.Test.YtdjmklobfjigoaaGreatDoorTTrnsB10
import Derived.Test.YtdjmklobfjigoaaGreatDoorTTrnsB13
set_option maxRecDepth 100000
set_option maxHeartbeats 16000000
set_option linter.unusedVariables false
set_option linter.unusedSimpArgs false
namespace Go.Proofs.YtdjmklobfjigoaaGreatDoor
open Go.RowKit Sy
open Go.IntWalk renaming iteOmega → iO, toNatUp → tN
theorem choices {α β : Type} (P : Nat → α → β → α → Prop) (I : α → Prop) (a0 : α) (h0 : I a0) (h : ∀ j a, I a → ∃ b a', I a' ∧ P j a b a') : ∃ (A : Nat → α) (B : Nat → β), A 0 = a0 ∧ ∀ j, I (A j) ∧ P j (A j) (B j) (A (j + 1)) := by
  have h2 : ∀ j (a : {a // I a}), ∃ x : β × {a // I a}, P j a.1 x.1 x.2.1 := fun j a => by
    obtain ⟨b, a', i, p⟩ := h j a.1 a.2
    exact ⟨(b, ⟨a', i⟩), p⟩
  let C : Nat → {a // I a} := fun j => Nat.rec ⟨a0, h0⟩ (fun j a => (Classical.choose (h2 j a)).2) j
  exact ⟨fun j => (C j).1, fun j => (Classical.choose (h2 j (C j))).1, rfl, fun j => ⟨(C j).2, Classical.choose_spec (h2 j (C j))⟩⟩
def SgC (l : List Int) (j k : Nat) (s : Sgm) (k' : Nat) : Prop := j < 20 → s.1.nm = [103, 97 + j] ∧ ((s.1.fr = (j : Int) ∧ s.1.to = ((j + 1 : Nat) : Int)) ∨ (s.1.fr = ((j + 1 : Nat) : Int) ∧ s.1.to = (j : Int))) ∧ PipeOk s ∧ s.1.cp ≤ 1000 ∧
    FnOk Tryz.prog 34 [.pt 0 [] 0, .t (.int (j : Int)), .t (.int (j : Int)), .t (.int ((j + 1 : Nat) : Int))] [(0, srcB l k)] (.t (encSg s)) [(0, srcB l k')]
theorem segs_ex (l : List Int) (k0 : Nat) (h : SrcOk l k0) : ∃ (K : Nat → Nat) (S : Nat → Sgm), K 0 = k0 ∧ ∀ j, SrcOk l (K j) ∧ SgC l j (K j) (S j) (K (j + 1)) :=
  choices (SgC l) (SrcOk l) k0 h fun j a ha => by
    by_cases hj : j < 20
    · obtain ⟨s, k', h1, h2, h3, h4, h5, h6⟩ := seg_ex l a ha j (by omega) j (j + 1) (by omega) (by omega) (by omega)
      exact ⟨s, k', h1, fun _ => ⟨h2, h3, h4, h5, h6⟩⟩
    · exact ⟨(⟨[], 0, 0, 0, 0, 0⟩, []), a, ha, fun h => absurd h hj⟩
def ndT (i : Nat) : T := .lit (.string (str [110, 97 + i]))
def minR (S : Nat → Sgm) (r : Int) : Nat → Int
  | 0 => r
  | j + 1 => min (minR S r j) (S j).1.cp
def rtI (S : Nat → Sgm) (r : Int) (i : Nat) : Int := if (S i).1.fr < (S i).1.to then r else -r
theorem map_range_succ {α : Type} (f : Nat → α) (j : Nat) : (List.range (j + 1)).map f = (List.range j).map f ++ [f j] := by rw [List.range_succ, List.map_append]; rfl
theorem line_ex (l : List Int) (j : Nat) (h : SrcOk l j) (rate : Int) (hr : 1 ≤ rate ∧ rate ≤ 1000) : ∃ (m : Nat) (K : Nat → Nat) (S : Nat → Sgm), (1 ≤ m ∧ m ≤ 4) ∧ (∀ j, SrcOk l (K j) ∧ SgC l j (K j) (S j) (K (j + 1))) ∧
    FnOk Tryz.prog 14 [.pt 0 [] 0, .t (.int rate)] [(0, srcB l j)]
      (.tup [.t (.agg [.sl 1 ((List.range (m + 1)).map ndT), .sl 7 ((List.range m).map fun i => encSg (S i)), .sl 3 [.agg [.lit (.string ⟨#[113, 97]⟩), .int 0, .int 0], .agg [.lit (.string ⟨#[113, 98]⟩), .int m, .int 0]], .lit (.slice none 0 0), .int 0, .int 0]),
        .t (.agg [.sl 1 ((List.range m).map fun i => .int (rtI S (minR S rate m) i)), .sl 1 [.int (minR S rate m), .int (-(minR S rate m))], .lit (.slice none 0 0)])]) [(0, srcB l (K m))] := by
  have c1 := range_fn l j 1 4 h (by omega) (by omega) (by omega)
  have b1 := rangeV_range (l := l) (k := j) (lo := 1) (hi := 4) (by omega)
  obtain ⟨K, S, hK0, hKS⟩ := segs_ex l _ h.next
  obtain ⟨m, hm⟩ : ∃ m : Nat, rangeV l j 1 4 = (m : Int) := ⟨(rangeV l j 1 4).toNat, by omega⟩
  rw [hm] at c1 b1
  rw [← hK0] at c1
  refine ⟨m, K, S, by omega, hKS, ?_⟩
  obtain ⟨N, hN⟩ : ∃ N : Nat → List T, ∀ j, (List.range (j + 1)).map ndT = N j := ⟨_, fun _ => rfl⟩
  have N0 : N 0 = [.lit (.string ⟨#[110, 97]⟩)] := by rw [← hN]; rfl
  have Ns : ∀ j, N (j + 1) = N j ++ [.lit (.string (str [110, 97 + (j + 1)]))] := fun j => by rw [← hN, map_range_succ, hN]; rfl
  have Nl : ∀ j, (N j).length = j + 1 := fun j => by rw [← hN]; simp
  obtain ⟨G, hG⟩ : ∃ G : Nat → List T, ∀ j, ((List.range j).map fun i => encSg (S i)) = G j := ⟨_, fun _ => rfl⟩
  have G0 : G 0 = [] := by rw [← hG]; rfl
  have Gs : ∀ j, G (j + 1) = G j ++ [encSg (S j)] := fun j => by rw [← hG, map_range_succ, hG]
  have Gl : ∀ j, (G j).length = j := fun j => by rw [← hG]; simp
  have Gg : ∀ i j, i < j → (G j)[i]? = some (encSg (S i)) := fun i j h => by rw [← hG]; simp [h]
  obtain ⟨R, hR⟩ : ∃ R : Nat → Int, ∀ j, minR S rate j = R j := ⟨_, fun _ => rfl⟩
  have R0 : R 0 = rate := by rw [← hR]; rfl
  have Rs : ∀ j, R (j + 1) = min (R j) (S j).1.cp := fun j => by rw [← hR, ← hR]; rfl
  have Rb : ∀ j, j < 20 → 1 ≤ R j ∧ R j ≤ 1000 := fun j => by
    induction j with
    | zero => intro _; rw [R0]; exact hr
    | succ j ih =>
      intro hj
      have := ih (by omega)
      have h2 := ((hKS j).2 (by omega)).2.2.1.cap
      rw [Rs]; omega
  rw [hN, hG, hR]
  obtain ⟨V, hV⟩ : ∃ V : Nat → List T, ∀ j, ((List.range j).map fun i => T.int (rtI S (R m) i)) = V j := ⟨_, fun _ => rfl⟩
  have V0 : V 0 = [] := by rw [← hV]; rfl
  have Vs : ∀ j, V (j + 1) = V j ++ [.int (rtI S (R m) j)] := fun j => by rw [← hV, map_range_succ, hV]
  have Vl : ∀ j, (V j).length = j := fun j => by rw [← hV]; simp
  rw [hV]
  refine FnOk.intro fact_mixed Tryz.func14 rfl Tryz.ntmps14 (by rfl) (by simp) ?_
  repeat (first | (refine nf1_sound rfl ?_; simp [go_sem, ↓iO, iO, tN]) | refine anI ?_ | refine ⟨dcK, ?_⟩ | ((first | refine iP ?_ | refine iN ?_); try simp [go_sem, ↓iO, iO, tN]))
  refine CallK.fn (c1) [(0, 0)] [] [] (by kernel_rfl) ?_ ?_ ?_ (Or.inl rfl) ?_ <;> simp [go_sem, ↓iO, iO, tN]
  repeat (refine anI ?_)
  try (refine ⟨dcK, ?_⟩)
  repeat (first | (refine nf1_sound rfl ?_; simp [go_sem, ↓iO, iO, tN]) | refine anI ?_ | refine ⟨dcK, ?_⟩ | ((first | refine iP ?_ | refine iN ?_); try simp [go_sem, ↓iO, iO, tN]))
  refine nf1_sound' _ _ _ ?_; simp only [nf1]
  refine CW.loop (ι := Nat) (fun j => ⟨[(0, .pt 0 [] 0), (1, .t (.int rate)), (4, .pt 504 [] 0), (5, .pt 505 [] 0), (6, .pt 506 [] 0), (7, .t (.int ((m : Int) - j)))], [(0, srcB l (K j)), (504, .box 33 (.t (.agg [.lit (.slice none 0 0), .lit (.slice none 0 0), .lit (.slice none 0 0), .lit (.slice none 0 0), .int 0, .int 0]))), (505, .box 45 (.t (.agg [.lit (.slice none 0 0), .lit (.slice none 0 0), .lit (.slice none 0 0)]))), (506, .box 33 (.ag [.own 514, .own 521, .t (.lit (.slice none 0 0)), .t (.lit (.slice none 0 0)), .t (.int 0), .t (.int 0)])), (514, .list 9 1 (N j)), (521, .list 38 7 (G j))]⟩)
    (fun j => j ≤ m) (fun j => m - j) 0 [(0, some 0), (504, some 104), (505, some 105), (506, some 106), (514, some 114), (521, none)] (by omega) ?_ ?_
  · simp [go_sem, ↓iO, iO, tN, N0, G0]
  intro j hj
  have nl := Nl j
  have gl := Gl j
  by_cases hb : j < m
  · obtain ⟨a1, a2, a3, a4, cs⟩ := (hKS j).2 (by omega)
    have ns := Ns j
    have gs := Gs j
    obtain ⟨N1, hN1⟩ : ∃ X, N j = X := ⟨_, rfl⟩
    obtain ⟨G1, hG1⟩ : ∃ X, G j = X := ⟨_, rfl⟩
    rw [hN1] at nl ns ⊢
    rw [hG1] at gl gs ⊢
    repeat (first | (refine nf1_sound rfl ?_; simp [go_sem, ↓iO, iO, tN, hb, nl, gl]) | refine anI ?_ | refine ⟨dcK, ?_⟩ | ((first | refine iP ?_ | refine iN ?_); try simp [go_sem, ↓iO, iO, tN, hb, nl, gl]))
    refine CallK.fn (cs) [(0, 0)] [] [] (by kernel_rfl) ?_ ?_ ?_ (Or.inl rfl) ?_ <;> simp [go_sem, ↓iO, iO, tN, hb, nl, gl]
    repeat (refine anI ?_)
    try (refine ⟨dcK, ?_⟩)
    repeat (first | (refine nf1_sound rfl ?_; simp [go_sem, ↓iO, iO, tN, hb, nl, gl]) | refine anI ?_ | refine ⟨dcK, ?_⟩ | ((first | refine iP ?_ | refine iN ?_); try simp [go_sem, ↓iO, iO, tN, hb, nl, gl]))
    rw [RoundQ_normal]; refine ⟨j + 1, [(0, some 0), (504, some 504), (505, some 505), (506, some 506), (514, some 134), (521, some 146)], ?_, ?_, ?_⟩
    · omega
    · omega
    simp [go_sem, ↓iO, iO, tN, ns, gs]
    refine ⟨by omega, ?_⟩
    rw [show (⟨#[110]⟩ : ByteArray) = str [110] from rfl, str_cat]
    rfl
  · obtain rfl : j = m := by omega
    have gg : ∀ i, i < j → (G j)[i]? = some (encSg (S i)) := fun i hi => Gg i j hi
    obtain ⟨NN, hNN⟩ : ∃ X, N j = X := ⟨_, rfl⟩
    obtain ⟨GG, hGG⟩ : ∃ X, G j = X := ⟨_, rfl⟩
    rw [hNN] at nl ⊢
    rw [hGG] at gl gg ⊢
    repeat (first | (refine nf1_sound rfl ?_; simp [go_sem, ↓iO, iO, tN, nl, gl]) | refine anI ?_ | refine ⟨dcK, ?_⟩ | ((first | refine iP ?_ | refine iN ?_); try simp [go_sem, ↓iO, iO, tN, nl, gl]))
    refine nf1_sound' _ _ _ ?_; simp only [nf1]
    refine CW.loop (ι := Nat) (fun i => ⟨[(0, .pt 0 [] 0), (1, .t (.int (R i))), (4, .pt 504 [] 0), (5, .pt 505 [] 0), (6, .pt 506 [] 0), (57, .t (.sl 7 GG)), (58, .t (.int j)), (59, .t (.int i))], [(0, srcB l (K j)), (504, .box 33 (.t (.agg [.lit (.slice none 0 0), .lit (.slice none 0 0), .lit (.slice none 0 0), .lit (.slice none 0 0), .int 0, .int 0]))), (505, .box 45 (.t (.agg [.lit (.slice none 0 0), .lit (.slice none 0 0), .lit (.slice none 0 0)]))), (506, .box 33 (.ag [.t (.sl 1 NN), .t (.sl 7 GG), .t (.sl 3 [.agg [.lit (.string ⟨#[113, 97]⟩), .int 0, .int 0], .agg [.lit (.string ⟨#[113, 98]⟩), .int j, .int 0]]), .t (.lit (.slice none 0 0)), .t (.int 0), .t (.int 0)]))]⟩)
      (fun i => i ≤ j) (fun i => j - i) 0 [(0, some 0), (504, some 504), (505, some 505), (506, some 506)] (by omega) ?_ ?_
    · simp [go_sem, ↓iO, iO, tN, R0, nl, gl]
    intro i hi
    by_cases hb2 : i < j
    · have g1 := gg i hb2
      have rs := Rs i
      have rb := Rb i (by omega)
      have rb2 := Rb (i + 1) (by omega)
      obtain ⟨s, hSi⟩ : ∃ s, S i = s := ⟨_, rfl⟩
      rw [hSi] at g1 rs
      obtain ⟨⟨nm, fr, to, cp, rs', wv⟩, pts⟩ := s
      dsimp only at rs
      repeat (first | (refine nf1_sound rfl ?_; simp [go_sem, ↓iO, iO, tN, g1]) | refine anI ?_ | refine ⟨dcK, ?_⟩ | ((first | refine iP ?_ | refine iN ?_); try simp [go_sem, ↓iO, iO, tN, g1]))
      rw [RoundQ_normal]; refine ⟨i + 1, [(0, some 0), (504, some 504), (505, some 505), (506, some 506)], ?_, ?_, ?_⟩
      · omega
      · omega
      simp [go_sem, ↓iO, iO, tN, rs]
    · obtain rfl : i = j := by omega
      have rbi := Rb i (by omega)
      obtain ⟨r, hr0⟩ : ∃ r, R i = r := ⟨_, rfl⟩
      rw [hr0] at rbi hV Vs ⊢
      repeat (first | (refine nf1_sound rfl ?_; simp [go_sem, ↓iO, iO, tN, gl, nl]) | refine anI ?_ | refine ⟨dcK, ?_⟩ | ((first | refine iP ?_ | refine iN ?_); try simp [go_sem, ↓iO, iO, tN, gl, nl]))
      refine nf1_sound' _ _ _ ?_; simp only [nf1]
      refine CW.loop (ι := Nat) (fun q => ⟨[(0, .pt 0 [] 0), (1, .t (.int r)), (4, .pt 504 [] 0), (5, .pt 505 [] 0), (6, .pt 506 [] 0), (11, .pt 511 [] 0), (74, .t (.sl 7 GG)), (75, .t (.int i)), (76, .t (.int q))], [(0, srcB l (K i)), (504, .box 33 (.t (.agg [.lit (.slice none 0 0), .lit (.slice none 0 0), .lit (.slice none 0 0), .lit (.slice none 0 0), .int 0, .int 0]))), (505, .box 45 (.t (.agg [.lit (.slice none 0 0), .lit (.slice none 0 0), .lit (.slice none 0 0)]))), (506, .box 33 (.ag [.t (.sl 1 NN), .t (.sl 7 GG), .t (.sl 3 [.agg [.lit (.string ⟨#[113, 97]⟩), .int 0, .int 0], .agg [.lit (.string ⟨#[113, 98]⟩), .int i, .int 0]]), .t (.lit (.slice none 0 0)), .t (.int 0), .t (.int 0)])), (511, .box 45 (.ag [.own 560, .t (.sl 1 [.int r, .int (-r)]), .t (.lit (.slice none 0 0))])), (560, .list 3 1 (V q))]⟩)
        (fun q => q ≤ i) (fun q => i - q) 0 [(0, some 0), (504, some 504), (505, some 505), (506, some 506), (511, some 111), (560, none)] (by omega) ?_ ?_
      · simp [go_sem, ↓iO, iO, tN, V0, nl, gl]
      intro q hq
      have vl := Vl q
      by_cases hb3 : q < i
      · have g1 := gg q hb3
        have vs := Vs q
        obtain ⟨V1, hV1⟩ : ∃ X, V q = X := ⟨_, rfl⟩
        rw [hV1] at vl vs ⊢
        obtain ⟨s, hSi⟩ : ∃ s, S q = s := ⟨_, rfl⟩
        simp only [rtI] at vs
        rw [hSi] at g1 vs
        obtain ⟨⟨nm, fr, to, cp, rs', wv⟩, pts⟩ := s
        dsimp only at vs
        by_cases hlt : fr < to
        · rw [if_pos hlt] at vs
          repeat (first | (refine nf1_sound rfl ?_; simp [go_sem, ↓iO, iO, tN, g1, hlt, vl]) | refine anI ?_ | refine ⟨dcK, ?_⟩ | ((first | refine iP ?_ | refine iN ?_); try simp [go_sem, ↓iO, iO, tN, g1, hlt, vl]))
          rw [RoundQ_normal]; refine ⟨q + 1, [(0, some 0), (504, some 504), (505, some 505), (506, some 506), (511, some 511), (560, some 189)], ?_, ?_, ?_⟩
          · omega
          · omega
          simp [go_sem, ↓iO, iO, tN, vs]
        · rw [if_neg hlt] at vs
          repeat (first | (refine nf1_sound rfl ?_; simp [go_sem, ↓iO, iO, tN, g1, hlt, vl]) | refine anI ?_ | refine ⟨dcK, ?_⟩ | ((first | refine iP ?_ | refine iN ?_); try simp [go_sem, ↓iO, iO, tN, g1, hlt, vl]))
          rw [RoundQ_normal]; refine ⟨q + 1, [(0, some 0), (504, some 504), (505, some 505), (506, some 506), (511, some 511), (560, some 196)], ?_, ?_, ?_⟩
          · omega
          · omega
          simp [go_sem, ↓iO, iO, tN, vs]
      · obtain rfl : q = i := by omega
        obtain ⟨V1, hV1⟩ : ∃ X, V q = X := ⟨_, rfl⟩
        rw [hV1] at vl ⊢
        repeat (first | (refine nf1_sound rfl ?_; simp [go_sem, ↓iO, iO, tN, gl, nl, vl]) | refine anI ?_ | refine ⟨dcK, ?_⟩ | ((first | refine iP ?_ | refine iN ?_); try simp [go_sem, ↓iO, iO, tN, gl, nl, vl]))
        first | rw [RetQ_ret] | rw [RetQ_normal]
        refine ⟨[(0, some 0)], ?_⟩
        simp [go_sem, ↓iO, iO, tN, gl, nl, vl]
end Go.Proofs.YtdjmklobfjigoaaGreatDoor
namespace Go.Proofs.YtdjmklobfjigoaaGreatDoor
theorem mem_litres {l : List (Int × Int)} {p : Int × Int} (h : p ∈ l) (hp : 0 < p.2) : p.1 ∈ Pc.litres l := by
  unfold Pc.litres
  refine List.mem_flatMap.2 ⟨p, h, List.mem_replicate.2 ⟨by omega, rfl⟩⟩
theorem litres_mem {l : List (Int × Int)} {x : Int} (h : x ∈ Pc.litres l) : ∃ q ∈ l, q.1 = x := by
  unfold Pc.litres at h
  obtain ⟨q, hq, hx⟩ := List.mem_flatMap.1 h
  exact ⟨q, hq, (List.mem_replicate.1 hx).2.symm⟩
structure CutOk (ps : List (Int × Int)) (k : Nat) (a b : List (Int × Int)) : Prop where
  ca : Pc.Canon a
  cb : Pc.Canon b
  la : Pc.litres a = (Pc.litres ps).take k
  lb : Pc.litres b = (Pc.litres ps).drop k
  na : a.length ≤ ps.length
  nb : b.length ≤ ps.length
theorem cut_ok {ps : List (Int × Int)} (h : Pc.Sane ps) (k : Nat) : CutOk ps k (Pc.join (Pc.heads ps k)) (Pc.join (Pc.tails ps k)) := by
  have h1 := (heads_sane h (Int.natCast_nonneg k)).each
  have h2 := (tails_sane h (Int.natCast_nonneg k)).each
  have h3 := fun p hp => (h.each p hp).1
  refine ⟨Pc.join_canon fun p hp => (h1 p hp).1, Pc.join_canon fun p hp => (h2 p hp).1, ?_, ?_, ?_, ?_⟩
  · rw [Pc.join_litres fun p hp => (h1 p hp).1, Pc.heads_litres ps h3]
  · rw [Pc.join_litres fun p hp => (h2 p hp).1, Pc.tails_litres ps h3]
  · have := Pc.join_length (Pc.heads ps k); rw [Pc.heads_length] at this; exact this
  · have := Pc.join_length (Pc.tails ps k); rw [Pc.tails_length] at this; exact this
theorem vol_litres {a : List (Int × Int)} (h : Pc.Canon a) : Pc.vol a = ((Pc.litres a).length : Int) := (Pc.litres_length a fun p hp => Int.le_of_lt (h.pos p hp)).symm
theorem vd_part {a f g : List (Int × Int)} (hf : Pc.Vd f) (hg : Pc.Vd g) (hc : Pc.Canon a) (hl : ∀ x ∈ Pc.litres a, x ∈ Pc.litres f ∨ x ∈ Pc.litres g) (hn : a.length ≤ 200) (hv : (Pc.litres a).length ≤ 1000000) : Pc.Vd a := by
  refine Pc.vd_of_canon hc (fun p hp => ?_) hn (by rw [vol_litres hc]; omega)
  rcases hl p.1 (mem_litres hp (hc.pos p hp)) with h | h
  · obtain ⟨q, hq, he⟩ := litres_mem h; rw [← he]; exact (hf.each q hq).1
  · obtain ⟨q, hq, he⟩ := litres_mem h; rw [← he]; exact (hg.each q hq).1
structure PushOk (f g : List (Int × Int)) (back : Bool) (n o : List (Int × Int)) : Prop where
  eq : Pc.push f g back = (n, o, 0)
  vn : Pc.Vd n
  vo : Pc.Vd o
  ln : Pc.litres n = if back then (Pc.litres f ++ Pc.litres g).drop (Pc.litres g).length else (Pc.litres g ++ Pc.litres f).take (Pc.litres f).length
  lo : Pc.litres o = if back then (Pc.litres f ++ Pc.litres g).take (Pc.litres g).length else (Pc.litres g ++ Pc.litres f).drop (Pc.litres f).length
  nn : n.length ≤ f.length + g.length
  no : o.length ≤ f.length + g.length
theorem push_small {f g : List (Int × Int)} (hf : Pc.Vd f) (hg : Pc.Vd g) (hs : f.length + g.length ≤ 200) (back : Bool) : ∃ n o, PushOk f g back n o := by
  have vf := vol_litres hf.canon
  have vg := vol_litres hg.canon
  have bf := hf.vol
  have bg := hg.vol
  cases back with
  | true =>
    have hc := cut_ok (sane_app hf hg) (Pc.litres g).length
    rw [← vg] at hc
    have la := hc.la
    have lb := hc.lb
    rw [Pc.litres_append] at la lb
    have na := hc.na
    have nb := hc.nb
    rw [List.length_append] at na nb
    have hsh : Pc.shift f g true = (Pc.join (Pc.tails (f ++ g) (Pc.vol g)), Pc.join (Pc.heads (f ++ g) (Pc.vol g))) := rfl
    refine ⟨_, _, ?_, ?_, ?_, lb, la, nb, na⟩
    · rw [push_ok (Pc.valid_t hf) (Pc.valid_t hg) (by rw [hsh]; dsimp only; exact ⟨by omega, by omega⟩), hsh]
    · refine vd_part hf hg hc.cb (fun x hx => ?_) (by omega) (by rw [lb, List.length_drop, List.length_append]; omega)
      rw [lb] at hx; exact List.mem_append.1 (List.mem_of_mem_drop hx)
    · refine vd_part hf hg hc.ca (fun x hx => ?_) (by omega) (by rw [la, List.length_take, List.length_append]; omega)
      rw [la] at hx; exact List.mem_append.1 (List.mem_of_mem_take hx)
  | false =>
    have hc := cut_ok (sane_app hg hf) (Pc.litres f).length
    rw [← vf] at hc
    have la := hc.la
    have lb := hc.lb
    rw [Pc.litres_append] at la lb
    have na := hc.na
    have nb := hc.nb
    rw [List.length_append] at na nb
    have hsh : Pc.shift f g false = (Pc.join (Pc.heads (g ++ f) (Pc.vol f)), Pc.join (Pc.tails (g ++ f) (Pc.vol f))) := rfl
    refine ⟨_, _, ?_, ?_, ?_, la, lb, by omega, by omega⟩
    · rw [push_ok (Pc.valid_t hf) (Pc.valid_t hg) (by rw [hsh]; dsimp only; exact ⟨by omega, by omega⟩), hsh]
    · refine vd_part hg hf hc.ca (fun x hx => ?_) (by omega) (by rw [la, List.length_take, List.length_append]; omega)
      rw [la] at hx; exact List.mem_append.1 (List.mem_of_mem_take hx)
    · refine vd_part hg hf hc.cb (fun x hx => ?_) (by omega) (by rw [lb, List.length_drop, List.length_append]; omega)
      rw [lb] at hx; exact List.mem_append.1 (List.mem_of_mem_drop hx)
end Go.Proofs.YtdjmklobfjigoaaGreatDoor
namespace Go.Proofs.YtdjmklobfjigoaaGreatDoor
open Go.RowKit Sy Dl
theorem vol_rev : ∀ f : List (Int × Int), Pc.vol f.reverse = Pc.vol f
  | [] => rfl
  | p :: r => by rw [List.reverse_cons, Pc.vol_append, vol_rev r]; simp only [Pc.vol]; omega
theorem rev_get {α : Type} {l : List α} {i : Nat} (h : i < l.length) : l.reverse[i]? = l[l.length - 1 - i]? := List.getElem?_reverse h
theorem vd_rev {f : List (Int × Int)} (h : Pc.Vd f) : Pc.Vd f.reverse := by
  refine ⟨by rw [List.length_reverse]; exact h.len, ?_, by rw [vol_rev]; exact h.vol⟩
  intro i hi p hp
  rw [List.length_reverse] at hi
  rw [rev_get hi] at hp
  have h1 := h.each p (mem_get hp)
  refine ⟨by omega, fun q h0 hq => ?_⟩
  rw [rev_get (by omega)] at hq
  have e : f.length - 1 - (i - 1) = f.length - 1 - i + 1 := by omega
  rw [e] at hq
  have h2 := (h.ok (f.length - 1 - i + 1) (by omega) q hq).2 p (by omega) (by simpa using hp)
  exact fun hh => h2 hh.symm
theorem litres_rev : ∀ f : List (Int × Int), Pc.litres f.reverse = (Pc.litres f).reverse
  | [] => rfl
  | p :: r => by rw [List.reverse_cons, Pc.litres_append, litres_rev r]; simp [Pc.litres]
theorem cs_one (r : Int) (hr : 0 < r) : ∀ k : Nat, cs [r] k = [(k : Int)]
  | 0 => rfl
  | k + 1 => by
    simp only [cs, cs_one r hr k]
    simp [bump, nx, rt, hr]
theorem strm_one (r : Int) (hr : 0 < r) : ∀ (l : List (Int × Int)) (a : Nat), (∀ p ∈ l, 0 ≤ p.2) → strm [r] 0 l a = l
  | [], _, _ => rfl
  | p :: t, a, h => by
    have hp := h p (by simp)
    simp only [strm, cs_one r hr, rt]
    rw [strm_one r hr t _ (fun q hq => h q (by simp [hq]))]
    have : ((a + p.2.toNat : Nat) : Int) - (a : Int) = p.2 := by omega
    simp
    rw [Int.max_eq_left hp]
    ext <;> simp
    omega
theorem merge_vd {l : List (Int × Int)} (h : Pc.Vd l) : Pc.merge l = l := by
  rw [merge_good ⟨by have := h.len; omega, fun p hp => by have := h.each p hp; omega⟩, Pc.join_self h.canon]
theorem deal_one (r : Int) (hr : 0 < r) (h1 : r ≤ 1000) (l : List (Int × Int)) (hl : Pc.Vd l) (hv : Pc.vol l ≤ r) (hne : l ≠ []) : dealV l [r] = ([l], 0) := by
  have hR : Rates [r] := ⟨by simp, by simp; omega, by simp [tot]; omega⟩
  have hc := chk_of hR (hl.sane.vol).1 (by simp [tot]; omega)
  unfold dealV
  rw [merge_vd hl]
  have hlen := hl.len
  simp only [hc]
  rw [if_neg (by simp [hne]; omega), if_neg (by simp)]
  simp [dealt, List.range_succ, strm_one r hr l 0 hl.nonneg, Pc.join_self hl.canon]
theorem vd_one {b r : Int} (hb : 0 ≤ b ∧ b < 1000) (hr : 0 < r) (h1 : r ≤ 1000) : Pc.Vd [(b, r)] := by
  refine Pc.vd_of_canon ⟨hr, by simp, trivial⟩ (fun p hp => ?_) (by simp) (by simp [Pc.vol]; omega)
  simp at hp; subst hp; exact hb
end Go.Proofs.YtdjmklobfjigoaaGreatDoor
namespace Go.Proofs.YtdjmklobfjigoaaGreatDoor
open Go.RowKit Sy
open Go.IntWalk renaming iteOmega → iO, toNatUp → tN
theorem volume_fn (l : List (Int × Int)) (h : Pc.Vd l) : FnOk Tryz.prog 10 [.t (encPs l)] [] (.t (.int (Pc.vol l))) [] := by
  have hlen := h.len
  refine FnOk.intro fact_mixed Tryz.func10 rfl Tryz.ntmps10 (by rfl) (by simp) ?_
  repeat (first | (refine nf1_sound rfl ?_; simp [go_sem, ↓iO, iO, tN]) | refine anI ?_ | refine ⟨dcK, ?_⟩ | ((first | refine iP ?_ | refine iN ?_); try simp [go_sem, ↓iO, iO, tN]))
  refine CallK.fn (valid_fn' l (by omega) true (Pc.valid_t h)) [] [] [] (by kernel_rfl) ?_ ?_ ?_ (Or.inl rfl) ?_ <;> simp [go_sem, ↓iO, iO, tN]
  repeat (refine anI ?_)
  try (refine ⟨dcK, ?_⟩)
  repeat (first | (refine nf1_sound rfl ?_; simp [go_sem, ↓iO, iO, tN]) | refine anI ?_ | refine ⟨dcK, ?_⟩ | ((first | refine iP ?_ | refine iN ?_); try simp [go_sem, ↓iO, iO, tN]))
  refine CallK.fn (total_fn l h.sane) [] [] [] (by kernel_rfl) ?_ ?_ ?_ (Or.inl rfl) ?_ <;> simp [go_sem, ↓iO, iO, tN]
  repeat (refine anI ?_)
  try (refine ⟨dcK, ?_⟩)
  repeat (first | (refine nf1_sound rfl ?_; simp [go_sem, ↓iO, iO, tN]) | refine anI ?_ | refine ⟨dcK, ?_⟩ | ((first | refine iP ?_ | refine iN ?_); try simp [go_sem, ↓iO, iO, tN]))
  first | rw [RetQ_ret] | rw [RetQ_normal]
  refine ⟨[], ?_⟩
  simp [go_sem, ↓iO, iO, tN]
theorem acheck1_fn (f : List (Int × Int)) (h : Pc.Vd f) : FnOk Tryz.prog 47 [.t (encPs f)] [] (.t (.bool false)) [] := by
  have hlen := h.len
  have c := valid_fn' f (by omega) true (Pc.valid_t h)
  refine FnOk.intro fact_mixed Tryz.func47 rfl Tryz.ntmps47 (by rfl) (by simp) ?_
  repeat (first | (refine nf1_sound rfl ?_; simp [go_sem, ↓iO, iO, tN]) | refine anI ?_ | refine ⟨dcK, ?_⟩ | ((first | refine iP ?_ | refine iN ?_); try simp [go_sem, ↓iO, iO, tN]))
  refine CallK.fn (c) [] [] [] (by kernel_rfl) ?_ ?_ ?_ (Or.inl rfl) ?_ <;> simp [go_sem, ↓iO, iO, tN]
  repeat (refine anI ?_)
  try (refine ⟨dcK, ?_⟩)
  repeat (first | (refine nf1_sound rfl ?_; simp [go_sem, ↓iO, iO, tN]) | refine anI ?_ | refine ⟨dcK, ?_⟩ | ((first | refine iP ?_ | refine iN ?_); try simp [go_sem, ↓iO, iO, tN]))
  first | rw [RetQ_ret] | rw [RetQ_normal]
  refine ⟨[], ?_⟩
  simp [go_sem, ↓iO, iO, tN]
theorem start1_fn (b : Int) (h : 0 ≤ b ∧ b < 1000) : FnOk Tryz.prog 50 [.t (.int b)] [] (.t (.bool false)) [] := by
  obtain ⟨h1, h2⟩ := h
  refine FnOk.intro fact_mixed Tryz.func50 rfl Tryz.ntmps50 (by rfl) (by simp) ?_
  repeat (first | (refine nf1_sound rfl ?_; simp [go_sem, ↓iO, iO, tN, h1, h2]) | refine anI ?_ | refine ⟨dcK, ?_⟩ | ((first | refine iP ?_ | refine iN ?_); try simp [go_sem, ↓iO, iO, tN, h1, h2]))
  first | rw [RetQ_ret] | rw [RetQ_normal]
  refine ⟨[], ?_⟩
  simp [go_sem, ↓iO, iO, tN, h1, h2]
def NetC (d : LineD) : Prop := FnOk Tryz.prog 45 [.t (.agg d.net)] [] (.t (.int 0)) []
structure FillsOk (d : LineD) (fills : List (List (Int × Int))) : Prop where
  len : fills.length = d.segs.length
  vd : ∀ f ∈ fills, Pc.Vd f
  cap : ∀ (i : Nat) f s, fills[i]? = some f → d.segs[i]? = some s → Pc.vol f = s.1.cp
theorem acheck_fn (d : LineD) (hd : LineOk d) (hn : NetC d) (fills : List (List (Int × Int))) (hf : FillsOk d fills) : FnOk Tryz.prog 24 [.t (.agg d.net), .t (.sl 1 (fills.map encPs))] [] (.t (.int 0)) [] := by
  have w1 := hd.w1
  have w2 := hd.w2
  have w3 := hd.w3
  have w4 := hd.w4
  have hmS := hd.maxS
  obtain ⟨f1, f2, f3⟩ := hf
  have c2 := acr_cont fills (by omega) (fun p hp => acheck1_fn p (f2 p hp))
  unfold NetC at hn
  refine FnOk.intro fact_mixed Tryz.func24 rfl Tryz.ntmps24 (by rfl) (by simp) ?_
  repeat (first | (refine nf1_sound rfl ?_; simp [go_sem, ↓iO, iO, tN, w1, w2, w3, w4]) | refine anI ?_ | refine ⟨dcK, ?_⟩ | ((first | refine iP ?_ | refine iN ?_); try simp [go_sem, ↓iO, iO, tN, w1, w2, w3, w4]))
  refine CallK.fn (hn) [] [] [] (by kernel_rfl) ?_ ?_ ?_ (Or.inl rfl) ?_ <;> simp [go_sem, ↓iO, iO, tN, w1, w2, w3, w4]
  repeat (refine anI ?_)
  try (refine ⟨dcK, ?_⟩)
  repeat (first | (refine nf1_sound rfl ?_; simp [go_sem, ↓iO, iO, tN, w1, w2, w3, w4, f1]) | refine anI ?_ | refine ⟨dcK, ?_⟩ | ((first | refine iP ?_ | refine iN ?_); try simp [go_sem, ↓iO, iO, tN, w1, w2, w3, w4, f1]))
  refine CallK.fn (c2) [] [] [] (by kernel_rfl) ?_ ?_ ?_ (Or.inl rfl) ?_ <;> simp [go_sem, ↓iO, iO, tN, w1, w2, w3, w4, f1]
  repeat (refine anI ?_)
  try (refine ⟨dcK, ?_⟩)
  repeat (first | (refine nf1_sound rfl ?_; simp [go_sem, ↓iO, iO, tN, w1, w2, w3, w4, f1]) | refine anI ?_ | refine ⟨dcK, ?_⟩ | ((first | refine iP ?_ | refine iN ?_); try simp [go_sem, ↓iO, iO, tN, w1, w2, w3, w4, f1]))
  refine nf1_sound' _ _ _ ?_; simp only [nf1]
  refine CW.loop (ι := Nat) (fun k => ⟨[(2, .pt 102 [] 0), (23, .t (.sl 1 (fills.map encPs))), (24, .t (.int fills.length)), (25, .t (.int k))], [(102, .box 33 (.t (.agg d.net)))]⟩) (fun k => k ≤ fills.length) (fun k => fills.length - k) 0 [(102, some 102)] (by omega) ?_ ?_
  · simp [go_sem, ↓iO, iO, tN, f1]
  intro k hk
  by_cases hb : k < fills.length
  · obtain ⟨f, hp⟩ := has_get hb
    obtain ⟨s, hs⟩ : ∃ s, d.segs[k]? = some s := has_get (by omega)
    have hv := f3 k f s hp hs
    have cv := volume_fn f (f2 f (mem_get hp))
    rw [hv] at cv
    obtain ⟨⟨nm, fr, to, cp, rs, wv⟩, pts⟩ := s
    dsimp only at cv
    have hp2 : fills[k] = f := (List.getElem?_eq_some_iff.1 hp).2
    have hs2 : d.segs[k] = (⟨nm, fr, to, cp, rs, wv⟩, pts) := (List.getElem?_eq_some_iff.1 hs).2
    have hb2 : k < d.segs.length := by omega
    repeat (first | (refine nf1_sound rfl ?_; simp [go_sem, ↓iO, iO, tN, hp, hp2, hs, hs2, hb, hb2, w1, w2, w3, w4]) | refine anI ?_ | refine ⟨dcK, ?_⟩ | ((first | refine iP ?_ | refine iN ?_); try simp [go_sem, ↓iO, iO, tN, hp, hp2, hs, hs2, hb, hb2, w1, w2, w3, w4]))
    refine CallK.fn (cv) [] [] [] (by kernel_rfl) ?_ ?_ ?_ (Or.inl rfl) ?_ <;> simp [go_sem, ↓iO, iO, tN, hp, hp2, hs, hs2, hb, hb2, w1, w2, w3, w4]
    repeat (refine anI ?_)
    try (refine ⟨dcK, ?_⟩)
    repeat (first | (refine nf1_sound rfl ?_; simp [go_sem, ↓iO, iO, tN, hp, hp2, hs, hs2, hb, hb2, w1, w2, w3, w4]) | refine anI ?_ | refine ⟨dcK, ?_⟩ | ((first | refine iP ?_ | refine iN ?_); try simp [go_sem, ↓iO, iO, tN, hp, hp2, hs, hs2, hb, hb2, w1, w2, w3, w4]))
    rw [RoundQ_normal]; refine ⟨k + 1, [(102, some 102)], ?_, ?_, ?_⟩
    · omega
    · omega
    simp [go_sem, ↓iO, iO, tN]
  · obtain rfl : k = fills.length := by omega
    repeat (first | (refine nf1_sound rfl ?_; simp [go_sem, ↓iO, iO, tN]) | refine anI ?_ | refine ⟨dcK, ?_⟩ | ((first | refine iP ?_ | refine iN ?_); try simp [go_sem, ↓iO, iO, tN]))
    first | rw [RetQ_ret] | rw [RetQ_normal]
    refine ⟨[], ?_⟩
    simp [go_sem, ↓iO, iO, tN]
theorem map_some (l : List (List (Int × Int))) : (l.map some).map encGv = l.map encPs := by rw [List.map_map]; rfl
theorem astart_fn (d : LineD) (hd : LineOk d) (hn : NetC d) (fills : List (List (Int × Int))) (hf : FillsOk d fills) (ord : List Int) (ho : FnOk Tryz.prog 48 [.t (.agg d.net), .t (.agg d.plan)] [] (.tup [.t (.sl 1 (ord.map encI)), .t (.int 0)]) [])
    (hfd : ∀ b ∈ d.feeds, 0 ≤ b ∧ b < 1000) :
    FnOk Tryz.prog 25 [.t (.agg d.net), .t (.sl 1 (fills.map encPs)), .t (.agg d.plan), .t (.sl 1 (d.feeds.map encI))] []
      (.tup [.pt 1000 [] 0, .t (.int 0)]) [(1000, .box 76 (.ag [.t (.agg d.net), .t (.agg d.plan), .t (.sl 1 (d.feeds.map encI)), .t (.sl 1 (ord.map encI)), .own 1001, .t (.lit (.slice none 0 0)), .t (.lit (.slice none 0 0))])), (1001, blkG (fills.map some))] := by
  have w1 := hd.w1
  have w2 := hd.w2
  have w3 := hd.w3
  have w4 := hd.w4
  have w5 := hd.w5
  have hmS := hd.maxS
  have hmP := hd.maxP
  have hlF := hd.lenF
  have f1 := hf.len
  have c1 := acheck_fn d hd hn fills hf
  have c2 := sti_cont d.feeds (by omega) (fun p hp => start1_fn p (hfd p hp))
  refine FnOk.intro fact_mixed Tryz.func25 rfl Tryz.ntmps25 (by rfl) (by simp) ?_
  repeat (first | (refine nf1_sound rfl ?_; simp [go_sem, ↓iO, iO, tN, w1, w2, w3, w4, w5]) | refine anI ?_ | refine ⟨dcK, ?_⟩ | ((first | refine iP ?_ | refine iN ?_); try simp [go_sem, ↓iO, iO, tN, w1, w2, w3, w4, w5]))
  refine CallK.fn (c1) [] [] [] (by kernel_rfl) ?_ ?_ ?_ (Or.inl rfl) ?_ <;> simp [go_sem, ↓iO, iO, tN, w1, w2, w3, w4, w5]
  repeat (refine anI ?_)
  try (refine ⟨dcK, ?_⟩)
  repeat (first | (refine nf1_sound rfl ?_; simp [go_sem, ↓iO, iO, tN, w1, w2, w3, w4, w5]) | refine anI ?_ | refine ⟨dcK, ?_⟩ | ((first | refine iP ?_ | refine iN ?_); try simp [go_sem, ↓iO, iO, tN, w1, w2, w3, w4, w5]))
  refine CallK.fn (ho) [] [] [] (by kernel_rfl) ?_ ?_ ?_ (Or.inl rfl) ?_ <;> simp [go_sem, ↓iO, iO, tN, w1, w2, w3, w4, w5]
  repeat (refine anI ?_)
  try (refine ⟨dcK, ?_⟩)
  repeat (first | (refine nf1_sound rfl ?_; simp [go_sem, ↓iO, iO, tN, w1, w2, w3, w4, w5, hlF]) | refine anI ?_ | refine ⟨dcK, ?_⟩ | ((first | refine iP ?_ | refine iN ?_); try simp [go_sem, ↓iO, iO, tN, w1, w2, w3, w4, w5, hlF]))
  refine CallK.fn (c2) [] [] [] (by kernel_rfl) ?_ ?_ ?_ (Or.inl rfl) ?_ <;> simp [go_sem, ↓iO, iO, tN, w1, w2, w3, w4, w5, hlF]
  repeat (refine anI ?_)
  try (refine ⟨dcK, ?_⟩)
  repeat (first | (refine nf1_sound rfl ?_; simp [go_sem, ↓iO, iO, tN, w1, w2, w3, w4, w5, hlF]) | refine anI ?_ | refine ⟨dcK, ?_⟩ | ((first | refine iP ?_ | refine iN ?_); try simp [go_sem, ↓iO, iO, tN, w1, w2, w3, w4, w5, hlF]))
  refine nf1_sound' _ _ _ ?_; simp only [nf1]
  refine CW.loop (ι := Nat) (fun k => ⟨[(13, .pt 146 [] 0), (47, .t (.sl 1 (fills.map encPs))), (48, .t (.int fills.length)), (49, .t (.int k))], [(146, .box 76 (.ag [.t (.agg d.net), .t (.agg d.plan), .t (.sl 1 (d.feeds.map encI)), .t (.sl 1 (ord.map encI)), .own 500, .t (.lit (.slice none 0 0)), .t (.lit (.slice none 0 0))])), (500, .list 41 1 ((fills.take k).map encPs))]⟩) (fun k => k ≤ fills.length) (fun k => fills.length - k) 0 [(146, some 146), (500, none)] (by omega) ?_ ?_
  · simp [go_sem, ↓iO, iO, tN]
    simp only [wkXs]
    exact ⟨wkT_refl _, rfl, wkT_refl _, rfl, wkT_refl _, rfl, wkT_refl _, rfl, rfl, rfl, wkT_refl _, rfl, wkT_refl _, rfl, trivial⟩
  intro k hk
  by_cases hb : k < fills.length
  · obtain ⟨f, hp⟩ := has_get hb
    have hfl := (hf.vd f (mem_get hp)).len
    have hp2 : fills[k] = f := (List.getElem?_eq_some_iff.1 hp).2
    have cc := clone_fn f (by omega)
    have e1 : (fills.take k).map encPs ++ [encPs f] = (fills.take (k + 1)).map encPs := by
      rw [List.take_succ_eq_append_getElem hb, hp2]; simp
    simp only [encPs] at e1
    repeat (first | (refine nf1_sound rfl ?_; simp [go_sem, ↓iO, iO, tN, hp, hp2, hb, w1, w2, w3, w4, w5]) | refine anI ?_ | refine ⟨dcK, ?_⟩ | ((first | refine iP ?_ | refine iN ?_); try simp [go_sem, ↓iO, iO, tN, hp, hp2, hb, w1, w2, w3, w4, w5]))
    refine CallK.fn (cc) [(1000, 600)] [] [] (by kernel_rfl) ?_ ?_ ?_ (Or.inl rfl) ?_ <;> simp [go_sem, ↓iO, iO, tN, hp, hp2, hb, w1, w2, w3, w4, w5]
    repeat (refine anI ?_)
    try (refine ⟨dcK, ?_⟩)
    repeat (first | (refine nf1_sound rfl ?_; simp [go_sem, ↓iO, iO, tN, hp, hp2, hb, w1, w2, w3, w4, w5]) | refine anI ?_ | refine ⟨dcK, ?_⟩ | ((first | refine iP ?_ | refine iN ?_); try simp [go_sem, ↓iO, iO, tN, hp, hp2, hb, w1, w2, w3, w4, w5]))
    rw [RoundQ_normal]; refine ⟨k + 1, [(146, some 146), (500, some 161)], ?_, ?_, ?_⟩
    · omega
    · omega
    have e2 := e1
    simp only [List.map_take] at e2
    simp [go_sem, ↓iO, iO, tN, e2.symm]
  · obtain rfl : k = fills.length := by omega
    rw [List.take_length]
    repeat (first | (refine nf1_sound rfl ?_; simp [go_sem, ↓iO, iO, tN]) | refine anI ?_ | refine ⟨dcK, ?_⟩ | ((first | refine iP ?_ | refine iN ?_); try simp [go_sem, ↓iO, iO, tN]))
    first | rw [RetQ_ret] | rw [RetQ_normal]
    refine ⟨[(1000, some 146), (1001, some 500)], ?_⟩
    simp [go_sem, ↓iO, iO, tN, map_some]
theorem atick_fn (d : LineD) (hd : LineOk d) (hn : NetC d) (fills : List (List (Int × Int))) (hf : FillsOk d fills) (ord : List Int) (hol : ord.length ≤ 1000) (ho : FnOk Tryz.prog 48 [.t (.agg d.net), .t (.agg d.plan)] [] (.tup [.t (.sl 1 (ord.map encI)), .t (.int 0)]) [])
    (hfd : ∀ b ∈ d.feeds, 0 ≤ b ∧ b < 1000) (F G O : Nat → List (Option (List (Int × Int)))) (hF0 : F 0 = fills.map some) (hG0 : G 0 = List.replicate d.segs.length none) (hO0 : O 0 = List.replicate d.ports.length none)
    (hN : ∀ k node, ord[k]? = some node → NodeC d (.sl 1 (ord.map encI)) node (F k) (G k) (O k) (F (k + 1)) (G (k + 1)) (O (k + 1))) :
    FnOk Tryz.prog 9 [.t (.agg d.net), .t (.sl 1 (fills.map encPs)), .t (.agg d.plan), .t (.sl 1 (d.feeds.map encI))] []
      (.tup [.own 1000, .own 1001, .t (.int 0)]) [(1000, blkG (F ord.length)), (1001, blkG (O ord.length))] := by
  have w1 := hd.w1
  have w2 := hd.w2
  have w3 := hd.w3
  have w4 := hd.w4
  have w5 := hd.w5
  have c1 := astart_fn d hd hn fills hf ord ho hfd
  have c2 := tick0_fn d hd ord hol F G O hG0 hO0 hN
  rw [hF0] at c2
  obtain ⟨X, hX⟩ : ∃ X, fills.map some = X := ⟨_, rfl⟩
  rw [hX] at c1 c2
  obtain ⟨F1, hF1⟩ : ∃ F1, F ord.length = F1 := ⟨_, rfl⟩
  obtain ⟨G1, hG1⟩ : ∃ G1, G ord.length = G1 := ⟨_, rfl⟩
  obtain ⟨O1, hO1⟩ : ∃ O1, O ord.length = O1 := ⟨_, rfl⟩
  rw [hF1, hG1, hO1] at c2
  rw [hF1, hO1]
  refine FnOk.intro fact_mixed Tryz.func9 rfl Tryz.ntmps9 (by rfl) (by simp) ?_
  repeat (first | (refine nf1_sound rfl ?_; simp [go_sem, ↓iO, iO, tN, w1, w2, w3, w4, w5]) | refine anI ?_ | refine ⟨dcK, ?_⟩ | ((first | refine iP ?_ | refine iN ?_); try simp [go_sem, ↓iO, iO, tN, w1, w2, w3, w4, w5]))
  refine CallK.fn (c1) [(1000, 600), (1001, 601)] [] [] (by kernel_rfl) ?_ ?_ ?_ (Or.inl rfl) ?_ <;> simp [go_sem, ↓iO, iO, tN, w1, w2, w3, w4, w5]
  repeat (refine anI ?_)
  try (refine ⟨dcK, ?_⟩)
  repeat (first | (refine nf1_sound rfl ?_; simp [go_sem, ↓iO, iO, tN, w1, w2, w3, w4, w5]) | refine anI ?_ | refine ⟨dcK, ?_⟩ | ((first | refine iP ?_ | refine iN ?_); try simp [go_sem, ↓iO, iO, tN, w1, w2, w3, w4, w5]))
  refine CallK.fn (c2) [(0, 600), (1, 601), (1000, 602), (1001, 603)] [] [] (by kernel_rfl) ?_ ?_ ?_ (Or.inl rfl) ?_ <;> simp [go_sem, ↓iO, iO, tN, w1, w2, w3, w4, w5]
  repeat (refine anI ?_)
  try (refine ⟨dcK, ?_⟩)
  repeat (first | (refine nf1_sound rfl ?_; simp [go_sem, ↓iO, iO, tN, w1, w2, w3, w4, w5]) | refine anI ?_ | refine ⟨dcK, ?_⟩ | ((first | refine iP ?_ | refine iN ?_); try simp [go_sem, ↓iO, iO, tN, w1, w2, w3, w4, w5]))
  first | rw [RetQ_ret] | rw [RetQ_normal]
  refine ⟨[(1000, some 601), (1001, some 603)], ?_⟩
  simp [go_sem, ↓iO, iO, tN]
end Go.Proofs.YtdjmklobfjigoaaGreatDoor
namespace Go.Proofs.YtdjmklobfjigoaaGreatDoor
open Go.RowKit Sy Dl
open Go.IntWalk renaming iteOmega → iO, toNatUp → tN
def TickC (d : LineD) (ord : List Int) (f0 f1 g1 o1 : List (Option (List (Int × Int)))) : Prop := ∀ gi oo : List (Option (List (Int × Int))),
  FnOk Tryz.prog 26 [.pt 0 [] 0] [(0, lineX d.net d.plan (.sl 1 (d.feeds.map encI)) (.sl 1 (ord.map encI)) (.own 2) (.own 3)), (1, blkG f0), (2, blkG gi), (3, blkG oo)]
      (.t (.int 0)) [(0, lineX d.net d.plan (.sl 1 (d.feeds.map encI)) (.sl 1 (ord.map encI)) (.own 1000) (.own 1001)), (1, blkG f1), (1000, blkG g1), (1001, blkG o1)]
def allV (O : Nat → List (Option (List (Int × Int)))) : Nat → Nat → List (Int × Int)
  | 0, i => []
  | k + 1, i => allV O k i ++ ((O (k + 1)).getD i none).getD []
@[go_sem] def lineY (net plan : List T) (feeds order : T) (f a b : S) : Blk := .box 76 (.ag [.t (.agg net), .t (.agg plan), .t feeds, .t order, f, a, b])
theorem arun_fn (d : LineD) (hd : LineOk d) (hn : NetC d) (fills : List (List (Int × Int))) (hf : FillsOk d fills) (ord : List Int) (ho : FnOk Tryz.prog 48 [.t (.agg d.net), .t (.agg d.plan)] [] (.tup [.t (.sl 1 (ord.map encI)), .t (.int 0)]) [])
    (hfd : ∀ b ∈ d.feeds, 0 ≤ b ∧ b < 1000) (ticks : Nat) (ht : ticks ≤ 400) (F G O : Nat → List (Option (List (Int × Int)))) (hF0 : F 0 = fills.map some) (hG0 : G 0 = []) (hO0 : O 0 = []) (hOl : ∀ k, (O (k + 1)).length = d.ports.length)
    (hT : ∀ k, k < ticks → TickC d ord (F k) (F (k + 1)) (G (k + 1)) (O (k + 1))) (hS : ∀ k i, k < ticks → Pc.Sane (allV O (k + 1) i)) (hz : ∀ k i p, k < ticks → p ∈ ((O (k + 1)).getD i none).getD [] → p.2 ≠ 0) (hL : ∀ k i, k < ticks → (Pc.join (allV O (k + 1) i)).length ≤ 200) :
    FnOk Tryz.prog 16 [.t (.agg d.net), .t (.sl 1 (fills.map encPs)), .t (.agg d.plan), .t (.sl 1 (d.feeds.map encI)), .t (.int ticks)] []
      (.tup [.own 1000, .t (.sl 1 ((List.range d.ports.length).map fun i => encPs (Pc.join (allV O ticks i)))), .t (.int 0)]) [(1000, blkG (F ticks))] := by
  have w1 := hd.w1
  have w2 := hd.w2
  have w3 := hd.w3
  have w4 := hd.w4
  have w5 := hd.w5
  have hmP := hd.maxP
  have c1 := astart_fn d hd hn fills hf ord ho hfd
  rw [← hF0] at c1
  obtain ⟨W, wl, wg, ws, wn, w0, wt, wf⟩ := rows_ex 40 d.ports.length (fun k i => Pc.join (allV O k i))
  have hW0 := w0 (fun q => rfl)
  have hwt := wt ticks
  refine FnOk.intro fact_mixed Tryz.func16 rfl Tryz.ntmps16 (by rfl) (by simp) ?_
  repeat (first | (refine nf1_sound rfl ?_; simp [go_sem, ↓iO, iO, tN, w1, w2, w3, w4, w5]) | refine anI ?_ | refine ⟨dcK, ?_⟩ | ((first | refine iP ?_ | refine iN ?_); try simp [go_sem, ↓iO, iO, tN, w1, w2, w3, w4, w5]))
  refine CallK.fn (c1) [(1000, 600), (1001, 601)] [] [] (by kernel_rfl) ?_ ?_ ?_ (Or.inl rfl) ?_ <;> simp [go_sem, ↓iO, iO, tN, w1, w2, w3, w4, w5]
  repeat (refine anI ?_)
  try (refine ⟨dcK, ?_⟩)
  repeat (first | (refine nf1_sound rfl ?_; simp [go_sem, ↓iO, iO, tN, w1, w2, w3, w4, w5]) | refine anI ?_ | refine ⟨dcK, ?_⟩ | ((first | refine iP ?_ | refine iN ?_); try simp [go_sem, ↓iO, iO, tN, w1, w2, w3, w4, w5]))
  refine nf1_sound' _ _ _ ?_; simp only [nf1]
  refine CW.toRows 139 (W 0 0) (e := 41) (s := 1) (xs := List.replicate d.ports.length (.lit (.slice none 0 0))) (by rfl) (by rw [wl]; simp) (fun i x u h1 h2 => ?_) ?_
  · rw [hW0, List.getElem?_replicate] at h2
    rw [List.getElem?_replicate] at h1
    split at h1
    · rename_i hi
      rw [if_pos hi] at h2
      cases h1; cases h2
      unfold relTU; trivial
    · cases h1
  simp [go_sem, ↓iO, iO, tN]
  refine CW.loop (ι := Nat) (fun k => ⟨[(13, .pt 600 [] 0), (15, .own 511), (40, .t (.int ticks)), (41, .t (.int k))], [(600, lineY d.net d.plan (.sl 1 (d.feeds.map encI)) (.sl 1 (ord.map encI)) (.own 601) (.own 602) (.own 603)), (601, blkG (F k)), (602, blkG (G k)), (603, blkG (O k)), (511, .rows 41 1 (W k 0) [])]⟩) (fun k => k ≤ ticks) (fun k => ticks - k) 0
    [(600, some 600), (601, some 601), (602, none), (603, none), (511, some 139)] (by omega) ?_ ?_
  · simp [go_sem, ↓iO, iO, tN, hG0, hO0]
  intro k hk
  by_cases hb : k < ticks
  · have ct := hT k hb (G k) (O k)
    have hol := hOl k
    obtain ⟨F0, hF0⟩ : ∃ X, F k = X := ⟨_, rfl⟩
    obtain ⟨G0, hG0⟩ : ∃ X, G k = X := ⟨_, rfl⟩
    obtain ⟨O0, hO0⟩ : ∃ X, O k = X := ⟨_, rfl⟩
    obtain ⟨F1, hF1⟩ : ∃ X, F (k + 1) = X := ⟨_, rfl⟩
    obtain ⟨G1, hG1⟩ : ∃ X, G (k + 1) = X := ⟨_, rfl⟩
    obtain ⟨O1, hO1⟩ : ∃ X, O (k + 1) = X := ⟨_, rfl⟩
    rw [hF0, hG0, hO0, hF1, hG1, hO1] at ct
    rw [hF0, hG0, hO0]
    rw [hO1] at hol
    repeat (first | (refine nf1_sound rfl ?_; simp [go_sem, ↓iO, iO, tN, hb]) | refine anI ?_ | refine ⟨dcK, ?_⟩ | ((first | refine iP ?_ | refine iN ?_); try simp [go_sem, ↓iO, iO, tN, hb]))
    refine CallK.fn (ct) [(0, 600), (1, 601), (2, 602), (3, 603), (1000, 612), (1001, 613)] [] [] (by kernel_rfl) ?_ ?_ ?_ (Or.inl rfl) ?_ <;> simp [go_sem, ↓iO, iO, tN]
    repeat (refine anI ?_)
    try (refine ⟨dcK, ?_⟩)
    repeat (first | (refine nf1_sound rfl ?_; simp [go_sem, ↓iO, iO, tN]) | refine anI ?_ | refine ⟨dcK, ?_⟩ | ((first | refine iP ?_ | refine iN ?_); try simp [go_sem, ↓iO, iO, tN]))
    refine nf1_sound' _ _ _ ?_; simp only [nf1]
    refine CW.loop (ι := Nat) (fun i => ⟨[(13, .pt 600 [] 0), (15, .own 511), (40, .t (.int ticks)), (41, .t (.int k)), (51, .own 613), (52, .t (.int d.ports.length)), (53, .t (.int i))], [(600, lineY d.net d.plan (.sl 1 (d.feeds.map encI)) (.sl 1 (ord.map encI)) (.own 601) (.own 612) (.own 613)), (601, blkG F1), (612, blkG G1), (613, blkG O1), (511, .rows 41 1 (W k i) [])]⟩) (fun i => i ≤ d.ports.length) (fun i => d.ports.length - i) 0
      [(600, some 600), (601, some 601), (612, some 612), (613, some 613), (511, some 511)] (by omega) ?_ ?_
    · simp [go_sem, ↓iO, iO, tN, hol]
    intro i hi
    by_cases hb2 : i < d.ports.length
    · have hwl := wl k i
      have hwg := wg k i hb2
      have hws := ws k i hb2
      obtain ⟨o, hoi⟩ : ∃ o, O1[i]? = some o := has_get (by omega)
      have hoi2 : O1[i]'(by omega) = o := (List.getElem?_eq_some_iff.1 hoi).2
      have hod : (O1.getD i none).getD [] = o.getD [] := by rw [List.getD_eq_getElem?_getD, hoi]; rfl
      have ha : allV O (k + 1) i = allV O k i ++ o.getD [] := by simp only [allV, hO1, hod]
      have hs := hS k i hb
      have hzz := fun p => hz k i p hb
      rw [hO1, hod] at hzz
      have hll := hL k i hb
      rw [ha] at hs hws hll
      have j1 := join_fn (allV O k i) (o.getD []) hs hzz
      obtain ⟨J, hJ⟩ : ∃ J, Pc.join (allV O k i) = J := ⟨_, rfl⟩
      obtain ⟨J2, hJ2⟩ : ∃ J2, Pc.join (allV O k i ++ o.getD []) = J2 := ⟨_, rfl⟩
      rw [hJ, hJ2] at j1
      rw [hJ] at hwg
      rw [hJ2] at hws hll
      obtain ⟨X1, hX1⟩ : ∃ X, W k i = X := ⟨_, rfl⟩
      rw [hX1] at hwl hwg hws ⊢
      have hol2 : i < O1.length := by omega
      cases o with
      | none =>
        iterate 4 (refine nf1_sound rfl ?_; simp [go_sem, ↓iO, iO, tN, hoi, hoi2, hol2, hb2, hol, widths_gv, width_gv]; (repeat (refine anI ?_)); try (refine ⟨dcK, ?_⟩))
        refine CW.openRow 511 i 555 (us := X1) (ex := []) (u := .ow 40 2 (J.map encP)) (b := .list 40 2 (J.map encP)) (by rfl) hwg (by rfl) (by rfl) (by kernel_rfl) (by omega) ?_
        simp [go_sem, ↓iO, iO, tN]
        iterate 1 (refine nf1_sound rfl ?_; simp [go_sem, ↓iO, iO, tN, hwl, hwg, hb2]; (repeat (refine anI ?_)); try (refine ⟨dcK, ?_⟩))
        refine CallK.fn (j1) [(0, 555), (1000, 660)] [] [] (by kernel_rfl) ?_ ?_ ?_ (Or.inl rfl) ?_ <;> simp [go_sem, ↓iO, iO, tN, hwl, hwg, hb2]
        repeat (refine anI ?_)
        try (refine ⟨dcK, ?_⟩)
        iterate 1 (refine nf1_sound rfl ?_; simp [go_sem, ↓iO, iO, tN, hwl, hwg, hb2, hll]; (repeat (refine anI ?_)); try (refine ⟨dcK, ?_⟩))
        refine CW.closeRow 511 i 660 (.ow 40 2 (J2.map encP)) (us := X1) (ex := [(i, .own 660)]) (by rfl) (by rfl) (by simp [go_sem]) (by rfl) ?_
        simp [go_sem, ↓iO, iO, tN, hws]
        repeat (first | (refine nf1_sound rfl ?_; simp [go_sem, ↓iO, iO, tN, hll]) | refine anI ?_ | refine ⟨dcK, ?_⟩ | ((first | refine iP ?_ | refine iN ?_); try simp [go_sem, ↓iO, iO, tN, hll]))
        rw [RoundQ_normal]; refine ⟨i + 1, [(600, some 600), (601, some 601), (612, some 612), (613, some 613), (511, some 511)], ?_, ?_, ?_⟩
        · omega
        · omega
        simp [go_sem, ↓iO, iO, tN]
      | some o =>
        iterate 4 (refine nf1_sound rfl ?_; simp [go_sem, ↓iO, iO, tN, hoi, hoi2, hol2, hb2, hol, widths_gv, width_gv]; (repeat (refine anI ?_)); try (refine ⟨dcK, ?_⟩))
        refine CW.openRow 511 i 555 (us := X1) (ex := []) (u := .ow 40 2 (J.map encP)) (b := .list 40 2 (J.map encP)) (by rfl) hwg (by rfl) (by rfl) (by kernel_rfl) (by omega) ?_
        simp [go_sem, ↓iO, iO, tN]
        iterate 1 (refine nf1_sound rfl ?_; simp [go_sem, ↓iO, iO, tN, hwl, hwg, hb2]; (repeat (refine anI ?_)); try (refine ⟨dcK, ?_⟩))
        refine CallK.fn (j1) [(0, 555), (1000, 660)] [] [] (by kernel_rfl) ?_ ?_ ?_ (Or.inl rfl) ?_ <;> simp [go_sem, ↓iO, iO, tN, hwl, hwg, hb2]
        repeat (refine anI ?_)
        try (refine ⟨dcK, ?_⟩)
        iterate 1 (refine nf1_sound rfl ?_; simp [go_sem, ↓iO, iO, tN, hwl, hwg, hb2, hll]; (repeat (refine anI ?_)); try (refine ⟨dcK, ?_⟩))
        refine CW.closeRow 511 i 660 (.ow 40 2 (J2.map encP)) (us := X1) (ex := [(i, .own 660)]) (by rfl) (by rfl) (by simp [go_sem]) (by rfl) ?_
        simp [go_sem, ↓iO, iO, tN, hws]
        repeat (first | (refine nf1_sound rfl ?_; simp [go_sem, ↓iO, iO, tN, hll]) | refine anI ?_ | refine ⟨dcK, ?_⟩ | ((first | refine iP ?_ | refine iN ?_); try simp [go_sem, ↓iO, iO, tN, hll]))
        rw [RoundQ_normal]; refine ⟨i + 1, [(600, some 600), (601, some 601), (612, some 612), (613, some 613), (511, some 511)], ?_, ?_, ?_⟩
        · omega
        · omega
        simp [go_sem, ↓iO, iO, tN]
    · obtain rfl : i = d.ports.length := by omega
      rw [wn]
      repeat (first | (refine nf1_sound rfl ?_; simp [go_sem, ↓iO, iO, tN]) | refine anI ?_ | refine ⟨dcK, ?_⟩ | ((first | refine iP ?_ | refine iN ?_); try simp [go_sem, ↓iO, iO, tN]))
      rw [RoundQ_normal]; refine ⟨k + 1, [(600, some 600), (601, some 601), (602, some 612), (603, some 613), (511, some 511)], ?_, ?_, ?_⟩
      · omega
      · omega
      simp [go_sem, ↓iO, iO, tN, hF1, hG1, hO1]
  · obtain rfl : k = ticks := by omega
    repeat (first | (refine nf1_sound rfl ?_; simp [go_sem, ↓iO, iO, tN]) | refine anI ?_ | refine ⟨dcK, ?_⟩ | ((first | refine iP ?_ | refine iN ?_); try simp [go_sem, ↓iO, iO, tN]))
    first | rw [RetQ_ret] | rw [RetQ_normal]
    refine ⟨[(1000, some 601)], ?_⟩
    simp [go_sem, ↓iO, iO, tN, hwt]
end Go.Proofs.YtdjmklobfjigoaaGreatDoor
namespace Go.Proofs.YtdjmklobfjigoaaGreatDoor
open Go.RowKit Sy Dl
abbrev Fi := List (Option (List (Int × Int)))
theorem node_seg (d : LineD) (hd : LineOk d) (order : T) (w6 : order.width = 1) (fi gi oo : Fi) (node : Int) (hg : gi.length = d.segs.length) (hfl : fi.length = d.segs.length) (hol : oo.length = d.ports.length)
    (l : List (Int × Int)) (hc : comesV d gi node = l) (hnz : ∀ z ∈ segYs node true 0 (d.segs.map (·.1)) d.rates, ∀ p ∈ gvAt gi z, p.2 ≠ 0) (hl : Pc.Vd l) (hne : l ≠ []) (k : Nat) (r : Int) (hP : prtYs node false 0 d.ports d.prates = []) (hS : segYs node false 0 (d.segs.map (·.1)) d.rates = [(k, r)])
    (hr : 0 < r) (h1 : r ≤ 1000) (hv : Pc.vol l = r) (f n o : List (Int × Int)) (hf : fi[k]? = some (some f)) (hfv : Pc.Vd f) (hp : PushOk f (if backAt d.rates (k, r) then l else l.reverse) (backAt d.rates (k, r)) n o) :
    NodeC d order node fi gi oo (fi.set k (some n)) (gi.set k (some (if backAt d.rates (k, r) then o else o.reverse))) oo := by
  have hg0 : gvAt fi (k, r) = f := by unfold gvAt; rw [List.getD_eq_getElem?_getD, hf]; rfl
  have hfl2 := hfv.len
  have hll := hl.len
  have hol2 := hp.vo.len
  obtain ⟨b, hb⟩ : ∃ b, backAt d.rates (k, r) = b := ⟨_, rfl⟩
  rw [hb] at hp ⊢
  have hfill : fillV f l b = n := by
    cases b <;> simp [fillV] <;> simp only [Bool.false_eq_true, if_false, if_true] at hp <;> simp [hp.eq]
  have hout : outV f l b = if b then o else o.reverse := by
    cases b <;> simp [outV] <;> simp only [Bool.false_eq_true, if_false, if_true] at hp <;> simp [hp.eq]
  have hpe : pushE f l b = 0 := by
    cases b <;> simp [pushE] <;> simp only [Bool.false_eq_true, if_false, if_true] at hp <;> simp [hp.eq]
  have := node_fn d hd order w6 fi gi oo node hg hfl hol (by rw [hc]; exact hl.sane) hnz l (by rw [hc]; exact Pc.join_self hl.canon) hne hll [] [(k, r)] hP hS [l] (deal_one r hr h1 l hl (by omega) hne) rfl
    (fun j y hy => by
      match j, hy with
      | 0, hy =>
        simp at hy; subst hy
        rw [hb, hg0]
        refine ⟨⟨f, hf, by omega⟩, by simp; omega, ?_, by simpa using hpe⟩
        simp only [List.length_nil, Nat.zero_add, List.getD_cons_zero]
        rw [hout]
        cases b <;> simp <;> omega
      | j + 1, hy => simp at hy)
  unfold NodeC
  simp only [List.length_singleton, List.length_nil, setK, nodeF, nodeG, outO, List.getD_cons_zero, hb, hg0, Nat.zero_add, hfill, hout] at this
  exact this
theorem node_prt (d : LineD) (hd : LineOk d) (order : T) (w6 : order.width = 1) (fi gi oo : Fi) (node : Int) (hg : gi.length = d.segs.length) (hfl : fi.length = d.segs.length) (hol : oo.length = d.ports.length)
    (l : List (Int × Int)) (hc : comesV d gi node = l) (hnz : ∀ z ∈ segYs node true 0 (d.segs.map (·.1)) d.rates, ∀ p ∈ gvAt gi z, p.2 ≠ 0) (hl : Pc.Vd l) (hne : l ≠ []) (k : Nat) (r : Int) (hP : prtYs node false 0 d.ports d.prates = [(k, r)]) (hS : segYs node false 0 (d.segs.map (·.1)) d.rates = [])
    (hr : 0 < r) (h1 : r ≤ 1000) (hv : Pc.vol l = r) :
    NodeC d order node fi gi oo fi gi (oo.set k (some l)) := by
  have hll := hl.len
  have := node_fn d hd order w6 fi gi oo node hg hfl hol (by rw [hc]; exact hl.sane) hnz l (by rw [hc]; exact Pc.join_self hl.canon) hne hll [(k, r)] [] hP hS [l] (deal_one r hr h1 l hl (by omega) hne) rfl (fun j y hy => by simp at hy)
  unfold NodeC
  simp only [List.length_singleton, List.length_nil, setK, nodeF, nodeG, outO, List.getD_cons_zero] at this
  exact this
theorem push_eq {f g n o : List (Int × Int)} {back : Bool} (hf : Pc.Vd f) (hg : Pc.Vd g) (h : Pc.shift f g back = (n, o)) (hn : n.length ≤ 200) (ho : o.length ≤ 200) : Pc.push f g back = (n, o, 0) := by
  unfold Pc.push
  rw [if_pos ⟨Pc.valid_t hf, Pc.valid_t hg⟩, h, if_pos ⟨hn, ho⟩]
theorem push_at {f g n o : List (Int × Int)} {back : Bool} (hf : Pc.Vd f) (hg : Pc.Vd g) (hl : f.length + g.length ≤ 200) (h : Pc.shift f g back = (n, o)) : PushOk f g back n o := by
  obtain ⟨n', o', hp⟩ := push_small hf hg hl back
  have := hp.eq
  rw [push_eq hf hg h ?_ ?_] at this
  · cases this; exact hp
  all_goals
    have h2 := hp.eq
    unfold Pc.push at h2
    rw [if_pos ⟨Pc.valid_t hf, Pc.valid_t hg⟩, h] at h2
    split at h2
    · rename_i h3; first | exact h3.1 | exact h3.2
    · cases h2
def rle (L : List Int) : List (Int × Int) := Pc.join (L.map fun b => (b, 1))
theorem rle_canon (L : List Int) : Pc.Canon (rle L) := Pc.join_canon (by simp)
theorem rle_lit (L : List Int) : Pc.litres (rle L) = L := by
  rw [rle, Pc.join_litres (by simp)]
  induction L with
  | nil => rfl
  | cons a r ih => rw [List.map_cons, Pc.litres_cons, ih]; rfl
theorem rle_of {f : List (Int × Int)} {L : List Int} (hc : Pc.Canon f) (h : Pc.litres f = L) : f = rle L := Pc.canon_unique hc (rle_canon L) (by rw [h, rle_lit])
theorem rle_take (L : List Int) (k : Nat) : (rle (L.take k)).length ≤ (rle L).length := by
  have hp : ∀ p ∈ rle L, 0 ≤ p.2 := fun p hp => Int.le_of_lt ((rle_canon L).pos p hp)
  have hh : ∀ p ∈ Pc.heads (rle L) k, 0 ≤ p.2 := by
    have := Pc.heads_each (rle L)
    intro p hp'
    obtain ⟨i, hi, rfl⟩ := List.getElem_of_mem hp'
    have gen : ∀ (ps : List (Int × Int)) (k : Int), (∀ p ∈ ps, 0 ≤ p.2) → 0 ≤ k → ∀ p ∈ Pc.heads ps k, 0 ≤ p.2 := by
      intro ps
      induction ps with
      | nil => intro k _ _ p hp; simp [Pc.heads] at hp
      | cons a r ih =>
        intro k ha hk p hp
        simp only [Pc.heads, List.mem_cons] at hp
        have h0 := ha a (by simp)
        rcases hp with rfl | hp
        · show 0 ≤ min a.2 k; omega
        · exact ih _ (fun q hq => ha q (by simp [hq])) (by omega) p hp
    exact gen _ _ hp (by omega) _ hp'
  have : rle (L.take k) = Pc.join (Pc.heads (rle L) k) := (rle_of (Pc.join_canon hh) (by rw [Pc.join_litres hh, Pc.heads_litres _ hp, rle_lit])).symm
  rw [this]
  have := Pc.join_length (Pc.heads (rle L) k)
  rw [Pc.heads_length] at this
  exact this
theorem rle_drop (L : List Int) (k : Nat) : (rle (L.drop k)).length ≤ (rle L).length := by
  have hp : ∀ p ∈ rle L, 0 ≤ p.2 := fun p hp => Int.le_of_lt ((rle_canon L).pos p hp)
  have hh : ∀ p ∈ Pc.tails (rle L) k, 0 ≤ p.2 := by
    have gen : ∀ (ps : List (Int × Int)) (k : Int), (∀ p ∈ ps, 0 ≤ p.2) → 0 ≤ k → ∀ p ∈ Pc.tails ps k, 0 ≤ p.2 := by
      intro ps
      induction ps with
      | nil => intro k _ _ p hp; simp [Pc.tails] at hp
      | cons a r ih =>
        intro k ha hk p hp
        simp only [Pc.tails, List.mem_cons] at hp
        have h0 := ha a (by simp)
        rcases hp with rfl | hp
        · show 0 ≤ a.2 - min a.2 k; omega
        · exact ih _ (fun q hq => ha q (by simp [hq])) (by omega) p hp
    exact gen _ _ hp (by omega)
  have : rle (L.drop k) = Pc.join (Pc.tails (rle L) k) := (rle_of (Pc.join_canon hh) (by rw [Pc.join_litres hh, Pc.tails_litres _ hp, rle_lit])).symm
  rw [this]
  have := Pc.join_length (Pc.tails (rle L) k)
  rw [Pc.tails_length] at this
  exact this
theorem canon_rev : ∀ {l : List (Int × Int)}, Pc.Canon l → Pc.Canon l.reverse
  | [], _ => trivial
  | p :: r, h => by
    obtain ⟨h0, h1, h2⟩ := h
    rw [List.reverse_cons, Pc.canon_snoc]
    refine ⟨canon_rev h2, h0, fun q hq => ?_⟩
    rw [List.getLast?_reverse] at hq
    exact fun e => h1 q hq e.symm
theorem rle_rev (L : List Int) : rle L.reverse = (rle L).reverse := (rle_of (canon_rev (rle_canon L)) (by rw [litres_rev, rle_lit])).symm
def win (X : List Int) (p n : Nat) : List Int := (X.drop p).take n
theorem win_len {X : List Int} {p n : Nat} (h : p + n ≤ X.length) : (win X p n).length = n := by simp only [win, List.length_take, List.length_drop]; omega
theorem win_mem {X : List Int} {p n : Nat} {b : Int} (h : b ∈ win X p n) : b ∈ X := List.mem_of_mem_drop (List.mem_of_mem_take h)
theorem win_app (X : List Int) (p n m : Nat) : win X p n ++ win X (p + n) m = win X p (n + m) := by
  simp only [win]
  rw [List.take_add, List.drop_drop]
theorem win_take (X : List Int) (p n m : Nat) (h : m ≤ n) : (win X p n).take m = win X p m := by simp only [win, List.take_take]; congr 1; omega
theorem win_drop (X : List Int) (p n m : Nat) : (win X p (m + n)).drop m = win X (p + m) n := by
  simp only [win]
  rw [List.drop_take, List.drop_drop]; congr 1; omega
structure TpOk (X : List Int) : Prop where
  bt : ∀ b ∈ X, 0 ≤ b ∧ b < 1000
  ln : X.length ≤ 1000000
  rn : (rle X).length ≤ 90
theorem vd_rle {L : List Int} (h1 : ∀ b ∈ L, 0 ≤ b ∧ b < 1000) (h2 : L.length ≤ 1000000) (h3 : (rle L).length ≤ 200) : Pc.Vd (rle L) := by
  refine Pc.vd_of_canon (rle_canon L) (fun p hp => ?_) h3 ?_
  · have := mem_litres hp ((rle_canon L).pos p hp)
    rw [rle_lit] at this
    exact h1 _ this
  · rw [vol_litres (rle_canon L), rle_lit]; omega
theorem win_rn {X : List Int} (h : TpOk X) (p n : Nat) : (rle (win X p n)).length ≤ 90 := by
  have h1 := rle_take (X.drop p) n
  have h2 := rle_drop X p
  have := h.rn
  simp only [win]; omega
theorem win_vd {X : List Int} (h : TpOk X) (p n : Nat) : Pc.Vd (rle (win X p n)) := by
  have h3 := win_rn h p n
  refine vd_rle (fun b hb => h.bt b (win_mem hb)) ?_ (by omega)
  have := h.ln
  simp only [win, List.length_take, List.length_drop]; omega
theorem rle_vol (L : List Int) : Pc.vol (rle L) = L.length := by rw [vol_litres (rle_canon L), rle_lit]
def sgW (X : List Int) (p c : Nat) (fw : Bool) : List (Int × Int) := if fw then rle (win X p c) else (rle (win X p c)).reverse
theorem sgW_vd {X : List Int} (h : TpOk X) (p c : Nat) (fw : Bool) : Pc.Vd (sgW X p c fw) := by
  unfold sgW; split
  · exact win_vd h p c
  · exact vd_rev (win_vd h p c)
theorem sgW_len {X : List Int} (h : TpOk X) (p c : Nat) (fw : Bool) : (sgW X p c fw).length ≤ 90 := by
  have := win_rn h p c
  unfold sgW; split <;> simp <;> omega
theorem sgW_vol {X : List Int} {p c : Nat} (h : p + c ≤ X.length) (fw : Bool) : Pc.vol (sgW X p c fw) = c := by
  unfold sgW; split
  · rw [rle_vol, win_len h]
  · rw [vol_rev, rle_vol, win_len h]
theorem sgW_lit (X : List Int) (p c : Nat) (fw : Bool) : Pc.litres (sgW X p c fw) = if fw then win X p c else (win X p c).reverse := by
  unfold sgW; split
  · rw [rle_lit]
  · rw [litres_rev, rle_lit]
def stW (X : List Int) (p r : Nat) : List (Int × Int) := (rle (win X p r)).reverse
theorem stW_vd {X : List Int} (h : TpOk X) (p r : Nat) : Pc.Vd (stW X p r) := vd_rev (win_vd h p r)
theorem stW_vol {X : List Int} {p r : Nat} (h : p + r ≤ X.length) : Pc.vol (stW X p r) = r := by rw [stW, vol_rev, rle_vol, win_len h]
theorem stW_ne {X : List Int} {p r : Nat} (h : p + r ≤ X.length) (hr : 0 < r) : stW X p r ≠ [] := fun e => by
  have := stW_vol h
  rw [e] at this
  simp [Pc.vol] at this; omega
theorem push_win {X : List Int} (h : TpOk X) (p r c : Nat) (hX : p + r + c ≤ X.length) (fw : Bool) :
    ∃ o, PushOk (sgW X (p + r) c fw) (if !fw then stW X p r else (stW X p r).reverse) (!fw) (sgW X p c fw) o ∧ (if !fw then o else o.reverse) = stW X (p + c) r := by
  have hg : Pc.Vd (if !fw then stW X p r else (stW X p r).reverse) := by
    split
    · exact stW_vd h p r
    · exact vd_rev (stW_vd h p r)
  have hl1 := sgW_len h (p + r) c fw
  have hl2 := win_rn h p r
  have lr : (win X p r).length = r := win_len (by omega)
  have lc : (win X (p + r) c).length = c := win_len (by omega)
  have hs : (sgW X (p + r) c fw).length + (if !fw then stW X p r else (stW X p r).reverse).length ≤ 200 := by
    have : (if !fw then stW X p r else (stW X p r).reverse).length = (rle (win X p r)).length := by split <;> simp [stW]
    omega
  obtain ⟨n, o, hp⟩ := push_small (sgW_vd h (p + r) c fw) hg hs (!fw)
  have hn := hp.ln
  have ho := hp.lo
  rw [sgW_lit] at hn ho
  have e0 : win X p r ++ win X (p + r) c = win X p (r + c) := win_app X p r c
  have e1 : (win X p (r + c)).take c = win X p c := win_take X p (r + c) c (by omega)
  have e2 : (win X p (r + c)).drop c = win X (p + c) r := by rw [Nat.add_comm r c]; exact win_drop X p r c
  have lrc : (win X p (r + c)).length = r + c := win_len (by omega)
  cases fw with
  | true =>
    simp only [Bool.not_true, Bool.false_eq_true, if_false, if_true, stW, List.reverse_reverse, rle_lit] at hn ho hp ⊢
    rw [lc, e0, e1] at hn
    rw [lc, e0, e2] at ho
    have h1 := rle_of hp.vn.canon hn
    have h2 := rle_of hp.vo.canon ho
    refine ⟨o, ?_, by rw [h2]⟩
    have : sgW X p c true = n := by rw [h1]; rfl
    rw [this]; exact hp
  | false =>
    simp only [Bool.not_false, Bool.false_eq_true, if_false, if_true, stW, litres_rev, rle_lit, List.length_reverse] at hn ho hp ⊢
    rw [← List.reverse_append, e0, lr] at hn ho
    rw [List.drop_reverse, lrc, Nat.add_sub_cancel_left, e1] at hn
    rw [List.take_reverse, lrc, Nat.add_sub_cancel_left, e2] at ho
    have h1 := rle_of hp.vn.canon hn
    have h2 := rle_of hp.vo.canon ho
    rw [rle_rev] at h1 h2
    refine ⟨o, ?_, h2⟩
    have : sgW X p c false = n := by rw [h1]; rfl
    rw [this]; exact hp
def preS (c : Nat → Nat) : Nat → Nat
  | 0 => 0
  | j + 1 => preS c j + c j
theorem preS_mono (c : Nat → Nat) {i j : Nat} (h : i ≤ j) : preS c i ≤ preS c j := by
  induction j with
  | zero => have : i = 0 := by omega
            subst this; exact Nat.le_refl _
  | succ j ih =>
    by_cases e : i = j + 1
    · subst e; exact Nat.le_refl _
    · have := ih (by omega); simp only [preS]; omega
structure ChainOk (d : LineD) (m : Nat) (σ : Nat → Nat) (ν : Nat → Int) (s k r : Nat) (b : Int) (c : Nat → Nat) (fw : Nat → Bool) : Prop where
  len : d.segs.length = m
  inj : ∀ i j, i < m → j < m → σ i = σ j → i = j
  sur : ∀ i, i < m → ∃ j, j < m ∧ σ j = i
  lt : ∀ j, j < m → σ j < m
  r0 : 0 < r
  r1 : r ≤ 1000
  src : prtYs (ν 0) true 0 d.ports d.prates = [(s, (r : Int))]
  fed : d.feeds.getD s 0 = b
  in0 : segYs (ν 0) true 0 (d.segs.map (·.1)) d.rates = []
  inS : ∀ j, j < m → segYs (ν (j + 1)) true 0 (d.segs.map (·.1)) d.rates = [(σ j, (r : Int))]
  inP : ∀ j, j < m → prtYs (ν (j + 1)) true 0 d.ports d.prates = []
  outS : ∀ j, j < m → segYs (ν j) false 0 (d.segs.map (·.1)) d.rates = [(σ j, (r : Int))]
  outP : ∀ j, j < m → prtYs (ν j) false 0 d.ports d.prates = []
  snkP : prtYs (ν m) false 0 d.ports d.prates = [(k, (r : Int))]
  snkS : segYs (ν m) false 0 (d.segs.map (·.1)) d.rates = []
  bk : ∀ j, j < m → backAt d.rates (σ j, (r : Int)) = !fw j
theorem litres_rep (r : Nat) (b : Int) : Pc.litres [(b, (r : Int))] = List.replicate r b := by simp [Pc.litres]
theorem stW_fed {X : List Int} {p r : Nat} {b : Int} (hr : 0 < r) (h : win X p r = List.replicate r b) : stW X p r = [(b, (r : Int))] := by
  have : [(b, (r : Int))] = rle (win X p r) := rle_of ⟨by show (0 : Int) < r; omega, by simp, trivial⟩ (by rw [litres_rep, h])
  rw [stW, ← this]; rfl
structure FiOk (m : Nat) (σ : Nat → Nat) (X : List Int) (p : Nat) (c : Nat → Nat) (fw : Nat → Bool) (A : Fi) : Prop where
  len : A.length = m
  at_ : ∀ j, j < m → A[σ j]? = some (some (sgW X (p + preS c j) (c j) (fw j)))
def fS (m : Nat) (σ : Nat → Nat) (A : Fi) (v : Nat → List (Int × Int)) : Nat → Fi
  | 0 => A
  | j + 1 => if j < m then (fS m σ A v j).set (σ j) (some (v j)) else fS m σ A v j
theorem fS_len (m σ A v) : ∀ j, (fS m σ A v j).length = A.length
  | 0 => rfl
  | j + 1 => by simp only [fS]; split <;> simp [fS_len m σ A v j]
theorem fS_old {m : Nat} {σ : Nat → Nat} {A : Fi} {v : Nat → List (Int × Int)} (inj : ∀ i j, i < m → j < m → σ i = σ j → i = j) {i : Nat} (hi : i < m) : ∀ {j : Nat}, j ≤ i → (fS m σ A v j)[σ i]? = A[σ i]?
  | 0, _ => rfl
  | j + 1, h => by
    simp only [fS]
    rw [if_pos (by omega), List.getElem?_set_ne (fun e => by have := inj j i (by omega) hi e; omega)]
    exact fS_old inj hi (by omega)
theorem fS_new {m : Nat} {σ : Nat → Nat} {A : Fi} {v : Nat → List (Int × Int)} (inj : ∀ i j, i < m → j < m → σ i = σ j → i = j) (hA : A.length = m) {i : Nat} (hi : i < m) (hl : σ i < m) : ∀ {j : Nat}, i < j → (fS m σ A v j)[σ i]? = some (some (v i))
  | 0, h => by omega
  | j + 1, h => by
    simp only [fS]
    by_cases hj : j < m
    · rw [if_pos hj]
      by_cases e : j = i
      · subst e
        rw [List.getElem?_set_self (by rw [fS_len]; omega)]
      · rw [List.getElem?_set_ne (fun q => e (inj j i hj hi q))]
        exact fS_new inj hA hi hl (by omega)
    · rw [if_neg hj]
      exact fS_new inj hA hi hl (by omega)
theorem getD_of {α : Type} {l : List (Option α)} {i : Nat} {x : Option α} (h : l[i]? = some x) : l.getD i none = x := by rw [List.getD_eq_getElem?_getD, h]; rfl
def oS (m n k : Nat) (x : List (Int × Int)) (j : Nat) : Fi := if j ≤ m then List.replicate n none else (List.replicate n none).set k (some x)
theorem oS_le {m n k : Nat} {x : List (Int × Int)} {j : Nat} (h : j ≤ m) : oS m n k x j = List.replicate n none := if_pos h
theorem oS_gt {m n k : Nat} {x : List (Int × Int)} {j : Nat} (h : ¬ j ≤ m) : oS m n k x j = (List.replicate n none).set k (some x) := if_neg h
theorem chain_ex (d : LineD) (hd : LineOk d) {m : Nat} {σ : Nat → Nat} {ν : Nat → Int} {s k r : Nat} {b : Int} {c : Nat → Nat} {fw : Nat → Bool} (h : ChainOk d m σ ν s k r b c fw) {X : List Int} (hX : TpOk X) {p : Nat} (hp : p + r + preS c m ≤ X.length) (hfd : win X p r = List.replicate r b)
    {A B : Fi} (hA : FiOk m σ X (p + r) c fw A) (hB : FiOk m σ X p c fw B) :
    ∃ F G O : Nat → Fi, F 0 = A ∧ G 0 = List.replicate d.segs.length none ∧ O 0 = List.replicate d.ports.length none ∧
      (∀ j node, ((List.range (m + 1)).map ν)[j]? = some node → NodeC d (.sl 1 (((List.range (m + 1)).map ν).map encI)) node (F j) (G j) (O j) (F (j + 1)) (G (j + 1)) (O (j + 1))) ∧
      F ((List.range (m + 1)).map ν).length = B ∧ G ((List.range (m + 1)).map ν).length = fS m σ (List.replicate d.segs.length none) (fun j => stW X (p + preS c (j + 1)) r) (m + 1) ∧ O ((List.range (m + 1)).map ν).length = (List.replicate d.ports.length none).set k (some (stW X (p + preS c m) r)) := by
  obtain ⟨ord, hord⟩ : ∃ o, (List.range (m + 1)).map ν = o := ⟨_, rfl⟩
  have hol : ord.length = m + 1 := by rw [← hord]; simp
  refine ⟨fS m σ A (fun j => sgW X (p + preS c j) (c j) (fw j)), fS m σ (List.replicate d.segs.length none) (fun j => stW X (p + preS c (j + 1)) r), oS m d.ports.length k (stW X (p + preS c m) r), rfl, rfl, oS_le (by omega), ?_, ?_, by rw [hord, hol], ?_⟩
  · intro j node hj
    rw [hord]
    have hjm : j ≤ m ∧ node = ν j := by
      obtain ⟨hjl, e⟩ := List.getElem?_eq_some_iff.1 hj
      simp at hjl e
      exact ⟨by omega, e.symm⟩
    obtain ⟨hjm, rfl⟩ := hjm
    have hGl : (fS m σ (List.replicate d.segs.length none) (fun j => stW X (p + preS c (j + 1)) r) j).length = d.segs.length := by rw [fS_len]; simp
    have hFl : (fS m σ A (fun j => sgW X (p + preS c j) (c j) (fw j)) j).length = d.segs.length := by rw [fS_len, hA.len, h.len]
    have hml := preS_mono c hjm
    have hvd := stW_vd hX (p + preS c j) r
    have hvol := stW_vol (X := X) (p := p + preS c j) (r := r) (by omega)
    have hne := stW_ne (X := X) (p := p + preS c j) (r := r) (by omega) h.r0
    obtain ⟨gi, hgi⟩ : ∃ g, fS m σ (List.replicate d.segs.length none) (fun j => stW X (p + preS c (j + 1)) r) j = g := ⟨_, rfl⟩
    have hcm : comesV d gi (ν j) = stW X (p + preS c j) r ∧ ∀ z ∈ segYs (ν j) true 0 (d.segs.map (·.1)) d.rates, ∀ q ∈ gvAt gi z, q.2 ≠ 0 := by
      cases j with
      | zero =>
        refine ⟨?_, by rw [h.in0]; simp⟩
        unfold comesV
        rw [h.src, h.in0]
        simp only [prtPc, List.map_cons, List.map_nil, h.fed, List.flatMap_nil, List.append_nil, preS, Nat.add_zero]
        exact (stW_fed h.r0 hfd).symm
      | succ j =>
        have hg : gvAt gi (σ j, (r : Int)) = stW X (p + preS c (j + 1)) r := by
          unfold gvAt
          rw [← hgi, getD_of (fS_new h.inj (by simp [h.len]) (i := j) (by omega) (h.lt j (by omega)) (Nat.lt_succ_self j))]
          rfl
        refine ⟨?_, ?_⟩
        · unfold comesV
          rw [h.inP j (by omega), h.inS j (by omega)]
          simp only [prtPc, List.map_nil, List.nil_append, List.flatMap_cons, List.flatMap_nil, List.append_nil]
          exact hg
        · rw [h.inS j (by omega)]
          intro z hz q hq
          simp at hz
          subst hz
          rw [hg] at hq
          have := (hvd.each q hq).2
          omega
    rw [hgi] at hGl
    by_cases hj2 : j < m
    · obtain ⟨o, ho1, ho2⟩ := push_win hX (p + preS c j) r (c j) (by have := preS_mono c (Nat.succ_le_of_lt hj2); simp only [preS] at this; omega) (fw j)
      have hf : (fS m σ A (fun j => sgW X (p + preS c j) (c j) (fw j)) j)[σ j]? = some (some (sgW X (p + preS c j + r) (c j) (fw j))) := by
        rw [fS_old h.inj hj2 (Nat.le_refl _), hA.at_ j hj2]
        congr 3; omega
      have hbk := h.bk j hj2
      have := node_seg d hd (.sl 1 (ord.map encI)) rfl (fS m σ A (fun j => sgW X (p + preS c j) (c j) (fw j)) j) gi (List.replicate d.ports.length none) (ν j) hGl hFl (by simp) (stW X (p + preS c j) r) hcm.1 hcm.2 hvd hne
        (σ j) r (h.outP j hj2) (h.outS j hj2) (by have := h.r0; omega) (by have := h.r1; omega) hvol _ (sgW X (p + preS c j) (c j) (fw j)) o hf (sgW_vd hX _ _ _) (by rw [hbk]; exact ho1)
      rw [hbk, ho2, show p + preS c j + c j = p + preS c (j + 1) by simp only [preS]; omega] at this
      rw [oS_le hjm, oS_le (by omega)]
      simp only [fS, if_pos hj2, hgi]
      exact this
    · obtain rfl : j = m := by omega
      have := node_prt d hd (.sl 1 (ord.map encI)) rfl (fS j σ A (fun j => sgW X (p + preS c j) (c j) (fw j)) j) gi (List.replicate d.ports.length none) (ν j) hGl hFl (by simp) (stW X (p + preS c j) r) hcm.1 hcm.2 hvd hne
        k r h.snkP h.snkS (by have := h.r0; omega) (by have := h.r1; omega) hvol
      rw [oS_le hjm, oS_gt (by omega)]
      simp only [fS, if_neg hj2, hgi]
      exact this
  · rw [hord, hol]
    simp only [fS, if_neg (Nat.lt_irrefl m)]
    apply List.ext_getElem?
    intro i
    by_cases hi : i < m
    · obtain ⟨j, hj, rfl⟩ := h.sur i hi
      rw [fS_new h.inj hA.len hj hi hj, hB.at_ j hj]
    · rw [List.getElem?_eq_none (by rw [fS_len, hA.len]; omega), List.getElem?_eq_none (by rw [hB.len]; omega)]
  · rw [hord, hol, oS_gt (by omega)]
theorem chain_tick (d : LineD) (hd : LineOk d) {m : Nat} {σ : Nat → Nat} {ν : Nat → Int} {s k r : Nat} {b : Int} {c : Nat → Nat} {fw : Nat → Bool} (h : ChainOk d m σ ν s k r b c fw) {X : List Int} (hX : TpOk X) {p : Nat} (hp : p + r + preS c m ≤ X.length) (hfd : win X p r = List.replicate r b) (hm : m ≤ 900)
    {A B : Fi} (hA : FiOk m σ X (p + r) c fw A) (hB : FiOk m σ X p c fw B) :
    TickC d ((List.range (m + 1)).map ν) A B (fS m σ (List.replicate d.segs.length none) (fun j => stW X (p + preS c (j + 1)) r) (m + 1)) ((List.replicate d.ports.length none).set k (some (stW X (p + preS c m) r))) := by
  obtain ⟨F, G, O, f0, g0, o0, hN, f1, g1, o1⟩ := chain_ex d hd h hX hp hfd hA hB
  intro gi oo
  have := tick_fn d hd ((List.range (m + 1)).map ν) (by simp; omega) gi oo F G O g0 o0 hN
  rw [f0, f1, g1, o1] at this
  exact this
def outL (X : List Int) (C r t : Nat) : Nat → List (Int × Int)
  | 0 => []
  | j + 1 => outL X C r t j ++ stW X ((t - (j + 1)) * r + C) r
theorem outL_len {X : List Int} (hX : TpOk X) (C r t : Nat) : ∀ j, (outL X C r t j).length ≤ 90 * j
  | 0 => by simp [outL]
  | j + 1 => by
    have h1 := outL_len hX C r t j
    have h2 := win_rn hX ((t - (j + 1)) * r + C) r
    simp only [outL, List.length_append, stW, List.length_reverse]
    omega
theorem outL_each {X : List Int} (hX : TpOk X) (C r t : Nat) : ∀ j, ∀ q ∈ outL X C r t j, 1 ≤ q.2 ∧ q.2 ≤ 1000000
  | 0 => by simp [outL]
  | j + 1 => by
    intro q hq
    simp only [outL, List.mem_append] at hq
    rcases hq with hq | hq
    · exact outL_each hX C r t j q hq
    · exact ((stW_vd hX _ _).each q hq).2
theorem outL_lit {X : List Int} (C r t : Nat) : ∀ j, j ≤ t → Pc.litres (outL X C r t j) = (win X ((t - j) * r + C) (j * r)).reverse
  | 0, _ => by simp [outL, Pc.litres, win]
  | j + 1, h => by
    have ih := outL_lit (X := X) C r t j (by omega)
    simp only [outL, Pc.litres_append, ih, stW, litres_rev, rle_lit]
    rw [← List.reverse_append]
    congr 1
    have e : (t - j) * r + C = (t - (j + 1)) * r + C + r := by
      obtain ⟨q, hq⟩ : ∃ q, t - j = q + 1 := ⟨t - j - 1, by omega⟩
      have : t - (j + 1) = q := by omega
      rw [this, hq, Nat.add_mul]; omega
    rw [e, win_app]
    congr 1
    rw [Nat.add_mul]; omega
theorem outL_join {X : List Int} (hX : TpOk X) (C r t j : Nat) (h : j ≤ t) : Pc.join (outL X C r t j) = stW X ((t - j) * r + C) (j * r) := by
  have hp : ∀ q ∈ outL X C r t j, 0 ≤ q.2 := fun q hq => by have := outL_each hX C r t j q hq; omega
  rw [stW, ← rle_rev]
  exact rle_of (Pc.join_canon hp) (by rw [Pc.join_litres hp, outL_lit C r t j h])
theorem chain_run (d : LineD) (hd : LineOk d) (hn : NetC d) {m : Nat} {σ : Nat → Nat} {ν : Nat → Int} {s k r : Nat} {b : Int} {c : Nat → Nat} {fw : Nat → Bool} (h : ChainOk d m σ ν s k r b c fw) {X : List Int} (hX : TpOk X) (hm : m ≤ 900) (t : Nat) (ht : t ≤ 400) (hp : t * r + preS c m ≤ X.length)
    (hfd : ∀ j, j < t → win X (j * r) r = List.replicate r b) (FL : Nat → List (List (Int × Int))) (hFL : ∀ j, j ≤ t → FiOk m σ X (j * r) c fw ((FL j).map some)) (hf : FillsOk d (FL t))
    (ho : FnOk Tryz.prog 48 [.t (.agg d.net), .t (.agg d.plan)] [] (.tup [.t (.sl 1 (((List.range (m + 1)).map ν).map encI)), .t (.int 0)]) []) (hfe : ∀ b ∈ d.feeds, 0 ≤ b ∧ b < 1000) (hk : k < d.ports.length) :
    FnOk Tryz.prog 16 [.t (.agg d.net), .t (.sl 1 ((FL t).map encPs)), .t (.agg d.plan), .t (.sl 1 (d.feeds.map encI)), .t (.int t)] []
      (.tup [.own 1000, .t (.sl 1 ((List.range d.ports.length).map fun i => encPs (if i = k then stW X (preS c m) (t * r) else []))), .t (.int 0)]) [(1000, blkG ((FL 0).map some))] := by
  have hall : ∀ j, j ≤ t → ∀ i, i < d.ports.length → allV (fun q => if q = 0 then [] else (List.replicate d.ports.length none).set k (some (stW X ((t - q) * r + preS c m) r))) j i = if i = k then outL X (preS c m) r t j else [] := by
    intro j
    induction j with
    | zero => intro _ i _; simp [allV, outL]
    | succ j ih =>
      intro hj i hi
      simp only [allV, ih (by omega) i hi, if_neg (Nat.succ_ne_zero j)]
      by_cases e : i = k
      · subst e
        rw [if_pos rfl, if_pos rfl, List.getD_eq_getElem?_getD, List.getElem?_set_self (by simpa using hi)]
        rfl
      · rw [if_neg e, if_neg e, List.getD_eq_getElem?_getD, List.getElem?_set_ne (fun q => e q.symm), List.getElem?_replicate, if_pos hi]
        rfl
  have hall2 : ∀ j i, ¬ i < d.ports.length → allV (fun q => if q = 0 then [] else (List.replicate d.ports.length none).set k (some (stW X ((t - q) * r + preS c m) r))) j i = [] := by
    intro j i hi
    induction j with
    | zero => simp [allV]
    | succ j ih =>
      simp only [allV, ih, if_neg (Nat.succ_ne_zero j), List.nil_append]
      rw [List.getD_eq_getElem?_getD, List.getElem?_eq_none (by simp; omega)]
      rfl
  have hcase : ∀ (P : List (Int × Int) → Prop), P [] → ∀ j, j ≤ t → P (outL X (preS c m) r t j) → ∀ i, P (allV (fun q => if q = 0 then [] else (List.replicate d.ports.length none).set k (some (stW X ((t - q) * r + preS c m) r))) j i) := by
    intro P h0 j hj h1 i
    by_cases hi : i < d.ports.length
    · rw [hall j hj i hi]; split
      · exact h1
      · exact h0
    · rw [hall2 j i hi]; exact h0
  have := arun_fn d hd hn (FL t) hf _ ho hfe t ht (fun q => (FL (t - q)).map some) (fun q => if q = 0 then [] else fS m σ (List.replicate d.segs.length none) (fun j => stW X ((t - q) * r + preS c (j + 1)) r) (m + 1)) (fun q => if q = 0 then [] else (List.replicate d.ports.length none).set k (some (stW X ((t - q) * r + preS c m) r)))
    (by simp) (by simp) (by simp) (fun q => by simp) (fun q hq => ?_) (fun q i hq => ?_) (fun q i x hq hx => ?_) (fun q i hq => ?_)
  · have e : (List.range d.ports.length).map (fun i => encPs (Pc.join (allV (fun q => if q = 0 then [] else (List.replicate d.ports.length none).set k (some (stW X ((t - q) * r + preS c m) r))) t i))) = (List.range d.ports.length).map fun i => encPs (if i = k then stW X (preS c m) (t * r) else []) := by
      apply List.map_congr_left
      intro i hi
      rw [hall t (Nat.le_refl _) i (List.mem_range.1 hi)]
      by_cases e : i = k
      · rw [if_pos e, if_pos e, outL_join hX _ _ _ _ (Nat.le_refl _)]; simp
      · rw [if_neg e, if_neg e]; rfl
    rw [e] at this
    simp only [Nat.sub_self, Nat.sub_zero] at this
    exact this
  · have e : t - q = (t - (q + 1)) + 1 := by omega
    have er : (t - q) * r = (t - (q + 1)) * r + r := by rw [e, Nat.add_mul, Nat.one_mul]
    have e1 := hFL (t - q) (by omega)
    rw [er] at e1
    have := chain_tick d hd h hX (p := (t - (q + 1)) * r) (by
      have : (t - (q + 1)) * r + r ≤ t * r := by rw [← er]; exact Nat.mul_le_mul_right _ (by omega)
      omega) (hfd _ (by omega)) hm e1 (hFL (t - (q + 1)) (by omega))
    simp only [if_neg (Nat.succ_ne_zero q)]
    exact this
  · refine hcase Pc.Sane ⟨by simp, by simp⟩ (q + 1) (by omega) ⟨?_, fun x hx => ?_⟩ i
    · have := outL_len hX (preS c m) r t (q + 1); omega
    · have := outL_each hX (preS c m) r t (q + 1) x hx; omega
  · simp only [if_neg (Nat.succ_ne_zero q)] at hx
    by_cases hi : i < d.ports.length
    · by_cases e : i = k
      · subst e
        rw [List.getD_eq_getElem?_getD, List.getElem?_set_self (by simpa using hi)] at hx
        have := ((stW_vd hX _ _).each x hx).2
        omega
      · rw [List.getD_eq_getElem?_getD, List.getElem?_set_ne (fun q => e q.symm), List.getElem?_replicate, if_pos hi] at hx
        simp at hx
    · rw [List.getD_eq_getElem?_getD, List.getElem?_eq_none (by simp; omega)] at hx
      simp at hx
  · refine hcase (fun l => (Pc.join l).length ≤ 200) (by simp [Pc.join]) (q + 1) (by omega) ?_ i
    rw [outL_join hX _ _ _ _ (by omega), stW, List.length_reverse]
    have := win_rn hX ((t - (q + 1)) * r + preS c m) ((q + 1) * r)
    omega
end Go.Proofs.YtdjmklobfjigoaaGreatDoor
namespace Go.Proofs.YtdjmklobfjigoaaGreatDoor
open Go.RowKit Sy
open Go.IntWalk renaming iteOmega → iO, toNatUp → tN
def addC (c : List Int) (k r : Int) : List Int := if 0 ≤ k then c.set k.toNat (c.getD k.toNat 0 + r) else c
def fFr (a b r : Int) : Int := if r < 0 then b else a
def fTo (a b r : Int) : Int := if r < 0 then a else b
def fAb (r : Int) : Int := if r < 0 then -r else r
theorem addC_len (c : List Int) (k r : Int) : (addC c k r).length = c.length := by unfold addC; split <;> simp
theorem add_fn (c l : List Int) (a b r : Int) (hc : c.length = 24) (hl : l.length = 24) (ha : -1 ≤ a ∧ a < 24) (hb : -1 ≤ b ∧ b < 24) (hr : -1000 ≤ r ∧ r ≤ 1000) (hcb : ∀ x ∈ c, 0 ≤ x ∧ x ≤ 1000000) (hlb : ∀ x ∈ l, 0 ≤ x ∧ x ≤ 1000000) :
    FnOk Tryz.prog 122 [.pt 0 [] 0, .t (.int a), .t (.int b), .t (.int r)] [(0, .box 151 (.t (.agg [.agg (c.map encI), .agg (l.map encI)])))] (.tup []) [(0, .box 151 (.t (.agg [.agg ((addC c (fTo a b r) (fAb r)).map encI), .agg ((addC l (fFr a b r) (fAb r)).map encI)])))] := by
  have gc : ∀ k : Int, 0 ≤ k → k < 24 → ∃ x, c[k.toNat]? = some x ∧ 0 ≤ x ∧ x ≤ 1000000 ∧ ∀ v, addC c k v = c.set k.toNat (x + v) := fun k h0 h1 => by
    obtain ⟨x, hx⟩ : ∃ x, c[k.toNat]? = some x := has_get (by omega)
    have := hcb x (mem_get hx)
    exact ⟨x, hx, this.1, this.2, fun v => by simp [addC, h0, List.getD, hx]⟩
  have gl : ∀ k : Int, 0 ≤ k → k < 24 → ∃ x, l[k.toNat]? = some x ∧ 0 ≤ x ∧ x ≤ 1000000 ∧ ∀ v, addC l k v = l.set k.toNat (x + v) := fun k h0 h1 => by
    obtain ⟨x, hx⟩ : ∃ x, l[k.toNat]? = some x := has_get (by omega)
    have := hlb x (mem_get hx)
    exact ⟨x, hx, this.1, this.2, fun v => by simp [addC, h0, List.getD, hx]⟩
  have nc : ∀ k v : Int, ¬ 0 ≤ k → addC c k v = c := fun k v h => by simp only [addC, if_neg h]
  have nl : ∀ k v : Int, ¬ 0 ≤ k → addC l k v = l := fun k v h => by simp only [addC, if_neg h]
  refine FnOk.intro fact_mixed Tryz.func122 rfl Tryz.ntmps122 (by rfl) (by simp) ?_
  by_cases hneg : r < 0
  · have g1 : fTo a b r = a := by simp [fTo, hneg]
    have g2 : fFr a b r = b := by simp [fFr, hneg]
    have g3 : fAb r = -r := by simp [fAb, hneg]
    rw [g1, g2, g3]
    by_cases hf : 0 ≤ b
    · obtain ⟨y, y1, y2, y3, y4⟩ := gl b hf (by omega)
      by_cases ht : 0 ≤ a
      · obtain ⟨x, x1, x2, x3, x4⟩ := gc a ht (by omega)
        rw [x4, y4]
        repeat (first | (refine nf1_sound rfl ?_; simp [go_sem, ↓iO, iO, tN, hneg, hf, ht, x1, y1, hc, hl]) | refine anI ?_ | refine ⟨dcK, ?_⟩ | ((first | refine iP ?_ | refine iN ?_); try simp [go_sem, ↓iO, iO, tN, hneg, hf, ht, x1, y1, hc, hl]))
        first | rw [RetQ_ret] | rw [RetQ_normal]
        refine ⟨[(0, some 0)], ?_⟩
        simp [go_sem, ↓iO, iO, tN, List.map_set]
      · rw [nc _ _ ht, y4]
        repeat (first | (refine nf1_sound rfl ?_; simp [go_sem, ↓iO, iO, tN, hneg, hf, ht, y1, hc, hl]) | refine anI ?_ | refine ⟨dcK, ?_⟩ | ((first | refine iP ?_ | refine iN ?_); try simp [go_sem, ↓iO, iO, tN, hneg, hf, ht, y1, hc, hl]))
        first | rw [RetQ_ret] | rw [RetQ_normal]
        refine ⟨[(0, some 0)], ?_⟩
        simp [go_sem, ↓iO, iO, tN, List.map_set]
    · rw [nl _ _ hf]
      by_cases ht : 0 ≤ a
      · obtain ⟨x, x1, x2, x3, x4⟩ := gc a ht (by omega)
        rw [x4]
        repeat (first | (refine nf1_sound rfl ?_; simp [go_sem, ↓iO, iO, tN, hneg, hf, ht, x1, hc, hl]) | refine anI ?_ | refine ⟨dcK, ?_⟩ | ((first | refine iP ?_ | refine iN ?_); try simp [go_sem, ↓iO, iO, tN, hneg, hf, ht, x1, hc, hl]))
        first | rw [RetQ_ret] | rw [RetQ_normal]
        refine ⟨[(0, some 0)], ?_⟩
        simp [go_sem, ↓iO, iO, tN, List.map_set]
      · rw [nc _ _ ht]
        repeat (first | (refine nf1_sound rfl ?_; simp [go_sem, ↓iO, iO, tN, hneg, hf, ht, hc, hl]) | refine anI ?_ | refine ⟨dcK, ?_⟩ | ((first | refine iP ?_ | refine iN ?_); try simp [go_sem, ↓iO, iO, tN, hneg, hf, ht, hc, hl]))
        first | rw [RetQ_ret] | rw [RetQ_normal]
        refine ⟨[(0, some 0)], ?_⟩
        simp [go_sem, ↓iO, iO, tN]
  · have g1 : fTo a b r = b := by simp [fTo, hneg]
    have g2 : fFr a b r = a := by simp [fFr, hneg]
    have g3 : fAb r = r := by simp [fAb, hneg]
    rw [g1, g2, g3]
    by_cases hf : 0 ≤ a
    · obtain ⟨y, y1, y2, y3, y4⟩ := gl a hf (by omega)
      by_cases ht : 0 ≤ b
      · obtain ⟨x, x1, x2, x3, x4⟩ := gc b ht (by omega)
        rw [x4, y4]
        repeat (first | (refine nf1_sound rfl ?_; simp [go_sem, ↓iO, iO, tN, hneg, hf, ht, x1, y1, hc, hl]) | refine anI ?_ | refine ⟨dcK, ?_⟩ | ((first | refine iP ?_ | refine iN ?_); try simp [go_sem, ↓iO, iO, tN, hneg, hf, ht, x1, y1, hc, hl]))
        first | rw [RetQ_ret] | rw [RetQ_normal]
        refine ⟨[(0, some 0)], ?_⟩
        simp [go_sem, ↓iO, iO, tN, List.map_set]
      · rw [nc _ _ ht, y4]
        repeat (first | (refine nf1_sound rfl ?_; simp [go_sem, ↓iO, iO, tN, hneg, hf, ht, y1, hc, hl]) | refine anI ?_ | refine ⟨dcK, ?_⟩ | ((first | refine iP ?_ | refine iN ?_); try simp [go_sem, ↓iO, iO, tN, hneg, hf, ht, y1, hc, hl]))
        first | rw [RetQ_ret] | rw [RetQ_normal]
        refine ⟨[(0, some 0)], ?_⟩
        simp [go_sem, ↓iO, iO, tN, List.map_set]
    · rw [nl _ _ hf]
      by_cases ht : 0 ≤ b
      · obtain ⟨x, x1, x2, x3, x4⟩ := gc b ht (by omega)
        rw [x4]
        repeat (first | (refine nf1_sound rfl ?_; simp [go_sem, ↓iO, iO, tN, hneg, hf, ht, x1, hc, hl]) | refine anI ?_ | refine ⟨dcK, ?_⟩ | ((first | refine iP ?_ | refine iN ?_); try simp [go_sem, ↓iO, iO, tN, hneg, hf, ht, x1, hc, hl]))
        first | rw [RetQ_ret] | rw [RetQ_normal]
        refine ⟨[(0, some 0)], ?_⟩
        simp [go_sem, ↓iO, iO, tN, List.map_set]
      · rw [nc _ _ ht]
        repeat (first | (refine nf1_sound rfl ?_; simp [go_sem, ↓iO, iO, tN, hneg, hf, ht, hc, hl]) | refine anI ?_ | refine ⟨dcK, ?_⟩ | ((first | refine iP ?_ | refine iN ?_); try simp [go_sem, ↓iO, iO, tN, hneg, hf, ht, hc, hl]))
        first | rw [RetQ_ret] | rw [RetQ_normal]
        refine ⟨[(0, some 0)], ?_⟩
        simp [go_sem, ↓iO, iO, tN]
end Go.Proofs.YtdjmklobfjigoaaGreatDoor
