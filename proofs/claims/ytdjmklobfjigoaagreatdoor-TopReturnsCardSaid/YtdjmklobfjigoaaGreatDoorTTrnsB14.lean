/- Several texts of this proof, one behind the other. No condition. -/
import Derived.Test.YtdjmklobfjigoaaGreatDoorTTrnsB13
import Derived.Test.YtdjmklobfjigoaaGreatDoorTTrnsB10
import Derived.Test.YtdjmklobfjigoaaGreatDoorTTrnsB11
set_option maxRecDepth 100000
set_option maxHeartbeats 16000000
set_option linter.unusedVariables false
set_option linter.unusedSimpArgs false
namespace Go.Proofs.YtdjmklobfjigoaaGreatDoor
open Go.RowKit Sy
open Go.IntWalk renaming iteOmega → iO, toNatUp → tN
theorem nodup_ne {α : Type} : ∀ {l : List α}, l.Nodup → ∀ {i j : Nat} {a b : α}, i < j → l[i]? = some a → l[j]? = some b → a ≠ b
  | [], _, i, j, a, b, _, h, _ => by simp at h
  | x :: r, hn, 0, j + 1, a, b, _, h, g => by
    simp only [List.getElem?_cons_zero, Option.some.injEq, List.getElem?_cons_succ] at h g
    subst h
    exact fun e => (List.nodup_cons.1 hn).1 (e ▸ mem_get g)
  | x :: r, hn, i + 1, j + 1, a, b, hij, h, g => by
    simp only [List.getElem?_cons_succ] at h g
    exact nodup_ne (List.nodup_cons.1 hn).2 (by omega) h g
theorem sidx_fn (l : List (List Nat)) (hlen : l.length ≤ 1000000) (hb : ∀ k ∈ l, ∀ x ∈ k, x < 256) (hnd : l.Nodup) (i : Nat) (k : List Nat) (hi : l[i]? = some k) : FnOk Tryz.prog 83 [.t (.sl 1 (l.map encS)), .t (encS k)] [] (.t (.int i)) [] := by
  have hil := (List.getElem?_eq_some_iff.1 hi).1
  refine FnOk.intro fact_mixed Tryz.func83 rfl Tryz.ntmps83 (by rfl) (by simp) ?_
  repeat (first | (refine nf1_sound rfl ?_; simp [go_sem, ↓iO, iO, tN]) | refine anI ?_ | refine ⟨dcK, ?_⟩ | ((first | refine iP ?_ | refine iN ?_); try simp [go_sem, ↓iO, iO, tN]))
  refine nf1_sound' _ _ _ ?_; simp only [nf1]
  refine CW.loop (ι := Nat) (fun j => ⟨[(0, .t (.sl 1 (l.map encS))), (1, .t (encS k)), (7, .t (.int l.length)), (8, .t (.int j))], []⟩) (fun j => j ≤ i) (fun j => i - j) 0 [] (by omega) ?_ ?_
  · simp [go_sem, ↓iO, iO, tN]
  intro j hj
  by_cases he : j < i
  · obtain ⟨m, hm⟩ : ∃ m, l[j]? = some m := has_get (by omega)
    have hjl : j < l.length := by omega
    have hne : ¬ (str k).toList = (str m).toList := fun e => by
      have := strB_inj (hb k (mem_get hi)) (hb m (mem_get hm)) e
      subst this
      exact nodup_ne hnd he hm hi rfl
    repeat (first | (refine nf1_sound rfl ?_; simp [go_sem, ↓iO, iO, tN, hm, hne]) | refine anI ?_ | refine ⟨dcK, ?_⟩ | ((first | refine iP ?_ | refine iN ?_); try simp [go_sem, ↓iO, iO, tN, hm, hne]))
    rw [RoundQ_normal]; refine ⟨j + 1, [], ?_, ?_, ?_⟩
    · omega
    · omega
    simp [go_sem, ↓iO, iO, tN]
  · obtain rfl : j = i := by omega
    repeat (first | (refine nf1_sound rfl ?_; simp [go_sem, ↓iO, iO, tN, hi]) | refine anI ?_ | refine ⟨dcK, ?_⟩ | ((first | refine iP ?_ | refine iN ?_); try simp [go_sem, ↓iO, iO, tN, hi]))
    first | rw [RetQ_ret] | rw [RetQ_normal]
    refine ⟨[], ?_⟩
    simp [go_sem, ↓iO, iO, tN]
theorem tw1_fn (x s : Stn) (b : Bool) (hb : decide (x.2.1 = s.2.1) = b) : FnOk Tryz.prog 85 [.t (encSn x), .pt 0 [] 0] [(0, .box 90 (.t (encSn s)))] (.t (.bool b)) [(0, .box 90 (.t (encSn s)))] := by
  subst hb
  obtain ⟨x1, x2, x3, x4, x5⟩ := x
  obtain ⟨s1, s2, s3, s4, s5⟩ := s
  refine FnOk.intro fact_mixed Tryz.func85 rfl Tryz.ntmps85 (by rfl) (by simp) ?_
  repeat (first | (refine nf1_sound rfl ?_; simp [go_sem, ↓iO, iO, tN]) | refine anI ?_ | refine ⟨dcK, ?_⟩ | ((first | refine iP ?_ | refine iN ?_); try simp [go_sem, ↓iO, iO, tN]))
  first | rw [RetQ_ret] | rw [RetQ_normal]
  refine ⟨[(0, some 0)], ?_⟩
  simp [go_sem, ↓iO, iO, tN]
theorem tidx_fn (l : List Stn) (hlen : l.length ≤ 1000000) (hnd : (l.map fun s => s.2.1).Nodup) (i : Nat) (s : Stn) (hi : l[i]? = some s) :
    FnOk Tryz.prog 84 [.t (.sl 5 (l.map encSn)), .fn 85 [.pt 0 [] 0]] [(0, .box 90 (.t (encSn s)))] (.t (.int i)) [(0, .box 90 (.t (encSn s)))] := by
  have hil := (List.getElem?_eq_some_iff.1 hi).1
  refine FnOk.intro fact_mixed Tryz.func84 rfl Tryz.ntmps84 (by rfl) (by simp) ?_
  repeat (first | (refine nf1_sound rfl ?_; simp [go_sem, ↓iO, iO, tN]) | refine anI ?_ | refine ⟨dcK, ?_⟩ | ((first | refine iP ?_ | refine iN ?_); try simp [go_sem, ↓iO, iO, tN]))
  refine nf1_sound' _ _ _ ?_; simp only [nf1]
  refine CW.loop (ι := Nat) (fun j => ⟨[(0, .t (.sl 5 (l.map encSn))), (1, .fn 85 [.pt 0 [] 0]), (7, .t (.int l.length)), (8, .t (.int j))], [(0, .box 90 (.t (encSn s)))]⟩) (fun j => j ≤ i) (fun j => i - j) 0 [(0, some 0)] (by omega) ?_ ?_
  · simp [go_sem, ↓iO, iO, tN]
  intro j hj
  by_cases he : j < i
  · obtain ⟨m, hm⟩ : ∃ m, l[j]? = some m := has_get (by omega)
    have hjl : j < l.length := by omega
    have hne : ¬ m.2.1 = s.2.1 := fun e => by
      have h1 : (l.map fun s => s.2.1)[j]? = some m.2.1 := by rw [List.getElem?_map, hm]; rfl
      have h2 : (l.map fun s => s.2.1)[i]? = some s.2.1 := by rw [List.getElem?_map, hi]; rfl
      exact nodup_ne hnd he h1 h2 e
    have c := tw1_fn m s false (by simpa using hne)
    repeat (first | (refine nf1_sound rfl ?_; simp [go_sem, ↓iO, iO, tN, hm]) | refine anI ?_ | refine ⟨dcK, ?_⟩ | ((first | refine iP ?_ | refine iN ?_); try simp [go_sem, ↓iO, iO, tN, hm]))
    refine CallK.fn (c) [(0, 0)] [] [] (by kernel_rfl) ?_ ?_ ?_ (Or.inl rfl) ?_ <;> simp [go_sem, ↓iO, iO, tN, hm]
    repeat (refine anI ?_)
    try (refine ⟨dcK, ?_⟩)
    repeat (first | (refine nf1_sound rfl ?_; simp [go_sem, ↓iO, iO, tN, hm]) | refine anI ?_ | refine ⟨dcK, ?_⟩ | ((first | refine iP ?_ | refine iN ?_); try simp [go_sem, ↓iO, iO, tN, hm]))
    rw [RoundQ_normal]; refine ⟨j + 1, [(0, some 0)], ?_, ?_, ?_⟩
    · omega
    · omega
    simp [go_sem, ↓iO, iO, tN]
  · obtain rfl : j = i := by omega
    have c := tw1_fn s s true (by simp)
    repeat (first | (refine nf1_sound rfl ?_; simp [go_sem, ↓iO, iO, tN, hi]) | refine anI ?_ | refine ⟨dcK, ?_⟩ | ((first | refine iP ?_ | refine iN ?_); try simp [go_sem, ↓iO, iO, tN, hi]))
    refine CallK.fn (c) [(0, 0)] [] [] (by kernel_rfl) ?_ ?_ ?_ (Or.inl rfl) ?_ <;> simp [go_sem, ↓iO, iO, tN, hi]
    repeat (refine anI ?_)
    try (refine ⟨dcK, ?_⟩)
    repeat (first | (refine nf1_sound rfl ?_; simp [go_sem, ↓iO, iO, tN, hi]) | refine anI ?_ | refine ⟨dcK, ?_⟩ | ((first | refine iP ?_ | refine iN ?_); try simp [go_sem, ↓iO, iO, tN, hi]))
    first | rw [RetQ_ret] | rw [RetQ_normal]
    refine ⟨[(0, some 0)], ?_⟩
    simp [go_sem, ↓iO, iO, tN]
def NetD.ns (d : NetD) : Nat → List (List Nat)
  | 0 => d.nn
  | 1 => d.segs.map fun s => s.1.nm
  | 2 => d.ports.map fun p => p.1
  | _ => d.stns.map fun s => s.1
theorem ns_ok (d : NetD) (h : NetOk d) (i : Nat) : (d.ns i).length ≤ 32 ∧ (∀ k ∈ d.ns i, NameOk k) ∧ (d.ns i).Nodup := by
  match i with
  | 0 => exact ⟨by have := h.n1; simp only [NetD.ns]; omega, h.nmN, h.ndN⟩
  | 1 => exact ⟨by have := h.s1; simp [NetD.ns]; omega, fun k hk => by simp only [NetD.ns] at hk; obtain ⟨s, hs, rfl⟩ := List.mem_map.1 hk; exact h.nmS s hs, h.ndS⟩
  | 2 => exact ⟨by have := h.p1; simp [NetD.ns]; omega, fun k hk => by simp only [NetD.ns] at hk; obtain ⟨s, hs, rfl⟩ := List.mem_map.1 hk; exact h.nmP s hs, h.ndP⟩
  | i + 3 => exact ⟨by have := h.t1; simp [NetD.ns]; omega, fun k hk => by simp only [NetD.ns] at hk; obtain ⟨s, hs, rfl⟩ := List.mem_map.1 hk; exact h.nmT s hs, h.ndT⟩
abbrev NetD.nt (d : NetD) : T := .agg [.sl 1 ((d.ns 0).map encS), .sl 1 ((d.ns 1).map encS), .sl 1 ((d.ns 2).map encS), .sl 1 ((d.ns 3).map encS)]
theorem names_fn' (d : NetD) (h : NetOk d) : FnOk Tryz.prog 56 [.t (.agg d.l)] [] (.t d.nt) [] := by
  have := names_fn d h
  simp only [NetD.nt, NetD.ns, List.map_map, Function.comp_def]
  exact this
theorem twice_fn (d : NetD) (h : NetOk d) : FnOk Tryz.prog 60 [.t (.agg d.l)] [] (.t (.bool false)) [] := by
  have c1 := names_fn' d h
  have h5 := h.t1
  obtain ⟨N0, hN0⟩ : ∃ N, d.nt = N := ⟨_, rfl⟩
  have hgt : ∀ i : Nat, i < 4 → ∃ l : List (List Nat), d.ns i = l ∧ l.length ≤ 32 ∧ (∀ k ∈ l, NameOk k) ∧ l.Nodup := fun i _ => ⟨_, rfl, (ns_ok d h i).1, (ns_ok d h i).2.1, (ns_ok d h i).2.2⟩
  obtain ⟨l0, e0, a0, b0, n0⟩ := hgt 0 (by omega)
  obtain ⟨l1, e1, a1, b1, n1⟩ := hgt 1 (by omega)
  obtain ⟨l2, e2, a2, b2, n2⟩ := hgt 2 (by omega)
  obtain ⟨l3, e3, a3, b3, n3⟩ := hgt 3 (by omega)
  have hN : d.nt = .agg [.sl 1 (l0.map encS), .sl 1 (l1.map encS), .sl 1 (l2.map encS), .sl 1 (l3.map encS)] := by simp only [NetD.nt, e0, e1, e2, e3]
  rw [hN] at c1
  clear hN hN0 e0 e1 e2 e3 hgt
  refine FnOk.intro fact_mixed Tryz.func60 rfl Tryz.ntmps60 (by rfl) (by simp) ?_
  repeat (first | (refine nf1_sound rfl ?_; simp [go_sem, ↓iO, iO, tN]) | refine anI ?_ | refine ⟨dcK, ?_⟩ | ((first | refine iP ?_ | refine iN ?_); try simp [go_sem, ↓iO, iO, tN]))
  refine CallK.fn (c1) [] [] [] (by kernel_rfl) ?_ ?_ ?_ (Or.inl rfl) ?_ <;> simp [go_sem, ↓iO, iO, tN]
  repeat (refine anI ?_)
  try (refine ⟨dcK, ?_⟩)
  repeat (first | (refine nf1_sound rfl ?_; simp [go_sem, ↓iO, iO, tN]) | refine anI ?_ | refine ⟨dcK, ?_⟩ | ((first | refine iP ?_ | refine iN ?_); try simp [go_sem, ↓iO, iO, tN]))
  refine nf1_sound' _ _ _ ?_; simp only [nf1]
  refine CW.loop (ι := Nat) (fun q => ⟨[(1, .pt 501 [] 0), (10, .t (.agg [.sl 1 (l0.map encS), .sl 1 (l1.map encS), .sl 1 (l2.map encS), .sl 1 (l3.map encS)])), (11, .t (.int q))], [(501, .box 33 (.t (.agg d.l)))]⟩) (fun q => q ≤ 4) (fun q => 4 - q) 0 [(501, some 101)] (by omega) ?_ ?_
  · simp [go_sem, ↓iO, iO, tN]
  intro q hq
  have h4 : q = 0 ∨ q = 1 ∨ q = 2 ∨ q = 3 ∨ q = 4 := by omega
  rcases h4 with rfl | rfl | rfl | rfl | rfl
  · repeat (first | (refine nf1_sound rfl ?_; simp [go_sem, ↓iO, iO, tN]) | refine anI ?_ | refine ⟨dcK, ?_⟩ | ((first | refine iP ?_ | refine iN ?_); try simp [go_sem, ↓iO, iO, tN]))
    refine nf1_sound' _ _ _ ?_; simp only [nf1]
    refine CW.loop (ι := Nat) (fun i => ⟨[(1, .pt 501 [] 0), (4, .t (.sl 1 (l0.map encS))), (10, .t (.agg [.sl 1 (l0.map encS), .sl 1 (l1.map encS), .sl 1 (l2.map encS), .sl 1 (l3.map encS)])), (11, .t (.int (0 : Nat))), (14, .t (.sl 1 (l0.map encS))), (15, .t (.int l0.length)), (16, .t (.int i))], [(501, .box 33 (.t (.agg d.l)))]⟩) (fun i => i ≤ l0.length) (fun i => l0.length - i) 0 [(501, some 501)] (by omega) ?_ ?_
    · simp [go_sem, ↓iO, iO, tN]
    intro i hi
    by_cases hb : i < l0.length
    · obtain ⟨k, hk⟩ := has_get hb
      have c := sidx_fn l0 (by omega) (fun m hm => (b0 m hm).by_) n0 i k hk
      repeat (first | (refine nf1_sound rfl ?_; simp [go_sem, ↓iO, iO, tN, hk]) | refine anI ?_ | refine ⟨dcK, ?_⟩ | ((first | refine iP ?_ | refine iN ?_); try simp [go_sem, ↓iO, iO, tN, hk]))
      refine CallK.fn (c) [] [] [] (by kernel_rfl) ?_ ?_ ?_ (Or.inl rfl) ?_ <;> simp [go_sem, ↓iO, iO, tN, hk]
      repeat (refine anI ?_)
      try (refine ⟨dcK, ?_⟩)
      repeat (first | (refine nf1_sound rfl ?_; simp [go_sem, ↓iO, iO, tN, hk]) | refine anI ?_ | refine ⟨dcK, ?_⟩ | ((first | refine iP ?_ | refine iN ?_); try simp [go_sem, ↓iO, iO, tN, hk]))
      rw [RoundQ_normal]; refine ⟨i + 1, [(501, some 501)], ?_, ?_, ?_⟩
      · omega
      · omega
      simp [go_sem, ↓iO, iO, tN]
    · obtain rfl : i = l0.length := by omega
      repeat (first | (refine nf1_sound rfl ?_; simp [go_sem, ↓iO, iO, tN]) | refine anI ?_ | refine ⟨dcK, ?_⟩ | ((first | refine iP ?_ | refine iN ?_); try simp [go_sem, ↓iO, iO, tN]))
      rw [RoundQ_normal]; refine ⟨1, [(501, some 501)], ?_, ?_, ?_⟩
      · omega
      · omega
      simp [go_sem, ↓iO, iO, tN]
  · repeat (first | (refine nf1_sound rfl ?_; simp [go_sem, ↓iO, iO, tN]) | refine anI ?_ | refine ⟨dcK, ?_⟩ | ((first | refine iP ?_ | refine iN ?_); try simp [go_sem, ↓iO, iO, tN]))
    refine nf1_sound' _ _ _ ?_; simp only [nf1]
    refine CW.loop (ι := Nat) (fun i => ⟨[(1, .pt 501 [] 0), (4, .t (.sl 1 (l1.map encS))), (10, .t (.agg [.sl 1 (l0.map encS), .sl 1 (l1.map encS), .sl 1 (l2.map encS), .sl 1 (l3.map encS)])), (11, .t (.int (1 : Nat))), (14, .t (.sl 1 (l1.map encS))), (15, .t (.int l1.length)), (16, .t (.int i))], [(501, .box 33 (.t (.agg d.l)))]⟩) (fun i => i ≤ l1.length) (fun i => l1.length - i) 0 [(501, some 501)] (by omega) ?_ ?_
    · simp [go_sem, ↓iO, iO, tN]
    intro i hi
    by_cases hb : i < l1.length
    · obtain ⟨k, hk⟩ := has_get hb
      have c := sidx_fn l1 (by omega) (fun m hm => (b1 m hm).by_) n1 i k hk
      repeat (first | (refine nf1_sound rfl ?_; simp [go_sem, ↓iO, iO, tN, hk]) | refine anI ?_ | refine ⟨dcK, ?_⟩ | ((first | refine iP ?_ | refine iN ?_); try simp [go_sem, ↓iO, iO, tN, hk]))
      refine CallK.fn (c) [] [] [] (by kernel_rfl) ?_ ?_ ?_ (Or.inl rfl) ?_ <;> simp [go_sem, ↓iO, iO, tN, hk]
      repeat (refine anI ?_)
      try (refine ⟨dcK, ?_⟩)
      repeat (first | (refine nf1_sound rfl ?_; simp [go_sem, ↓iO, iO, tN, hk]) | refine anI ?_ | refine ⟨dcK, ?_⟩ | ((first | refine iP ?_ | refine iN ?_); try simp [go_sem, ↓iO, iO, tN, hk]))
      rw [RoundQ_normal]; refine ⟨i + 1, [(501, some 501)], ?_, ?_, ?_⟩
      · omega
      · omega
      simp [go_sem, ↓iO, iO, tN]
    · obtain rfl : i = l1.length := by omega
      repeat (first | (refine nf1_sound rfl ?_; simp [go_sem, ↓iO, iO, tN]) | refine anI ?_ | refine ⟨dcK, ?_⟩ | ((first | refine iP ?_ | refine iN ?_); try simp [go_sem, ↓iO, iO, tN]))
      rw [RoundQ_normal]; refine ⟨2, [(501, some 501)], ?_, ?_, ?_⟩
      · omega
      · omega
      simp [go_sem, ↓iO, iO, tN]
  · repeat (first | (refine nf1_sound rfl ?_; simp [go_sem, ↓iO, iO, tN]) | refine anI ?_ | refine ⟨dcK, ?_⟩ | ((first | refine iP ?_ | refine iN ?_); try simp [go_sem, ↓iO, iO, tN]))
    refine nf1_sound' _ _ _ ?_; simp only [nf1]
    refine CW.loop (ι := Nat) (fun i => ⟨[(1, .pt 501 [] 0), (4, .t (.sl 1 (l2.map encS))), (10, .t (.agg [.sl 1 (l0.map encS), .sl 1 (l1.map encS), .sl 1 (l2.map encS), .sl 1 (l3.map encS)])), (11, .t (.int (2 : Nat))), (14, .t (.sl 1 (l2.map encS))), (15, .t (.int l2.length)), (16, .t (.int i))], [(501, .box 33 (.t (.agg d.l)))]⟩) (fun i => i ≤ l2.length) (fun i => l2.length - i) 0 [(501, some 501)] (by omega) ?_ ?_
    · simp [go_sem, ↓iO, iO, tN]
    intro i hi
    by_cases hb : i < l2.length
    · obtain ⟨k, hk⟩ := has_get hb
      have c := sidx_fn l2 (by omega) (fun m hm => (b2 m hm).by_) n2 i k hk
      repeat (first | (refine nf1_sound rfl ?_; simp [go_sem, ↓iO, iO, tN, hk]) | refine anI ?_ | refine ⟨dcK, ?_⟩ | ((first | refine iP ?_ | refine iN ?_); try simp [go_sem, ↓iO, iO, tN, hk]))
      refine CallK.fn (c) [] [] [] (by kernel_rfl) ?_ ?_ ?_ (Or.inl rfl) ?_ <;> simp [go_sem, ↓iO, iO, tN, hk]
      repeat (refine anI ?_)
      try (refine ⟨dcK, ?_⟩)
      repeat (first | (refine nf1_sound rfl ?_; simp [go_sem, ↓iO, iO, tN, hk]) | refine anI ?_ | refine ⟨dcK, ?_⟩ | ((first | refine iP ?_ | refine iN ?_); try simp [go_sem, ↓iO, iO, tN, hk]))
      rw [RoundQ_normal]; refine ⟨i + 1, [(501, some 501)], ?_, ?_, ?_⟩
      · omega
      · omega
      simp [go_sem, ↓iO, iO, tN]
    · obtain rfl : i = l2.length := by omega
      repeat (first | (refine nf1_sound rfl ?_; simp [go_sem, ↓iO, iO, tN]) | refine anI ?_ | refine ⟨dcK, ?_⟩ | ((first | refine iP ?_ | refine iN ?_); try simp [go_sem, ↓iO, iO, tN]))
      rw [RoundQ_normal]; refine ⟨3, [(501, some 501)], ?_, ?_, ?_⟩
      · omega
      · omega
      simp [go_sem, ↓iO, iO, tN]
  · repeat (first | (refine nf1_sound rfl ?_; simp [go_sem, ↓iO, iO, tN]) | refine anI ?_ | refine ⟨dcK, ?_⟩ | ((first | refine iP ?_ | refine iN ?_); try simp [go_sem, ↓iO, iO, tN]))
    refine nf1_sound' _ _ _ ?_; simp only [nf1]
    refine CW.loop (ι := Nat) (fun i => ⟨[(1, .pt 501 [] 0), (4, .t (.sl 1 (l3.map encS))), (10, .t (.agg [.sl 1 (l0.map encS), .sl 1 (l1.map encS), .sl 1 (l2.map encS), .sl 1 (l3.map encS)])), (11, .t (.int (3 : Nat))), (14, .t (.sl 1 (l3.map encS))), (15, .t (.int l3.length)), (16, .t (.int i))], [(501, .box 33 (.t (.agg d.l)))]⟩) (fun i => i ≤ l3.length) (fun i => l3.length - i) 0 [(501, some 501)] (by omega) ?_ ?_
    · simp [go_sem, ↓iO, iO, tN]
    intro i hi
    by_cases hb : i < l3.length
    · obtain ⟨k, hk⟩ := has_get hb
      have c := sidx_fn l3 (by omega) (fun m hm => (b3 m hm).by_) n3 i k hk
      repeat (first | (refine nf1_sound rfl ?_; simp [go_sem, ↓iO, iO, tN, hk]) | refine anI ?_ | refine ⟨dcK, ?_⟩ | ((first | refine iP ?_ | refine iN ?_); try simp [go_sem, ↓iO, iO, tN, hk]))
      refine CallK.fn (c) [] [] [] (by kernel_rfl) ?_ ?_ ?_ (Or.inl rfl) ?_ <;> simp [go_sem, ↓iO, iO, tN, hk]
      repeat (refine anI ?_)
      try (refine ⟨dcK, ?_⟩)
      repeat (first | (refine nf1_sound rfl ?_; simp [go_sem, ↓iO, iO, tN, hk]) | refine anI ?_ | refine ⟨dcK, ?_⟩ | ((first | refine iP ?_ | refine iN ?_); try simp [go_sem, ↓iO, iO, tN, hk]))
      rw [RoundQ_normal]; refine ⟨i + 1, [(501, some 501)], ?_, ?_, ?_⟩
      · omega
      · omega
      simp [go_sem, ↓iO, iO, tN]
    · obtain rfl : i = l3.length := by omega
      repeat (first | (refine nf1_sound rfl ?_; simp [go_sem, ↓iO, iO, tN]) | refine anI ?_ | refine ⟨dcK, ?_⟩ | ((first | refine iP ?_ | refine iN ?_); try simp [go_sem, ↓iO, iO, tN]))
      rw [RoundQ_normal]; refine ⟨4, [(501, some 501)], ?_, ?_, ?_⟩
      · omega
      · omega
      simp [go_sem, ↓iO, iO, tN]
  · repeat (first | (refine nf1_sound rfl ?_; simp [go_sem, ↓iO, iO, tN]) | refine anI ?_ | refine ⟨dcK, ?_⟩ | ((first | refine iP ?_ | refine iN ?_); try simp [go_sem, ↓iO, iO, tN]))
    refine nf1_sound' _ _ _ ?_; simp only [nf1]
    refine CW.loop (ι := Nat) (fun i => ⟨[(1, .pt 501 [] 0), (29, .t (.sl 5 (d.stns.map encSn))), (30, .t (.int d.stns.length)), (31, .t (.int i))], [(501, .box 33 (.t (.agg d.l)))]⟩) (fun i => i ≤ d.stns.length) (fun i => d.stns.length - i) 0 [(501, some 501)] (by omega) ?_ ?_
    · simp [go_sem, ↓iO, iO, tN]
    intro i hi
    by_cases hb : i < d.stns.length
    · obtain ⟨s, hs⟩ := has_get hb
      have c := tidx_fn d.stns (by omega) h.ndU i s hs
      obtain ⟨s1, s2, s3, s4, s5⟩ := s
      repeat (first | (refine nf1_sound rfl ?_; simp [go_sem, ↓iO, iO, tN, hs]) | refine anI ?_ | refine ⟨dcK, ?_⟩ | ((first | refine iP ?_ | refine iN ?_); try simp [go_sem, ↓iO, iO, tN, hs]))
      refine CallK.fn (c) [(0, 108)] [] [] (by kernel_rfl) ?_ ?_ ?_ (Or.inl rfl) ?_ <;> simp [go_sem, ↓iO, iO, tN, hs]
      repeat (refine anI ?_)
      try (refine ⟨dcK, ?_⟩)
      repeat (first | (refine nf1_sound rfl ?_; simp [go_sem, ↓iO, iO, tN, hs]) | refine anI ?_ | refine ⟨dcK, ?_⟩ | ((first | refine iP ?_ | refine iN ?_); try simp [go_sem, ↓iO, iO, tN, hs]))
      rw [RoundQ_normal]; refine ⟨i + 1, [(501, some 501)], ?_, ?_, ?_⟩
      · omega
      · omega
      simp [go_sem, ↓iO, iO, tN]
    · obtain rfl : i = d.stns.length := by omega
      repeat (first | (refine nf1_sound rfl ?_; simp [go_sem, ↓iO, iO, tN]) | refine anI ?_ | refine ⟨dcK, ?_⟩ | ((first | refine iP ?_ | refine iN ?_); try simp [go_sem, ↓iO, iO, tN]))
      first | rw [RetQ_ret] | rw [RetQ_normal]
      refine ⟨[], ?_⟩
      simp [go_sem, ↓iO, iO, tN]
theorem kn1_fn (d : NetD) (hd : d.nn.length ≤ 24) (k : Int) (h : 0 ≤ k ∧ k < d.nn.length) : FnOk Tryz.prog 86 [.t (.int k), .pt 0 [] 0] [(0, .box 33 (.t (.agg d.l)))] (.t (.bool false)) [(0, .box 33 (.t (.agg d.l)))] := by
  obtain ⟨h1, h2⟩ := h
  refine FnOk.intro fact_mixed Tryz.func86 rfl Tryz.ntmps86 (by rfl) (by simp) ?_
  repeat (first | (refine nf1_sound rfl ?_; simp [go_sem, ↓iO, iO, tN, h1, h2]) | refine anI ?_ | refine ⟨dcK, ?_⟩ | ((first | refine iP ?_ | refine iN ?_); try simp [go_sem, ↓iO, iO, tN, h1, h2]))
  first | rw [RetQ_ret] | rw [RetQ_normal]
  refine ⟨[(0, some 0)], ?_⟩
  simp [go_sem, ↓iO, iO, tN, h1, h2]
theorem kidx_fn (d : NetD) (hd : d.nn.length ≤ 24) (l : List Int) (hlen : l.length ≤ 1000000) (hall : ∀ k ∈ l, 0 ≤ k ∧ k < d.nn.length) :
    FnOk Tryz.prog 66 [.t (.sl 1 (l.map encI)), .fn 86 [.pt 0 [] 0]] [(0, .box 33 (.t (.agg d.l)))] (.t (.int (-1))) [(0, .box 33 (.t (.agg d.l)))] := by
  refine FnOk.intro fact_mixed Tryz.func66 rfl Tryz.ntmps66 (by rfl) (by simp) ?_
  repeat (first | (refine nf1_sound rfl ?_; simp [go_sem, ↓iO, iO, tN]) | refine anI ?_ | refine ⟨dcK, ?_⟩ | ((first | refine iP ?_ | refine iN ?_); try simp [go_sem, ↓iO, iO, tN]))
  refine nf1_sound' _ _ _ ?_; simp only [nf1]
  refine CW.loop (ι := Nat) (fun j => ⟨[(0, .t (.sl 1 (l.map encI))), (1, .fn 86 [.pt 0 [] 0]), (7, .t (.int l.length)), (8, .t (.int j))], [(0, .box 33 (.t (.agg d.l)))]⟩) (fun j => j ≤ l.length) (fun j => l.length - j) 0 [(0, some 0)] (by omega) ?_ ?_
  · simp [go_sem, ↓iO, iO, tN]
  intro j hj
  by_cases he : j < l.length
  · obtain ⟨m, hm⟩ : ∃ m, l[j]? = some m := has_get he
    have c := kn1_fn d hd m (hall m (mem_get hm))
    repeat (first | (refine nf1_sound rfl ?_; simp [go_sem, ↓iO, iO, tN, hm]) | refine anI ?_ | refine ⟨dcK, ?_⟩ | ((first | refine iP ?_ | refine iN ?_); try simp [go_sem, ↓iO, iO, tN, hm]))
    refine CallK.fn (c) [(0, 0)] [] [] (by kernel_rfl) ?_ ?_ ?_ (Or.inl rfl) ?_ <;> simp [go_sem, ↓iO, iO, tN, hm]
    repeat (refine anI ?_)
    try (refine ⟨dcK, ?_⟩)
    repeat (first | (refine nf1_sound rfl ?_; simp [go_sem, ↓iO, iO, tN, hm]) | refine anI ?_ | refine ⟨dcK, ?_⟩ | ((first | refine iP ?_ | refine iN ?_); try simp [go_sem, ↓iO, iO, tN, hm]))
    rw [RoundQ_normal]; refine ⟨j + 1, [(0, some 0)], ?_, ?_, ?_⟩
    · omega
    · omega
    simp [go_sem, ↓iO, iO, tN]
  · obtain rfl : j = l.length := by omega
    repeat (first | (refine nf1_sound rfl ?_; simp [go_sem, ↓iO, iO, tN]) | refine anI ?_ | refine ⟨dcK, ?_⟩ | ((first | refine iP ?_ | refine iN ?_); try simp [go_sem, ↓iO, iO, tN]))
    first | rw [RetQ_ret] | rw [RetQ_normal]
    refine ⟨[(0, some 0)], ?_⟩
    simp [go_sem, ↓iO, iO, tN]
theorem kcont_fn (d : NetD) (hd : d.nn.length ≤ 24) (l : List Int) (hlen : l.length ≤ 1000000) (hall : ∀ k ∈ l, 0 ≤ k ∧ k < d.nn.length) :
    FnOk Tryz.prog 49 [.t (.sl 1 (l.map encI)), .fn 86 [.pt 0 [] 0]] [(0, .box 33 (.t (.agg d.l)))] (.t (.bool false)) [(0, .box 33 (.t (.agg d.l)))] := by
  have c := kidx_fn d hd l hlen hall
  refine FnOk.intro fact_mixed Tryz.func49 rfl Tryz.ntmps49 (by rfl) (by simp) ?_
  repeat (first | (refine nf1_sound rfl ?_; simp [go_sem, ↓iO, iO, tN]) | refine anI ?_ | refine ⟨dcK, ?_⟩ | ((first | refine iP ?_ | refine iN ?_); try simp [go_sem, ↓iO, iO, tN]))
  refine CallK.fn (c) [(0, 0)] [] [] (by kernel_rfl) ?_ ?_ ?_ (Or.inl rfl) ?_ <;> simp [go_sem, ↓iO, iO, tN]
  repeat (refine anI ?_)
  try (refine ⟨dcK, ?_⟩)
  repeat (first | (refine nf1_sound rfl ?_; simp [go_sem, ↓iO, iO, tN]) | refine anI ?_ | refine ⟨dcK, ?_⟩ | ((first | refine iP ?_ | refine iN ?_); try simp [go_sem, ↓iO, iO, tN]))
  first | rw [RetQ_ret] | rw [RetQ_normal]
  refine ⟨[(0, some 0)], ?_⟩
  simp [go_sem, ↓iO, iO, tN]
def NetD.sn (d : NetD) (k : Nat) : List Int := (d.segs.take k).flatMap fun s => [s.1.fr, s.1.to]
def NetD.pn (d : NetD) (k : Nat) : List Int := d.sn d.segs.length ++ (d.ports.take k).map fun p => p.2.1
def NetD.tn (d : NetD) (k : Nat) : List Int := d.pn d.ports.length ++ (d.stns.take k).map fun p => p.2.1
theorem sn_step (d : NetD) (k : Nat) (s : Sgm) (h : d.segs[k]? = some s) : d.sn (k + 1) = d.sn k ++ [s.1.fr, s.1.to] := by
  obtain ⟨hk, e⟩ := List.getElem?_eq_some_iff.1 h
  simp only [NetD.sn, List.take_succ_eq_append_getElem hk, e, List.flatMap_append]; simp
theorem sn_len (d : NetD) (k : Nat) : (d.sn k).length ≤ 2 * k := by
  simp only [NetD.sn, List.length_flatMap]
  have : ∀ l : List Sgm, (l.map fun s => [s.1.fr, s.1.to].length).sum = 2 * l.length := by
    intro l; induction l with
    | nil => rfl
    | cons a r ih => rw [List.map_cons, List.sum_cons, ih]; simp; omega
  rw [this, List.length_take]; omega
theorem pn_step (d : NetD) (k : Nat) (s : Prt) (h : d.ports[k]? = some s) : d.pn (k + 1) = d.pn k ++ [s.2.1] := by
  obtain ⟨hk, e⟩ := List.getElem?_eq_some_iff.1 h
  simp only [NetD.pn, List.take_succ_eq_append_getElem hk, e, List.map_append, List.append_assoc, List.map_cons, List.map_nil]
theorem tn_step (d : NetD) (k : Nat) (s : Stn) (h : d.stns[k]? = some s) : d.tn (k + 1) = d.tn k ++ [s.2.1] := by
  obtain ⟨hk, e⟩ := List.getElem?_eq_some_iff.1 h
  simp only [NetD.tn, List.take_succ_eq_append_getElem hk, e, List.map_append, List.append_assoc, List.map_cons, List.map_nil]
theorem sn_mem (d : NetD) (h : NetOk d) (k : Nat) : ∀ x ∈ d.sn k, 0 ≤ x ∧ x < d.nn.length := by
  intro x hx
  simp only [NetD.sn, List.mem_flatMap] at hx
  obtain ⟨s, hs, hx⟩ := hx
  have := h.knS s (List.mem_of_mem_take hs)
  simp at hx
  rcases hx with rfl | rfl
  · exact this.1
  · exact this.2
theorem pn_mem (d : NetD) (h : NetOk d) (k : Nat) : ∀ x ∈ d.pn k, 0 ≤ x ∧ x < d.nn.length := by
  intro x hx
  simp only [NetD.pn, List.mem_append, List.mem_map] at hx
  rcases hx with hx | ⟨s, hs, rfl⟩
  · exact sn_mem d h _ x hx
  · exact h.knP s (List.mem_of_mem_take hs)
theorem tn_mem (d : NetD) (h : NetOk d) (k : Nat) : ∀ x ∈ d.tn k, 0 ≤ x ∧ x < d.nn.length := by
  intro x hx
  simp only [NetD.tn, List.mem_append, List.mem_map] at hx
  rcases hx with hx | ⟨s, hs, rfl⟩
  · exact pn_mem d h _ x hx
  · exact h.knT s (List.mem_of_mem_take hs)
theorem kn_ex (d : NetD) (h : NetOk d) : ∃ A P Q : Nat → List Int, (A 0 = [] ∧ (∀ (k : Nat) s, d.segs[k]? = some s → A (k + 1) = A k ++ [s.1.fr, s.1.to]) ∧ (∀ k, k ≤ d.segs.length → (A k).length ≤ 64)) ∧
    (P 0 = A d.segs.length ∧ (∀ (k : Nat) s, d.ports[k]? = some s → P (k + 1) = P k ++ [s.2.1]) ∧ (∀ k, k ≤ d.ports.length → (P k).length ≤ 88)) ∧
    (Q 0 = P d.ports.length ∧ (∀ (k : Nat) s, d.stns[k]? = some s → Q (k + 1) = Q k ++ [s.2.1]) ∧ (∀ k, k ≤ d.stns.length → (Q k).length ≤ 100)) ∧ ∀ x ∈ Q d.stns.length, 0 ≤ x ∧ x < d.nn.length := by
  have a := h.s1
  have b := h.p1
  have c := h.t1
  have s0 := sn_len d d.segs.length
  have p0 : ∀ k, (d.pn k).length ≤ (d.sn d.segs.length).length + k := by intro k; simp only [NetD.pn, List.length_append, List.length_map, List.length_take]; omega
  have q0 : ∀ k, (d.tn k).length ≤ (d.pn d.ports.length).length + k := by intro k; simp only [NetD.tn, List.length_append, List.length_map, List.length_take]; omega
  refine ⟨d.sn, d.pn, d.tn, ⟨rfl, sn_step d, fun k hk => ?_⟩, ⟨by simp [NetD.pn], pn_step d, fun k hk => ?_⟩, ⟨by simp [NetD.tn], tn_step d, fun k hk => ?_⟩, tn_mem d h _⟩
  · have := sn_len d k; omega
  · have := p0 k; omega
  · have := q0 k; have := p0 d.ports.length; omega
theorem known_fn (d : NetD) (h : NetOk d) : FnOk Tryz.prog 61 [.t (.agg d.l)] [] (.t (.bool true)) [] := by
  have h2 := h.n1
  have h3 := h.s1
  have h4 := h.p1
  have h5 := h.t1
  obtain ⟨A, P, Q, ⟨a0, aS, al⟩, ⟨p0, pS, pl⟩, ⟨q0, qS, ql⟩, qm⟩ := kn_ex d h
  have c := kcont_fn d h.n1 (Q d.stns.length) (by have := ql _ (Nat.le_refl _); omega) qm
  refine FnOk.intro fact_mixed Tryz.func61 rfl Tryz.ntmps61 (by rfl) (by simp) ?_
  repeat (first | (refine nf1_sound rfl ?_; simp [go_sem, ↓iO, iO, tN]) | refine anI ?_ | refine ⟨dcK, ?_⟩ | ((first | refine iP ?_ | refine iN ?_); try simp [go_sem, ↓iO, iO, tN]))
  refine nf1_sound' _ _ _ ?_; simp only [nf1]
  refine CW.loop (ι := Nat) (fun k => ⟨[(1, .pt 501 [] 0), (3, .own 510), (11, .t (.sl 7 (d.segs.map encSg))), (12, .t (.int d.segs.length)), (13, .t (.int k))], [(501, .box 33 (.t (.agg d.l))), (510, .list 3 1 ((A k).map encI))]⟩)
    (fun k => k ≤ d.segs.length) (fun k => d.segs.length - k) 0 [(501, some 101), (510, none)] (by omega) ?_ ?_
  · simp [go_sem, ↓iO, iO, tN, a0]
  intro k hk
  by_cases hb : k < d.segs.length
  · obtain ⟨s, hs⟩ := has_get hb
    have e1 := aS k _ hs
    have e2 := al k (by omega)
    obtain ⟨⟨nm, fr, to, cp, rs, wv⟩, pts⟩ := s
    dsimp only at e1
    obtain ⟨B, hB⟩ : ∃ B, A k = B := ⟨_, rfl⟩
    rw [hB] at e1 e2 ⊢
    repeat (first | (refine nf1_sound rfl ?_; simp [go_sem, ↓iO, iO, tN, hs, e2]) | refine anI ?_ | refine ⟨dcK, ?_⟩ | ((first | refine iP ?_ | refine iN ?_); try simp [go_sem, ↓iO, iO, tN, hs, e2]))
    rw [RoundQ_normal]; refine ⟨k + 1, [(501, some 501), (510, some 123)], ?_, ?_, ?_⟩
    · omega
    · omega
    simp [go_sem, ↓iO, iO, tN, e1]
  · obtain rfl : k = d.segs.length := by omega
    repeat (first | (refine nf1_sound rfl ?_; simp [go_sem, ↓iO, iO, tN]) | refine anI ?_ | refine ⟨dcK, ?_⟩ | ((first | refine iP ?_ | refine iN ?_); try simp [go_sem, ↓iO, iO, tN]))
    refine nf1_sound' _ _ _ ?_; simp only [nf1]
    refine CW.loop (ι := Nat) (fun k => ⟨[(1, .pt 501 [] 0), (3, .own 510), (26, .t (.sl 3 (d.ports.map encPr))), (27, .t (.int d.ports.length)), (28, .t (.int k))], [(501, .box 33 (.t (.agg d.l))), (510, .list 3 1 ((P k).map encI))]⟩)
      (fun k => k ≤ d.ports.length) (fun k => d.ports.length - k) 0 [(501, some 501), (510, some 510)] (by omega) ?_ ?_
    · simp [go_sem, ↓iO, iO, tN, p0]
    intro k hk
    by_cases hb : k < d.ports.length
    · obtain ⟨s, hs⟩ := has_get hb
      have e1 := pS k _ hs
      have e2 := pl k (by omega)
      obtain ⟨nm, nd, pr⟩ := s
      dsimp only at e1
      obtain ⟨B, hB⟩ : ∃ B, P k = B := ⟨_, rfl⟩
      rw [hB] at e1 e2 ⊢
      repeat (first | (refine nf1_sound rfl ?_; simp [go_sem, ↓iO, iO, tN, hs, e2]) | refine anI ?_ | refine ⟨dcK, ?_⟩ | ((first | refine iP ?_ | refine iN ?_); try simp [go_sem, ↓iO, iO, tN, hs, e2]))
      rw [RoundQ_normal]; refine ⟨k + 1, [(501, some 501), (510, some 136)], ?_, ?_, ?_⟩
      · omega
      · omega
      simp [go_sem, ↓iO, iO, tN, e1]
    · obtain rfl : k = d.ports.length := by omega
      repeat (first | (refine nf1_sound rfl ?_; simp [go_sem, ↓iO, iO, tN]) | refine anI ?_ | refine ⟨dcK, ?_⟩ | ((first | refine iP ?_ | refine iN ?_); try simp [go_sem, ↓iO, iO, tN]))
      refine nf1_sound' _ _ _ ?_; simp only [nf1]
      refine CW.loop (ι := Nat) (fun k => ⟨[(1, .pt 501 [] 0), (3, .own 510), (39, .t (.sl 5 (d.stns.map encSn))), (40, .t (.int d.stns.length)), (41, .t (.int k))], [(501, .box 33 (.t (.agg d.l))), (510, .list 3 1 ((Q k).map encI))]⟩)
        (fun k => k ≤ d.stns.length) (fun k => d.stns.length - k) 0 [(501, some 501), (510, some 510)] (by omega) ?_ ?_
      · simp [go_sem, ↓iO, iO, tN, q0]
      intro k hk
      by_cases hb : k < d.stns.length
      · obtain ⟨s, hs⟩ := has_get hb
        have e1 := qS k _ hs
        have e2 := ql k (by omega)
        obtain ⟨nm, nd, hd1, fl, su⟩ := s
        dsimp only at e1
        obtain ⟨B, hB⟩ : ∃ B, Q k = B := ⟨_, rfl⟩
        rw [hB] at e1 e2 ⊢
        repeat (first | (refine nf1_sound rfl ?_; simp [go_sem, ↓iO, iO, tN, hs, e2]) | refine anI ?_ | refine ⟨dcK, ?_⟩ | ((first | refine iP ?_ | refine iN ?_); try simp [go_sem, ↓iO, iO, tN, hs, e2]))
        rw [RoundQ_normal]; refine ⟨k + 1, [(501, some 501), (510, some 149)], ?_, ?_, ?_⟩
        · omega
        · omega
        simp [go_sem, ↓iO, iO, tN, e1]
      · obtain rfl : k = d.stns.length := by omega
        repeat (first | (refine nf1_sound rfl ?_; simp [go_sem, ↓iO, iO, tN]) | refine anI ?_ | refine ⟨dcK, ?_⟩ | ((first | refine iP ?_ | refine iN ?_); try simp [go_sem, ↓iO, iO, tN]))
        refine CallK.fn (c) [(0, 501)] [] [510] (by kernel_rfl) ?_ ?_ ?_ (Or.inl rfl) ?_ <;> simp [go_sem, ↓iO, iO, tN]
        repeat (refine anI ?_)
        try (refine ⟨dcK, ?_⟩)
        repeat (first | (refine nf1_sound rfl ?_; simp [go_sem, ↓iO, iO, tN]) | refine anI ?_ | refine ⟨dcK, ?_⟩ | ((first | refine iP ?_ | refine iN ?_); try simp [go_sem, ↓iO, iO, tN]))
        first | rw [RetQ_ret] | rw [RetQ_normal]
        refine ⟨[], ?_⟩
        simp [go_sem, ↓iO, iO, tN]
theorem place_fn (x : Nat) (h : 97 ≤ x ∧ x ≤ 122) : FnOk Tryz.prog 82 [.t (.lit (.int .u8 x))] [] (.t (.int 1)) [] := by
  obtain ⟨h1, h2⟩ := h
  have e1 : (97 : Int) ≤ x := by omega
  have e2 : (x : Int) ≤ 122 := by omega
  refine FnOk.intro fact_mixed Tryz.func82 rfl Tryz.ntmps82 (by rfl) (by simp) ?_
  repeat (first | (refine nf1_sound rfl ?_; simp [go_sem, ↓iO, iO, tN, e1, e2]) | refine anI ?_ | refine ⟨dcK, ?_⟩ | ((first | refine iP ?_ | refine iN ?_); try simp [go_sem, ↓iO, iO, tN, e1, e2]))
  first | rw [RetQ_ret] | rw [RetQ_normal]
  refine ⟨[], ?_⟩
  simp [go_sem, ↓iO, iO, tN]
theorem name_fn (k : List Nat) (h0 : 1 ≤ k.length) (h1 : k.length ≤ 12) (h : ∀ x ∈ k, 97 ≤ x ∧ x ≤ 122) : FnOk Tryz.prog 59 [.t (encS k)] [] (.t (.bool true)) [] := by
  have hc : ∀ (j : Nat) x, k[j]? = some x → (str k).data.toList[j]? = some (UInt8.ofNat x) ∧ (UInt8.ofNat x).toNat = x := by
    intro j x hx
    have := h x (mem_get hx)
    have e : (str k).data.toList = k.map fun c => UInt8.ofNat c := by simp [str]
    rw [e, List.getElem?_map, hx]
    refine ⟨rfl, ?_⟩
    rw [UInt8.toNat_ofNat']; omega
  obtain ⟨x, hx⟩ : ∃ x, k[0]? = some x := has_get (by omega)
  obtain ⟨a1, a2⟩ := hc 0 x hx
  have c := place_fn x (h x (mem_get hx))
  refine FnOk.intro fact_mixed Tryz.func59 rfl Tryz.ntmps59 (by rfl) (by simp) ?_
  repeat (first | (refine nf1_sound rfl ?_; simp [go_sem, ↓iO, iO, tN, a1, a2]) | refine anI ?_ | refine ⟨dcK, ?_⟩ | ((first | refine iP ?_ | refine iN ?_); try simp [go_sem, ↓iO, iO, tN, a1, a2]))
  refine CallK.fn (c) [] [] [] (by kernel_rfl) ?_ ?_ ?_ (Or.inl rfl) ?_ <;> simp [go_sem, ↓iO, iO, tN, a1, a2]
  repeat (refine anI ?_)
  try (refine ⟨dcK, ?_⟩)
  repeat (first | (refine nf1_sound rfl ?_; simp [go_sem, ↓iO, iO, tN]) | refine anI ?_ | refine ⟨dcK, ?_⟩ | ((first | refine iP ?_ | refine iN ?_); try simp [go_sem, ↓iO, iO, tN]))
  refine nf1_sound' _ _ _ ?_; simp only [nf1]
  refine CW.loop (ι := Nat) (fun j => ⟨[(0, .t (encS k)), (19, .t (.int k.length)), (20, .t (.int j))], []⟩) (fun j => j ≤ k.length) (fun j => k.length - j) 0 [] (by omega) ?_ ?_
  · simp [go_sem, ↓iO, iO, tN]
  intro j hj
  by_cases hb : j < k.length
  · obtain ⟨y, hy⟩ := has_get hb
    obtain ⟨b1, b2⟩ := hc j y hy
    have c2 := place_fn y (h y (mem_get hy))
    repeat (first | (refine nf1_sound rfl ?_; simp [go_sem, ↓iO, iO, tN, b1, b2]) | refine anI ?_ | refine ⟨dcK, ?_⟩ | ((first | refine iP ?_ | refine iN ?_); try simp [go_sem, ↓iO, iO, tN, b1, b2]))
    refine CallK.fn (c2) [] [] [] (by kernel_rfl) ?_ ?_ ?_ (Or.inl rfl) ?_ <;> simp [go_sem, ↓iO, iO, tN, b1, b2]
    repeat (refine anI ?_)
    try (refine ⟨dcK, ?_⟩)
    repeat (first | (refine nf1_sound rfl ?_; simp [go_sem, ↓iO, iO, tN]) | refine anI ?_ | refine ⟨dcK, ?_⟩ | ((first | refine iP ?_ | refine iN ?_); try simp [go_sem, ↓iO, iO, tN]))
    rw [RoundQ_normal]; refine ⟨j + 1, [], ?_, ?_, ?_⟩
    · omega
    · omega
    simp [go_sem, ↓iO, iO, tN]
  · obtain rfl : j = k.length := by omega
    repeat (first | (refine nf1_sound rfl ?_; simp [go_sem, ↓iO, iO, tN]) | refine anI ?_ | refine ⟨dcK, ?_⟩ | ((first | refine iP ?_ | refine iN ?_); try simp [go_sem, ↓iO, iO, tN]))
    first | rw [RetQ_ret] | rw [RetQ_normal]
    refine ⟨[], ?_⟩
    simp [go_sem, ↓iO, iO, tN]
theorem name_ok (k : List Nat) (h0 : 1 ≤ k.length) (h1 : k.length ≤ 12) (h : ∀ x ∈ k, 97 ≤ x ∧ x ≤ 122) : NameOk k := ⟨fun x hx => by have := h x hx; omega, name_fn k h0 h1 h⟩
theorem nprop2_fn (p : Prt) (h : 0 ≤ p.2.2 ∧ p.2.2 ≤ 100000000) : FnOk Tryz.prog 90 [.t (encPr p)] [] (.t (.bool false)) [] := by
  have c := nin_fn p.2.2 0 100000000 true (by simpa using h)
  obtain ⟨a, b, e⟩ := p
  refine FnOk.intro fact_mixed Tryz.func90 rfl Tryz.ntmps90 (by rfl) (by simp) ?_
  repeat (first | (refine nf1_sound rfl ?_; simp [go_sem, ↓iO, iO, tN]) | refine anI ?_ | refine ⟨dcK, ?_⟩ | ((first | refine iP ?_ | refine iN ?_); try simp [go_sem, ↓iO, iO, tN]))
  refine CallK.fn (c) [] [] [] (by kernel_rfl) ?_ ?_ ?_ (Or.inl rfl) ?_ <;> simp [go_sem, ↓iO, iO, tN]
  repeat (refine anI ?_)
  try (refine ⟨dcK, ?_⟩)
  repeat (first | (refine nf1_sound rfl ?_; simp [go_sem, ↓iO, iO, tN]) | refine anI ?_ | refine ⟨dcK, ?_⟩ | ((first | refine iP ?_ | refine iN ?_); try simp [go_sem, ↓iO, iO, tN]))
  first | rw [RetQ_ret] | rw [RetQ_normal]
  refine ⟨[], ?_⟩
  simp [go_sem, ↓iO, iO, tN]
theorem nprop3_fn (p : Stn) (h : (0 ≤ p.2.2.1 ∧ p.2.2.1 ≤ 100000000) ∧ (0 ≤ p.2.2.2.1 ∧ p.2.2.2.1 ≤ 100000) ∧ 0 ≤ p.2.2.2.2 ∧ p.2.2.2.2 ≤ 100000000) : FnOk Tryz.prog 93 [.t (encSn p)] [] (.t (.bool false)) [] := by
  have c1 := nin_fn p.2.2.1 0 100000000 true (by simpa using h.1)
  have c2 := nin_fn p.2.2.2.1 0 100000 true (by simpa using h.2.1)
  have c3 := nin_fn p.2.2.2.2 0 100000000 true (by simpa using h.2.2)
  obtain ⟨a, b, e, f, g⟩ := p
  refine FnOk.intro fact_mixed Tryz.func93 rfl Tryz.ntmps93 (by rfl) (by simp) ?_
  repeat (first | (refine nf1_sound rfl ?_; simp [go_sem, ↓iO, iO, tN]) | refine anI ?_ | refine ⟨dcK, ?_⟩ | ((first | refine iP ?_ | refine iN ?_); try simp [go_sem, ↓iO, iO, tN]))
  refine CallK.fn (c1) [] [] [] (by kernel_rfl) ?_ ?_ ?_ (Or.inl rfl) ?_ <;> simp [go_sem, ↓iO, iO, tN]
  repeat (refine anI ?_)
  try (refine ⟨dcK, ?_⟩)
  repeat (first | (refine nf1_sound rfl ?_; simp [go_sem, ↓iO, iO, tN]) | refine anI ?_ | refine ⟨dcK, ?_⟩ | ((first | refine iP ?_ | refine iN ?_); try simp [go_sem, ↓iO, iO, tN]))
  refine CallK.fn (c2) [] [] [] (by kernel_rfl) ?_ ?_ ?_ (Or.inl rfl) ?_ <;> simp [go_sem, ↓iO, iO, tN]
  repeat (refine anI ?_)
  try (refine ⟨dcK, ?_⟩)
  repeat (first | (refine nf1_sound rfl ?_; simp [go_sem, ↓iO, iO, tN]) | refine anI ?_ | refine ⟨dcK, ?_⟩ | ((first | refine iP ?_ | refine iN ?_); try simp [go_sem, ↓iO, iO, tN]))
  refine CallK.fn (c3) [] [] [] (by kernel_rfl) ?_ ?_ ?_ (Or.inl rfl) ?_ <;> simp [go_sem, ↓iO, iO, tN]
  repeat (refine anI ?_)
  try (refine ⟨dcK, ?_⟩)
  repeat (first | (refine nf1_sound rfl ?_; simp [go_sem, ↓iO, iO, tN]) | refine anI ?_ | refine ⟨dcK, ?_⟩ | ((first | refine iP ?_ | refine iN ?_); try simp [go_sem, ↓iO, iO, tN]))
  first | rw [RetQ_ret] | rw [RetQ_normal]
  refine ⟨[], ?_⟩
  simp [go_sem, ↓iO, iO, tN]
theorem nproperG_fn (d : NetD) (h : NetOk d) : FnOk Tryz.prog 62 [.t (.agg d.l)] [] (.t (.bool true)) [] := by
  have h3 := h.s1
  have h4 := h.p1
  have h5 := h.t1
  have c1 := seg_cont d.segs (by omega) (fun p hp => nprop1_fn _ (h.pipe p hp))
  have c2 := pr2_cont d.ports (by omega) (fun p hp => nprop2_fn _ (h.prs p hp))
  have c3 := pr3_cont d.stns (by omega) (fun p hp => nprop3_fn _ (h.stn p hp))
  have c4 := nin_fn d.vap (-100000) 100000000 true (by simpa using h.vap)
  have c5 := nin_fn d.stl 0 100 true (by simpa using h.stl)
  refine FnOk.intro fact_mixed Tryz.func62 rfl Tryz.ntmps62 (by rfl) (by simp) ?_
  repeat (first | (refine nf1_sound rfl ?_; simp [go_sem, ↓iO, iO, tN]) | refine anI ?_ | refine ⟨dcK, ?_⟩ | ((first | refine iP ?_ | refine iN ?_); try simp [go_sem, ↓iO, iO, tN]))
  refine CallK.fn (c1) [] [] [] (by kernel_rfl) ?_ ?_ ?_ (Or.inl rfl) ?_ <;> simp [go_sem, ↓iO, iO, tN]
  repeat (refine anI ?_)
  try (refine ⟨dcK, ?_⟩)
  repeat (first | (refine nf1_sound rfl ?_; simp [go_sem, ↓iO, iO, tN]) | refine anI ?_ | refine ⟨dcK, ?_⟩ | ((first | refine iP ?_ | refine iN ?_); try simp [go_sem, ↓iO, iO, tN]))
  refine CallK.fn (c2) [] [] [] (by kernel_rfl) ?_ ?_ ?_ (Or.inl rfl) ?_ <;> simp [go_sem, ↓iO, iO, tN]
  repeat (refine anI ?_)
  try (refine ⟨dcK, ?_⟩)
  repeat (first | (refine nf1_sound rfl ?_; simp [go_sem, ↓iO, iO, tN]) | refine anI ?_ | refine ⟨dcK, ?_⟩ | ((first | refine iP ?_ | refine iN ?_); try simp [go_sem, ↓iO, iO, tN]))
  refine CallK.fn (c3) [] [] [] (by kernel_rfl) ?_ ?_ ?_ (Or.inl rfl) ?_ <;> simp [go_sem, ↓iO, iO, tN]
  repeat (refine anI ?_)
  try (refine ⟨dcK, ?_⟩)
  repeat (first | (refine nf1_sound rfl ?_; simp [go_sem, ↓iO, iO, tN]) | refine anI ?_ | refine ⟨dcK, ?_⟩ | ((first | refine iP ?_ | refine iN ?_); try simp [go_sem, ↓iO, iO, tN]))
  refine CallK.fn (c4) [] [] [] (by kernel_rfl) ?_ ?_ ?_ (Or.inl rfl) ?_ <;> simp [go_sem, ↓iO, iO, tN]
  repeat (refine anI ?_)
  try (refine ⟨dcK, ?_⟩)
  repeat (first | (refine nf1_sound rfl ?_; simp [go_sem, ↓iO, iO, tN]) | refine anI ?_ | refine ⟨dcK, ?_⟩ | ((first | refine iP ?_ | refine iN ?_); try simp [go_sem, ↓iO, iO, tN]))
  refine CallK.fn (c5) [] [] [] (by kernel_rfl) ?_ ?_ ?_ (Or.inl rfl) ?_ <;> simp [go_sem, ↓iO, iO, tN]
  repeat (refine anI ?_)
  try (refine ⟨dcK, ?_⟩)
  repeat (first | (refine nf1_sound rfl ?_; simp [go_sem, ↓iO, iO, tN]) | refine anI ?_ | refine ⟨dcK, ?_⟩ | ((first | refine iP ?_ | refine iN ?_); try simp [go_sem, ↓iO, iO, tN]))
  first | rw [RetQ_ret] | rw [RetQ_normal]
  refine ⟨[], ?_⟩
  simp [go_sem, ↓iO, iO, tN]
theorem ncheck1_fn (k : List Nat) (h : NameOk k) : FnOk Tryz.prog 58 [.t (encS k)] [] (.t (.bool false)) [] := by
  have c := h.fn
  refine FnOk.intro fact_mixed Tryz.func58 rfl Tryz.ntmps58 (by rfl) (by simp) ?_
  repeat (first | (refine nf1_sound rfl ?_; simp [go_sem, ↓iO, iO, tN]) | refine anI ?_ | refine ⟨dcK, ?_⟩ | ((first | refine iP ?_ | refine iN ?_); try simp [go_sem, ↓iO, iO, tN]))
  refine CallK.fn (c) [] [] [] (by kernel_rfl) ?_ ?_ ?_ (Or.inl rfl) ?_ <;> simp [go_sem, ↓iO, iO, tN]
  repeat (refine anI ?_)
  try (refine ⟨dcK, ?_⟩)
  repeat (first | (refine nf1_sound rfl ?_; simp [go_sem, ↓iO, iO, tN]) | refine anI ?_ | refine ⟨dcK, ?_⟩ | ((first | refine iP ?_ | refine iN ?_); try simp [go_sem, ↓iO, iO, tN]))
  first | rw [RetQ_ret] | rw [RetQ_normal]
  refine ⟨[], ?_⟩
  simp [go_sem, ↓iO, iO, tN]
theorem ncheckG_fn (d : NetD) (h : NetOk d) : FnOk Tryz.prog 45 [.t (.agg d.l)] [] (.t (.int 0)) [] := by
  have c1 := limits_fn d h
  have c2 := names_fn' d h
  have c3 := twice_fn d h
  have c4 := known_fn d h
  have c5 := nproperG_fn d h
  have hgt : ∀ i : Nat, i < 4 → ∃ l : List (List Nat), d.ns i = l ∧ FnOk Tryz.prog 57 [.t (.sl 1 (l.map encS)), .fn 58 []] [] (.t (.bool false)) [] := fun i _ => ⟨_, rfl, cks_cont _ (by have := (ns_ok d h i).1; omega) (fun p hp => ncheck1_fn _ ((ns_ok d h i).2.1 p hp))⟩
  obtain ⟨l0, e0, d0⟩ := hgt 0 (by omega)
  obtain ⟨l1, e1, d1⟩ := hgt 1 (by omega)
  obtain ⟨l2, e2, d2⟩ := hgt 2 (by omega)
  obtain ⟨l3, e3, d3⟩ := hgt 3 (by omega)
  have hN : d.nt = .agg [.sl 1 (l0.map encS), .sl 1 (l1.map encS), .sl 1 (l2.map encS), .sl 1 (l3.map encS)] := by simp only [NetD.nt, e0, e1, e2, e3]
  rw [hN] at c2
  clear hN e0 e1 e2 e3 hgt
  refine FnOk.intro fact_mixed Tryz.func45 rfl Tryz.ntmps45 (by rfl) (by simp) ?_
  repeat (first | (refine nf1_sound rfl ?_; simp [go_sem, ↓iO, iO, tN]) | refine anI ?_ | refine ⟨dcK, ?_⟩ | ((first | refine iP ?_ | refine iN ?_); try simp [go_sem, ↓iO, iO, tN]))
  refine CallK.fn (c1) [] [] [] (by kernel_rfl) ?_ ?_ ?_ (Or.inl rfl) ?_ <;> simp [go_sem, ↓iO, iO, tN]
  repeat (refine anI ?_)
  try (refine ⟨dcK, ?_⟩)
  repeat (first | (refine nf1_sound rfl ?_; simp [go_sem, ↓iO, iO, tN]) | refine anI ?_ | refine ⟨dcK, ?_⟩ | ((first | refine iP ?_ | refine iN ?_); try simp [go_sem, ↓iO, iO, tN]))
  refine CallK.fn (c2) [] [] [] (by kernel_rfl) ?_ ?_ ?_ (Or.inl rfl) ?_ <;> simp [go_sem, ↓iO, iO, tN]
  repeat (refine anI ?_)
  try (refine ⟨dcK, ?_⟩)
  repeat (first | (refine nf1_sound rfl ?_; simp [go_sem, ↓iO, iO, tN]) | refine anI ?_ | refine ⟨dcK, ?_⟩ | ((first | refine iP ?_ | refine iN ?_); try simp [go_sem, ↓iO, iO, tN]))
  refine nf1_sound' _ _ _ ?_; simp only [nf1]
  refine CW.loop (ι := Nat) (fun k => ⟨[(1, .pt 501 [] 0), (9, .t (.agg [.sl 1 (l0.map encS), .sl 1 (l1.map encS), .sl 1 (l2.map encS), .sl 1 (l3.map encS)])), (10, .t (.int k))], [(501, .box 33 (.t (.agg d.l)))]⟩) (fun k => k ≤ 4) (fun k => 4 - k) 0 [(501, some 101)] (by omega) ?_ ?_
  · simp [go_sem, ↓iO, iO, tN]
  intro k hk
  have h4 : k = 0 ∨ k = 1 ∨ k = 2 ∨ k = 3 ∨ k = 4 := by omega
  rcases h4 with rfl | rfl | rfl | rfl | rfl
  · repeat (first | (refine nf1_sound rfl ?_; simp [go_sem, ↓iO, iO, tN]) | refine anI ?_ | refine ⟨dcK, ?_⟩ | ((first | refine iP ?_ | refine iN ?_); try simp [go_sem, ↓iO, iO, tN]))
    refine CallK.fn (d0) [] [] [] (by kernel_rfl) ?_ ?_ ?_ (Or.inl rfl) ?_ <;> simp [go_sem, ↓iO, iO, tN]
    repeat (refine anI ?_)
    try (refine ⟨dcK, ?_⟩)
    repeat (first | (refine nf1_sound rfl ?_; simp [go_sem, ↓iO, iO, tN]) | refine anI ?_ | refine ⟨dcK, ?_⟩ | ((first | refine iP ?_ | refine iN ?_); try simp [go_sem, ↓iO, iO, tN]))
    rw [RoundQ_normal]; refine ⟨1, [(501, some 501)], ?_, ?_, ?_⟩
    · omega
    · omega
    simp [go_sem, ↓iO, iO, tN]
  · repeat (first | (refine nf1_sound rfl ?_; simp [go_sem, ↓iO, iO, tN]) | refine anI ?_ | refine ⟨dcK, ?_⟩ | ((first | refine iP ?_ | refine iN ?_); try simp [go_sem, ↓iO, iO, tN]))
    refine CallK.fn (d1) [] [] [] (by kernel_rfl) ?_ ?_ ?_ (Or.inl rfl) ?_ <;> simp [go_sem, ↓iO, iO, tN]
    repeat (refine anI ?_)
    try (refine ⟨dcK, ?_⟩)
    repeat (first | (refine nf1_sound rfl ?_; simp [go_sem, ↓iO, iO, tN]) | refine anI ?_ | refine ⟨dcK, ?_⟩ | ((first | refine iP ?_ | refine iN ?_); try simp [go_sem, ↓iO, iO, tN]))
    rw [RoundQ_normal]; refine ⟨2, [(501, some 501)], ?_, ?_, ?_⟩
    · omega
    · omega
    simp [go_sem, ↓iO, iO, tN]
  · repeat (first | (refine nf1_sound rfl ?_; simp [go_sem, ↓iO, iO, tN]) | refine anI ?_ | refine ⟨dcK, ?_⟩ | ((first | refine iP ?_ | refine iN ?_); try simp [go_sem, ↓iO, iO, tN]))
    refine CallK.fn (d2) [] [] [] (by kernel_rfl) ?_ ?_ ?_ (Or.inl rfl) ?_ <;> simp [go_sem, ↓iO, iO, tN]
    repeat (refine anI ?_)
    try (refine ⟨dcK, ?_⟩)
    repeat (first | (refine nf1_sound rfl ?_; simp [go_sem, ↓iO, iO, tN]) | refine anI ?_ | refine ⟨dcK, ?_⟩ | ((first | refine iP ?_ | refine iN ?_); try simp [go_sem, ↓iO, iO, tN]))
    rw [RoundQ_normal]; refine ⟨3, [(501, some 501)], ?_, ?_, ?_⟩
    · omega
    · omega
    simp [go_sem, ↓iO, iO, tN]
  · repeat (first | (refine nf1_sound rfl ?_; simp [go_sem, ↓iO, iO, tN]) | refine anI ?_ | refine ⟨dcK, ?_⟩ | ((first | refine iP ?_ | refine iN ?_); try simp [go_sem, ↓iO, iO, tN]))
    refine CallK.fn (d3) [] [] [] (by kernel_rfl) ?_ ?_ ?_ (Or.inl rfl) ?_ <;> simp [go_sem, ↓iO, iO, tN]
    repeat (refine anI ?_)
    try (refine ⟨dcK, ?_⟩)
    repeat (first | (refine nf1_sound rfl ?_; simp [go_sem, ↓iO, iO, tN]) | refine anI ?_ | refine ⟨dcK, ?_⟩ | ((first | refine iP ?_ | refine iN ?_); try simp [go_sem, ↓iO, iO, tN]))
    rw [RoundQ_normal]; refine ⟨4, [(501, some 501)], ?_, ?_, ?_⟩
    · omega
    · omega
    simp [go_sem, ↓iO, iO, tN]
  · repeat (first | (refine nf1_sound rfl ?_; simp [go_sem, ↓iO, iO, tN]) | refine anI ?_ | refine ⟨dcK, ?_⟩ | ((first | refine iP ?_ | refine iN ?_); try simp [go_sem, ↓iO, iO, tN]))
    refine CallK.fn (c3) [] [] [] (by kernel_rfl) ?_ ?_ ?_ (Or.inl rfl) ?_ <;> simp [go_sem, ↓iO, iO, tN]
    repeat (refine anI ?_)
    try (refine ⟨dcK, ?_⟩)
    repeat (first | (refine nf1_sound rfl ?_; simp [go_sem, ↓iO, iO, tN]) | refine anI ?_ | refine ⟨dcK, ?_⟩ | ((first | refine iP ?_ | refine iN ?_); try simp [go_sem, ↓iO, iO, tN]))
    refine CallK.fn (c4) [] [] [] (by kernel_rfl) ?_ ?_ ?_ (Or.inl rfl) ?_ <;> simp [go_sem, ↓iO, iO, tN]
    repeat (refine anI ?_)
    try (refine ⟨dcK, ?_⟩)
    repeat (first | (refine nf1_sound rfl ?_; simp [go_sem, ↓iO, iO, tN]) | refine anI ?_ | refine ⟨dcK, ?_⟩ | ((first | refine iP ?_ | refine iN ?_); try simp [go_sem, ↓iO, iO, tN]))
    refine CallK.fn (c5) [] [] [] (by kernel_rfl) ?_ ?_ ?_ (Or.inl rfl) ?_ <;> simp [go_sem, ↓iO, iO, tN]
    repeat (refine anI ?_)
    try (refine ⟨dcK, ?_⟩)
    repeat (first | (refine nf1_sound rfl ?_; simp [go_sem, ↓iO, iO, tN]) | refine anI ?_ | refine ⟨dcK, ?_⟩ | ((first | refine iP ?_ | refine iN ?_); try simp [go_sem, ↓iO, iO, tN]))
    first | rw [RetQ_ret] | rw [RetQ_normal]
    refine ⟨[], ?_⟩
    simp [go_sem, ↓iO, iO, tN]
def rangeV (l : List Int) (k : Nat) (lo hi : Int) : Int := lo + nV l k (hi - lo + 1)
theorem rangeV_range {l : List Int} {k : Nat} {lo hi : Int} (h : lo ≤ hi) : lo ≤ rangeV l k lo hi ∧ rangeV l k lo hi ≤ hi := by
  have := nV_range (l := l) (k := k) (n := hi - lo + 1) (by omega)
  unfold rangeV; omega
theorem range_fn (l : List Int) (k : Nat) (lo hi : Int) (h : SrcOk l k) (h1 : -1000000000000000000 ≤ lo) (h2 : lo ≤ hi) (h3 : hi ≤ 1000000000000000000) :
    FnOk Tryz.prog 8 [.pt 0 [] 0, .t (.int lo), .t (.int hi)] [(0, srcB l k)] (.t (.int (rangeV l k lo hi))) [(0, srcB l (nextK l k))] := by
  have h4 := nV_range (l := l) (k := k) (n := hi - lo + 1) (by omega)
  refine FnOk.intro fact_mixed Tryz.func8 rfl Tryz.ntmps8 (by rfl) (by simp) ?_
  repeat (first | (refine nf1_sound rfl ?_; simp [go_sem, ↓iO, iO, tN]) | refine anI ?_ | refine ⟨dcK, ?_⟩ | ((first | refine iP ?_ | refine iN ?_); try simp [go_sem, ↓iO, iO, tN]))
  refine CallK.fn (n_fn l k (hi - lo + 1) h (by omega)) [(0, 0)] [] [] (by kernel_rfl) ?_ ?_ ?_ (Or.inl rfl) ?_ <;> simp [go_sem, ↓iO, iO, tN]
  repeat (refine anI ?_)
  try (refine ⟨dcK, ?_⟩)
  repeat (first | (refine nf1_sound rfl ?_; simp [go_sem, ↓iO, iO, tN]) | refine anI ?_ | refine ⟨dcK, ?_⟩ | ((first | refine iP ?_ | refine iN ?_); try simp [go_sem, ↓iO, iO, tN]))
  first | rw [RetQ_ret] | rw [RetQ_normal]
  refine ⟨[(0, some 0)], ?_⟩
  simp [go_sem, ↓iO, iO, tN, rangeV]
theorem n_ex {l : List Int} {k : Nat} (h : SrcOk l k) (n : Int) (h1 : 1 ≤ n) (h2 : n ≤ 9223372036854775807) : ∃ v, (0 ≤ v ∧ v < n) ∧ FnOk Tryz.prog 21 [.pt 0 [] 0, .t (.int n)] [(0, srcB l k)] (.t (.int v)) [(0, srcB l (nextK l k))] :=
  ⟨_, nV_range h1, n_fn l k n h h2⟩
def pickV (l : List Int) (k : Nat) (xs : List Int) : Int := xs.getD (nV l k xs.length).toNat 0
theorem pickV_mem {l : List Int} {k : Nat} {xs : List Int} (h : 1 ≤ xs.length) : pickV l k xs ∈ xs := by
  have h1 := nV_range (l := l) (k := k) (n := xs.length) (by omega)
  obtain ⟨v, hv⟩ := has_get (show (nV l k xs.length).toNat < xs.length by omega)
  unfold pickV
  rw [List.getD_eq_getElem?_getD, hv]
  exact mem_get hv
theorem pick_fn {l : List Int} {k : Nat} (h : SrcOk l k) (xs : List Int) (h1 : 1 ≤ xs.length) (h2 : xs.length ≤ 1000000) :
    FnOk Tryz.prog 39 [.pt 0 [] 0, .t (encIs xs)] [(0, srcB l k)] (.t (.int (pickV l k xs))) [(0, srcB l (nextK l k))] := by
  have hn := nV_range (l := l) (k := k) (n := xs.length) (by omega)
  have hc := n_fn l k xs.length h (by omega)
  have hp : pickV l k xs = xs.getD (nV l k xs.length).toNat 0 := rfl
  obtain ⟨n, hnn⟩ : ∃ n, nV l k xs.length = n := ⟨_, rfl⟩
  rw [hnn] at hn hc hp
  obtain ⟨m, rfl⟩ : ∃ m : Nat, n = (m : Int) := ⟨n.toNat, by omega⟩
  obtain ⟨v, hv⟩ := has_get (show m < xs.length by omega)
  rw [Int.toNat_natCast, List.getD_eq_getElem?_getD, hv] at hp
  rw [hp]
  refine FnOk.intro fact_mixed Tryz.func39 rfl Tryz.ntmps39 (by rfl) (by simp) ?_
  repeat (first | (refine nf1_sound rfl ?_; simp [go_sem, ↓iO, iO, tN]) | refine anI ?_ | refine ⟨dcK, ?_⟩ | ((first | refine iP ?_ | refine iN ?_); try simp [go_sem, ↓iO, iO, tN]))
  refine CallK.fn (hc) [(0, 0)] [] [] (by kernel_rfl) ?_ ?_ ?_ (Or.inl rfl) ?_ <;> simp [go_sem, ↓iO, iO, tN, hv]
  repeat (refine anI ?_)
  try (refine ⟨dcK, ?_⟩)
  repeat (first | (refine nf1_sound rfl ?_; simp [go_sem, ↓iO, iO, tN, hv]) | refine anI ?_ | refine ⟨dcK, ?_⟩ | ((first | refine iP ?_ | refine iN ?_); try simp [go_sem, ↓iO, iO, tN, hv]))
  first | rw [RetQ_ret] | rw [RetQ_normal]
  refine ⟨[(0, some 0)], ?_⟩
  simp [go_sem, ↓iO, iO, tN]
theorem pick_ex {l : List Int} {k : Nat} (h : SrcOk l k) (xs : List Int) (h1 : 1 ≤ xs.length) (h2 : xs.length ≤ 1000000) :
    ∃ v, v ∈ xs ∧ FnOk Tryz.prog 39 [.pt 0 [] 0, .t (encIs xs)] [(0, srcB l k)] (.t (.int v)) [(0, srcB l (nextK l k))] :=
  ⟨_, pickV_mem h1, pick_fn h xs h1 h2⟩
theorem str_cat (a b : List Nat) : str a ++ str b = str (a ++ b) := by
  apply ByteArray.ext
  simp [str]
theorem kname_fn (c : Nat) (fst : ByteArray) (hf : fst = str [c]) (k : Nat) (hk : k < 26) : FnOk Tryz.prog 40 [.t (.lit (.string fst)), .t (.int (k : Int))] [] (.t (.lit (.string (str [c, 97 + k])))) [] := by
  subst hf
  have e : k % 26 = k := Nat.mod_eq_of_lt hk
  refine FnOk.intro fact_mixed Tryz.func40 rfl Tryz.ntmps40 (by rfl) (by simp) ?_
  repeat (first | (refine nf1_sound rfl ?_; simp [go_sem, ↓iO, iO, tN]) | refine anI ?_ | refine ⟨dcK, ?_⟩ | ((first | refine iP ?_ | refine iN ?_); try simp [go_sem, ↓iO, iO, tN]))
  first | rw [RetQ_ret] | rw [RetQ_normal]
  refine ⟨[], ?_⟩
  simp [go_sem, ↓iO, iO, tN, str_cat, e]
def sgGo (l : List Int) (cp lim : Int) : Nat → Nat × Int × List (Int × Int × Int) → Nat × List (Int × Int × Int)
  | 0, s => (s.1, s.2.2)
  | f + 1, s => if 0 < nV l s.1 3 then
      (if cp ≤ s.2.1 + rangeV l (nextK l s.1) 1 40 then (nextK l (nextK l s.1), s.2.2)
       else sgGo l cp lim f (nextK l (nextK l (nextK l (nextK l (nextK l s.1)))), s.2.1 + rangeV l (nextK l s.1) 1 40,
         s.2.2 ++ [(s.2.1 + rangeV l (nextK l s.1) 1 40, rangeV l (nextK l (nextK l s.1)) (-5) 60 * pickV l (nextK l (nextK l (nextK l s.1))) [1, 1, 10], lim - nV l (nextK l (nextK l (nextK l (nextK l s.1)))) 3 * 1000)]))
    else (nextK l s.1, s.2.2)
structure PtI (P : List (Int × Int × Int)) (at' : Int) : Prop where
  l0 : 1 ≤ P.length
  l1 : P.length ≤ 7
  pts : ∀ (k : Nat) (p : Int × Int × Int), P[k]? = some p → ((-500 : Int) ≤ p.2.1 ∧ p.2.1 ≤ 5000) ∧ (0 ≤ p.2.2 ∧ p.2.2 ≤ 100000000) ∧ ∀ q, 0 < k → P[k - 1]? = some q → q.1 < p.1
  fst : ∀ (p : Int × Int × Int), P[0]? = some p → p.1 = 0
  lst : ∀ (p : Int × Int × Int), P[P.length - 1]? = some p → p.1 = at'
theorem pt_snoc {P : List (Int × Int × Int)} {a : Int} (h : PtI P a) (x : Int × Int × Int) (h1 : (-500 : Int) ≤ x.2.1 ∧ x.2.1 ≤ 5000) (h2 : 0 ≤ x.2.2 ∧ x.2.2 ≤ 100000000) (h3 : a < x.1) :
    (∀ (k : Nat) (p : Int × Int × Int), (P ++ [x])[k]? = some p → ((-500 : Int) ≤ p.2.1 ∧ p.2.1 ≤ 5000) ∧ (0 ≤ p.2.2 ∧ p.2.2 ≤ 100000000) ∧ ∀ q, 0 < k → (P ++ [x])[k - 1]? = some q → q.1 < p.1) ∧
    (∀ (p : Int × Int × Int), (P ++ [x])[0]? = some p → p.1 = 0) ∧ (∀ (p : Int × Int × Int), (P ++ [x])[(P ++ [x]).length - 1]? = some p → p.1 = x.1) := by
  have hl := h.l0
  refine ⟨fun k p hp => ?_, fun p hp => ?_, fun p hp => ?_⟩
  · by_cases hk : k < P.length
    · rw [List.getElem?_append_left hk] at hp
      obtain ⟨a1, a2, a3⟩ := h.pts k p hp
      refine ⟨a1, a2, fun q hq hq2 => a3 q hq ?_⟩
      rw [List.getElem?_append_left (by omega)] at hq2
      exact hq2
    · have : k = P.length := by
        have := (List.getElem?_eq_some_iff.1 hp).1
        simp at this; omega
      subst this
      simp at hp
      subst hp
      refine ⟨h1, h2, fun q hq hq2 => ?_⟩
      rw [List.getElem?_append_left (by omega)] at hq2
      rw [h.lst q hq2]; exact h3
  · rw [List.getElem?_append_left (by omega)] at hp
    exact h.fst p hp
  · simp at hp
    subst hp; rfl
theorem pick_bd {h m : Int} (h1 : -5 ≤ h ∧ h ≤ 60) (h2 : m ∈ [1, 1, 10]) : -50 ≤ h * m ∧ h * m ≤ 600 := by
  have : m = 1 ∨ m = 10 := by simp at h2; omega
  rcases this with rfl | rfl <;> omega
theorem sgGo_ok {l : List Int} {cp lim : Int} (hcp : 1 ≤ cp) (hlim : 1000000 ≤ lim ∧ lim ≤ 100000000) : ∀ (f : Nat) (s : Nat × Int × List (Int × Int × Int)), SrcOk l s.1 → PtI s.2.2 s.2.1 → s.2.1 < cp → s.2.2.length + f ≤ 7 →
    SrcOk l (sgGo l cp lim f s).1 ∧ ∃ a, PtI (sgGo l cp lim f s).2 a ∧ a < cp
  | 0, s, h, hp, ha, _ => ⟨h, _, hp, ha⟩
  | f + 1, s, h, hp, ha, hf => by
    unfold sgGo
    split
    · split
      · exact ⟨h.next.next, _, hp, ha⟩
      · rename_i hc
        have h1 := rangeV_range (l := l) (k := nextK l s.1) (lo := 1) (hi := 40) (by omega)
        have h2 := rangeV_range (l := l) (k := nextK l (nextK l s.1)) (lo := -5) (hi := 60) (by omega)
        have h3 := pickV_mem (l := l) (k := nextK l (nextK l (nextK l s.1))) (xs := [1, 1, 10]) (by simp)
        have h4 := nV_range (l := l) (k := nextK l (nextK l (nextK l (nextK l s.1)))) (n := 3) (by omega)
        have hm := pick_bd h2 h3
        obtain ⟨q1, q2, q3⟩ := pt_snoc hp (s.2.1 + rangeV l (nextK l s.1) 1 40, rangeV l (nextK l (nextK l s.1)) (-5) 60 * pickV l (nextK l (nextK l (nextK l s.1))) [1, 1, 10], lim - nV l (nextK l (nextK l (nextK l (nextK l s.1)))) 3 * 1000) (by dsimp only; omega) (by dsimp only; omega) (by dsimp only; omega)
        refine sgGo_ok hcp hlim f _ h.next.next.next.next.next ⟨?_, ?_, q1, q2, q3⟩ ?_ ?_
        · show 1 ≤ (_ ++ [_]).length
          simp
        · have := hp.l1
          show (_ ++ [_]).length ≤ 7
          simp only [List.length_append, List.length_cons, List.length_nil]
          omega
        · show s.2.1 + rangeV l (nextK l s.1) 1 40 < cp
          omega
        · show (_ ++ [_]).length + f ≤ 7
          simp only [List.length_append, List.length_cons, List.length_nil]
          omega
    · exact ⟨h.next, _, hp, ha⟩
theorem seg_ex (l : List Int) (j : Nat) (h : SrcOk l j) (k : Nat) (hk : k < 26) (a b : Nat) (ha : a ≤ 1000) (hb : b ≤ 1000) (hab : a ≠ b) : ∃ s k', SrcOk l k' ∧ s.1.nm = [103, 97 + k] ∧ ((s.1.fr = (a : Int) ∧ s.1.to = (b : Int)) ∨ (s.1.fr = (b : Int) ∧ s.1.to = (a : Int))) ∧ PipeOk s ∧ s.1.cp ≤ 1000 ∧
    FnOk Tryz.prog 34 [.pt 0 [] 0, .t (.int (k : Int)), .t (.int (a : Int)), .t (.int (b : Int))] [(0, srcB l j)] (.t (encSg s)) [(0, srcB l k')] := by
  obtain ⟨z, ⟨z1, z2⟩, cz⟩ := n_ex h 4 (by omega) (by omega)
  obtain ⟨cp, cp1, ccp⟩ := pick_ex h.next [1, 2, 7, 20, 60, 200, 1000] (by simp) (by simp)
  obtain ⟨rs, rs1, crs⟩ := pick_ex h.next.next [0, 1, 5, 1000] (by simp) (by simp)
  obtain ⟨wv, wv1, cwv⟩ := pick_ex h.next.next.next [0, 50, 1000, 100000] (by simp) (by simp)
  obtain ⟨lim, lim1, clim⟩ := pick_ex h.next.next.next.next [1000000, 6000000, 100000000] (by simp) (by simp)
  have chh := range_fn l _ (-5) 30 h.next.next.next.next.next (by omega) (by omega) (by omega)
  have hh1 := rangeV_range (l := l) (k := nextK l (nextK l (nextK l (nextK l (nextK l j))))) (lo := -5) (hi := 30) (by omega)
  obtain ⟨hh, hhe⟩ : ∃ x, rangeV l (nextK l (nextK l (nextK l (nextK l (nextK l j))))) (-5) 30 = x := ⟨_, rfl⟩
  rw [hhe] at chh hh1
  have hok := h.next.next.next.next.next.next
  obtain ⟨k0, hk0⟩ : ∃ x, nextK l (nextK l (nextK l (nextK l (nextK l (nextK l j))))) = x := ⟨_, rfl⟩
  rw [hk0] at chh hok
  have cn := kname_fn 103 ⟨#[103]⟩ rfl k hk
  obtain ⟨fin, hfin⟩ : ∃ fin, sgGo l cp lim 6 (k0, 0, [(0, hh, lim)]) = fin := ⟨_, rfl⟩
  have hcp : 1 ≤ cp ∧ cp ≤ 1000 := by simp at cp1; omega
  have hlim : 1000000 ≤ lim ∧ lim ≤ 100000000 := by simp at lim1; omega
  obtain ⟨fK, fP⟩ := fin
  have hlast := rangeV_range (l := l) (k := fK) (lo := -5) (hi := 30) (by omega)
  obtain ⟨la, hla⟩ : ∃ x, rangeV l fK (-5) 30 = x := ⟨_, rfl⟩
  rw [hla] at hlast
  have hp0 : PtI [((0 : Int), hh, lim)] 0 := by
    refine ⟨by simp, by simp, fun k p hp => ?_, fun p hp => ?_, fun p hp => ?_⟩
    · have : k = 0 := by
        have := (List.getElem?_eq_some_iff.1 hp).1
        simp at this; omega
      subst this
      simp at hp; subst hp
      refine ⟨?_, ?_, fun q hq => absurd hq (Nat.lt_irrefl 0)⟩ <;> dsimp only <;> omega
    · simp at hp; subst hp; rfl
    · simp at hp; subst hp; rfl
  obtain ⟨g1, ga, g2, g3⟩ := sgGo_ok hcp.1 hlim 6 (k0, 0, [(0, hh, lim)]) hok hp0 (by dsimp only; omega) (by simp)
  rw [hfin] at g1 g2
  dsimp only at g1 g2
  obtain ⟨fr, to, hft⟩ : ∃ fr to : Int, (z = 0 ∧ fr = b ∧ to = a) ∨ (z ≠ 0 ∧ fr = a ∧ to = b) := by
    by_cases hz : z = 0
    · exact ⟨_, _, Or.inl ⟨hz, rfl, rfl⟩⟩
    · exact ⟨_, _, Or.inr ⟨hz, rfl, rfl⟩⟩
  obtain ⟨q1, q2, q3⟩ := pt_snoc g2 (cp, la, lim) (by dsimp only; omega) (by dsimp only; omega) g3
  refine ⟨(⟨[103, 97 + k], fr, to, cp, rs, wv⟩, fP ++ [(cp, la, lim)]), nextK l fK, g1.next, rfl, ?_, ⟨?_, ?_, ?_, ?_, ?_, q1, q2, q3⟩, hcp.2, ?_⟩
  · rcases hft with ⟨_, h1, h2⟩ | ⟨_, h1, h2⟩
    · exact Or.inr ⟨h1, h2⟩
    · exact Or.inl ⟨h1, h2⟩
  · show fr ≠ to
    rcases hft with ⟨_, h1, h2⟩ | ⟨_, h1, h2⟩ <;> omega
  · show 1 ≤ cp ∧ cp ≤ 1000000
    omega
  · show 0 ≤ rs ∧ rs ≤ 1000
    simp at rs1; omega
  · show 0 ≤ wv ∧ wv ≤ 100000
    simp at wv1; omega
  · have h0 := g2.l0
    have h1 := g2.l1
    show 2 ≤ (fP ++ [(cp, la, lim)]).length ∧ (fP ++ [(cp, la, lim)]).length ≤ 8
    simp only [List.length_append, List.length_cons, List.length_nil]
    omega
  have cl := range_fn l fK (-5) 30 g1 (by omega) (by omega) (by omega)
  rw [hla] at cl
  have hnb : ((b : Int) ≤ 1000) ∧ ((a : Int) ≤ 1000) := by omega
  clear g2 g3 q1 q2 q3 hp0
  rcases hft with ⟨hz, rfl, rfl⟩ | ⟨hz, rfl, rfl⟩
  · refine FnOk.intro fact_mixed Tryz.func34 rfl Tryz.ntmps34 (by rfl) (by simp) ?_
    repeat (first | (refine nf1_sound rfl ?_; simp [go_sem, ↓iO, iO, tN]) | refine anI ?_ | refine ⟨dcK, ?_⟩ | ((first | refine iP ?_ | refine iN ?_); try simp [go_sem, ↓iO, iO, tN]))
    refine CallK.fn (cz) [(0, 0)] [] [] (by kernel_rfl) ?_ ?_ ?_ (Or.inl rfl) ?_ <;> simp [go_sem, ↓iO, iO, tN]
    repeat (refine anI ?_)
    try (refine ⟨dcK, ?_⟩)
    repeat (first | (refine nf1_sound rfl ?_; simp [go_sem, ↓iO, iO, tN, hz]) | refine anI ?_ | refine ⟨dcK, ?_⟩ | ((first | refine iP ?_ | refine iN ?_); try simp [go_sem, ↓iO, iO, tN, hz]))
    refine CallK.fn (cn) [] [] [] (by kernel_rfl) ?_ ?_ ?_ (Or.inl rfl) ?_ <;> simp [go_sem, ↓iO, iO, tN]
    repeat (refine anI ?_)
    try (refine ⟨dcK, ?_⟩)
    repeat (first | (refine nf1_sound rfl ?_; simp [go_sem, ↓iO, iO, tN]) | refine anI ?_ | refine ⟨dcK, ?_⟩ | ((first | refine iP ?_ | refine iN ?_); try simp [go_sem, ↓iO, iO, tN]))
    refine CallK.fn (ccp) [(0, 0)] [] [122] (by kernel_rfl) ?_ ?_ ?_ (Or.inl rfl) ?_ <;> simp [go_sem, ↓iO, iO, tN]
    repeat (refine anI ?_)
    try (refine ⟨dcK, ?_⟩)
    repeat (first | (refine nf1_sound rfl ?_; simp [go_sem, ↓iO, iO, tN]) | refine anI ?_ | refine ⟨dcK, ?_⟩ | ((first | refine iP ?_ | refine iN ?_); try simp [go_sem, ↓iO, iO, tN]))
    refine CallK.fn (crs) [(0, 0)] [] [125] (by kernel_rfl) ?_ ?_ ?_ (Or.inl rfl) ?_ <;> simp [go_sem, ↓iO, iO, tN]
    repeat (refine anI ?_)
    try (refine ⟨dcK, ?_⟩)
    repeat (first | (refine nf1_sound rfl ?_; simp [go_sem, ↓iO, iO, tN]) | refine anI ?_ | refine ⟨dcK, ?_⟩ | ((first | refine iP ?_ | refine iN ?_); try simp [go_sem, ↓iO, iO, tN]))
    refine CallK.fn (cwv) [(0, 0)] [] [128] (by kernel_rfl) ?_ ?_ ?_ (Or.inl rfl) ?_ <;> simp [go_sem, ↓iO, iO, tN]
    repeat (refine anI ?_)
    try (refine ⟨dcK, ?_⟩)
    repeat (first | (refine nf1_sound rfl ?_; simp [go_sem, ↓iO, iO, tN]) | refine anI ?_ | refine ⟨dcK, ?_⟩ | ((first | refine iP ?_ | refine iN ?_); try simp [go_sem, ↓iO, iO, tN]))
    refine CallK.fn (clim) [(0, 0)] [] [132] (by kernel_rfl) ?_ ?_ ?_ (Or.inl rfl) ?_ <;> simp [go_sem, ↓iO, iO, tN]
    repeat (refine anI ?_)
    try (refine ⟨dcK, ?_⟩)
    repeat (first | (refine nf1_sound rfl ?_; simp [go_sem, ↓iO, iO, tN]) | refine anI ?_ | refine ⟨dcK, ?_⟩ | ((first | refine iP ?_ | refine iN ?_); try simp [go_sem, ↓iO, iO, tN]))
    refine CallK.fn (chh) [(0, 0)] [] [] (by kernel_rfl) ?_ ?_ ?_ (Or.inl rfl) ?_ <;> simp [go_sem, ↓iO, iO, tN]
    repeat (refine anI ?_)
    try (refine ⟨dcK, ?_⟩)
    repeat (first | (refine nf1_sound rfl ?_; simp [go_sem, ↓iO, iO, tN]) | refine anI ?_ | refine ⟨dcK, ?_⟩ | ((first | refine iP ?_ | refine iN ?_); try simp [go_sem, ↓iO, iO, tN]))
    refine nf1_sound' _ _ _ ?_; simp only [nf1]
    refine CW.loop (ι := Nat × Int × List (Int × Int × Int)) (fun st => ⟨[(0, .pt 0 [] 0), (8, .pt 508 [] 0), (9, .pt 509 [] 0), (10, .t (.int lim)), (11, .t (.int st.2.1))], [(0, srcB l st.1), (508, .box 38 (.t (.agg [.lit (.string ByteArray.empty), .int 0, .int 0, .int 0, .int 0, .int 0, .lit (.slice none 0 0)]))), (509, .box 38 (.ag [.t (.lit (.string (str [103, 97 + k]))), .t (.int (b : Int)), .t (.int (a : Int)), .t (.int cp), .t (.int rs), .t (.int wv), .own 541])), (541, .list 35 3 (st.2.2.map encPt))]⟩)
      (fun st => SrcOk l st.1 ∧ (1 ≤ st.2.2.length ∧ st.2.2.length ≤ 7) ∧ (0 ≤ st.2.1 ∧ st.2.1 < cp) ∧ sgGo l cp lim (7 - st.2.2.length) st = (fK, fP)) (fun st => 7 - st.2.2.length) (k0, 0, [(0, hh, lim)]) [(0, some 0), (508, some 108), (509, some 109), (541, some 141)] ⟨hok, by simp, by dsimp only; omega, by simpa using hfin⟩ ?_ ?_
    · simp [go_sem, ↓iO, iO, tN]
    rintro ⟨kk, at', P⟩ ⟨i1, ⟨i2, i3⟩, ⟨i4, i5⟩, i6⟩
    dsimp only at i1 i2 i3 i4 i5 i6 ⊢
    by_cases hP : P.length < 7
    · obtain ⟨f, hf⟩ : ∃ f, 7 - P.length = f + 1 := ⟨6 - P.length, by omega⟩
      rw [hf] at i6
      have d1 := n_fn l kk 3 i1 (by omega)
      have e1 := nV_range (l := l) (k := kk) (n := 3) (by omega)
      unfold sgGo at i6
      dsimp only at i6
      obtain ⟨v, hv⟩ : ∃ v, nV l kk 3 = v := ⟨_, rfl⟩
      rw [hv] at i6 d1 e1
      repeat (first | (refine nf1_sound rfl ?_; simp [go_sem, ↓iO, iO, tN, hP]) | refine anI ?_ | refine ⟨dcK, ?_⟩ | ((first | refine iP ?_ | refine iN ?_); try simp [go_sem, ↓iO, iO, tN, hP]))
      refine CallK.fn (d1) [(0, 0)] [] [] (by kernel_rfl) ?_ ?_ ?_ (Or.inl rfl) ?_ <;> simp [go_sem, ↓iO, iO, tN, hP]
      repeat (refine anI ?_)
      try (refine ⟨dcK, ?_⟩)
      by_cases hv0 : 0 < v
      · rw [if_pos hv0] at i6
        have d2 := range_fn l (nextK l kk) 1 40 i1.next (by omega) (by omega) (by omega)
        have e2 := rangeV_range (l := l) (k := nextK l kk) (lo := 1) (hi := 40) (by omega)
        obtain ⟨ra, hra⟩ : ∃ x, rangeV l (nextK l kk) 1 40 = x := ⟨_, rfl⟩
        rw [hra] at i6 d2 e2
        repeat (first | (refine nf1_sound rfl ?_; simp [go_sem, ↓iO, iO, tN, hv0]) | refine anI ?_ | refine ⟨dcK, ?_⟩ | ((first | refine iP ?_ | refine iN ?_); try simp [go_sem, ↓iO, iO, tN, hv0]))
        refine CallK.fn (d2) [(0, 0)] [] [] (by kernel_rfl) ?_ ?_ ?_ (Or.inl rfl) ?_ <;> simp [go_sem, ↓iO, iO, tN, hv0]
        repeat (refine anI ?_)
        try (refine ⟨dcK, ?_⟩)
        by_cases hc : cp ≤ at' + ra
        · rw [if_pos hc] at i6
          simp only [Prod.mk.injEq] at i6
          obtain ⟨rfl, rfl⟩ := i6
          repeat (first | (refine nf1_sound rfl ?_; simp [go_sem, ↓iO, iO, tN, hc]) | refine anI ?_ | refine ⟨dcK, ?_⟩ | ((first | refine iP ?_ | refine iN ?_); try simp [go_sem, ↓iO, iO, tN, hc]))
          refine CallK.fn (cl) [(0, 0)] [] [] (by kernel_rfl) ?_ ?_ ?_ (Or.inl rfl) ?_ <;> simp [go_sem, ↓iO, iO, tN]
          repeat (refine anI ?_)
          try (refine ⟨dcK, ?_⟩)
          repeat (first | (refine nf1_sound rfl ?_; simp [go_sem, ↓iO, iO, tN]) | refine anI ?_ | refine ⟨dcK, ?_⟩ | ((first | refine iP ?_ | refine iN ?_); try simp [go_sem, ↓iO, iO, tN]))
          first | rw [RetQ_ret] | rw [RetQ_normal]
          refine ⟨[(0, some 0)], ?_⟩
          simp [go_sem, ↓iO, iO, tN]
        · rw [if_neg hc] at i6
          have d3 := range_fn l (nextK l (nextK l kk)) (-5) 60 i1.next.next (by omega) (by omega) (by omega)
          have e3 := rangeV_range (l := l) (k := nextK l (nextK l kk)) (lo := -5) (hi := 60) (by omega)
          have d4 := pick_fn (l := l) i1.next.next.next [1, 1, 10] (by simp) (by simp)
          have e4 := pickV_mem (l := l) (k := nextK l (nextK l (nextK l kk))) (xs := [1, 1, 10]) (by simp)
          have d5 := n_fn l (nextK l (nextK l (nextK l (nextK l kk)))) 3 i1.next.next.next.next (by omega)
          have e5 := nV_range (l := l) (k := nextK l (nextK l (nextK l (nextK l kk)))) (n := 3) (by omega)
          obtain ⟨rb, hrb⟩ : ∃ x, rangeV l (nextK l (nextK l kk)) (-5) 60 = x := ⟨_, rfl⟩
          obtain ⟨pm, hpm⟩ : ∃ x, pickV l (nextK l (nextK l (nextK l kk))) [1, 1, 10] = x := ⟨_, rfl⟩
          obtain ⟨nn, hnn⟩ : ∃ x, nV l (nextK l (nextK l (nextK l (nextK l kk)))) 3 = x := ⟨_, rfl⟩
          rw [hrb] at i6 d3 e3
          rw [hpm] at i6 d4 e4
          rw [hnn] at i6 d5 e5
          have e6 := pick_bd e3 e4
          have i1' := i1.next.next.next.next.next
          obtain ⟨w, hw⟩ : ∃ w, rb * pm = w := ⟨_, rfl⟩
          rw [hw] at e6 i6
          obtain ⟨k5, hk5⟩ : ∃ x, nextK l (nextK l (nextK l (nextK l (nextK l kk)))) = x := ⟨_, rfl⟩
          rw [hk5] at i6 d5 i1'
          repeat (first | (refine nf1_sound rfl ?_; simp [go_sem, ↓iO, iO, tN, hc]) | refine anI ?_ | refine ⟨dcK, ?_⟩ | ((first | refine iP ?_ | refine iN ?_); try simp [go_sem, ↓iO, iO, tN, hc]))
          refine CallK.fn (d3) [(0, 0)] [] [] (by kernel_rfl) ?_ ?_ ?_ (Or.inl rfl) ?_ <;> simp [go_sem, ↓iO, iO, tN]
          repeat (refine anI ?_)
          try (refine ⟨dcK, ?_⟩)
          repeat (first | (refine nf1_sound rfl ?_; simp [go_sem, ↓iO, iO, tN]) | refine anI ?_ | refine ⟨dcK, ?_⟩ | ((first | refine iP ?_ | refine iN ?_); try simp [go_sem, ↓iO, iO, tN]))
          refine CallK.fn (d4) [(0, 0)] [] [166] (by kernel_rfl) ?_ ?_ ?_ (Or.inl rfl) ?_ <;> simp [go_sem, ↓iO, iO, tN]
          repeat (refine anI ?_)
          try (refine ⟨dcK, ?_⟩)
          repeat (first | (refine nf1_sound rfl ?_; simp [go_sem, ↓iO, iO, tN, hw]) | refine anI ?_ | refine ⟨dcK, ?_⟩ | ((first | refine iP ?_ | refine iN ?_); try simp [go_sem, ↓iO, iO, tN, hw]))
          refine CallK.fn (d5) [(0, 0)] [] [] (by kernel_rfl) ?_ ?_ ?_ (Or.inl rfl) ?_ <;> simp [go_sem, ↓iO, iO, tN, hw]
          repeat (refine anI ?_)
          try (refine ⟨dcK, ?_⟩)
          repeat (first | (refine nf1_sound rfl ?_; simp [go_sem, ↓iO, iO, tN, hw]) | refine anI ?_ | refine ⟨dcK, ?_⟩ | ((first | refine iP ?_ | refine iN ?_); try simp [go_sem, ↓iO, iO, tN, hw]))
          rw [RoundQ_normal]; refine ⟨(k5, at' + ra, P ++ [(at' + ra, w, lim - nn * 1000)]), [(0, some 0), (508, some 508), (509, some 509), (541, some 176)], ?_, ?_, ?_⟩
          · refine ⟨i1', ?_, ?_, ?_⟩
            · simp only [List.length_append, List.length_cons, List.length_nil]; omega
            · dsimp only; omega
            · have : 7 - (P ++ [(at' + ra, w, lim - nn * 1000)]).length = f := by simp only [List.length_append, List.length_cons, List.length_nil]; omega
              rw [this]; exact i6
          · simp only [List.length_append, List.length_cons, List.length_nil]; omega
          simp [go_sem, ↓iO, iO, tN]
      · rw [if_neg hv0] at i6
        simp only [Prod.mk.injEq] at i6
        obtain ⟨rfl, rfl⟩ := i6
        repeat (first | (refine nf1_sound rfl ?_; simp [go_sem, ↓iO, iO, tN, hv0]) | refine anI ?_ | refine ⟨dcK, ?_⟩ | ((first | refine iP ?_ | refine iN ?_); try simp [go_sem, ↓iO, iO, tN, hv0]))
        refine CallK.fn (cl) [(0, 0)] [] [] (by kernel_rfl) ?_ ?_ ?_ (Or.inl rfl) ?_ <;> simp [go_sem, ↓iO, iO, tN]
        repeat (refine anI ?_)
        try (refine ⟨dcK, ?_⟩)
        repeat (first | (refine nf1_sound rfl ?_; simp [go_sem, ↓iO, iO, tN]) | refine anI ?_ | refine ⟨dcK, ?_⟩ | ((first | refine iP ?_ | refine iN ?_); try simp [go_sem, ↓iO, iO, tN]))
        first | rw [RetQ_ret] | rw [RetQ_normal]
        refine ⟨[(0, some 0)], ?_⟩
        simp [go_sem, ↓iO, iO, tN]
    · have h7 : 7 - P.length = 0 := by omega
      rw [h7] at i6
      unfold sgGo at i6
      simp only [Prod.mk.injEq] at i6
      obtain ⟨rfl, rfl⟩ := i6
      repeat (first | (refine nf1_sound rfl ?_; simp [go_sem, ↓iO, iO, tN, hP]) | refine anI ?_ | refine ⟨dcK, ?_⟩ | ((first | refine iP ?_ | refine iN ?_); try simp [go_sem, ↓iO, iO, tN, hP]))
      refine CallK.fn (cl) [(0, 0)] [] [] (by kernel_rfl) ?_ ?_ ?_ (Or.inl rfl) ?_ <;> simp [go_sem, ↓iO, iO, tN]
      repeat (refine anI ?_)
      try (refine ⟨dcK, ?_⟩)
      repeat (first | (refine nf1_sound rfl ?_; simp [go_sem, ↓iO, iO, tN]) | refine anI ?_ | refine ⟨dcK, ?_⟩ | ((first | refine iP ?_ | refine iN ?_); try simp [go_sem, ↓iO, iO, tN]))
      first | rw [RetQ_ret] | rw [RetQ_normal]
      refine ⟨[(0, some 0)], ?_⟩
      simp [go_sem, ↓iO, iO, tN]
  · refine FnOk.intro fact_mixed Tryz.func34 rfl Tryz.ntmps34 (by rfl) (by simp) ?_
    repeat (first | (refine nf1_sound rfl ?_; simp [go_sem, ↓iO, iO, tN]) | refine anI ?_ | refine ⟨dcK, ?_⟩ | ((first | refine iP ?_ | refine iN ?_); try simp [go_sem, ↓iO, iO, tN]))
    refine CallK.fn (cz) [(0, 0)] [] [] (by kernel_rfl) ?_ ?_ ?_ (Or.inl rfl) ?_ <;> simp [go_sem, ↓iO, iO, tN]
    repeat (refine anI ?_)
    try (refine ⟨dcK, ?_⟩)
    repeat (first | (refine nf1_sound rfl ?_; simp [go_sem, ↓iO, iO, tN, hz]) | refine anI ?_ | refine ⟨dcK, ?_⟩ | ((first | refine iP ?_ | refine iN ?_); try simp [go_sem, ↓iO, iO, tN, hz]))
    refine CallK.fn (cn) [] [] [] (by kernel_rfl) ?_ ?_ ?_ (Or.inl rfl) ?_ <;> simp [go_sem, ↓iO, iO, tN]
    repeat (refine anI ?_)
    try (refine ⟨dcK, ?_⟩)
    repeat (first | (refine nf1_sound rfl ?_; simp [go_sem, ↓iO, iO, tN]) | refine anI ?_ | refine ⟨dcK, ?_⟩ | ((first | refine iP ?_ | refine iN ?_); try simp [go_sem, ↓iO, iO, tN]))
    refine CallK.fn (ccp) [(0, 0)] [] [122] (by kernel_rfl) ?_ ?_ ?_ (Or.inl rfl) ?_ <;> simp [go_sem, ↓iO, iO, tN]
    repeat (refine anI ?_)
    try (refine ⟨dcK, ?_⟩)
    repeat (first | (refine nf1_sound rfl ?_; simp [go_sem, ↓iO, iO, tN]) | refine anI ?_ | refine ⟨dcK, ?_⟩ | ((first | refine iP ?_ | refine iN ?_); try simp [go_sem, ↓iO, iO, tN]))
    refine CallK.fn (crs) [(0, 0)] [] [125] (by kernel_rfl) ?_ ?_ ?_ (Or.inl rfl) ?_ <;> simp [go_sem, ↓iO, iO, tN]
    repeat (refine anI ?_)
    try (refine ⟨dcK, ?_⟩)
    repeat (first | (refine nf1_sound rfl ?_; simp [go_sem, ↓iO, iO, tN]) | refine anI ?_ | refine ⟨dcK, ?_⟩ | ((first | refine iP ?_ | refine iN ?_); try simp [go_sem, ↓iO, iO, tN]))
    refine CallK.fn (cwv) [(0, 0)] [] [128] (by kernel_rfl) ?_ ?_ ?_ (Or.inl rfl) ?_ <;> simp [go_sem, ↓iO, iO, tN]
    repeat (refine anI ?_)
    try (refine ⟨dcK, ?_⟩)
    repeat (first | (refine nf1_sound rfl ?_; simp [go_sem, ↓iO, iO, tN]) | refine anI ?_ | refine ⟨dcK, ?_⟩ | ((first | refine iP ?_ | refine iN ?_); try simp [go_sem, ↓iO, iO, tN]))
    refine CallK.fn (clim) [(0, 0)] [] [132] (by kernel_rfl) ?_ ?_ ?_ (Or.inl rfl) ?_ <;> simp [go_sem, ↓iO, iO, tN]
    repeat (refine anI ?_)
    try (refine ⟨dcK, ?_⟩)
    repeat (first | (refine nf1_sound rfl ?_; simp [go_sem, ↓iO, iO, tN]) | refine anI ?_ | refine ⟨dcK, ?_⟩ | ((first | refine iP ?_ | refine iN ?_); try simp [go_sem, ↓iO, iO, tN]))
    refine CallK.fn (chh) [(0, 0)] [] [] (by kernel_rfl) ?_ ?_ ?_ (Or.inl rfl) ?_ <;> simp [go_sem, ↓iO, iO, tN]
    repeat (refine anI ?_)
    try (refine ⟨dcK, ?_⟩)
    repeat (first | (refine nf1_sound rfl ?_; simp [go_sem, ↓iO, iO, tN]) | refine anI ?_ | refine ⟨dcK, ?_⟩ | ((first | refine iP ?_ | refine iN ?_); try simp [go_sem, ↓iO, iO, tN]))
    refine nf1_sound' _ _ _ ?_; simp only [nf1]
    refine CW.loop (ι := Nat × Int × List (Int × Int × Int)) (fun st => ⟨[(0, .pt 0 [] 0), (8, .pt 508 [] 0), (9, .pt 509 [] 0), (10, .t (.int lim)), (11, .t (.int st.2.1))], [(0, srcB l st.1), (508, .box 38 (.t (.agg [.lit (.string ByteArray.empty), .int 0, .int 0, .int 0, .int 0, .int 0, .lit (.slice none 0 0)]))), (509, .box 38 (.ag [.t (.lit (.string (str [103, 97 + k]))), .t (.int (a : Int)), .t (.int (b : Int)), .t (.int cp), .t (.int rs), .t (.int wv), .own 541])), (541, .list 35 3 (st.2.2.map encPt))]⟩)
      (fun st => SrcOk l st.1 ∧ (1 ≤ st.2.2.length ∧ st.2.2.length ≤ 7) ∧ (0 ≤ st.2.1 ∧ st.2.1 < cp) ∧ sgGo l cp lim (7 - st.2.2.length) st = (fK, fP)) (fun st => 7 - st.2.2.length) (k0, 0, [(0, hh, lim)]) [(0, some 0), (508, some 108), (509, some 109), (541, some 141)] ⟨hok, by simp, by dsimp only; omega, by simpa using hfin⟩ ?_ ?_
    · simp [go_sem, ↓iO, iO, tN]
    rintro ⟨kk, at', P⟩ ⟨i1, ⟨i2, i3⟩, ⟨i4, i5⟩, i6⟩
    dsimp only at i1 i2 i3 i4 i5 i6 ⊢
    by_cases hP : P.length < 7
    · obtain ⟨f, hf⟩ : ∃ f, 7 - P.length = f + 1 := ⟨6 - P.length, by omega⟩
      rw [hf] at i6
      have d1 := n_fn l kk 3 i1 (by omega)
      have e1 := nV_range (l := l) (k := kk) (n := 3) (by omega)
      unfold sgGo at i6
      dsimp only at i6
      obtain ⟨v, hv⟩ : ∃ v, nV l kk 3 = v := ⟨_, rfl⟩
      rw [hv] at i6 d1 e1
      repeat (first | (refine nf1_sound rfl ?_; simp [go_sem, ↓iO, iO, tN, hP]) | refine anI ?_ | refine ⟨dcK, ?_⟩ | ((first | refine iP ?_ | refine iN ?_); try simp [go_sem, ↓iO, iO, tN, hP]))
      refine CallK.fn (d1) [(0, 0)] [] [] (by kernel_rfl) ?_ ?_ ?_ (Or.inl rfl) ?_ <;> simp [go_sem, ↓iO, iO, tN, hP]
      repeat (refine anI ?_)
      try (refine ⟨dcK, ?_⟩)
      by_cases hv0 : 0 < v
      · rw [if_pos hv0] at i6
        have d2 := range_fn l (nextK l kk) 1 40 i1.next (by omega) (by omega) (by omega)
        have e2 := rangeV_range (l := l) (k := nextK l kk) (lo := 1) (hi := 40) (by omega)
        obtain ⟨ra, hra⟩ : ∃ x, rangeV l (nextK l kk) 1 40 = x := ⟨_, rfl⟩
        rw [hra] at i6 d2 e2
        repeat (first | (refine nf1_sound rfl ?_; simp [go_sem, ↓iO, iO, tN, hv0]) | refine anI ?_ | refine ⟨dcK, ?_⟩ | ((first | refine iP ?_ | refine iN ?_); try simp [go_sem, ↓iO, iO, tN, hv0]))
        refine CallK.fn (d2) [(0, 0)] [] [] (by kernel_rfl) ?_ ?_ ?_ (Or.inl rfl) ?_ <;> simp [go_sem, ↓iO, iO, tN, hv0]
        repeat (refine anI ?_)
        try (refine ⟨dcK, ?_⟩)
        by_cases hc : cp ≤ at' + ra
        · rw [if_pos hc] at i6
          simp only [Prod.mk.injEq] at i6
          obtain ⟨rfl, rfl⟩ := i6
          repeat (first | (refine nf1_sound rfl ?_; simp [go_sem, ↓iO, iO, tN, hc]) | refine anI ?_ | refine ⟨dcK, ?_⟩ | ((first | refine iP ?_ | refine iN ?_); try simp [go_sem, ↓iO, iO, tN, hc]))
          refine CallK.fn (cl) [(0, 0)] [] [] (by kernel_rfl) ?_ ?_ ?_ (Or.inl rfl) ?_ <;> simp [go_sem, ↓iO, iO, tN]
          repeat (refine anI ?_)
          try (refine ⟨dcK, ?_⟩)
          repeat (first | (refine nf1_sound rfl ?_; simp [go_sem, ↓iO, iO, tN]) | refine anI ?_ | refine ⟨dcK, ?_⟩ | ((first | refine iP ?_ | refine iN ?_); try simp [go_sem, ↓iO, iO, tN]))
          first | rw [RetQ_ret] | rw [RetQ_normal]
          refine ⟨[(0, some 0)], ?_⟩
          simp [go_sem, ↓iO, iO, tN]
        · rw [if_neg hc] at i6
          have d3 := range_fn l (nextK l (nextK l kk)) (-5) 60 i1.next.next (by omega) (by omega) (by omega)
          have e3 := rangeV_range (l := l) (k := nextK l (nextK l kk)) (lo := -5) (hi := 60) (by omega)
          have d4 := pick_fn (l := l) i1.next.next.next [1, 1, 10] (by simp) (by simp)
          have e4 := pickV_mem (l := l) (k := nextK l (nextK l (nextK l kk))) (xs := [1, 1, 10]) (by simp)
          have d5 := n_fn l (nextK l (nextK l (nextK l (nextK l kk)))) 3 i1.next.next.next.next (by omega)
          have e5 := nV_range (l := l) (k := nextK l (nextK l (nextK l (nextK l kk)))) (n := 3) (by omega)
          obtain ⟨rb, hrb⟩ : ∃ x, rangeV l (nextK l (nextK l kk)) (-5) 60 = x := ⟨_, rfl⟩
          obtain ⟨pm, hpm⟩ : ∃ x, pickV l (nextK l (nextK l (nextK l kk))) [1, 1, 10] = x := ⟨_, rfl⟩
          obtain ⟨nn, hnn⟩ : ∃ x, nV l (nextK l (nextK l (nextK l (nextK l kk)))) 3 = x := ⟨_, rfl⟩
          rw [hrb] at i6 d3 e3
          rw [hpm] at i6 d4 e4
          rw [hnn] at i6 d5 e5
          have e6 := pick_bd e3 e4
          have i1' := i1.next.next.next.next.next
          obtain ⟨w, hw⟩ : ∃ w, rb * pm = w := ⟨_, rfl⟩
          rw [hw] at e6 i6
          obtain ⟨k5, hk5⟩ : ∃ x, nextK l (nextK l (nextK l (nextK l (nextK l kk)))) = x := ⟨_, rfl⟩
          rw [hk5] at i6 d5 i1'
          repeat (first | (refine nf1_sound rfl ?_; simp [go_sem, ↓iO, iO, tN, hc]) | refine anI ?_ | refine ⟨dcK, ?_⟩ | ((first | refine iP ?_ | refine iN ?_); try simp [go_sem, ↓iO, iO, tN, hc]))
          refine CallK.fn (d3) [(0, 0)] [] [] (by kernel_rfl) ?_ ?_ ?_ (Or.inl rfl) ?_ <;> simp [go_sem, ↓iO, iO, tN]
          repeat (refine anI ?_)
          try (refine ⟨dcK, ?_⟩)
          repeat (first | (refine nf1_sound rfl ?_; simp [go_sem, ↓iO, iO, tN]) | refine anI ?_ | refine ⟨dcK, ?_⟩ | ((first | refine iP ?_ | refine iN ?_); try simp [go_sem, ↓iO, iO, tN]))
          refine CallK.fn (d4) [(0, 0)] [] [166] (by kernel_rfl) ?_ ?_ ?_ (Or.inl rfl) ?_ <;> simp [go_sem, ↓iO, iO, tN]
          repeat (refine anI ?_)
          try (refine ⟨dcK, ?_⟩)
          repeat (first | (refine nf1_sound rfl ?_; simp [go_sem, ↓iO, iO, tN, hw]) | refine anI ?_ | refine ⟨dcK, ?_⟩ | ((first | refine iP ?_ | refine iN ?_); try simp [go_sem, ↓iO, iO, tN, hw]))
          refine CallK.fn (d5) [(0, 0)] [] [] (by kernel_rfl) ?_ ?_ ?_ (Or.inl rfl) ?_ <;> simp [go_sem, ↓iO, iO, tN, hw]
          repeat (refine anI ?_)
          try (refine ⟨dcK, ?_⟩)
          repeat (first | (refine nf1_sound rfl ?_; simp [go_sem, ↓iO, iO, tN, hw]) | refine anI ?_ | refine ⟨dcK, ?_⟩ | ((first | refine iP ?_ | refine iN ?_); try simp [go_sem, ↓iO, iO, tN, hw]))
          rw [RoundQ_normal]; refine ⟨(k5, at' + ra, P ++ [(at' + ra, w, lim - nn * 1000)]), [(0, some 0), (508, some 508), (509, some 509), (541, some 176)], ?_, ?_, ?_⟩
          · refine ⟨i1', ?_, ?_, ?_⟩
            · simp only [List.length_append, List.length_cons, List.length_nil]; omega
            · dsimp only; omega
            · have : 7 - (P ++ [(at' + ra, w, lim - nn * 1000)]).length = f := by simp only [List.length_append, List.length_cons, List.length_nil]; omega
              rw [this]; exact i6
          · simp only [List.length_append, List.length_cons, List.length_nil]; omega
          simp [go_sem, ↓iO, iO, tN]
      · rw [if_neg hv0] at i6
        simp only [Prod.mk.injEq] at i6
        obtain ⟨rfl, rfl⟩ := i6
        repeat (first | (refine nf1_sound rfl ?_; simp [go_sem, ↓iO, iO, tN, hv0]) | refine anI ?_ | refine ⟨dcK, ?_⟩ | ((first | refine iP ?_ | refine iN ?_); try simp [go_sem, ↓iO, iO, tN, hv0]))
        refine CallK.fn (cl) [(0, 0)] [] [] (by kernel_rfl) ?_ ?_ ?_ (Or.inl rfl) ?_ <;> simp [go_sem, ↓iO, iO, tN]
        repeat (refine anI ?_)
        try (refine ⟨dcK, ?_⟩)
        repeat (first | (refine nf1_sound rfl ?_; simp [go_sem, ↓iO, iO, tN]) | refine anI ?_ | refine ⟨dcK, ?_⟩ | ((first | refine iP ?_ | refine iN ?_); try simp [go_sem, ↓iO, iO, tN]))
        first | rw [RetQ_ret] | rw [RetQ_normal]
        refine ⟨[(0, some 0)], ?_⟩
        simp [go_sem, ↓iO, iO, tN]
    · have h7 : 7 - P.length = 0 := by omega
      rw [h7] at i6
      unfold sgGo at i6
      simp only [Prod.mk.injEq] at i6
      obtain ⟨rfl, rfl⟩ := i6
      repeat (first | (refine nf1_sound rfl ?_; simp [go_sem, ↓iO, iO, tN, hP]) | refine anI ?_ | refine ⟨dcK, ?_⟩ | ((first | refine iP ?_ | refine iN ?_); try simp [go_sem, ↓iO, iO, tN, hP]))
      refine CallK.fn (cl) [(0, 0)] [] [] (by kernel_rfl) ?_ ?_ ?_ (Or.inl rfl) ?_ <;> simp [go_sem, ↓iO, iO, tN]
      repeat (refine anI ?_)
      try (refine ⟨dcK, ?_⟩)
      repeat (first | (refine nf1_sound rfl ?_; simp [go_sem, ↓iO, iO, tN]) | refine anI ?_ | refine ⟨dcK, ?_⟩ | ((first | refine iP ?_ | refine iN ?_); try simp [go_sem, ↓iO, iO, tN]))
      first | rw [RetQ_ret] | rw [RetQ_normal]
      refine ⟨[(0, some 0)], ?_⟩
      simp [go_sem, ↓iO, iO, tN]
end Go.Proofs.YtdjmklobfjigoaaGreatDoor
