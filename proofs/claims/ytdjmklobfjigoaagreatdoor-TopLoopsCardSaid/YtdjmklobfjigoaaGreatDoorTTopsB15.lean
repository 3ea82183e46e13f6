/- Several texts of this proof, one behind the other. No condition. -/
import Derived.Test.YtdjmklobfjigoaaGreatDoorTTopsB14
set_option maxRecDepth 100000
set_option maxHeartbeats 16000000
set_option linter.unusedVariables false
set_option linter.unusedSimpArgs false
namespace Go.Proofs.YtdjmklobfjigoaaGreatDoor
open Go.RowKit Sy
open Go.IntWalk renaming iteOmega → iO, toNatUp → tN
theorem nodup_ne {α : Type} : ∀ {l : List α}, l.Nodup → ∀ {i j : Nat} {a b : α}, i < j → l[i]? = some a → l[j]? = some b → a ≠ b
  | [], _, i, j, a, b, _, h, _ => by simp at h
  | x :: r, hn, 0, j + 1, a, b, _, h, g => by
    simp only [List.getElem?_cons_zero, Option.some.injEq, List.getElem?_cons_succ] at h g
    subst h
    exact fun e => (List.nodup_cons.1 hn).1 (e ▸ mem_get g)
  | x :: r, hn, i + 1, j + 1, a, b, hij, h, g => by
    simp only [List.getElem?_cons_succ] at h g
    exact nodup_ne (List.nodup_cons.1 hn).2 (by omega) h g
theorem sidx_fn (l : List (List Nat)) (hlen : l.length ≤ 1000000) (hb : ∀ k ∈ l, ∀ x ∈ k, x < 256) (hnd : l.Nodup) (i : Nat) (k : List Nat) (hi : l[i]? = some k) : FnOk Tryz.prog 83 [.t (.sl 1 (l.map encS)), .t (encS k)] [] (.t (.int i)) [] := by
  have hil := (List.getElem?_eq_some_iff.1 hi).1
  refine FnOk.intro fact_mixed Tryz.func83 rfl Tryz.ntmps83 (by rfl) (by simp) ?_
  repeat (first | (refine nf1_sound rfl ?_; simp [go_sem, ↓iO, iO, tN]) | refine anI ?_ | refine ⟨dcK, ?_⟩ | ((first | refine iP ?_ | refine iN ?_); try simp [go_sem, ↓iO, iO, tN]))
  refine nf1_sound' _ _ _ ?_; simp only [nf1]
  refine CW.loop (ι := Nat) (fun j => ⟨[(0, .t (.sl 1 (l.map encS))), (1, .t (encS k)), (7, .t (.int l.length)), (8, .t (.int j))], []⟩) (fun j => j ≤ i) (fun j => i - j) 0 [] (by omega) ?_ ?_
  · simp [go_sem, ↓iO, iO, tN]
  intro j hj
  by_cases he : j < i
  · obtain ⟨m, hm⟩ : ∃ m, l[j]? = some m := has_get (by omega)
    have hjl : j < l.length := by omega
    have hne : ¬ (str k).toList = (str m).toList := fun e => by
      have := strB_inj (hb k (mem_get hi)) (hb m (mem_get hm)) e
      subst this
      exact nodup_ne hnd he hm hi rfl
    repeat (first | (refine nf1_sound rfl ?_; simp [go_sem, ↓iO, iO, tN, hm, hne]) | refine anI ?_ | refine ⟨dcK, ?_⟩ | ((first | refine iP ?_ | refine iN ?_); try simp [go_sem, ↓iO, iO, tN, hm, hne]))
    rw [RoundQ_normal]; refine ⟨j + 1, [], ?_, ?_, ?_⟩
    · omega
    · omega
    simp [go_sem, ↓iO, iO, tN]
  · obtain rfl : j = i := by omega
    repeat (first | (refine nf1_sound rfl ?_; simp [go_sem, ↓iO, iO, tN, hi]) | refine anI ?_ | refine ⟨dcK, ?_⟩ | ((first | refine iP ?_ | refine iN ?_); try simp [go_sem, ↓iO, iO, tN, hi]))
    first | rw [RetQ_ret] | rw [RetQ_normal]
    refine ⟨[], ?_⟩
    simp [go_sem, ↓iO, iO, tN]
theorem tw1_fn (x s : Stn) (b : Bool) (hb : decide (x.2.1 = s.2.1) = b) : FnOk Tryz.prog 85 [.t (encSn x), .pt 0 [] 0] [(0, .box 90 (.t (encSn s)))] (.t (.bool b)) [(0, .box 90 (.t (encSn s)))] := by
  subst hb
  obtain ⟨x1, x2, x3, x4, x5⟩ := x
  obtain ⟨s1, s2, s3, s4, s5⟩ := s
  refine FnOk.intro fact_mixed Tryz.func85 rfl Tryz.ntmps85 (by rfl) (by simp) ?_
  repeat (first | (refine nf1_sound rfl ?_; simp [go_sem, ↓iO, iO, tN]) | refine anI ?_ | refine ⟨dcK, ?_⟩ | ((first | refine iP ?_ | refine iN ?_); try simp [go_sem, ↓iO, iO, tN]))
  first | rw [RetQ_ret] | rw [RetQ_normal]
  refine ⟨[(0, some 0)], ?_⟩
  simp [go_sem, ↓iO, iO, tN]
theorem tidx_fn (l : List Stn) (hlen : l.length ≤ 1000000) (hnd : (l.map fun s => s.2.1).Nodup) (i : Nat) (s : Stn) (hi : l[i]? = some s) :
    FnOk Tryz.prog 84 [.t (.sl 5 (l.map encSn)), .fn 85 [.pt 0 [] 0]] [(0, .box 90 (.t (encSn s)))] (.t (.int i)) [(0, .box 90 (.t (encSn s)))] := by
  have hil := (List.getElem?_eq_some_iff.1 hi).1
  refine FnOk.intro fact_mixed Tryz.func84 rfl Tryz.ntmps84 (by rfl) (by simp) ?_
  repeat (first | (refine nf1_sound rfl ?_; simp [go_sem, ↓iO, iO, tN]) | refine anI ?_ | refine ⟨dcK, ?_⟩ | ((first | refine iP ?_ | refine iN ?_); try simp [go_sem, ↓iO, iO, tN]))
  refine nf1_sound' _ _ _ ?_; simp only [nf1]
  refine CW.loop (ι := Nat) (fun j => ⟨[(0, .t (.sl 5 (l.map encSn))), (1, .fn 85 [.pt 0 [] 0]), (7, .t (.int l.length)), (8, .t (.int j))], [(0, .box 90 (.t (encSn s)))]⟩) (fun j => j ≤ i) (fun j => i - j) 0 [(0, some 0)] (by omega) ?_ ?_
  · simp [go_sem, ↓iO, iO, tN]
  intro j hj
  by_cases he : j < i
  · obtain ⟨m, hm⟩ : ∃ m, l[j]? = some m := has_get (by omega)
    have hjl : j < l.length := by omega
    have hne : ¬ m.2.1 = s.2.1 := fun e => by
      have h1 : (l.map fun s => s.2.1)[j]? = some m.2.1 := by rw [List.getElem?_map, hm]; rfl
      have h2 : (l.map fun s => s.2.1)[i]? = some s.2.1 := by rw [List.getElem?_map, hi]; rfl
      exact nodup_ne hnd he h1 h2 e
    have c := tw1_fn m s false (by simpa using hne)
    repeat (first | (refine nf1_sound rfl ?_; simp [go_sem, ↓iO, iO, tN, hm]) | refine anI ?_ | refine ⟨dcK, ?_⟩ | ((first | refine iP ?_ | refine iN ?_); try simp [go_sem, ↓iO, iO, tN, hm]))
    refine CallK.fn (c) [(0, 0)] [] [] (by kernel_rfl) ?_ ?_ ?_ (Or.inl rfl) ?_ <;> simp [go_sem, ↓iO, iO, tN, hm]
    repeat (refine anI ?_)
    try (refine ⟨dcK, ?_⟩)
    repeat (first | (refine nf1_sound rfl ?_; simp [go_sem, ↓iO, iO, tN, hm]) | refine anI ?_ | refine ⟨dcK, ?_⟩ | ((first | refine iP ?_ | refine iN ?_); try simp [go_sem, ↓iO, iO, tN, hm]))
    rw [RoundQ_normal]; refine ⟨j + 1, [(0, some 0)], ?_, ?_, ?_⟩
    · omega
    · omega
    simp [go_sem, ↓iO, iO, tN]
  · obtain rfl : j = i := by omega
    have c := tw1_fn s s true (by simp)
    repeat (first | (refine nf1_sound rfl ?_; simp [go_sem, ↓iO, iO, tN, hi]) | refine anI ?_ | refine ⟨dcK, ?_⟩ | ((first | refine iP ?_ | refine iN ?_); try simp [go_sem, ↓iO, iO, tN, hi]))
    refine CallK.fn (c) [(0, 0)] [] [] (by kernel_rfl) ?_ ?_ ?_ (Or.inl rfl) ?_ <;> simp [go_sem, ↓iO, iO, tN, hi]
    repeat (refine anI ?_)
    try (refine ⟨dcK, ?_⟩)
    repeat (first | (refine nf1_sound rfl ?_; simp [go_sem, ↓iO, iO, tN, hi]) | refine anI ?_ | refine ⟨dcK, ?_⟩ | ((first | refine iP ?_ | refine iN ?_); try simp [go_sem, ↓iO, iO, tN, hi]))
    first | rw [RetQ_ret] | rw [RetQ_normal]
    refine ⟨[(0, some 0)], ?_⟩
    simp [go_sem, ↓iO, iO, tN]
def NetD.ns (d : NetD) : Nat → List (List Nat)
  | 0 => d.nn
  | 1 => d.segs.map fun s => s.1.nm
  | 2 => d.ports.map fun p => p.1
  | _ => d.stns.map fun s => s.1
theorem ns_ok (d : NetD) (h : NetOk d) (i : Nat) : (d.ns i).length ≤ 32 ∧ (∀ k ∈ d.ns i, NameOk k) ∧ (d.ns i).Nodup := by
  match i with
  | 0 => exact ⟨by have := h.n1; simp only [NetD.ns]; omega, h.nmN, h.ndN⟩
  | 1 => exact ⟨by have := h.s1; simp [NetD.ns]; omega, fun k hk => by simp only [NetD.ns] at hk; obtain ⟨s, hs, rfl⟩ := List.mem_map.1 hk; exact h.nmS s hs, h.ndS⟩
  | 2 => exact ⟨by have := h.p1; simp [NetD.ns]; omega, fun k hk => by simp only [NetD.ns] at hk; obtain ⟨s, hs, rfl⟩ := List.mem_map.1 hk; exact h.nmP s hs, h.ndP⟩
  | i + 3 => exact ⟨by have := h.t1; simp [NetD.ns]; omega, fun k hk => by simp only [NetD.ns] at hk; obtain ⟨s, hs, rfl⟩ := List.mem_map.1 hk; exact h.nmT s hs, h.ndT⟩
abbrev NetD.nt (d : NetD) : T := .agg [.sl 1 ((d.ns 0).map encS), .sl 1 ((d.ns 1).map encS), .sl 1 ((d.ns 2).map encS), .sl 1 ((d.ns 3).map encS)]
theorem names_fn' (d : NetD) (h : NetOk d) : FnOk Tryz.prog 56 [.t (.agg d.l)] [] (.t d.nt) [] := by
  have := names_fn d h
  simp only [NetD.nt, NetD.ns, List.map_map, Function.comp_def]
  exact this
theorem twice_fn (d : NetD) (h : NetOk d) : FnOk Tryz.prog 60 [.t (.agg d.l)] [] (.t (.bool false)) [] := by
  have c1 := names_fn' d h
  have h5 := h.t1
  obtain ⟨N0, hN0⟩ : ∃ N, d.nt = N := ⟨_, rfl⟩
  have hgt : ∀ i : Nat, i < 4 → ∃ l : List (List Nat), d.ns i = l ∧ l.length ≤ 32 ∧ (∀ k ∈ l, NameOk k) ∧ l.Nodup := fun i _ => ⟨_, rfl, (ns_ok d h i).1, (ns_ok d h i).2.1, (ns_ok d h i).2.2⟩
  obtain ⟨l0, e0, a0, b0, n0⟩ := hgt 0 (by omega)
  obtain ⟨l1, e1, a1, b1, n1⟩ := hgt 1 (by omega)
  obtain ⟨l2, e2, a2, b2, n2⟩ := hgt 2 (by omega)
  obtain ⟨l3, e3, a3, b3, n3⟩ := hgt 3 (by omega)
  have hN : d.nt = .agg [.sl 1 (l0.map encS), .sl 1 (l1.map encS), .sl 1 (l2.map encS), .sl 1 (l3.map encS)] := by simp only [NetD.nt, e0, e1, e2, e3]
  rw [hN] at c1
  clear hN hN0 e0 e1 e2 e3 hgt
  refine FnOk.intro fact_mixed Tryz.func60 rfl Tryz.ntmps60 (by rfl) (by simp) ?_
  repeat (first | (refine nf1_sound rfl ?_; simp [go_sem, ↓iO, iO, tN]) | refine anI ?_ | refine ⟨dcK, ?_⟩ | ((first | refine iP ?_ | refine iN ?_); try simp [go_sem, ↓iO, iO, tN]))
  refine CallK.fn (c1) [] [] [] (by kernel_rfl) ?_ ?_ ?_ (Or.inl rfl) ?_ <;> simp [go_sem, ↓iO, iO, tN]
  repeat (refine anI ?_)
  try (refine ⟨dcK, ?_⟩)
  repeat (first | (refine nf1_sound rfl ?_; simp [go_sem, ↓iO, iO, tN]) | refine anI ?_ | refine ⟨dcK, ?_⟩ | ((first | refine iP ?_ | refine iN ?_); try simp [go_sem, ↓iO, iO, tN]))
  refine nf1_sound' _ _ _ ?_; simp only [nf1]
  refine CW.loop (ι := Nat) (fun q => ⟨[(1, .pt 501 [] 0), (10, .t (.agg [.sl 1 (l0.map encS), .sl 1 (l1.map encS), .sl 1 (l2.map encS), .sl 1 (l3.map encS)])), (11, .t (.int q))], [(501, .box 33 (.t (.agg d.l)))]⟩) (fun q => q ≤ 4) (fun q => 4 - q) 0 [(501, some 101)] (by omega) ?_ ?_
  · simp [go_sem, ↓iO, iO, tN]
  intro q hq
  have h4 : q = 0 ∨ q = 1 ∨ q = 2 ∨ q = 3 ∨ q = 4 := by omega
  rcases h4 with rfl | rfl | rfl | rfl | rfl
  · repeat (first | (refine nf1_sound rfl ?_; simp [go_sem, ↓iO, iO, tN]) | refine anI ?_ | refine ⟨dcK, ?_⟩ | ((first | refine iP ?_ | refine iN ?_); try simp [go_sem, ↓iO, iO, tN]))
    refine nf1_sound' _ _ _ ?_; simp only [nf1]
    refine CW.loop (ι := Nat) (fun i => ⟨[(1, .pt 501 [] 0), (4, .t (.sl 1 (l0.map encS))), (10, .t (.agg [.sl 1 (l0.map encS), .sl 1 (l1.map encS), .sl 1 (l2.map encS), .sl 1 (l3.map encS)])), (11, .t (.int (0 : Nat))), (14, .t (.sl 1 (l0.map encS))), (15, .t (.int l0.length)), (16, .t (.int i))], [(501, .box 33 (.t (.agg d.l)))]⟩) (fun i => i ≤ l0.length) (fun i => l0.length - i) 0 [(501, some 501)] (by omega) ?_ ?_
    · simp [go_sem, ↓iO, iO, tN]
    intro i hi
    by_cases hb : i < l0.length
    · obtain ⟨k, hk⟩ := has_get hb
      have c := sidx_fn l0 (by omega) (fun m hm => (b0 m hm).by_) n0 i k hk
      repeat (first | (refine nf1_sound rfl ?_; simp [go_sem, ↓iO, iO, tN, hk]) | refine anI ?_ | refine ⟨dcK, ?_⟩ | ((first | refine iP ?_ | refine iN ?_); try simp [go_sem, ↓iO, iO, tN, hk]))
      refine CallK.fn (c) [] [] [] (by kernel_rfl) ?_ ?_ ?_ (Or.inl rfl) ?_ <;> simp [go_sem, ↓iO, iO, tN, hk]
      repeat (refine anI ?_)
      try (refine ⟨dcK, ?_⟩)
      repeat (first | (refine nf1_sound rfl ?_; simp [go_sem, ↓iO, iO, tN, hk]) | refine anI ?_ | refine ⟨dcK, ?_⟩ | ((first | refine iP ?_ | refine iN ?_); try simp [go_sem, ↓iO, iO, tN, hk]))
      rw [RoundQ_normal]; refine ⟨i + 1, [(501, some 501)], ?_, ?_, ?_⟩
      · omega
      · omega
      simp [go_sem, ↓iO, iO, tN]
    · obtain rfl : i = l0.length := by omega
      repeat (first | (refine nf1_sound rfl ?_; simp [go_sem, ↓iO, iO, tN]) | refine anI ?_ | refine ⟨dcK, ?_⟩ | ((first | refine iP ?_ | refine iN ?_); try simp [go_sem, ↓iO, iO, tN]))
      rw [RoundQ_normal]; refine ⟨1, [(501, some 501)], ?_, ?_, ?_⟩
      · omega
      · omega
      simp [go_sem, ↓iO, iO, tN]
  · repeat (first | (refine nf1_sound rfl ?_; simp [go_sem, ↓iO, iO, tN]) | refine anI ?_ | refine ⟨dcK, ?_⟩ | ((first | refine iP ?_ | refine iN ?_); try simp [go_sem, ↓iO, iO, tN]))
    refine nf1_sound' _ _ _ ?_; simp only [nf1]
    refine CW.loop (ι := Nat) (fun i => ⟨[(1, .pt 501 [] 0), (4, .t (.sl 1 (l1.map encS))), (10, .t (.agg [.sl 1 (l0.map encS), .sl 1 (l1.map encS), .sl 1 (l2.map encS), .sl 1 (l3.map encS)])), (11, .t (.int (1 : Nat))), (14, .t (.sl 1 (l1.map encS))), (15, .t (.int l1.length)), (16, .t (.int i))], [(501, .box 33 (.t (.agg d.l)))]⟩) (fun i => i ≤ l1.length) (fun i => l1.length - i) 0 [(501, some 501)] (by omega) ?_ ?_
    · simp [go_sem, ↓iO, iO, tN]
    intro i hi
    by_cases hb : i < l1.length
    · obtain ⟨k, hk⟩ := has_get hb
      have c := sidx_fn l1 (by omega) (fun m hm => (b1 m hm).by_) n1 i k hk
      repeat (first | (refine nf1_sound rfl ?_; simp [go_sem, ↓iO, iO, tN, hk]) | refine anI ?_ | refine ⟨dcK, ?_⟩ | ((first | refine iP ?_ | refine iN ?_); try simp [go_sem, ↓iO, iO, tN, hk]))
      refine CallK.fn (c) [] [] [] (by kernel_rfl) ?_ ?_ ?_ (Or.inl rfl) ?_ <;> simp [go_sem, ↓iO, iO, tN, hk]
      repeat (refine anI ?_)
      try (refine ⟨dcK, ?_⟩)
      repeat (first | (refine nf1_sound rfl ?_; simp [go_sem, ↓iO, iO, tN, hk]) | refine anI ?_ | refine ⟨dcK, ?_⟩ | ((first | refine iP ?_ | refine iN ?_); try simp [go_sem, ↓iO, iO, tN, hk]))
      rw [RoundQ_normal]; refine ⟨i + 1, [(501, some 501)], ?_, ?_, ?_⟩
      · omega
      · omega
      simp [go_sem, ↓iO, iO, tN]
    · obtain rfl : i = l1.length := by omega
      repeat (first | (refine nf1_sound rfl ?_; simp [go_sem, ↓iO, iO, tN]) | refine anI ?_ | refine ⟨dcK, ?_⟩ | ((first | refine iP ?_ | refine iN ?_); try simp [go_sem, ↓iO, iO, tN]))
      rw [RoundQ_normal]; refine ⟨2, [(501, some 501)], ?_, ?_, ?_⟩
      · omega
      · omega
      simp [go_sem, ↓iO, iO, tN]
  · repeat (first | (refine nf1_sound rfl ?_; simp [go_sem, ↓iO, iO, tN]) | refine anI ?_ | refine ⟨dcK, ?_⟩ | ((first | refine iP ?_ | refine iN ?_); try simp [go_sem, ↓iO, iO, tN]))
    refine nf1_sound' _ _ _ ?_; simp only [nf1]
    refine CW.loop (ι := Nat) (fun i => ⟨[(1, .pt 501 [] 0), (4, .t (.sl 1 (l2.map encS))), (10, .t (.agg [.sl 1 (l0.map encS), .sl 1 (l1.map encS), .sl 1 (l2.map encS), .sl 1 (l3.map encS)])), (11, .t (.int (2 : Nat))), (14, .t (.sl 1 (l2.map encS))), (15, .t (.int l2.length)), (16, .t (.int i))], [(501, .box 33 (.t (.agg d.l)))]⟩) (fun i => i ≤ l2.length) (fun i => l2.length - i) 0 [(501, some 501)] (by omega) ?_ ?_
    · simp [go_sem, ↓iO, iO, tN]
    intro i hi
    by_cases hb : i < l2.length
    · obtain ⟨k, hk⟩ := has_get hb
      have c := sidx_fn l2 (by omega) (fun m hm => (b2 m hm).by_) n2 i k hk
      repeat (first | (refine nf1_sound rfl ?_; simp [go_sem, ↓iO, iO, tN, hk]) | refine anI ?_ | refine ⟨dcK, ?_⟩ | ((first | refine iP ?_ | refine iN ?_); try simp [go_sem, ↓iO, iO, tN, hk]))
      refine CallK.fn (c) [] [] [] (by kernel_rfl) ?_ ?_ ?_ (Or.inl rfl) ?_ <;> simp [go_sem, ↓iO, iO, tN, hk]
      repeat (refine anI ?_)
      try (refine ⟨dcK, ?_⟩)
      repeat (first | (refine nf1_sound rfl ?_; simp [go_sem, ↓iO, iO, tN, hk]) | refine anI ?_ | refine ⟨dcK, ?_⟩ | ((first | refine iP ?_ | refine iN ?_); try simp [go_sem, ↓iO, iO, tN, hk]))
      rw [RoundQ_normal]; refine ⟨i + 1, [(501, some 501)], ?_, ?_, ?_⟩
      · omega
      · omega
      simp [go_sem, ↓iO, iO, tN]
    · obtain rfl : i = l2.length := by omega
      repeat (first | (refine nf1_sound rfl ?_; simp [go_sem, ↓iO, iO, tN]) | refine anI ?_ | refine ⟨dcK, ?_⟩ | ((first | refine iP ?_ | refine iN ?_); try simp [go_sem, ↓iO, iO, tN]))
      rw [RoundQ_normal]; refine ⟨3, [(501, some 501)], ?_, ?_, ?_⟩
      · omega
      · omega
      simp [go_sem, ↓iO, iO, tN]
  · repeat (first | (refine nf1_sound rfl ?_; simp [go_sem, ↓iO, iO, tN]) | refine anI ?_ | refine ⟨dcK, ?_⟩ | ((first | refine iP ?_ | refine iN ?_); try simp [go_sem, ↓iO, iO, tN]))
    refine nf1_sound' _ _ _ ?_; simp only [nf1]
    refine CW.loop (ι := Nat) (fun i => ⟨[(1, .pt 501 [] 0), (4, .t (.sl 1 (l3.map encS))), (10, .t (.agg [.sl 1 (l0.map encS), .sl 1 (l1.map encS), .sl 1 (l2.map encS), .sl 1 (l3.map encS)])), (11, .t (.int (3 : Nat))), (14, .t (.sl 1 (l3.map encS))), (15, .t (.int l3.length)), (16, .t (.int i))], [(501, .box 33 (.t (.agg d.l)))]⟩) (fun i => i ≤ l3.length) (fun i => l3.length - i) 0 [(501, some 501)] (by omega) ?_ ?_
    · simp [go_sem, ↓iO, iO, tN]
    intro i hi
    by_cases hb : i < l3.length
    · obtain ⟨k, hk⟩ := has_get hb
      have c := sidx_fn l3 (by omega) (fun m hm => (b3 m hm).by_) n3 i k hk
      repeat (first | (refine nf1_sound rfl ?_; simp [go_sem, ↓iO, iO, tN, hk]) | refine anI ?_ | refine ⟨dcK, ?_⟩ | ((first | refine iP ?_ | refine iN ?_); try simp [go_sem, ↓iO, iO, tN, hk]))
      refine CallK.fn (c) [] [] [] (by kernel_rfl) ?_ ?_ ?_ (Or.inl rfl) ?_ <;> simp [go_sem, ↓iO, iO, tN, hk]
      repeat (refine anI ?_)
      try (refine ⟨dcK, ?_⟩)
      repeat (first | (refine nf1_sound rfl ?_; simp [go_sem, ↓iO, iO, tN, hk]) | refine anI ?_ | refine ⟨dcK, ?_⟩ | ((first | refine iP ?_ | refine iN ?_); try simp [go_sem, ↓iO, iO, tN, hk]))
      rw [RoundQ_normal]; refine ⟨i + 1, [(501, some 501)], ?_, ?_, ?_⟩
      · omega
      · omega
      simp [go_sem, ↓iO, iO, tN]
    · obtain rfl : i = l3.length := by omega
      repeat (first | (refine nf1_sound rfl ?_; simp [go_sem, ↓iO, iO, tN]) | refine anI ?_ | refine ⟨dcK, ?_⟩ | ((first | refine iP ?_ | refine iN ?_); try simp [go_sem, ↓iO, iO, tN]))
      rw [RoundQ_normal]; refine ⟨4, [(501, some 501)], ?_, ?_, ?_⟩
      · omega
      · omega
      simp [go_sem, ↓iO, iO, tN]
  · repeat (first | (refine nf1_sound rfl ?_; simp [go_sem, ↓iO, iO, tN]) | refine anI ?_ | refine ⟨dcK, ?_⟩ | ((first | refine iP ?_ | refine iN ?_); try simp [go_sem, ↓iO, iO, tN]))
    refine nf1_sound' _ _ _ ?_; simp only [nf1]
    refine CW.loop (ι := Nat) (fun i => ⟨[(1, .pt 501 [] 0), (29, .t (.sl 5 (d.stns.map encSn))), (30, .t (.int d.stns.length)), (31, .t (.int i))], [(501, .box 33 (.t (.agg d.l)))]⟩) (fun i => i ≤ d.stns.length) (fun i => d.stns.length - i) 0 [(501, some 501)] (by omega) ?_ ?_
    · simp [go_sem, ↓iO, iO, tN]
    intro i hi
    by_cases hb : i < d.stns.length
    · obtain ⟨s, hs⟩ := has_get hb
      have c := tidx_fn d.stns (by omega) h.ndU i s hs
      obtain ⟨s1, s2, s3, s4, s5⟩ := s
      repeat (first | (refine nf1_sound rfl ?_; simp [go_sem, ↓iO, iO, tN, hs]) | refine anI ?_ | refine ⟨dcK, ?_⟩ | ((first | refine iP ?_ | refine iN ?_); try simp [go_sem, ↓iO, iO, tN, hs]))
      refine CallK.fn (c) [(0, 108)] [] [] (by kernel_rfl) ?_ ?_ ?_ (Or.inl rfl) ?_ <;> simp [go_sem, ↓iO, iO, tN, hs]
      repeat (refine anI ?_)
      try (refine ⟨dcK, ?_⟩)
      repeat (first | (refine nf1_sound rfl ?_; simp [go_sem, ↓iO, iO, tN, hs]) | refine anI ?_ | refine ⟨dcK, ?_⟩ | ((first | refine iP ?_ | refine iN ?_); try simp [go_sem, ↓iO, iO, tN, hs]))
      rw [RoundQ_normal]; refine ⟨i + 1, [(501, some 501)], ?_, ?_, ?_⟩
      · omega
      · omega
      simp [go_sem, ↓iO, iO, tN]
    · obtain rfl : i = d.stns.length := by omega
      repeat (first | (refine nf1_sound rfl ?_; simp [go_sem, ↓iO, iO, tN]) | refine anI ?_ | refine ⟨dcK, ?_⟩ | ((first | refine iP ?_ | refine iN ?_); try simp [go_sem, ↓iO, iO, tN]))
      first | rw [RetQ_ret] | rw [RetQ_normal]
      refine ⟨[], ?_⟩
      simp [go_sem, ↓iO, iO, tN]
theorem kn1_fn (d : NetD) (hd : d.nn.length ≤ 24) (k : Int) (h : 0 ≤ k ∧ k < d.nn.length) : FnOk Tryz.prog 86 [.t (.int k), .pt 0 [] 0] [(0, .box 33 (.t (.agg d.l)))] (.t (.bool false)) [(0, .box 33 (.t (.agg d.l)))] := by
  obtain ⟨h1, h2⟩ := h
  refine FnOk.intro fact_mixed Tryz.func86 rfl Tryz.ntmps86 (by rfl) (by simp) ?_
  repeat (first | (refine nf1_sound rfl ?_; simp [go_sem, ↓iO, iO, tN, h1, h2]) | refine anI ?_ | refine ⟨dcK, ?_⟩ | ((first | refine iP ?_ | refine iN ?_); try simp [go_sem, ↓iO, iO, tN, h1, h2]))
  first | rw [RetQ_ret] | rw [RetQ_normal]
  refine ⟨[(0, some 0)], ?_⟩
  simp [go_sem, ↓iO, iO, tN, h1, h2]
theorem kidx_fn (d : NetD) (hd : d.nn.length ≤ 24) (l : List Int) (hlen : l.length ≤ 1000000) (hall : ∀ k ∈ l, 0 ≤ k ∧ k < d.nn.length) :
    FnOk Tryz.prog 66 [.t (.sl 1 (l.map encI)), .fn 86 [.pt 0 [] 0]] [(0, .box 33 (.t (.agg d.l)))] (.t (.int (-1))) [(0, .box 33 (.t (.agg d.l)))] := by
  refine FnOk.intro fact_mixed Tryz.func66 rfl Tryz.ntmps66 (by rfl) (by simp) ?_
  repeat (first | (refine nf1_sound rfl ?_; simp [go_sem, ↓iO, iO, tN]) | refine anI ?_ | refine ⟨dcK, ?_⟩ | ((first | refine iP ?_ | refine iN ?_); try simp [go_sem, ↓iO, iO, tN]))
  refine nf1_sound' _ _ _ ?_; simp only [nf1]
  refine CW.loop (ι := Nat) (fun j => ⟨[(0, .t (.sl 1 (l.map encI))), (1, .fn 86 [.pt 0 [] 0]), (7, .t (.int l.length)), (8, .t (.int j))], [(0, .box 33 (.t (.agg d.l)))]⟩) (fun j => j ≤ l.length) (fun j => l.length - j) 0 [(0, some 0)] (by omega) ?_ ?_
  · simp [go_sem, ↓iO, iO, tN]
  intro j hj
  by_cases he : j < l.length
  · obtain ⟨m, hm⟩ : ∃ m, l[j]? = some m := has_get he
    have c := kn1_fn d hd m (hall m (mem_get hm))
    repeat (first | (refine nf1_sound rfl ?_; simp [go_sem, ↓iO, iO, tN, hm]) | refine anI ?_ | refine ⟨dcK, ?_⟩ | ((first | refine iP ?_ | refine iN ?_); try simp [go_sem, ↓iO, iO, tN, hm]))
    refine CallK.fn (c) [(0, 0)] [] [] (by kernel_rfl) ?_ ?_ ?_ (Or.inl rfl) ?_ <;> simp [go_sem, ↓iO, iO, tN, hm]
    repeat (refine anI ?_)
    try (refine ⟨dcK, ?_⟩)
    repeat (first | (refine nf1_sound rfl ?_; simp [go_sem, ↓iO, iO, tN, hm]) | refine anI ?_ | refine ⟨dcK, ?_⟩ | ((first | refine iP ?_ | refine iN ?_); try simp [go_sem, ↓iO, iO, tN, hm]))
    rw [RoundQ_normal]; refine ⟨j + 1, [(0, some 0)], ?_, ?_, ?_⟩
    · omega
    · omega
    simp [go_sem, ↓iO, iO, tN]
  · obtain rfl : j = l.length := by omega
    repeat (first | (refine nf1_sound rfl ?_; simp [go_sem, ↓iO, iO, tN]) | refine anI ?_ | refine ⟨dcK, ?_⟩ | ((first | refine iP ?_ | refine iN ?_); try simp [go_sem, ↓iO, iO, tN]))
    first | rw [RetQ_ret] | rw [RetQ_normal]
    refine ⟨[(0, some 0)], ?_⟩
    simp [go_sem, ↓iO, iO, tN]
theorem kcont_fn (d : NetD) (hd : d.nn.length ≤ 24) (l : List Int) (hlen : l.length ≤ 1000000) (hall : ∀ k ∈ l, 0 ≤ k ∧ k < d.nn.length) :
    FnOk Tryz.prog 49 [.t (.sl 1 (l.map encI)), .fn 86 [.pt 0 [] 0]] [(0, .box 33 (.t (.agg d.l)))] (.t (.bool false)) [(0, .box 33 (.t (.agg d.l)))] := by
  have c := kidx_fn d hd l hlen hall
  refine FnOk.intro fact_mixed Tryz.func49 rfl Tryz.ntmps49 (by rfl) (by simp) ?_
  repeat (first | (refine nf1_sound rfl ?_; simp [go_sem, ↓iO, iO, tN]) | refine anI ?_ | refine ⟨dcK, ?_⟩ | ((first | refine iP ?_ | refine iN ?_); try simp [go_sem, ↓iO, iO, tN]))
  refine CallK.fn (c) [(0, 0)] [] [] (by kernel_rfl) ?_ ?_ ?_ (Or.inl rfl) ?_ <;> simp [go_sem, ↓iO, iO, tN]
  repeat (refine anI ?_)
  try (refine ⟨dcK, ?_⟩)
  repeat (first | (refine nf1_sound rfl ?_; simp [go_sem, ↓iO, iO, tN]) | refine anI ?_ | refine ⟨dcK, ?_⟩ | ((first | refine iP ?_ | refine iN ?_); try simp [go_sem, ↓iO, iO, tN]))
  first | rw [RetQ_ret] | rw [RetQ_normal]
  refine ⟨[(0, some 0)], ?_⟩
  simp [go_sem, ↓iO, iO, tN]
def NetD.sn (d : NetD) (k : Nat) : List Int := (d.segs.take k).flatMap fun s => [s.1.fr, s.1.to]
def NetD.pn (d : NetD) (k : Nat) : List Int := d.sn d.segs.length ++ (d.ports.take k).map fun p => p.2.1
def NetD.tn (d : NetD) (k : Nat) : List Int := d.pn d.ports.length ++ (d.stns.take k).map fun p => p.2.1
theorem sn_step (d : NetD) (k : Nat) (s : Sgm) (h : d.segs[k]? = some s) : d.sn (k + 1) = d.sn k ++ [s.1.fr, s.1.to] := by
  obtain ⟨hk, e⟩ := List.getElem?_eq_some_iff.1 h
  simp only [NetD.sn, List.take_succ_eq_append_getElem hk, e, List.flatMap_append]; simp
theorem sn_len (d : NetD) (k : Nat) : (d.sn k).length ≤ 2 * k := by
  simp only [NetD.sn, List.length_flatMap]
  have : ∀ l : List Sgm, (l.map fun s => [s.1.fr, s.1.to].length).sum = 2 * l.length := by
    intro l; induction l with
    | nil => rfl
    | cons a r ih => rw [List.map_cons, List.sum_cons, ih]; simp; omega
  rw [this, List.length_take]; omega
theorem pn_step (d : NetD) (k : Nat) (s : Prt) (h : d.ports[k]? = some s) : d.pn (k + 1) = d.pn k ++ [s.2.1] := by
  obtain ⟨hk, e⟩ := List.getElem?_eq_some_iff.1 h
  simp only [NetD.pn, List.take_succ_eq_append_getElem hk, e, List.map_append, List.append_assoc, List.map_cons, List.map_nil]
theorem tn_step (d : NetD) (k : Nat) (s : Stn) (h : d.stns[k]? = some s) : d.tn (k + 1) = d.tn k ++ [s.2.1] := by
  obtain ⟨hk, e⟩ := List.getElem?_eq_some_iff.1 h
  simp only [NetD.tn, List.take_succ_eq_append_getElem hk, e, List.map_append, List.append_assoc, List.map_cons, List.map_nil]
theorem sn_mem (d : NetD) (h : NetOk d) (k : Nat) : ∀ x ∈ d.sn k, 0 ≤ x ∧ x < d.nn.length := by
  intro x hx
  simp only [NetD.sn, List.mem_flatMap] at hx
  obtain ⟨s, hs, hx⟩ := hx
  have := h.knS s (List.mem_of_mem_take hs)
  simp at hx
  rcases hx with rfl | rfl
  · exact this.1
  · exact this.2
theorem pn_mem (d : NetD) (h : NetOk d) (k : Nat) : ∀ x ∈ d.pn k, 0 ≤ x ∧ x < d.nn.length := by
  intro x hx
  simp only [NetD.pn, List.mem_append, List.mem_map] at hx
  rcases hx with hx | ⟨s, hs, rfl⟩
  · exact sn_mem d h _ x hx
  · exact h.knP s (List.mem_of_mem_take hs)
theorem tn_mem (d : NetD) (h : NetOk d) (k : Nat) : ∀ x ∈ d.tn k, 0 ≤ x ∧ x < d.nn.length := by
  intro x hx
  simp only [NetD.tn, List.mem_append, List.mem_map] at hx
  rcases hx with hx | ⟨s, hs, rfl⟩
  · exact pn_mem d h _ x hx
  · exact h.knT s (List.mem_of_mem_take hs)
theorem kn_ex (d : NetD) (h : NetOk d) : ∃ A P Q : Nat → List Int, (A 0 = [] ∧ (∀ (k : Nat) s, d.segs[k]? = some s → A (k + 1) = A k ++ [s.1.fr, s.1.to]) ∧ (∀ k, k ≤ d.segs.length → (A k).length ≤ 64)) ∧
    (P 0 = A d.segs.length ∧ (∀ (k : Nat) s, d.ports[k]? = some s → P (k + 1) = P k ++ [s.2.1]) ∧ (∀ k, k ≤ d.ports.length → (P k).length ≤ 88)) ∧
    (Q 0 = P d.ports.length ∧ (∀ (k : Nat) s, d.stns[k]? = some s → Q (k + 1) = Q k ++ [s.2.1]) ∧ (∀ k, k ≤ d.stns.length → (Q k).length ≤ 100)) ∧ ∀ x ∈ Q d.stns.length, 0 ≤ x ∧ x < d.nn.length := by
  have a := h.s1
  have b := h.p1
  have c := h.t1
  have s0 := sn_len d d.segs.length
  have p0 : ∀ k, (d.pn k).length ≤ (d.sn d.segs.length).length + k := by intro k; simp only [NetD.pn, List.length_append, List.length_map, List.length_take]; omega
  have q0 : ∀ k, (d.tn k).length ≤ (d.pn d.ports.length).length + k := by intro k; simp only [NetD.tn, List.length_append, List.length_map, List.length_take]; omega
  refine ⟨d.sn, d.pn, d.tn, ⟨rfl, sn_step d, fun k hk => ?_⟩, ⟨by simp [NetD.pn], pn_step d, fun k hk => ?_⟩, ⟨by simp [NetD.tn], tn_step d, fun k hk => ?_⟩, tn_mem d h _⟩
  · have := sn_len d k; omega
  · have := p0 k; omega
  · have := q0 k; have := p0 d.ports.length; omega
theorem known_fn (d : NetD) (h : NetOk d) : FnOk Tryz.prog 61 [.t (.agg d.l)] [] (.t (.bool true)) [] := by
  have h2 := h.n1
  have h3 := h.s1
  have h4 := h.p1
  have h5 := h.t1
  obtain ⟨A, P, Q, ⟨a0, aS, al⟩, ⟨p0, pS, pl⟩, ⟨q0, qS, ql⟩, qm⟩ := kn_ex d h
  have c := kcont_fn d h.n1 (Q d.stns.length) (by have := ql _ (Nat.le_refl _); omega) qm
  refine FnOk.intro fact_mixed Tryz.func61 rfl Tryz.ntmps61 (by rfl) (by simp) ?_
  repeat (first | (refine nf1_sound rfl ?_; simp [go_sem, ↓iO, iO, tN]) | refine anI ?_ | refine ⟨dcK, ?_⟩ | ((first | refine iP ?_ | refine iN ?_); try simp [go_sem, ↓iO, iO, tN]))
  refine nf1_sound' _ _ _ ?_; simp only [nf1]
  refine CW.loop (ι := Nat) (fun k => ⟨[(1, .pt 501 [] 0), (3, .own 510), (11, .t (.sl 7 (d.segs.map encSg))), (12, .t (.int d.segs.length)), (13, .t (.int k))], [(501, .box 33 (.t (.agg d.l))), (510, .list 3 1 ((A k).map encI))]⟩)
    (fun k => k ≤ d.segs.length) (fun k => d.segs.length - k) 0 [(501, some 101), (510, none)] (by omega) ?_ ?_
  · simp [go_sem, ↓iO, iO, tN, a0]
  intro k hk
  by_cases hb : k < d.segs.length
  · obtain ⟨s, hs⟩ := has_get hb
    have e1 := aS k _ hs
    have e2 := al k (by omega)
    obtain ⟨⟨nm, fr, to, cp, rs, wv⟩, pts⟩ := s
    dsimp only at e1
    obtain ⟨B, hB⟩ : ∃ B, A k = B := ⟨_, rfl⟩
    rw [hB] at e1 e2 ⊢
    repeat (first | (refine nf1_sound rfl ?_; simp [go_sem, ↓iO, iO, tN, hs, e2]) | refine anI ?_ | refine ⟨dcK, ?_⟩ | ((first | refine iP ?_ | refine iN ?_); try simp [go_sem, ↓iO, iO, tN, hs, e2]))
    rw [RoundQ_normal]; refine ⟨k + 1, [(501, some 501), (510, some 123)], ?_, ?_, ?_⟩
    · omega
    · omega
    simp [go_sem, ↓iO, iO, tN, e1]
  · obtain rfl : k = d.segs.length := by omega
    repeat (first | (refine nf1_sound rfl ?_; simp [go_sem, ↓iO, iO, tN]) | refine anI ?_ | refine ⟨dcK, ?_⟩ | ((first | refine iP ?_ | refine iN ?_); try simp [go_sem, ↓iO, iO, tN]))
    refine nf1_sound' _ _ _ ?_; simp only [nf1]
    refine CW.loop (ι := Nat) (fun k => ⟨[(1, .pt 501 [] 0), (3, .own 510), (26, .t (.sl 3 (d.ports.map encPr))), (27, .t (.int d.ports.length)), (28, .t (.int k))], [(501, .box 33 (.t (.agg d.l))), (510, .list 3 1 ((P k).map encI))]⟩)
      (fun k => k ≤ d.ports.length) (fun k => d.ports.length - k) 0 [(501, some 501), (510, some 510)] (by omega) ?_ ?_
    · simp [go_sem, ↓iO, iO, tN, p0]
    intro k hk
    by_cases hb : k < d.ports.length
    · obtain ⟨s, hs⟩ := has_get hb
      have e1 := pS k _ hs
      have e2 := pl k (by omega)
      obtain ⟨nm, nd, pr⟩ := s
      dsimp only at e1
      obtain ⟨B, hB⟩ : ∃ B, P k = B := ⟨_, rfl⟩
      rw [hB] at e1 e2 ⊢
      repeat (first | (refine nf1_sound rfl ?_; simp [go_sem, ↓iO, iO, tN, hs, e2]) | refine anI ?_ | refine ⟨dcK, ?_⟩ | ((first | refine iP ?_ | refine iN ?_); try simp [go_sem, ↓iO, iO, tN, hs, e2]))
      rw [RoundQ_normal]; refine ⟨k + 1, [(501, some 501), (510, some 136)], ?_, ?_, ?_⟩
      · omega
      · omega
      simp [go_sem, ↓iO, iO, tN, e1]
    · obtain rfl : k = d.ports.length := by omega
      repeat (first | (refine nf1_sound rfl ?_; simp [go_sem, ↓iO, iO, tN]) | refine anI ?_ | refine ⟨dcK, ?_⟩ | ((first | refine iP ?_ | refine iN ?_); try simp [go_sem, ↓iO, iO, tN]))
      refine nf1_sound' _ _ _ ?_; simp only [nf1]
      refine CW.loop (ι := Nat) (fun k => ⟨[(1, .pt 501 [] 0), (3, .own 510), (39, .t (.sl 5 (d.stns.map encSn))), (40, .t (.int d.stns.length)), (41, .t (.int k))], [(501, .box 33 (.t (.agg d.l))), (510, .list 3 1 ((Q k).map encI))]⟩)
        (fun k => k ≤ d.stns.length) (fun k => d.stns.length - k) 0 [(501, some 501), (510, some 510)] (by omega) ?_ ?_
      · simp [go_sem, ↓iO, iO, tN, q0]
      intro k hk
      by_cases hb : k < d.stns.length
      · obtain ⟨s, hs⟩ := has_get hb
        have e1 := qS k _ hs
        have e2 := ql k (by omega)
        obtain ⟨nm, nd, hd1, fl, su⟩ := s
        dsimp only at e1
        obtain ⟨B, hB⟩ : ∃ B, Q k = B := ⟨_, rfl⟩
        rw [hB] at e1 e2 ⊢
        repeat (first | (refine nf1_sound rfl ?_; simp [go_sem, ↓iO, iO, tN, hs, e2]) | refine anI ?_ | refine ⟨dcK, ?_⟩ | ((first | refine iP ?_ | refine iN ?_); try simp [go_sem, ↓iO, iO, tN, hs, e2]))
        rw [RoundQ_normal]; refine ⟨k + 1, [(501, some 501), (510, some 149)], ?_, ?_, ?_⟩
        · omega
        · omega
        simp [go_sem, ↓iO, iO, tN, e1]
      · obtain rfl : k = d.stns.length := by omega
        repeat (first | (refine nf1_sound rfl ?_; simp [go_sem, ↓iO, iO, tN]) | refine anI ?_ | refine ⟨dcK, ?_⟩ | ((first | refine iP ?_ | refine iN ?_); try simp [go_sem, ↓iO, iO, tN]))
        refine CallK.fn (c) [(0, 501)] [] [510] (by kernel_rfl) ?_ ?_ ?_ (Or.inl rfl) ?_ <;> simp [go_sem, ↓iO, iO, tN]
        repeat (refine anI ?_)
        try (refine ⟨dcK, ?_⟩)
        repeat (first | (refine nf1_sound rfl ?_; simp [go_sem, ↓iO, iO, tN]) | refine anI ?_ | refine ⟨dcK, ?_⟩ | ((first | refine iP ?_ | refine iN ?_); try simp [go_sem, ↓iO, iO, tN]))
        first | rw [RetQ_ret] | rw [RetQ_normal]
        refine ⟨[], ?_⟩
        simp [go_sem, ↓iO, iO, tN]
theorem place_fn (x : Nat) (h : 97 ≤ x ∧ x ≤ 122) : FnOk Tryz.prog 82 [.t (.lit (.int .u8 x))] [] (.t (.int 1)) [] := by
  obtain ⟨h1, h2⟩ := h
  have e1 : (97 : Int) ≤ x := by omega
  have e2 : (x : Int) ≤ 122 := by omega
  refine FnOk.intro fact_mixed Tryz.func82 rfl Tryz.ntmps82 (by rfl) (by simp) ?_
  repeat (first | (refine nf1_sound rfl ?_; simp [go_sem, ↓iO, iO, tN, e1, e2]) | refine anI ?_ | refine ⟨dcK, ?_⟩ | ((first | refine iP ?_ | refine iN ?_); try simp [go_sem, ↓iO, iO, tN, e1, e2]))
  first | rw [RetQ_ret] | rw [RetQ_normal]
  refine ⟨[], ?_⟩
  simp [go_sem, ↓iO, iO, tN]
theorem name_fn (k : List Nat) (h0 : 1 ≤ k.length) (h1 : k.length ≤ 12) (h : ∀ x ∈ k, 97 ≤ x ∧ x ≤ 122) : FnOk Tryz.prog 59 [.t (encS k)] [] (.t (.bool true)) [] := by
  have hc : ∀ (j : Nat) x, k[j]? = some x → (str k).data.toList[j]? = some (UInt8.ofNat x) ∧ (UInt8.ofNat x).toNat = x := by
    intro j x hx
    have := h x (mem_get hx)
    have e : (str k).data.toList = k.map fun c => UInt8.ofNat c := by simp [str]
    rw [e, List.getElem?_map, hx]
    refine ⟨rfl, ?_⟩
    rw [UInt8.toNat_ofNat']; omega
  obtain ⟨x, hx⟩ : ∃ x, k[0]? = some x := has_get (by omega)
  obtain ⟨a1, a2⟩ := hc 0 x hx
  have c := place_fn x (h x (mem_get hx))
  refine FnOk.intro fact_mixed Tryz.func59 rfl Tryz.ntmps59 (by rfl) (by simp) ?_
  repeat (first | (refine nf1_sound rfl ?_; simp [go_sem, ↓iO, iO, tN, a1, a2]) | refine anI ?_ | refine ⟨dcK, ?_⟩ | ((first | refine iP ?_ | refine iN ?_); try simp [go_sem, ↓iO, iO, tN, a1, a2]))
  refine CallK.fn (c) [] [] [] (by kernel_rfl) ?_ ?_ ?_ (Or.inl rfl) ?_ <;> simp [go_sem, ↓iO, iO, tN, a1, a2]
  repeat (refine anI ?_)
  try (refine ⟨dcK, ?_⟩)
  repeat (first | (refine nf1_sound rfl ?_; simp [go_sem, ↓iO, iO, tN]) | refine anI ?_ | refine ⟨dcK, ?_⟩ | ((first | refine iP ?_ | refine iN ?_); try simp [go_sem, ↓iO, iO, tN]))
  refine nf1_sound' _ _ _ ?_; simp only [nf1]
  refine CW.loop (ι := Nat) (fun j => ⟨[(0, .t (encS k)), (19, .t (.int k.length)), (20, .t (.int j))], []⟩) (fun j => j ≤ k.length) (fun j => k.length - j) 0 [] (by omega) ?_ ?_
  · simp [go_sem, ↓iO, iO, tN]
  intro j hj
  by_cases hb : j < k.length
  · obtain ⟨y, hy⟩ := has_get hb
    obtain ⟨b1, b2⟩ := hc j y hy
    have c2 := place_fn y (h y (mem_get hy))
    repeat (first | (refine nf1_sound rfl ?_; simp [go_sem, ↓iO, iO, tN, b1, b2]) | refine anI ?_ | refine ⟨dcK, ?_⟩ | ((first | refine iP ?_ | refine iN ?_); try simp [go_sem, ↓iO, iO, tN, b1, b2]))
    refine CallK.fn (c2) [] [] [] (by kernel_rfl) ?_ ?_ ?_ (Or.inl rfl) ?_ <;> simp [go_sem, ↓iO, iO, tN, b1, b2]
    repeat (refine anI ?_)
    try (refine ⟨dcK, ?_⟩)
    repeat (first | (refine nf1_sound rfl ?_; simp [go_sem, ↓iO, iO, tN]) | refine anI ?_ | refine ⟨dcK, ?_⟩ | ((first | refine iP ?_ | refine iN ?_); try simp [go_sem, ↓iO, iO, tN]))
    rw [RoundQ_normal]; refine ⟨j + 1, [], ?_, ?_, ?_⟩
    · omega
    · omega
    simp [go_sem, ↓iO, iO, tN]
  · obtain rfl : j = k.length := by omega
    repeat (first | (refine nf1_sound rfl ?_; simp [go_sem, ↓iO, iO, tN]) | refine anI ?_ | refine ⟨dcK, ?_⟩ | ((first | refine iP ?_ | refine iN ?_); try simp [go_sem, ↓iO, iO, tN]))
    first | rw [RetQ_ret] | rw [RetQ_normal]
    refine ⟨[], ?_⟩
    simp [go_sem, ↓iO, iO, tN]
theorem name_ok (k : List Nat) (h0 : 1 ≤ k.length) (h1 : k.length ≤ 12) (h : ∀ x ∈ k, 97 ≤ x ∧ x ≤ 122) : NameOk k := ⟨fun x hx => by have := h x hx; omega, name_fn k h0 h1 h⟩
theorem nprop2_fn (p : Prt) (h : 0 ≤ p.2.2 ∧ p.2.2 ≤ 100000000) : FnOk Tryz.prog 90 [.t (encPr p)] [] (.t (.bool false)) [] := by
  have c := nin_fn p.2.2 0 100000000 true (by simpa using h)
  obtain ⟨a, b, e⟩ := p
  refine FnOk.intro fact_mixed Tryz.func90 rfl Tryz.ntmps90 (by rfl) (by simp) ?_
  repeat (first | (refine nf1_sound rfl ?_; simp [go_sem, ↓iO, iO, tN]) | refine anI ?_ | refine ⟨dcK, ?_⟩ | ((first | refine iP ?_ | refine iN ?_); try simp [go_sem, ↓iO, iO, tN]))
  refine CallK.fn (c) [] [] [] (by kernel_rfl) ?_ ?_ ?_ (Or.inl rfl) ?_ <;> simp [go_sem, ↓iO, iO, tN]
  repeat (refine anI ?_)
  try (refine ⟨dcK, ?_⟩)
  repeat (first | (refine nf1_sound rfl ?_; simp [go_sem, ↓iO, iO, tN]) | refine anI ?_ | refine ⟨dcK, ?_⟩ | ((first | refine iP ?_ | refine iN ?_); try simp [go_sem, ↓iO, iO, tN]))
  first | rw [RetQ_ret] | rw [RetQ_normal]
  refine ⟨[], ?_⟩
  simp [go_sem, ↓iO, iO, tN]
theorem nprop3_fn (p : Stn) (h : (0 ≤ p.2.2.1 ∧ p.2.2.1 ≤ 100000000) ∧ (0 ≤ p.2.2.2.1 ∧ p.2.2.2.1 ≤ 100000) ∧ 0 ≤ p.2.2.2.2 ∧ p.2.2.2.2 ≤ 100000000) : FnOk Tryz.prog 93 [.t (encSn p)] [] (.t (.bool false)) [] := by
  have c1 := nin_fn p.2.2.1 0 100000000 true (by simpa using h.1)
  have c2 := nin_fn p.2.2.2.1 0 100000 true (by simpa using h.2.1)
  have c3 := nin_fn p.2.2.2.2 0 100000000 true (by simpa using h.2.2)
  obtain ⟨a, b, e, f, g⟩ := p
  refine FnOk.intro fact_mixed Tryz.func93 rfl Tryz.ntmps93 (by rfl) (by simp) ?_
  repeat (first | (refine nf1_sound rfl ?_; simp [go_sem, ↓iO, iO, tN]) | refine anI ?_ | refine ⟨dcK, ?_⟩ | ((first | refine iP ?_ | refine iN ?_); try simp [go_sem, ↓iO, iO, tN]))
  refine CallK.fn (c1) [] [] [] (by kernel_rfl) ?_ ?_ ?_ (Or.inl rfl) ?_ <;> simp [go_sem, ↓iO, iO, tN]
  repeat (refine anI ?_)
  try (refine ⟨dcK, ?_⟩)
  repeat (first | (refine nf1_sound rfl ?_; simp [go_sem, ↓iO, iO, tN]) | refine anI ?_ | refine ⟨dcK, ?_⟩ | ((first | refine iP ?_ | refine iN ?_); try simp [go_sem, ↓iO, iO, tN]))
  refine CallK.fn (c2) [] [] [] (by kernel_rfl) ?_ ?_ ?_ (Or.inl rfl) ?_ <;> simp [go_sem, ↓iO, iO, tN]
  repeat (refine anI ?_)
  try (refine ⟨dcK, ?_⟩)
  repeat (first | (refine nf1_sound rfl ?_; simp [go_sem, ↓iO, iO, tN]) | refine anI ?_ | refine ⟨dcK, ?_⟩ | ((first | refine iP ?_ | refine iN ?_); try simp [go_sem, ↓iO, iO, tN]))
  refine CallK.fn (c3) [] [] [] (by kernel_rfl) ?_ ?_ ?_ (Or.inl rfl) ?_ <;> simp [go_sem, ↓iO, iO, tN]
  repeat (refine anI ?_)
  try (refine ⟨dcK, ?_⟩)
  repeat (first | (refine nf1_sound rfl ?_; simp [go_sem, ↓iO, iO, tN]) | refine anI ?_ | refine ⟨dcK, ?_⟩ | ((first | refine iP ?_ | refine iN ?_); try simp [go_sem, ↓iO, iO, tN]))
  first | rw [RetQ_ret] | rw [RetQ_normal]
  refine ⟨[], ?_⟩
  simp [go_sem, ↓iO, iO, tN]
theorem nproperG_fn (d : NetD) (h : NetOk d) : FnOk Tryz.prog 62 [.t (.agg d.l)] [] (.t (.bool true)) [] := by
  have h3 := h.s1
  have h4 := h.p1
  have h5 := h.t1
  have c1 := seg_cont d.segs (by omega) (fun p hp => nprop1_fn _ (h.pipe p hp))
  have c2 := pr2_cont d.ports (by omega) (fun p hp => nprop2_fn _ (h.prs p hp))
  have c3 := pr3_cont d.stns (by omega) (fun p hp => nprop3_fn _ (h.stn p hp))
  have c4 := nin_fn d.vap (-100000) 100000000 true (by simpa using h.vap)
  have c5 := nin_fn d.stl 0 100 true (by simpa using h.stl)
  refine FnOk.intro fact_mixed Tryz.func62 rfl Tryz.ntmps62 (by rfl) (by simp) ?_
  repeat (first | (refine nf1_sound rfl ?_; simp [go_sem, ↓iO, iO, tN]) | refine anI ?_ | refine ⟨dcK, ?_⟩ | ((first | refine iP ?_ | refine iN ?_); try simp [go_sem, ↓iO, iO, tN]))
  refine CallK.fn (c1) [] [] [] (by kernel_rfl) ?_ ?_ ?_ (Or.inl rfl) ?_ <;> simp [go_sem, ↓iO, iO, tN]
  repeat (refine anI ?_)
  try (refine ⟨dcK, ?_⟩)
  repeat (first | (refine nf1_sound rfl ?_; simp [go_sem, ↓iO, iO, tN]) | refine anI ?_ | refine ⟨dcK, ?_⟩ | ((first | refine iP ?_ | refine iN ?_); try simp [go_sem, ↓iO, iO, tN]))
  refine CallK.fn (c2) [] [] [] (by kernel_rfl) ?_ ?_ ?_ (Or.inl rfl) ?_ <;> simp [go_sem, ↓iO, iO, tN]
  repeat (refine anI ?_)
  try (refine ⟨dcK, ?_⟩)
  repeat (first | (refine nf1_sound rfl ?_; simp [go_sem, ↓iO, iO, tN]) | refine anI ?_ | refine ⟨dcK, ?_⟩ | ((first | refine iP ?_ | refine iN ?_); try simp [go_sem, ↓iO, iO, tN]))
  refine CallK.fn (c3) [] [] [] (by kernel_rfl) ?_ ?_ ?_ (Or.inl rfl) ?_ <;> simp [go_sem, ↓iO, iO, tN]
  repeat (refine anI ?_)
  try (refine ⟨dcK, ?_⟩)
  repeat (first | (refine nf1_sound rfl ?_; simp [go_sem, ↓iO, iO, tN]) | refine anI ?_ | refine ⟨dcK, ?_⟩ | ((first | refine iP ?_ | refine iN ?_); try simp [go_sem, ↓iO, iO, tN]))
  refine CallK.fn (c4) [] [] [] (by kernel_rfl) ?_ ?_ ?_ (Or.inl rfl) ?_ <;> simp [go_sem, ↓iO, iO, tN]
  repeat (refine anI ?_)
  try (refine ⟨dcK, ?_⟩)
  repeat (first | (refine nf1_sound rfl ?_; simp [go_sem, ↓iO, iO, tN]) | refine anI ?_ | refine ⟨dcK, ?_⟩ | ((first | refine iP ?_ | refine iN ?_); try simp [go_sem, ↓iO, iO, tN]))
  refine CallK.fn (c5) [] [] [] (by kernel_rfl) ?_ ?_ ?_ (Or.inl rfl) ?_ <;> simp [go_sem, ↓iO, iO, tN]
  repeat (refine anI ?_)
  try (refine ⟨dcK, ?_⟩)
  repeat (first | (refine nf1_sound rfl ?_; simp [go_sem, ↓iO, iO, tN]) | refine anI ?_ | refine ⟨dcK, ?_⟩ | ((first | refine iP ?_ | refine iN ?_); try simp [go_sem, ↓iO, iO, tN]))
  first | rw [RetQ_ret] | rw [RetQ_normal]
  refine ⟨[], ?_⟩
  simp [go_sem, ↓iO, iO, tN]
theorem ncheck1_fn (k : List Nat) (h : NameOk k) : FnOk Tryz.prog 58 [.t (encS k)] [] (.t (.bool false)) [] := by
  have c := h.fn
  refine FnOk.intro fact_mixed Tryz.func58 rfl Tryz.ntmps58 (by rfl) (by simp) ?_
  repeat (first | (refine nf1_sound rfl ?_; simp [go_sem, ↓iO, iO, tN]) | refine anI ?_ | refine ⟨dcK, ?_⟩ | ((first | refine iP ?_ | refine iN ?_); try simp [go_sem, ↓iO, iO, tN]))
  refine CallK.fn (c) [] [] [] (by kernel_rfl) ?_ ?_ ?_ (Or.inl rfl) ?_ <;> simp [go_sem, ↓iO, iO, tN]
  repeat (refine anI ?_)
  try (refine ⟨dcK, ?_⟩)
  repeat (first | (refine nf1_sound rfl ?_; simp [go_sem, ↓iO, iO, tN]) | refine anI ?_ | refine ⟨dcK, ?_⟩ | ((first | refine iP ?_ | refine iN ?_); try simp [go_sem, ↓iO, iO, tN]))
  first | rw [RetQ_ret] | rw [RetQ_normal]
  refine ⟨[], ?_⟩
  simp [go_sem, ↓iO, iO, tN]
theorem ncheckG_fn (d : NetD) (h : NetOk d) : FnOk Tryz.prog 45 [.t (.agg d.l)] [] (.t (.int 0)) [] := by
  have c1 := limits_fn d h
  have c2 := names_fn' d h
  have c3 := twice_fn d h
  have c4 := known_fn d h
  have c5 := nproperG_fn d h
  have hgt : ∀ i : Nat, i < 4 → ∃ l : List (List Nat), d.ns i = l ∧ FnOk Tryz.prog 57 [.t (.sl 1 (l.map encS)), .fn 58 []] [] (.t (.bool false)) [] := fun i _ => ⟨_, rfl, cks_cont _ (by have := (ns_ok d h i).1; omega) (fun p hp => ncheck1_fn _ ((ns_ok d h i).2.1 p hp))⟩
  obtain ⟨l0, e0, d0⟩ := hgt 0 (by omega)
  obtain ⟨l1, e1, d1⟩ := hgt 1 (by omega)
  obtain ⟨l2, e2, d2⟩ := hgt 2 (by omega)
  obtain ⟨l3, e3, d3⟩ := hgt 3 (by omega)
  have hN : d.nt = .agg [.sl 1 (l0.map encS), .sl 1 (l1.map encS), .sl 1 (l2.map encS), .sl 1 (l3.map encS)] := by simp only [NetD.nt, e0, e1, e2, e3]
  rw [hN] at c2
  clear hN e0 e1 e2 e3 hgt
  refine FnOk.intro fact_mixed Tryz.func45 rfl Tryz.ntmps45 (by rfl) (by simp) ?_
  repeat (first | (refine nf1_sound rfl ?_; simp [go_sem, ↓iO, iO, tN]) | refine anI ?_ | refine ⟨dcK, ?_⟩ | ((first | refine iP ?_ | refine iN ?_); try simp [go_sem, ↓iO, iO, tN]))
  refine CallK.fn (c1) [] [] [] (by kernel_rfl) ?_ ?_ ?_ (Or.inl rfl) ?_ <;> simp [go_sem, ↓iO, iO, tN]
  repeat (refine anI ?_)
  try (refine ⟨dcK, ?_⟩)
  repeat (first | (refine nf1_sound rfl ?_; simp [go_sem, ↓iO, iO, tN]) | refine anI ?_ | refine ⟨dcK, ?_⟩ | ((first | refine iP ?_ | refine iN ?_); try simp [go_sem, ↓iO, iO, tN]))
  refine CallK.fn (c2) [] [] [] (by kernel_rfl) ?_ ?_ ?_ (Or.inl rfl) ?_ <;> simp [go_sem, ↓iO, iO, tN]
  repeat (refine anI ?_)
  try (refine ⟨dcK, ?_⟩)
  repeat (first | (refine nf1_sound rfl ?_; simp [go_sem, ↓iO, iO, tN]) | refine anI ?_ | refine ⟨dcK, ?_⟩ | ((first | refine iP ?_ | refine iN ?_); try simp [go_sem, ↓iO, iO, tN]))
  refine nf1_sound' _ _ _ ?_; simp only [nf1]
  refine CW.loop (ι := Nat) (fun k => ⟨[(1, .pt 501 [] 0), (9, .t (.agg [.sl 1 (l0.map encS), .sl 1 (l1.map encS), .sl 1 (l2.map encS), .sl 1 (l3.map encS)])), (10, .t (.int k))], [(501, .box 33 (.t (.agg d.l)))]⟩) (fun k => k ≤ 4) (fun k => 4 - k) 0 [(501, some 101)] (by omega) ?_ ?_
  · simp [go_sem, ↓iO, iO, tN]
  intro k hk
  have h4 : k = 0 ∨ k = 1 ∨ k = 2 ∨ k = 3 ∨ k = 4 := by omega
  rcases h4 with rfl | rfl | rfl | rfl | rfl
  · repeat (first | (refine nf1_sound rfl ?_; simp [go_sem, ↓iO, iO, tN]) | refine anI ?_ | refine ⟨dcK, ?_⟩ | ((first | refine iP ?_ | refine iN ?_); try simp [go_sem, ↓iO, iO, tN]))
    refine CallK.fn (d0) [] [] [] (by kernel_rfl) ?_ ?_ ?_ (Or.inl rfl) ?_ <;> simp [go_sem, ↓iO, iO, tN]
    repeat (refine anI ?_)
    try (refine ⟨dcK, ?_⟩)
    repeat (first | (refine nf1_sound rfl ?_; simp [go_sem, ↓iO, iO, tN]) | refine anI ?_ | refine ⟨dcK, ?_⟩ | ((first | refine iP ?_ | refine iN ?_); try simp [go_sem, ↓iO, iO, tN]))
    rw [RoundQ_normal]; refine ⟨1, [(501, some 501)], ?_, ?_, ?_⟩
    · omega
    · omega
    simp [go_sem, ↓iO, iO, tN]
  · repeat (first | (refine nf1_sound rfl ?_; simp [go_sem, ↓iO, iO, tN]) | refine anI ?_ | refine ⟨dcK, ?_⟩ | ((first | refine iP ?_ | refine iN ?_); try simp [go_sem, ↓iO, iO, tN]))
    refine CallK.fn (d1) [] [] [] (by kernel_rfl) ?_ ?_ ?_ (Or.inl rfl) ?_ <;> simp [go_sem, ↓iO, iO, tN]
    repeat (refine anI ?_)
    try (refine ⟨dcK, ?_⟩)
    repeat (first | (refine nf1_sound rfl ?_; simp [go_sem, ↓iO, iO, tN]) | refine anI ?_ | refine ⟨dcK, ?_⟩ | ((first | refine iP ?_ | refine iN ?_); try simp [go_sem, ↓iO, iO, tN]))
    rw [RoundQ_normal]; refine ⟨2, [(501, some 501)], ?_, ?_, ?_⟩
    · omega
    · omega
    simp [go_sem, ↓iO, iO, tN]
  · repeat (first | (refine nf1_sound rfl ?_; simp [go_sem, ↓iO, iO, tN]) | refine anI ?_ | refine ⟨dcK, ?_⟩ | ((first | refine iP ?_ | refine iN ?_); try simp [go_sem, ↓iO, iO, tN]))
    refine CallK.fn (d2) [] [] [] (by kernel_rfl) ?_ ?_ ?_ (Or.inl rfl) ?_ <;> simp [go_sem, ↓iO, iO, tN]
    repeat (refine anI ?_)
    try (refine ⟨dcK, ?_⟩)
    repeat (first | (refine nf1_sound rfl ?_; simp [go_sem, ↓iO, iO, tN]) | refine anI ?_ | refine ⟨dcK, ?_⟩ | ((first | refine iP ?_ | refine iN ?_); try simp [go_sem, ↓iO, iO, tN]))
    rw [RoundQ_normal]; refine ⟨3, [(501, some 501)], ?_, ?_, ?_⟩
    · omega
    · omega
    simp [go_sem, ↓iO, iO, tN]
  · repeat (first | (refine nf1_sound rfl ?_; simp [go_sem, ↓iO, iO, tN]) | refine anI ?_ | refine ⟨dcK, ?_⟩ | ((first | refine iP ?_ | refine iN ?_); try simp [go_sem, ↓iO, iO, tN]))
    refine CallK.fn (d3) [] [] [] (by kernel_rfl) ?_ ?_ ?_ (Or.inl rfl) ?_ <;> simp [go_sem, ↓iO, iO, tN]
    repeat (refine anI ?_)
    try (refine ⟨dcK, ?_⟩)
    repeat (first | (refine nf1_sound rfl ?_; simp [go_sem, ↓iO, iO, tN]) | refine anI ?_ | refine ⟨dcK, ?_⟩ | ((first | refine iP ?_ | refine iN ?_); try simp [go_sem, ↓iO, iO, tN]))
    rw [RoundQ_normal]; refine ⟨4, [(501, some 501)], ?_, ?_, ?_⟩
    · omega
    · omega
    simp [go_sem, ↓iO, iO, tN]
  · repeat (first | (refine nf1_sound rfl ?_; simp [go_sem, ↓iO, iO, tN]) | refine anI ?_ | refine ⟨dcK, ?_⟩ | ((first | refine iP ?_ | refine iN ?_); try simp [go_sem, ↓iO, iO, tN]))
    refine CallK.fn (c3) [] [] [] (by kernel_rfl) ?_ ?_ ?_ (Or.inl rfl) ?_ <;> simp [go_sem, ↓iO, iO, tN]
    repeat (refine anI ?_)
    try (refine ⟨dcK, ?_⟩)
    repeat (first | (refine nf1_sound rfl ?_; simp [go_sem, ↓iO, iO, tN]) | refine anI ?_ | refine ⟨dcK, ?_⟩ | ((first | refine iP ?_ | refine iN ?_); try simp [go_sem, ↓iO, iO, tN]))
    refine CallK.fn (c4) [] [] [] (by kernel_rfl) ?_ ?_ ?_ (Or.inl rfl) ?_ <;> simp [go_sem, ↓iO, iO, tN]
    repeat (refine anI ?_)
    try (refine ⟨dcK, ?_⟩)
    repeat (first | (refine nf1_sound rfl ?_; simp [go_sem, ↓iO, iO, tN]) | refine anI ?_ | refine ⟨dcK, ?_⟩ | ((first | refine iP ?_ | refine iN ?_); try simp [go_sem, ↓iO, iO, tN]))
    refine CallK.fn (c5) [] [] [] (by kernel_rfl) ?_ ?_ ?_ (Or.inl rfl) ?_ <;> simp [go_sem, ↓iO, iO, tN]
    repeat (refine anI ?_)
    try (refine ⟨dcK, ?_⟩)
    repeat (first | (refine nf1_sound rfl ?_; simp [go_sem, ↓iO, iO, tN]) | refine anI ?_ | refine ⟨dcK, ?_⟩ | ((first | refine iP ?_ | refine iN ?_); try simp [go_sem, ↓iO, iO, tN]))
    first | rw [RetQ_ret] | rw [RetQ_normal]
    refine ⟨[], ?_⟩
    simp [go_sem, ↓iO, iO, tN]
def addC (c : List Int) (k r : Int) : List Int := if 0 ≤ k then c.set k.toNat (c.getD k.toNat 0 + r) else c
def fFr (a b r : Int) : Int := if r < 0 then b else a
def fTo (a b r : Int) : Int := if r < 0 then a else b
def fAb (r : Int) : Int := if r < 0 then -r else r
theorem addC_len (c : List Int) (k r : Int) : (addC c k r).length = c.length := by unfold addC; split <;> simp
theorem add_fn (c l : List Int) (a b r : Int) (hc : c.length = 24) (hl : l.length = 24) (ha : -1 ≤ a ∧ a < 24) (hb : -1 ≤ b ∧ b < 24) (hr : -1000 ≤ r ∧ r ≤ 1000) (hcb : ∀ x ∈ c, 0 ≤ x ∧ x ≤ 1000000) (hlb : ∀ x ∈ l, 0 ≤ x ∧ x ≤ 1000000) :
    FnOk Tryz.prog 122 [.pt 0 [] 0, .t (.int a), .t (.int b), .t (.int r)] [(0, .box 151 (.t (.agg [.agg (c.map encI), .agg (l.map encI)])))] (.tup []) [(0, .box 151 (.t (.agg [.agg ((addC c (fTo a b r) (fAb r)).map encI), .agg ((addC l (fFr a b r) (fAb r)).map encI)])))] := by
  have gc : ∀ k : Int, 0 ≤ k → k < 24 → ∃ x, c[k.toNat]? = some x ∧ 0 ≤ x ∧ x ≤ 1000000 ∧ ∀ v, addC c k v = c.set k.toNat (x + v) := fun k h0 h1 => by
    obtain ⟨x, hx⟩ : ∃ x, c[k.toNat]? = some x := has_get (by omega)
    have := hcb x (mem_get hx)
    exact ⟨x, hx, this.1, this.2, fun v => by simp [addC, h0, List.getD, hx]⟩
  have gl : ∀ k : Int, 0 ≤ k → k < 24 → ∃ x, l[k.toNat]? = some x ∧ 0 ≤ x ∧ x ≤ 1000000 ∧ ∀ v, addC l k v = l.set k.toNat (x + v) := fun k h0 h1 => by
    obtain ⟨x, hx⟩ : ∃ x, l[k.toNat]? = some x := has_get (by omega)
    have := hlb x (mem_get hx)
    exact ⟨x, hx, this.1, this.2, fun v => by simp [addC, h0, List.getD, hx]⟩
  have nc : ∀ k v : Int, ¬ 0 ≤ k → addC c k v = c := fun k v h => by simp only [addC, if_neg h]
  have nl : ∀ k v : Int, ¬ 0 ≤ k → addC l k v = l := fun k v h => by simp only [addC, if_neg h]
  refine FnOk.intro fact_mixed Tryz.func122 rfl Tryz.ntmps122 (by rfl) (by simp) ?_
  by_cases hneg : r < 0
  · have g1 : fTo a b r = a := by simp [fTo, hneg]
    have g2 : fFr a b r = b := by simp [fFr, hneg]
    have g3 : fAb r = -r := by simp [fAb, hneg]
    rw [g1, g2, g3]
    by_cases hf : 0 ≤ b
    · obtain ⟨y, y1, y2, y3, y4⟩ := gl b hf (by omega)
      by_cases ht : 0 ≤ a
      · obtain ⟨x, x1, x2, x3, x4⟩ := gc a ht (by omega)
        rw [x4, y4]
        repeat (first | (refine nf1_sound rfl ?_; simp [go_sem, ↓iO, iO, tN, hneg, hf, ht, x1, y1, hc, hl]) | refine anI ?_ | refine ⟨dcK, ?_⟩ | ((first | refine iP ?_ | refine iN ?_); try simp [go_sem, ↓iO, iO, tN, hneg, hf, ht, x1, y1, hc, hl]))
        first | rw [RetQ_ret] | rw [RetQ_normal]
        refine ⟨[(0, some 0)], ?_⟩
        simp [go_sem, ↓iO, iO, tN, List.map_set]
      · rw [nc _ _ ht, y4]
        repeat (first | (refine nf1_sound rfl ?_; simp [go_sem, ↓iO, iO, tN, hneg, hf, ht, y1, hc, hl]) | refine anI ?_ | refine ⟨dcK, ?_⟩ | ((first | refine iP ?_ | refine iN ?_); try simp [go_sem, ↓iO, iO, tN, hneg, hf, ht, y1, hc, hl]))
        first | rw [RetQ_ret] | rw [RetQ_normal]
        refine ⟨[(0, some 0)], ?_⟩
        simp [go_sem, ↓iO, iO, tN, List.map_set]
    · rw [nl _ _ hf]
      by_cases ht : 0 ≤ a
      · obtain ⟨x, x1, x2, x3, x4⟩ := gc a ht (by omega)
        rw [x4]
        repeat (first | (refine nf1_sound rfl ?_; simp [go_sem, ↓iO, iO, tN, hneg, hf, ht, x1, hc, hl]) | refine anI ?_ | refine ⟨dcK, ?_⟩ | ((first | refine iP ?_ | refine iN ?_); try simp [go_sem, ↓iO, iO, tN, hneg, hf, ht, x1, hc, hl]))
        first | rw [RetQ_ret] | rw [RetQ_normal]
        refine ⟨[(0, some 0)], ?_⟩
        simp [go_sem, ↓iO, iO, tN, List.map_set]
      · rw [nc _ _ ht]
        repeat (first | (refine nf1_sound rfl ?_; simp [go_sem, ↓iO, iO, tN, hneg, hf, ht, hc, hl]) | refine anI ?_ | refine ⟨dcK, ?_⟩ | ((first | refine iP ?_ | refine iN ?_); try simp [go_sem, ↓iO, iO, tN, hneg, hf, ht, hc, hl]))
        first | rw [RetQ_ret] | rw [RetQ_normal]
        refine ⟨[(0, some 0)], ?_⟩
        simp [go_sem, ↓iO, iO, tN]
  · have g1 : fTo a b r = b := by simp [fTo, hneg]
    have g2 : fFr a b r = a := by simp [fFr, hneg]
    have g3 : fAb r = r := by simp [fAb, hneg]
    rw [g1, g2, g3]
    by_cases hf : 0 ≤ a
    · obtain ⟨y, y1, y2, y3, y4⟩ := gl a hf (by omega)
      by_cases ht : 0 ≤ b
      · obtain ⟨x, x1, x2, x3, x4⟩ := gc b ht (by omega)
        rw [x4, y4]
        repeat (first | (refine nf1_sound rfl ?_; simp [go_sem, ↓iO, iO, tN, hneg, hf, ht, x1, y1, hc, hl]) | refine anI ?_ | refine ⟨dcK, ?_⟩ | ((first | refine iP ?_ | refine iN ?_); try simp [go_sem, ↓iO, iO, tN, hneg, hf, ht, x1, y1, hc, hl]))
        first | rw [RetQ_ret] | rw [RetQ_normal]
        refine ⟨[(0, some 0)], ?_⟩
        simp [go_sem, ↓iO, iO, tN, List.map_set]
      · rw [nc _ _ ht, y4]
        repeat (first | (refine nf1_sound rfl ?_; simp [go_sem, ↓iO, iO, tN, hneg, hf, ht, y1, hc, hl]) | refine anI ?_ | refine ⟨dcK, ?_⟩ | ((first | refine iP ?_ | refine iN ?_); try simp [go_sem, ↓iO, iO, tN, hneg, hf, ht, y1, hc, hl]))
        first | rw [RetQ_ret] | rw [RetQ_normal]
        refine ⟨[(0, some 0)], ?_⟩
        simp [go_sem, ↓iO, iO, tN, List.map_set]
    · rw [nl _ _ hf]
      by_cases ht : 0 ≤ b
      · obtain ⟨x, x1, x2, x3, x4⟩ := gc b ht (by omega)
        rw [x4]
        repeat (first | (refine nf1_sound rfl ?_; simp [go_sem, ↓iO, iO, tN, hneg, hf, ht, x1, hc, hl]) | refine anI ?_ | refine ⟨dcK, ?_⟩ | ((first | refine iP ?_ | refine iN ?_); try simp [go_sem, ↓iO, iO, tN, hneg, hf, ht, x1, hc, hl]))
        first | rw [RetQ_ret] | rw [RetQ_normal]
        refine ⟨[(0, some 0)], ?_⟩
        simp [go_sem, ↓iO, iO, tN, List.map_set]
      · rw [nc _ _ ht]
        repeat (first | (refine nf1_sound rfl ?_; simp [go_sem, ↓iO, iO, tN, hneg, hf, ht, hc, hl]) | refine anI ?_ | refine ⟨dcK, ?_⟩ | ((first | refine iP ?_ | refine iN ?_); try simp [go_sem, ↓iO, iO, tN, hneg, hf, ht, hc, hl]))
        first | rw [RetQ_ret] | rw [RetQ_normal]
        refine ⟨[(0, some 0)], ?_⟩
        simp [go_sem, ↓iO, iO, tN]
def addP (s : List Int × List Int) (x : Int × Int × Int) : List Int × List Int := (addC s.1 (fTo x.1 x.2.1 x.2.2) (fAb x.2.2), addC s.2 (fFr x.1 x.2.1 x.2.2) (fAb x.2.2))
abbrev flows := List (Int × Int × Int)
def sgFl (segs : List Sgm) (rates : List Int) : flows := (segs.zip rates).map fun x => (x.1.1.fr, x.1.1.to, x.2)
def ptFl (ports : List Prt) (rates : List Int) : flows := (ports.zip rates).map fun x => (-1, x.1.2.1, x.2)
def zero24 : List Int × List Int := (List.replicate 24 0, List.replicate 24 0)
def sumP (l : flows) : List Int × List Int := l.foldl addP zero24
theorem addC_bd {c : List Int} {k r B : Int} (hr : 0 ≤ r ∧ r ≤ 1000) (h : ∀ x ∈ c, 0 ≤ x ∧ x ≤ B) : ∀ x ∈ addC c k r, 0 ≤ x ∧ x ≤ B + 1000 := by
  intro x hx
  unfold addC at hx
  split at hx
  · rcases List.mem_or_eq_of_mem_set hx with hx | rfl
    · have := h x hx; omega
    · by_cases hk : k.toNat < c.length
      · have h1 : c.getD k.toNat 0 = c[k.toNat] := by simp [List.getD, hk]
        have := h _ (List.getElem_mem hk)
        rw [h1]; omega
      · rw [List.set_eq_of_length_le (by omega)] at hx
        have := h _ hx; omega
  · have := h x hx; omega
theorem fAb_bd {r : Int} (h : -1000 ≤ r ∧ r ≤ 1000) : 0 ≤ fAb r ∧ fAb r ≤ 1000 := by unfold fAb; split <;> omega
structure SumOk (s : List Int × List Int) (B : Int) : Prop where
  l1 : s.1.length = 24
  l2 : s.2.length = 24
  b1 : ∀ x ∈ s.1, 0 ≤ x ∧ x ≤ B
  b2 : ∀ x ∈ s.2, 0 ≤ x ∧ x ≤ B
theorem addP_ok {s : List Int × List Int} {B : Int} (h : SumOk s B) (x : Int × Int × Int) (hx : -1000 ≤ x.2.2 ∧ x.2.2 ≤ 1000) : SumOk (addP s x) (B + 1000) :=
  ⟨by simp only [addP, addC_len, h.l1], by simp only [addP, addC_len, h.l2], addC_bd (fAb_bd hx) h.b1, addC_bd (fAb_bd hx) h.b2⟩
theorem zero24_ok : SumOk zero24 0 := ⟨rfl, rfl, fun x hx => by simp [zero24] at hx; omega, fun x hx => by simp [zero24] at hx; omega⟩
theorem sumP_ok : ∀ (l : flows) (s : List Int × List Int) (B : Int), SumOk s B → (∀ x ∈ l, -1000 ≤ x.2.2 ∧ x.2.2 ≤ 1000) → SumOk (l.foldl addP s) (B + 1000 * l.length)
  | [], s, B, h, _ => by simpa using h
  | x :: r, s, B, h, hl => by
    have := sumP_ok r (addP s x) (B + 1000) (addP_ok h x (hl x (by simp))) (fun y hy => hl y (by simp [hy]))
    rw [List.foldl_cons]
    have e : B + 1000 + 1000 * (r.length : Int) = B + 1000 * ((x :: r).length : Int) := by simp only [List.length_cons]; omega
    rw [← e]; exact this
theorem sums_ex (segs : List Sgm) (ports : List Prt) (rates prates : List Int) (h1 : rates.length = segs.length) (h2 : prates.length = ports.length) (hs : segs.length ≤ 32) (hp : ports.length ≤ 24)
    (hr : ∀ r ∈ rates, -1000 ≤ r ∧ r ≤ 1000) (hq : ∀ r ∈ prates, -1000 ≤ r ∧ r ≤ 1000) : ∃ A P : Nat → List Int × List Int,
    A 0 = zero24 ∧ (∀ (k : Nat) s r, segs[k]? = some s → rates[k]? = some r → A (k + 1) = addP (A k) (s.1.fr, s.1.to, r)) ∧ (∀ k, SumOk (A k) 100000) ∧
    P 0 = A segs.length ∧ (∀ (k : Nat) s r, ports[k]? = some s → prates[k]? = some r → P (k + 1) = addP (P k) (-1, s.2.1, r)) ∧ (∀ k, SumOk (P k) 100000) ∧ P ports.length = sumP (sgFl segs rates ++ ptFl ports prates) := by
  have l1 : (sgFl segs rates).length = segs.length := by simp [sgFl, h1]
  have l2 : (ptFl ports prates).length = ports.length := by simp [ptFl, h2]
  have b1 : ∀ x ∈ sgFl segs rates, -1000 ≤ x.2.2 ∧ x.2.2 ≤ 1000 := by
    intro x hx
    obtain ⟨y, hy, rfl⟩ := List.mem_map.1 hx
    exact hr _ (List.of_mem_zip hy).2
  have b2 : ∀ x ∈ ptFl ports prates, -1000 ≤ x.2.2 ∧ x.2.2 ≤ 1000 := by
    intro x hx
    obtain ⟨y, hy, rfl⟩ := List.mem_map.1 hx
    exact hq _ (List.of_mem_zip hy).2
  have up : ∀ {s : List Int × List Int} {B : Int}, SumOk s B → B ≤ 100000 → SumOk s 100000 := fun h hB => ⟨h.l1, h.l2, fun x hx => by have := h.b1 x hx; omega, fun x hx => by have := h.b2 x hx; omega⟩
  refine ⟨fun k => ((sgFl segs rates).take k).foldl addP zero24, fun k => ((ptFl ports prates).take k).foldl addP (sumP (sgFl segs rates)), rfl, fun k s r hk hk2 => ?_, fun k => ?_, ?_, fun k s r hk hk2 => ?_, fun k => ?_, ?_⟩
  · have e : (sgFl segs rates)[k]? = some (s.1.fr, s.1.to, r) := by
      simp only [sgFl, List.getElem?_map, (List.getElem?_zip_eq_some (z := (s, r))).2 ⟨hk, hk2⟩, Option.map_some]
    obtain ⟨hk3, e2⟩ := List.getElem?_eq_some_iff.1 e
    simp only [List.take_succ_eq_append_getElem hk3, e2, List.foldl_append, List.foldl_cons, List.foldl_nil]
  · have := sumP_ok ((sgFl segs rates).take k) _ _ zero24_ok (fun x hx => b1 x (List.mem_of_mem_take hx))
    exact up this (by rw [List.length_take]; omega)
  · simp only [List.take_zero, List.foldl_nil, sumP]
    rw [List.take_of_length_le (by omega)]
  · have e : (ptFl ports prates)[k]? = some (-1, s.2.1, r) := by
      simp only [ptFl, List.getElem?_map, (List.getElem?_zip_eq_some (z := (s, r))).2 ⟨hk, hk2⟩, Option.map_some]
    obtain ⟨hk3, e2⟩ := List.getElem?_eq_some_iff.1 e
    simp only [List.take_succ_eq_append_getElem hk3, e2, List.foldl_append, List.foldl_cons, List.foldl_nil]
  · have h0 := sumP_ok (sgFl segs rates) _ _ zero24_ok b1
    have := sumP_ok ((ptFl ports prates).take k) _ _ h0 (fun x hx => b2 x (List.mem_of_mem_take hx))
    exact up this (by rw [List.length_take]; omega)
  · simp only [sumP, List.foldl_append]
    rw [List.take_of_length_le (by omega)]
@[go_sem] def plnL (rates prates : List Int) (pumps : T) : List T := [.sl 1 (rates.map encI), .sl 1 (prates.map encI), pumps]
structure PlnOk (d : NetD) (rates prates : List Int) : Prop where
  l1 : rates.length = d.segs.length
  l2 : prates.length = d.ports.length
  b1 : ∀ r ∈ rates, -1000 ≤ r ∧ r ≤ 1000
  b2 : ∀ r ∈ prates, -1000 ≤ r ∧ r ≤ 1000
@[go_sem] def strT (s : List Int × List Int) : T := .agg [.agg (s.1.map encI), .agg (s.2.map encI)]
@[go_sem] def zeroT : T := .agg [.agg [.int 0, .int 0, .int 0, .int 0, .int 0, .int 0, .int 0, .int 0, .int 0, .int 0, .int 0, .int 0, .int 0, .int 0, .int 0, .int 0, .int 0, .int 0, .int 0, .int 0, .int 0, .int 0, .int 0, .int 0], .agg [.int 0, .int 0, .int 0, .int 0, .int 0, .int 0, .int 0, .int 0, .int 0, .int 0, .int 0, .int 0, .int 0, .int 0, .int 0, .int 0, .int 0, .int 0, .int 0, .int 0, .int 0, .int 0, .int 0, .int 0]]
theorem sums_fn (d : NetD) (h : NetOk d) (rates prates : List Int) (pumps : T) (hw : pumps.width = 1) (hp : PlnOk d rates prates) :
    FnOk Tryz.prog 96 [.t (.agg d.l), .t (.agg (plnL rates prates pumps))] [] (.t (strT (sumP (sgFl d.segs rates ++ ptFl d.ports prates)))) [] := by
  have h1 := h.n1
  have h3 := h.s1
  have h4 := h.p1
  have q1 := hp.l1
  have q2 := hp.l2
  obtain ⟨A, P, a0, aS, ao, p0, pS, po, pe⟩ := sums_ex d.segs d.ports rates prates q1 q2 h3 h4 hp.b1 hp.b2
  rw [← pe]
  have a0' : A 0 = ([0,0,0,0,0,0,0,0,0,0,0,0,0,0,0,0,0,0,0,0,0,0,0,0], [0,0,0,0,0,0,0,0,0,0,0,0,0,0,0,0,0,0,0,0,0,0,0,0]) := a0
  refine FnOk.intro fact_mixed Tryz.func96 rfl Tryz.ntmps96 (by rfl) (by simp) ?_
  repeat (first | (refine nf1_sound rfl ?_; simp [go_sem, ↓iO, iO, tN]) | refine anI ?_ | refine ⟨dcK, ?_⟩ | ((first | refine iP ?_ | refine iN ?_); try simp [go_sem, ↓iO, iO, tN]))
  refine nf1_sound' _ _ _ ?_; simp only [nf1]
  refine CW.loop (ι := Nat) (fun k => ⟨[(2, .pt 502 [] 0), (3, .pt 503 [] 0), (4, .pt 504 [] 0), (5, .pt 505 [] 0), (11, .t (.sl 7 (d.segs.map encSg))), (12, .t (.int d.segs.length)), (13, .t (.int k))], [(502, .box 33 (.t (.agg d.l))), (503, .box 45 (.t (.agg (plnL rates prates pumps)))), (504, .box 151 (.t zeroT)), (505, .box 151 (.t (strT (A k))))]⟩)
    (fun k => k ≤ d.segs.length) (fun k => d.segs.length - k) 0 [(502, some 102), (503, some 103), (504, some 104), (505, some 105)] (by omega) ?_ ?_
  · simp [go_sem, ↓iO, iO, tN, a0']
  intro k hk
  by_cases hb : k < d.segs.length
  · obtain ⟨s, hs⟩ := has_get hb
    obtain ⟨r, hr⟩ : ∃ r, rates[k]? = some r := has_get (by omega)
    have e1 := aS k s r hs hr
    have e2 := ao k
    have e3 := h.knS s (mem_get hs)
    have e4 := hp.b1 r (mem_get hr)
    obtain ⟨⟨nm, fr, to, cp, rs, wv⟩, pts⟩ := s
    dsimp only at e1 e3
    have c := add_fn (A k).1 (A k).2 fr to r e2.l1 e2.l2 (by omega) (by omega) e4 (fun x hx => by have := e2.b1 x hx; omega) (fun x hx => by have := e2.b2 x hx; omega)
    repeat (first | (refine nf1_sound rfl ?_; simp [go_sem, ↓iO, iO, tN, hs, hr]) | refine anI ?_ | refine ⟨dcK, ?_⟩ | ((first | refine iP ?_ | refine iN ?_); try simp [go_sem, ↓iO, iO, tN, hs, hr]))
    refine CallK.fn (c) [(0, 505)] [] [] (by kernel_rfl) ?_ ?_ ?_ (Or.inl rfl) ?_ <;> simp [go_sem, ↓iO, iO, tN, hs, hr]
    repeat (refine anI ?_)
    try (refine ⟨dcK, ?_⟩)
    repeat (first | (refine nf1_sound rfl ?_; simp [go_sem, ↓iO, iO, tN, hs, hr]) | refine anI ?_ | refine ⟨dcK, ?_⟩ | ((first | refine iP ?_ | refine iN ?_); try simp [go_sem, ↓iO, iO, tN, hs, hr]))
    rw [RoundQ_normal]; refine ⟨k + 1, [(502, some 502), (503, some 503), (504, some 504), (505, some 505)], ?_, ?_, ?_⟩
    · omega
    · omega
    simp [go_sem, ↓iO, iO, tN, e1, addP]
  · obtain rfl : k = d.segs.length := by omega
    repeat (first | (refine nf1_sound rfl ?_; simp [go_sem, ↓iO, iO, tN]) | refine anI ?_ | refine ⟨dcK, ?_⟩ | ((first | refine iP ?_ | refine iN ?_); try simp [go_sem, ↓iO, iO, tN]))
    refine nf1_sound' _ _ _ ?_; simp only [nf1]
    refine CW.loop (ι := Nat) (fun k => ⟨[(2, .pt 502 [] 0), (3, .pt 503 [] 0), (4, .pt 504 [] 0), (5, .pt 505 [] 0), (30, .t (.sl 3 (d.ports.map encPr))), (31, .t (.int d.ports.length)), (32, .t (.int k))], [(502, .box 33 (.t (.agg d.l))), (503, .box 45 (.t (.agg (plnL rates prates pumps)))), (504, .box 151 (.t zeroT)), (505, .box 151 (.t (strT (P k))))]⟩)
      (fun k => k ≤ d.ports.length) (fun k => d.ports.length - k) 0 [(502, some 502), (503, some 503), (504, some 504), (505, some 505)] (by omega) ?_ ?_
    · simp [go_sem, ↓iO, iO, tN, p0]
    intro k hk
    by_cases hb : k < d.ports.length
    · obtain ⟨s, hs⟩ := has_get hb
      obtain ⟨r, hr⟩ : ∃ r, prates[k]? = some r := has_get (by omega)
      have e1 := pS k s r hs hr
      have e2 := po k
      have e3 := h.knP s (mem_get hs)
      have e4 := hp.b2 r (mem_get hr)
      obtain ⟨nm, nd, pr⟩ := s
      dsimp only at e1 e3
      have c := add_fn (P k).1 (P k).2 (-1) nd r e2.l1 e2.l2 (by omega) (by omega) e4 (fun x hx => by have := e2.b1 x hx; omega) (fun x hx => by have := e2.b2 x hx; omega)
      repeat (first | (refine nf1_sound rfl ?_; simp [go_sem, ↓iO, iO, tN, hs, hr]) | refine anI ?_ | refine ⟨dcK, ?_⟩ | ((first | refine iP ?_ | refine iN ?_); try simp [go_sem, ↓iO, iO, tN, hs, hr]))
      refine CallK.fn (c) [(0, 505)] [] [] (by kernel_rfl) ?_ ?_ ?_ (Or.inl rfl) ?_ <;> simp [go_sem, ↓iO, iO, tN, hs, hr]
      repeat (refine anI ?_)
      try (refine ⟨dcK, ?_⟩)
      repeat (first | (refine nf1_sound rfl ?_; simp [go_sem, ↓iO, iO, tN, hs, hr]) | refine anI ?_ | refine ⟨dcK, ?_⟩ | ((first | refine iP ?_ | refine iN ?_); try simp [go_sem, ↓iO, iO, tN, hs, hr]))
      rw [RoundQ_normal]; refine ⟨k + 1, [(502, some 502), (503, some 503), (504, some 504), (505, some 505)], ?_, ?_, ?_⟩
      · omega
      · omega
      simp [go_sem, ↓iO, iO, tN, e1, addP]
    · obtain rfl : k = d.ports.length := by omega
      have o1 := (po d.ports.length).l1
      have o2 := (po d.ports.length).l2
      repeat (first | (refine nf1_sound rfl ?_; simp [go_sem, ↓iO, iO, tN, o1, o2]) | refine anI ?_ | refine ⟨dcK, ?_⟩ | ((first | refine iP ?_ | refine iN ?_); try simp [go_sem, ↓iO, iO, tN, o1, o2]))
      first | rw [RetQ_ret] | rw [RetQ_normal]
      refine ⟨[], ?_⟩
      simp [go_sem, ↓iO, iO, tN, o1, o2]
theorem ends2_fn (s : Sgm) (r : Int) : FnOk Tryz.prog 97 [.t (encSg s), .t (.int r)] [] (.tup [.t (.int (fFr s.1.fr s.1.to r)), .t (.int (fTo s.1.fr s.1.to r))]) [] := by
  obtain ⟨⟨nm, fr, to, cp, rs, wv⟩, pts⟩ := s
  refine FnOk.intro fact_mixed Tryz.func97 rfl Tryz.ntmps97 (by rfl) (by simp) ?_
  by_cases hr : r < 0
  · repeat (first | (refine nf1_sound rfl ?_; simp [go_sem, ↓iO, iO, tN, hr]) | refine anI ?_ | refine ⟨dcK, ?_⟩ | ((first | refine iP ?_ | refine iN ?_); try simp [go_sem, ↓iO, iO, tN, hr]))
    first | rw [RetQ_ret] | rw [RetQ_normal]
    refine ⟨[], ?_⟩
    simp [go_sem, ↓iO, iO, tN, fFr, fTo, hr]
  · repeat (first | (refine nf1_sound rfl ?_; simp [go_sem, ↓iO, iO, tN, hr]) | refine anI ?_ | refine ⟨dcK, ?_⟩ | ((first | refine iP ?_ | refine iN ?_); try simp [go_sem, ↓iO, iO, tN, hr]))
    first | rw [RetQ_ret] | rw [RetQ_normal]
    refine ⟨[], ?_⟩
    simp [go_sem, ↓iO, iO, tN, fFr, fTo, hr]
@[go_sem] def encBl (b : Bool) : T := .bool b
def blkB (out : List Nat) (k : Nat) (x : Int × Int × Int) : Bool := x.2.2 != 0 && fTo x.1 x.2.1 x.2.2 == (k : Int) && !(out.contains (fFr x.1 x.2.1 x.2.2).toNat)
def rdyB (F : flows) (out : List Nat) (k : Nat) : Bool := F.all fun x => !(blkB out k x)
def nextB (F : flows) (n : Nat) (out : List Nat) : Option Nat := (List.range n).find? fun k => !out.contains k && rdyB F out k
def ordV (F : flows) (n : Nat) : Nat → List Nat → List Nat
  | 0, out => out
  | f + 1, out => match nextB F n out with
    | none => out
    | some k => ordV F n f (out ++ [k])
def thV (n : Nat) (out : List Nat) : List Bool := (List.range n).map fun j => out.contains j
theorem thV_len (n out) : (thV n out).length = n := by simp [thV]
theorem thV_get (n : Nat) (out : List Nat) (j : Nat) (h : j < n) : (thV n out)[j]? = some (out.contains j) := by simp [thV, h]
theorem thV_nil (n : Nat) : thV n [] = List.replicate n false := by
  apply List.ext_getElem <;> simp [thV]
theorem thV_set (n : Nat) (out : List Nat) (k : Nat) (h : k < n) : (thV n out).set k true = thV n (out ++ [k]) := by
  apply List.ext_getElem
  · simp [thV]
  intro i h1 h2
  rw [List.getElem_set]
  simp only [thV, List.getElem_map, List.getElem_range]
  by_cases e : k = i
  · subst e; simp
  · simp only [if_neg e]
    have : i ≠ k := fun q => e q.symm
    simp [List.contains_eq_mem, this]
structure OrdI (F : flows) (n : Nat) (fin : List Nat) (p : List Nat × Nat) : Prop where
  k1 : p.2 ≤ n
  nd : p.1.Nodup
  lt : ∀ j ∈ p.1, j < n
  bf : ∀ j, j < p.2 → p.1.contains j = true ∨ rdyB F p.1 j = false
  fi : ordV F n (n - p.1.length) p.1 = fin
theorem nodup_len {n : Nat} {l : List Nat} (hn : l.Nodup) (hl : ∀ j ∈ l, j < n) : l.length ≤ n := by
  have := List.Nodup.length_le_of_subset hn (l₂ := List.range n) (fun j hj => List.mem_range.2 (hl j hj))
  simpa using this
theorem OrdI.len {F n fin p} (h : OrdI F n fin p) : p.1.length ≤ n := nodup_len h.nd h.lt
theorem OrdI.skip {F n fin p} (h : OrdI F n fin p) (hk : p.2 < n) (hb : p.1.contains p.2 = true ∨ rdyB F p.1 p.2 = false) : OrdI F n fin (p.1, p.2 + 1) :=
  ⟨by show p.2 + 1 ≤ n; omega, h.nd, h.lt, fun j hj => by
    by_cases e : j = p.2
    · subst e; exact hb
    · exact h.bf j (by have : j < p.2 + 1 := hj; omega), h.fi⟩
theorem OrdI.take {F n fin p} (h : OrdI F n fin p) (hk : p.2 < n) (hb : p.1.contains p.2 = false) (hr : rdyB F p.1 p.2 = true) : p.1.length < n ∧ OrdI F n fin (p.1 ++ [p.2], 0) := by
  have hnm : p.2 ∉ p.1 := by simpa [List.contains_eq_mem] using hb
  have nd' : (p.1 ++ [p.2]).Nodup := by
    rw [List.nodup_append]
    exact ⟨h.nd, by simp, fun a ha b hb e => by simp at hb; subst hb; subst e; exact hnm ha⟩
  have lt' : ∀ j ∈ p.1 ++ [p.2], j < n := fun j hj => by
    rcases List.mem_append.1 hj with hj | hj
    · exact h.lt j hj
    · simp at hj; omega
  have hl := nodup_len nd' lt'
  simp only [List.length_append, List.length_cons, List.length_nil] at hl
  refine ⟨by omega, Nat.zero_le _, nd', lt', fun j hj => absurd hj (by simp), ?_⟩
  rw [← h.fi]
  obtain ⟨f, hf⟩ : ∃ f, n - p.1.length = f + 1 := ⟨n - p.1.length - 1, by omega⟩
  have hN : nextB F n p.1 = some p.2 := by
    unfold nextB
    rw [List.find?_range_eq_some]
    refine ⟨by simp [hnm, hr], by simpa using hk, fun j hj => ?_⟩
    rcases h.bf j hj with e | e
    · have e : j ∈ p.1 := by simpa using e
      simp [e]
    · simp [e]
  rw [hf]
  show _ = (match nextB F n p.1 with | none => p.1 | some k => ordV F n f (p.1 ++ [k]))
  rw [hN]
  show ordV F n (n - (p.1 ++ [p.2]).length) (p.1 ++ [p.2]) = _
  have : n - (p.1 ++ [p.2]).length = f := by simp only [List.length_append, List.length_cons, List.length_nil]; omega
  rw [this]
theorem OrdI.done {F n fin p} (h : OrdI F n fin p) (hk : p.2 = n) : p.1 = fin := by
  rw [← h.fi]
  cases hf : n - p.1.length with
  | zero => rfl
  | succ f =>
    show _ = (match nextB F n p.1 with | none => p.1 | some k => ordV F n f (p.1 ++ [k]))
    have hN : nextB F n p.1 = none := by
      unfold nextB
      rw [List.find?_eq_none]
      intro j hj
      rcases h.bf j (by rw [hk]; exact List.mem_range.1 hj) with e | e
      · have e : j ∈ p.1 := by simpa using e
        simp [e]
      · simp [e]
    rw [hN]
theorem ends3 (d : NetD) (h : NetOk d) (s : Sgm) (hs : s ∈ d.segs) (r : Int) : 0 ≤ fFr s.1.fr s.1.to r ∧ fFr s.1.fr s.1.to r < d.nn.length := by
  have := h.knS s hs
  unfold fFr; split <;> omega
theorem rdy_of (F : flows) (out : List Nat) (k : Nat) (h : ∀ (i : Nat) x, F[i]? = some x → blkB out k x = false) : rdyB F out k = true := by
  rw [rdyB, List.all_eq_true]
  intro x hx
  obtain ⟨i, hi, rfl⟩ := List.getElem_of_mem hx
  simp [h i _ (List.getElem?_eq_getElem hi)]
theorem nrdy_of (F : flows) (out : List Nat) (k i : Nat) (x : Int × Int × Int) (hx : F[i]? = some x) (h : blkB out k x = true) : rdyB F out k = false := by
  rw [rdyB, List.all_eq_false]
  exact ⟨x, mem_get hx, by simp [h]⟩
theorem order_fn (d : NetD) (h : NetOk d) (rates prates : List Int) (pumps : T) (hw : pumps.width = 1) (hp : PlnOk d rates prates) :
    FnOk Tryz.prog 65 [.t (.agg d.l), .t (.agg (plnL rates prates pumps))] [] (.t (.sl 1 (((ordV (sgFl d.segs rates) d.nn.length d.nn.length []).map Int.ofNat).map encI))) [] := by
  have h0 := h.n0
  have h1 := h.n1
  have h3 := h.s1
  have q1 := hp.l1
  obtain ⟨n, hn⟩ : ∃ n, d.nn.length = n := ⟨_, rfl⟩
  obtain ⟨F, hF⟩ : ∃ F, sgFl d.segs rates = F := ⟨_, rfl⟩
  have hFg : ∀ (i : Nat) s r, d.segs[i]? = some s → rates[i]? = some r → F[i]? = some (s.1.fr, s.1.to, r) := fun i s r hs hr => by
    rw [← hF]
    simp only [sgFl, List.getElem?_map, (List.getElem?_zip_eq_some (z := (s, r))).2 ⟨hs, hr⟩, Option.map_some]
  have hFl : F.length = d.segs.length := by rw [← hF]; simp [sgFl, q1]
  rw [hF, hn]
  obtain ⟨fin, hfin⟩ : ∃ fin, ordV F n n [] = fin := ⟨_, rfl⟩
  rw [hfin]
  have t0 := thV_nil n
  have tl := thV_len n
  refine FnOk.intro fact_mixed Tryz.func65 rfl Tryz.ntmps65 (by rfl) (by simp) ?_
  repeat (first | (refine nf1_sound rfl ?_; simp [go_sem, ↓iO, iO, tN, hn]) | refine anI ?_ | refine ⟨dcK, ?_⟩ | ((first | refine iP ?_ | refine iN ?_); try simp [go_sem, ↓iO, iO, tN, hn]))
  refine nf1_sound' _ _ _ ?_; simp only [nf1]
  refine CW.loop (ι := List Nat × Nat) (fun p => ⟨[(2, .pt 502 [] 0), (3, .pt 503 [] 0), (5, .own 510), (6, .own 511), (7, .t (.int p.2))], [(502, .box 33 (.t (.agg d.l))), (503, .box 45 (.t (.agg (plnL rates prates pumps)))), (510, .list 3 1 ((p.1.map Int.ofNat).map encI)), (511, .list 4 1 ((thV n p.1).map encBl))]⟩)
    (fun p => OrdI F n fin p) (fun p => (n - p.1.length) * (n + 1) + (n - p.2)) ([], 0) [(502, some 102), (503, some 103), (510, none), (511, some 115)] ⟨Nat.zero_le _, List.nodup_nil, by simp, by simp, hfin⟩ ?_ ?_
  · simp [go_sem, ↓iO, iO, tN, t0]
  rintro ⟨o, k⟩ hI
  have hkn := hI.k1
  have hol := hI.len
  dsimp only at hkn hol ⊢
  by_cases hk : k < n
  · have hg := thV_get n o k hk
    by_cases hc : o.contains k = true
    · rw [hc] at hg
      repeat (first | (refine nf1_sound rfl ?_; simp [go_sem, ↓iO, iO, tN, hn, hg, tl]) | refine anI ?_ | refine ⟨dcK, ?_⟩ | ((first | refine iP ?_ | refine iN ?_); try simp [go_sem, ↓iO, iO, tN, hn, hg, tl]))
      rw [RoundQ_normal]; refine ⟨(o, k + 1), [(502, some 502), (503, some 503), (510, some 510), (511, some 511)], ?_, ?_, ?_⟩
      · exact hI.skip hk (Or.inl hc)
      · show (n - o.length) * (n + 1) + (n - (k + 1)) < (n - o.length) * (n + 1) + (n - k)
        omega
      simp [go_sem, ↓iO, iO, tN]
    · have hc : o.contains k = false := by simpa using hc
      rw [hc] at hg
      repeat (first | (refine nf1_sound rfl ?_; simp [go_sem, ↓iO, iO, tN, hn, hg, tl]) | refine anI ?_ | refine ⟨dcK, ?_⟩ | ((first | refine iP ?_ | refine iN ?_); try simp [go_sem, ↓iO, iO, tN, hn, hg, tl]))
      refine nf1_sound' _ _ _ ?_; simp only [nf1]
      refine CW.loop (ι := Nat) (fun i => ⟨[(2, .pt 502 [] 0), (3, .pt 503 [] 0), (5, .own 510), (6, .own 511), (7, .t (.int k)), (28, .t (.sl 7 (d.segs.map encSg))), (29, .t (.int d.segs.length)), (30, .t (.int i))], [(502, .box 33 (.t (.agg d.l))), (503, .box 45 (.t (.agg (plnL rates prates pumps)))), (510, .list 3 1 ((o.map Int.ofNat).map encI)), (511, .list 4 1 ((thV n o).map encBl))]⟩)
        (fun i => i ≤ d.segs.length ∧ ∀ (j : Nat) x, j < i → F[j]? = some x → blkB o k x = false) (fun i => d.segs.length - i) 0 [(502, some 502), (503, some 503), (510, some 510), (511, some 511)] ⟨by omega, by omega⟩ ?_ ?_
      · simp [go_sem, ↓iO, iO, tN]
      rintro i ⟨hi, hbf⟩
      by_cases hb : i < d.segs.length
      · obtain ⟨s, hs⟩ := has_get hb
        obtain ⟨r, hr⟩ : ∃ r, rates[i]? = some r := has_get (by omega)
        have e1 := hFg i s r hs hr
        have e2 := ends3 d h s (mem_get hs) r
        have c := ends2_fn s r
        obtain ⟨fi, hfi⟩ : ∃ f, fFr s.1.fr s.1.to r = f := ⟨_, rfl⟩
        obtain ⟨ti, hti⟩ : ∃ f, fTo s.1.fr s.1.to r = f := ⟨_, rfl⟩
        rw [hfi, hti] at c
        rw [hfi] at e2
        have hB : blkB o k (s.1.fr, s.1.to, r) = (r != 0 && ti == (k : Int) && !(o.contains fi.toNat)) := by simp only [blkB, hfi, hti]
        obtain ⟨m, hm⟩ : ∃ m, o.contains fi.toNat = m := ⟨_, rfl⟩
        have hgf := thV_get n o fi.toNat (by omega)
        rw [hm] at hgf hB
        have go : blkB o k (s.1.fr, s.1.to, r) = false → ∀ (j : Nat) x, j < i + 1 → F[j]? = some x → blkB o k x = false := fun hz j x hj hx => by
          by_cases e : j = i
          · subst e; rw [e1] at hx; cases hx; exact hz
          · exact hbf j x (by omega) hx
        repeat (first | (refine nf1_sound rfl ?_; simp [go_sem, ↓iO, iO, tN, hn, hs, hr]) | refine anI ?_ | refine ⟨dcK, ?_⟩ | ((first | refine iP ?_ | refine iN ?_); try simp [go_sem, ↓iO, iO, tN, hn, hs, hr]))
        refine CallK.fn (c) [] [] [] (by kernel_rfl) ?_ ?_ ?_ (Or.inl rfl) ?_ <;> simp [go_sem, ↓iO, iO, tN, hn, hs, hr]
        repeat (refine anI ?_)
        try (refine ⟨dcK, ?_⟩)
        obtain ⟨⟨nm, fr, to, cp, rs, wv⟩, pts⟩ := s
        by_cases hr0 : r = 0
        · have hz : blkB o k (fr, to, r) = false := by rw [hB]; simp [hr0]
          repeat (first | (refine nf1_sound rfl ?_; simp [go_sem, ↓iO, iO, tN, hn, hs, hr, hr0]) | refine anI ?_ | refine ⟨dcK, ?_⟩ | ((first | refine iP ?_ | refine iN ?_); try simp [go_sem, ↓iO, iO, tN, hn, hs, hr, hr0]))
          rw [RoundQ_normal]; refine ⟨i + 1, [(502, some 502), (503, some 503), (510, some 510), (511, some 511)], ?_, ?_, ?_⟩
          · exact ⟨by omega, fun j a b c => go hz j (a, b, c)⟩
          · omega
          simp [go_sem, ↓iO, iO, tN]
        · by_cases ht : ti = k
          · cases m with
            | true =>
              have hz : blkB o k (fr, to, r) = false := by rw [hB]; simp
              repeat (first | (refine nf1_sound rfl ?_; simp [go_sem, ↓iO, iO, tN, hn, hs, hr, hr0, ht, hgf, tl]) | refine anI ?_ | refine ⟨dcK, ?_⟩ | ((first | refine iP ?_ | refine iN ?_); try simp [go_sem, ↓iO, iO, tN, hn, hs, hr, hr0, ht, hgf, tl]))
              rw [RoundQ_normal]; refine ⟨i + 1, [(502, some 502), (503, some 503), (510, some 510), (511, some 511)], ?_, ?_, ?_⟩
              · exact ⟨by omega, fun j a b c => go hz j (a, b, c)⟩
              · omega
              simp [go_sem, ↓iO, iO, tN]
            | false =>
              have hz : blkB o k (fr, to, r) = true := by rw [hB]; simp [hr0, ht]
              repeat (first | (refine nf1_sound rfl ?_; simp [go_sem, ↓iO, iO, tN, hn, hs, hr, hr0, ht, hgf, tl]) | refine anI ?_ | refine ⟨dcK, ?_⟩ | ((first | refine iP ?_ | refine iN ?_); try simp [go_sem, ↓iO, iO, tN, hn, hs, hr, hr0, ht, hgf, tl]))
              rw [RoundQ_normal]; refine ⟨(o, k + 1), [(502, some 502), (503, some 503), (510, some 510), (511, some 511)], ?_, ?_, ?_⟩
              · exact hI.skip hk (Or.inr (nrdy_of F o k i _ e1 hz))
              · show (n - o.length) * (n + 1) + (n - (k + 1)) < (n - o.length) * (n + 1) + (n - k)
                omega
              simp [go_sem, ↓iO, iO, tN]
          · have hz : blkB o k (fr, to, r) = false := by rw [hB]; simp [ht]
            repeat (first | (refine nf1_sound rfl ?_; simp [go_sem, ↓iO, iO, tN, hn, hs, hr, hr0, ht]) | refine anI ?_ | refine ⟨dcK, ?_⟩ | ((first | refine iP ?_ | refine iN ?_); try simp [go_sem, ↓iO, iO, tN, hn, hs, hr, hr0, ht]))
            rw [RoundQ_normal]; refine ⟨i + 1, [(502, some 502), (503, some 503), (510, some 510), (511, some 511)], ?_, ?_, ?_⟩
            · exact ⟨by omega, fun j a b c => go hz j (a, b, c)⟩
            · omega
            simp [go_sem, ↓iO, iO, tN]
      · obtain rfl : i = d.segs.length := by omega
        have hrd : rdyB F o k = true := rdy_of F o k fun i x hx => hbf i x (by have := (List.getElem?_eq_some_iff.1 hx).1; omega) hx
        obtain ⟨z1, z2⟩ := hI.take hk hc hrd
        dsimp only at z1
        have e5 := thV_set n o k hk
        repeat (first | (refine nf1_sound rfl ?_; simp [go_sem, ↓iO, iO, tN, hn, hg, tl]) | refine anI ?_ | refine ⟨dcK, ?_⟩ | ((first | refine iP ?_ | refine iN ?_); try simp [go_sem, ↓iO, iO, tN, hn, hg, tl]))
        rw [RoundQ_normal]; refine ⟨(o ++ [k], 0), [(502, some 502), (503, some 503), (510, some 170), (511, some 511)], ?_, ?_, ?_⟩
        · exact z2
        · show (n - (o ++ [k]).length) * (n + 1) + (n - 0) < (n - o.length) * (n + 1) + (n - k)
          simp only [List.length_append, List.length_cons, List.length_nil]
          obtain ⟨q, hq⟩ : ∃ q, n - o.length = q + 1 := ⟨n - o.length - 1, by omega⟩
          have : n - (o.length + (0 + 1)) = q := by omega
          rw [this, hq, Nat.add_mul]; omega
        simp [go_sem, ↓iO, iO, tN]
        rw [← e5, List.map_set]
        rfl
  · obtain rfl : k = n := by omega
    have := hI.done rfl
    dsimp only at this
    subst this
    repeat (first | (refine nf1_sound rfl ?_; simp [go_sem, ↓iO, iO, tN, hn]) | refine anI ?_ | refine ⟨dcK, ?_⟩ | ((first | refine iP ?_ | refine iN ?_); try simp [go_sem, ↓iO, iO, tN, hn]))
    first | rw [RetQ_ret] | rw [RetQ_normal]
    refine ⟨[], ?_⟩
    simp [go_sem, ↓iO, iO, tN]
end Go.Proofs.YtdjmklobfjigoaaGreatDoor
