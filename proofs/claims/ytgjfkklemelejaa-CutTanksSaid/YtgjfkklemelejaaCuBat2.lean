/- keep.Batches as a contract. No condition. keep.Batches as a contract. No condition. -/
import Derived.Test.YtgjfkklemelejaaCuRecv
namespace Go.Proofs.Ytgjfkklemelejaa
open Go.RowKit Sy
set_option linter.unusedVariables false
set_option linter.unusedSimpArgs false
abbrev Bt := Int × ByteArray
@[go_sem] def encBt (x : Bt) : T := .agg [.int x.1, .lit (.string x.2), .int 0, .int 1]
@[go_sem] def encBts (l : List Bt) : T := .sl 4 (l.map encBt)
@[go_sem] def blkBt (l : List Bt) : Blk := .list 50 4 (l.map encBt)
@[go_sem] theorem flat_encBt : ∀ l : List Bt, flatTs (l.map encBt)
  | [] => trivial
  | x :: r => ⟨⟨trivial, trivial, trivial, trivial, trivial⟩, flat_encBt r⟩
set_option maxRecDepth 100000 in
theorem name_fn (f : ByteArray) (hf : f.size ≤ 100) (n : Int) (h0 : 0 ≤ n) (h1 : n ≤ 1000) : FnOk Try.prog 44 [.t (.lit (.string f)), .t (.int n)] [] (.t (.lit (.string (f ++ str [(97 + n % 26).toNat])))) [] := by
  obtain ⟨q, hq⟩ : ∃ q, n % 26 = q := ⟨_, rfl⟩
  have hqr : 0 ≤ q ∧ q < 26 := by omega
  rw [hq]
  have hs : (str [(97 + q).toNat]).size = 1 := str_size _
  refine FnOk.intro fact_mixed Try.func44 rfl Try.ntmps44 (by rfl) (by simp) ?_
  repeat (first | (refine nf1_sound rfl ?_; simp [go_sem, ↓IntWalk.iteOmega, IntWalk.iteOmega, IntWalk.toNatUp, hq, hs]; (repeat (refine And.intro (by omega) ?_)); try (refine ⟨DrawChk_of (by kernel_rfl), ?_⟩)) | (refine itePos (by omega) ?_; try simp [go_sem, ↓IntWalk.iteOmega, IntWalk.iteOmega, IntWalk.toNatUp, hq, hs]) | (refine iteNeg (by omega) ?_; try simp [go_sem, ↓IntWalk.iteOmega, IntWalk.iteOmega, IntWalk.toNatUp, hq, hs]) | (refine ⟨DrawChk_of (by kernel_rfl), ?_⟩))
  first | rw [RetQ_ret] | rw [RetQ_normal]
  refine ⟨[], ?_⟩
  simp [go_sem, ↓IntWalk.iteOmega, IntWalk.iteOmega, IntWalk.toNatUp]
end Go.Proofs.Ytgjfkklemelejaa
namespace Go.Proofs.Ytgjfkklemelejaa
open Go.RowKit Sy
set_option linter.unusedVariables false
set_option linter.unusedSimpArgs false
def byF : ByteArray := { data := #[102] }
def batN (n : Int) : ByteArray := byF ++ str [(97 + n % 26).toNat]
def bats (l : List Int) (k : Nat) (j : Nat) : List Bt := (List.range j).map fun i => (nV l (kk l k (2 * i)) 3, batN (nV l (kk l k (2 * i + 1)) 3))
theorem bats_succ (l : List Int) (k j : Nat) : bats l k (j + 1) = bats l k j ++ [(nV l (kk l k (2 * j)) 3, batN (nV l (kk l k (2 * j + 1)) 3))] := by
  unfold bats; rw [List.range_succ, List.map_append]; rfl
theorem bats_len (l : List Int) (k j : Nat) : (bats l k j).length = j := by simp [bats]
theorem bats_mem {l : List Int} {k j : Nat} : ∀ y ∈ bats l k j, 0 ≤ y.1 ∧ y.1 < 3 := by
  intro y hy
  obtain ⟨i, _, rfl⟩ := List.mem_map.1 hy
  exact nV_range (l := l) (k := kk l k (2 * i)) (n := 3) (by omega)
set_option maxRecDepth 100000 in
set_option maxHeartbeats 4000000 in
theorem bats_ex {l : List Int} {k : Nat} (h : SrcOk l k) : ∃ (bs : List Bt) (k' : Nat), SrcOk l k' ∧ bs.length = 5 ∧ (∀ y ∈ bs, 0 ≤ y.1 ∧ y.1 < 3) ∧
    FnOk Try.prog 18 [.pt 0 [] 0, .t (.int 5), .t (.int 3)] [(0, srcB l k)] (.own 1000) [(0, srcB l k'), (1000, blkBt bs)] := by
  refine ⟨bats l k 5, kk l k (2 * 5), kk_ok h _, bats_len _ _ _, bats_mem, ?_⟩
  have hbs := fun j => bats_succ l k j
  have hbl := fun j => bats_len l k j
  have hb0 : bats l k 0 = [] := rfl
  have hn1 := fun j => n_fn l (kk l k (2 * j)) 3 (kk_ok h _) (by omega)
  have hn2 := fun j => n_fn l (kk l k (2 * j + 1)) 3 (kk_ok h _) (by omega)
  have hr2 := fun j => nV_range (l := l) (k := kk l k (2 * j + 1)) (n := 3) (by omega)
  have hnm := fun j => name_fn byF (by decide) (nV l (kk l k (2 * j + 1)) 3) (hr2 j).1 (by have := hr2 j; omega)
  have hk1 : ∀ j, nextK l (kk l k (2 * j)) = kk l k (2 * j + 1) := fun _ => rfl
  have hk2 : ∀ j, nextK l (kk l k (2 * j + 1)) = kk l k (2 * (j + 1)) := fun _ => rfl
  have hk0 : kk l k (2 * 0) = k := rfl
  have hk5 : ∀ j, j = 5 → kk l k (2 * 5) = kk l k (2 * j) := by rintro j rfl; rfl
  simp only [hk1] at hn1
  simp only [hk2] at hn2
  obtain ⟨K, hK⟩ : ∃ K : Nat → Nat, ∀ j, kk l k (2 * j) = K j := ⟨_, fun _ => rfl⟩
  obtain ⟨K2, hK2⟩ : ∃ K : Nat → Nat, ∀ j, kk l k (2 * j + 1) = K j := ⟨_, fun _ => rfl⟩
  obtain ⟨P, hP⟩ : ∃ K : Nat → List Bt, ∀ j, bats l k j = K j := ⟨_, fun _ => rfl⟩
  simp only [hK, hK2] at hn1 hn2 hbs hr2 hk0 hnm
  simp only [hP] at hbs hbl hb0
  rw [hK, hP]
  obtain ⟨U, hU⟩ : ∃ U : Nat → Int, ∀ j, nV l (K j) 3 = U j := ⟨_, fun _ => rfl⟩
  obtain ⟨V, hV⟩ : ∃ U : Nat → Int, ∀ j, nV l (K2 j) 3 = U j := ⟨_, fun _ => rfl⟩
  simp only [hU] at hn1 hbs
  simp only [hV] at hn2 hbs hr2 hnm
  have hbn : ∀ n : Int, byF ++ str [(97 + n % 26).toNat] = batN n := fun _ => rfl
  simp only [hbn] at hnm
  clear hk1 hk2 hk5 hK hK2 hP hU hV hbn
  refine FnOk.intro fact_mixed Try.func18 rfl Try.ntmps18 (by rfl) (by simp) ?_
  repeat (first | (refine nf1_sound rfl ?_; simp [go_sem, ↓IntWalk.iteOmega, IntWalk.iteOmega, IntWalk.toNatUp]; (repeat (refine And.intro (by omega) ?_)); try (refine ⟨DrawChk_of (by kernel_rfl), ?_⟩)) | (refine itePos (by omega) ?_; try simp [go_sem, ↓IntWalk.iteOmega, IntWalk.iteOmega, IntWalk.toNatUp]) | (refine iteNeg (by omega) ?_; try simp [go_sem, ↓IntWalk.iteOmega, IntWalk.iteOmega, IntWalk.toNatUp]) | (refine ⟨DrawChk_of (by kernel_rfl), ?_⟩))
  refine nf1_sound' _ _ _ ?_; simp only [nf1]
  refine CW.loop (ι := Nat) (fun j => ⟨[(0, .pt 0 [] 0), (1, .t (.int 5)), (2, .t (.int 3)), (7, .own 507), (8, .t (.int j))], [(0, srcB l (K j)), (507, blkBt (P j))]⟩) (fun j => j ≤ 5) (fun j => 6 - j) 0 [(0, some 0), (507, none)] (by omega) ?_ ?_
  · simp [go_sem, ↓IntWalk.iteOmega, IntWalk.iteOmega, IntWalk.toNatUp, hk0, hb0]
  intro j hj
  have hl := hbl j
  by_cases hb : j < 5
  · have c1 := hn1 j
    have c2 := hn2 j
    have c3 := hnm j
    have e := hbs j
    have r2 := hr2 j
    repeat (first | (refine nf1_sound rfl ?_; simp [go_sem, ↓IntWalk.iteOmega, IntWalk.iteOmega, IntWalk.toNatUp]; (repeat (refine And.intro (by omega) ?_)); try (refine ⟨DrawChk_of (by kernel_rfl), ?_⟩)) | (refine itePos (by omega) ?_; try simp [go_sem, ↓IntWalk.iteOmega, IntWalk.iteOmega, IntWalk.toNatUp]) | (refine iteNeg (by omega) ?_; try simp [go_sem, ↓IntWalk.iteOmega, IntWalk.iteOmega, IntWalk.toNatUp]) | (refine ⟨DrawChk_of (by kernel_rfl), ?_⟩))
    refine CallK.fn (c1) [(0, 0)] [] [] (by kernel_rfl) (by simp [go_sem, ↓IntWalk.iteOmega, IntWalk.iteOmega, IntWalk.toNatUp]) (by simp [go_sem, ↓IntWalk.iteOmega, IntWalk.iteOmega, IntWalk.toNatUp]) (by simp [go_sem, ↓IntWalk.iteOmega, IntWalk.iteOmega, IntWalk.toNatUp]) (Or.inl rfl) ?_
    simp [go_sem, ↓IntWalk.iteOmega, IntWalk.iteOmega, IntWalk.toNatUp]
    repeat (refine And.intro (by omega) ?_)
    try (refine ⟨DrawChk_of (by kernel_rfl), ?_⟩)
    repeat (first | (refine nf1_sound rfl ?_; simp [go_sem, ↓IntWalk.iteOmega, IntWalk.iteOmega, IntWalk.toNatUp]; (repeat (refine And.intro (by omega) ?_)); try (refine ⟨DrawChk_of (by kernel_rfl), ?_⟩)) | (refine itePos (by omega) ?_; try simp [go_sem, ↓IntWalk.iteOmega, IntWalk.iteOmega, IntWalk.toNatUp]) | (refine iteNeg (by omega) ?_; try simp [go_sem, ↓IntWalk.iteOmega, IntWalk.iteOmega, IntWalk.toNatUp]) | (refine ⟨DrawChk_of (by kernel_rfl), ?_⟩))
    refine CallK.fn (c2) [(0, 0)] [] [] (by kernel_rfl) (by simp [go_sem, ↓IntWalk.iteOmega, IntWalk.iteOmega, IntWalk.toNatUp]) (by simp [go_sem, ↓IntWalk.iteOmega, IntWalk.iteOmega, IntWalk.toNatUp]) (by simp [go_sem, ↓IntWalk.iteOmega, IntWalk.iteOmega, IntWalk.toNatUp]) (Or.inl rfl) ?_
    simp [go_sem, ↓IntWalk.iteOmega, IntWalk.iteOmega, IntWalk.toNatUp]
    repeat (refine And.intro (by omega) ?_)
    try (refine ⟨DrawChk_of (by kernel_rfl), ?_⟩)
    repeat (first | (refine nf1_sound rfl ?_; simp [go_sem, ↓IntWalk.iteOmega, IntWalk.iteOmega, IntWalk.toNatUp]; (repeat (refine And.intro (by omega) ?_)); try (refine ⟨DrawChk_of (by kernel_rfl), ?_⟩)) | (refine itePos (by omega) ?_; try simp [go_sem, ↓IntWalk.iteOmega, IntWalk.iteOmega, IntWalk.toNatUp]) | (refine iteNeg (by omega) ?_; try simp [go_sem, ↓IntWalk.iteOmega, IntWalk.iteOmega, IntWalk.toNatUp]) | (refine ⟨DrawChk_of (by kernel_rfl), ?_⟩))
    refine CallK.fn (c3) [] [] [] (by kernel_rfl) (by simp [go_sem, ↓IntWalk.iteOmega, IntWalk.iteOmega, IntWalk.toNatUp, byF]) (by simp [go_sem, ↓IntWalk.iteOmega, IntWalk.iteOmega, IntWalk.toNatUp, byF]) (by simp [go_sem, ↓IntWalk.iteOmega, IntWalk.iteOmega, IntWalk.toNatUp, byF]) (Or.inl rfl) ?_
    simp [go_sem, ↓IntWalk.iteOmega, IntWalk.iteOmega, IntWalk.toNatUp, byF]
    repeat (refine And.intro (by omega) ?_)
    try (refine ⟨DrawChk_of (by kernel_rfl), ?_⟩)
    repeat (first | (refine nf1_sound rfl ?_; simp [go_sem, ↓IntWalk.iteOmega, IntWalk.iteOmega, IntWalk.toNatUp]; (repeat (refine And.intro (by omega) ?_)); try (refine ⟨DrawChk_of (by kernel_rfl), ?_⟩)) | (refine itePos (by omega) ?_; try simp [go_sem, ↓IntWalk.iteOmega, IntWalk.iteOmega, IntWalk.toNatUp]) | (refine iteNeg (by omega) ?_; try simp [go_sem, ↓IntWalk.iteOmega, IntWalk.iteOmega, IntWalk.toNatUp]) | (refine ⟨DrawChk_of (by kernel_rfl), ?_⟩))
    rw [RoundQ_normal]; refine ⟨j + 1, [(0, some 0), (507, some 123)], ?_, ?_, ?_⟩
    · omega
    · omega
    simp [go_sem, ↓IntWalk.iteOmega, IntWalk.iteOmega, IntWalk.toNatUp, e]
  · obtain rfl : j = 5 := by omega
    repeat (first | (refine nf1_sound rfl ?_; simp [go_sem, ↓IntWalk.iteOmega, IntWalk.iteOmega, IntWalk.toNatUp]; (repeat (refine And.intro (by omega) ?_)); try (refine ⟨DrawChk_of (by kernel_rfl), ?_⟩)) | (refine itePos (by omega) ?_; try simp [go_sem, ↓IntWalk.iteOmega, IntWalk.iteOmega, IntWalk.toNatUp]) | (refine iteNeg (by omega) ?_; try simp [go_sem, ↓IntWalk.iteOmega, IntWalk.iteOmega, IntWalk.toNatUp]) | (refine ⟨DrawChk_of (by kernel_rfl), ?_⟩))
    first | rw [RetQ_ret] | rw [RetQ_normal]
    refine ⟨[(0, some 0), (1000, some 507)], ?_⟩
    simp [go_sem, ↓IntWalk.iteOmega, IntWalk.iteOmega, IntWalk.toNatUp]
end Go.Proofs.Ytgjfkklemelejaa
