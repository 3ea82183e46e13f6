/- What a statement's arguments are: from the reading of a value at a type to a tree of that type's shape. No condition. -/
import Derived.Test.YtopmmodcaoaaeaaSyR
import Derived.Deep.Slices
import Derived.WideShapes
import Derived.Carry
import Derived.ChangeOld
namespace Go.Proofs.Ytopmmodcaoaaeaa.Sy
open Go.RowKit Go.WideShapes Go.ChangeShapes
set_option linter.unusedVariables false
set_option linter.unusedSimpArgs false
inductive Sh where
  | int (k : IntKind)
  | bool
  | str
  | sl (e : Sh)
  | st (fs : List Sh)
mutual
def Sh.width : Sh → Nat
  | .st fs => Sh.widths fs
  | _ => 1
def Sh.widths : List Sh → Nat
  | [] => 0
  | x :: r => x.width + Sh.widths r
end
mutual
/-- A tree of a shape. -/
def InSh : Sh → T → Prop
  | .int k, .lit (.int k' n) => k' = k ∧ (Lit.int k n).wf = true
  | .bool, .lit (.bool _) => True
  | .str, .lit (.string s) => s.size ≤ maxLen
  | .sl e, .sl s xs => s = e.width ∧ xs.length ≤ maxLen ∧ ∀ x ∈ xs, InSh e x
  | .st es, .agg xs => InShs es xs
  | _, _ => False
def InShs : List Sh → List T → Prop
  | [], [] => True
  | e :: es, x :: xs => InSh e x ∧ InShs es xs
  | _, _ => False
end
theorem insh_list {α : Type} {e : Sh} {en : α → T} {Q : α → Prop} (h : ∀ x, InSh e x → ∃ p, x = en p ∧ Q p) : ∀ (xs : List T), (∀ x ∈ xs, InSh e x) → ∃ l : List α, xs = l.map en ∧ ∀ p ∈ l, Q p
  | [], _ => ⟨[], rfl, by simp⟩
  | x :: r, hx => by
    obtain ⟨p, rfl, hq⟩ := h x (hx x (List.mem_cons_self))
    obtain ⟨l, rfl, hl⟩ := insh_list h r fun y hy => hx y (List.mem_cons_of_mem _ hy)
    exact ⟨p :: l, rfl, fun y hy => by
      rcases List.mem_cons.1 hy with rfl | hy
      · exact hq
      · exact hl y hy⟩
theorem insh_int {k : IntKind} {x : T} (h : InSh (.int k) x) : ∃ n, x = .lit (.int k n) ∧ (Lit.int k n).wf = true := by
  unfold InSh at h
  split at h <;> simp_all
theorem insh_bool {x : T} (h : InSh .bool x) : ∃ b, x = .lit (.bool b) := by
  unfold InSh at h
  split at h <;> simp_all
theorem insh_str {x : T} (h : InSh .str x) : ∃ s, x = .lit (.string s) ∧ s.size ≤ maxLen := by
  unfold InSh at h
  split at h <;> simp_all
theorem insh_sl {e : Sh} {x : T} (h : InSh (.sl e) x) : ∃ xs, x = .sl e.width xs ∧ xs.length ≤ maxLen ∧ ∀ y ∈ xs, InSh e y := by
  cases x <;> simp [InSh] at h
  rename_i s xs
  obtain ⟨rfl, h1, h2⟩ := h
  exact ⟨xs, rfl, h1, h2⟩
theorem insh_st {es : List Sh} {x : T} (h : InSh (.st es) x) : ∃ xs, x = .agg xs ∧ InShs es xs := by
  cases x <;> simp [InSh] at h
  exact ⟨_, rfl, h⟩
theorem inshs_cons {e : Sh} {es : List Sh} {xs : List T} (h : InShs (e :: es) xs) : ∃ y ys, xs = y :: ys ∧ InSh e y ∧ InShs es ys := by
  cases xs <;> simp [InShs] at h
  exact ⟨_, _, rfl, h.1, h.2⟩
theorem inshs_nil {xs : List T} (h : InShs [] xs) : xs = [] := by
  cases xs <;> simp [InShs] at h
  rfl
/-- Bytes of an element, at least. -/
def elB : Sh → Nat
  | .int .i64 => 8
  | _ => 1
mutual
/-- The type has this shape. -/
def shOk (P : Program) : Sh → TypeId → Bool
  | .int k, t => decide (intB P t = some k)
  | .bool, t => boolB P t
  | .str, t => strB P t
  | .sl e, t => match P.underlying t with
    | some (.slice u) => shOk P e u && decide (P.cellsOf u = e.width) && decide (0 < e.width) && decide (elB e ≤ P.bytesOf u)
    | _ => false
  | .st es, t => match P.underlying t with
    | some (.struct fs) => shOks P es fs.toList 0 && decide (P.cellsOf t = Sh.widths es)
    | _ => false
def shOks (P : Program) : List Sh → List Field → Nat → Bool
  | [], [], _ => true
  | e :: es, f :: fs, o => decide (f.offset = o) && decide (P.cellsOf f.type = e.width) && shOk P e f.type && shOks P es fs (o + e.width)
  | _, _, _ => false
end
mutual
/-- The lists that an argument is made of are not longer than memory allows. -/
def SzT : T → Prop
  | .lit _ => True
  | .sl _ xs => xs.length ≤ reachBytes
  | .agg xs => SzTs xs
def SzTs : List T → Prop
  | [] => True
  | x :: r => SzT x ∧ SzTs r
end
def listB : List T → Nat
  | .lit (.int .i64 _) :: _ => 8
  | _ => 1
mutual
/-- .. nor those within them. -/
def SzD : T → Prop
  | .lit _ => True
  | .sl _ xs => xs.length * listB xs ≤ reachBytes ∧ SzDs xs
  | .agg xs => SzDs xs
def SzDs : List T → Prop
  | [] => True
  | x :: r => SzD x ∧ SzDs r
end
theorem SzDs.of : ∀ {xs : List T}, (∀ x ∈ xs, SzD x) → SzDs xs
  | [], _ => by unfold SzDs; trivial
  | x :: r, h => by unfold SzDs; exact ⟨h x (List.mem_cons_self ..), SzDs.of fun y hy => h y (List.mem_cons_of_mem _ hy)⟩
theorem SzDs.mem : ∀ {xs : List T}, SzDs xs → ∀ x ∈ xs, SzD x
  | [], _, x, hx => by cases hx
  | y :: r, h, x, hx => by
    unfold SzDs at h
    rcases List.mem_cons.1 hx with rfl | hx
    · exact h.1
    · exact SzDs.mem h.2 x hx
theorem elB_pos (e : Sh) : 1 ≤ elB e := by unfold elB; split <;> omega
theorem listB_le {e : Sh} : ∀ {xs : List T}, (∀ x ∈ xs, InSh e x) → listB xs ≤ elB e
  | [], _ => by unfold listB; exact elB_pos e
  | x :: r, h => by
    have hx := h x (List.mem_cons_self ..)
    unfold listB
    split
    · rename_i heq
      cases heq
      cases e <;> simp [InSh] at hx
      obtain ⟨rfl, _⟩ := hx
      simp [elB]
    · exact elB_pos e
theorem weightsAll_all {H : Type} {P : Program} {e : TypeId} {p : Nat → Bool} : ∀ {l : List (DataW H)}, (DataW.weightsAll P e l).all p = true → ∀ d ∈ l, (d.weights P e).all p = true
  | [], _, d, hd => by cases hd
  | x :: r, h, d, hd => by
    unfold DataW.weightsAll at h
    rw [List.all_append, Bool.and_eq_true] at h
    rcases List.mem_cons.1 hd with rfl | hd
    · exact h.1
    · exact weightsAll_all h.2 d hd
section
variable {H : Type} {enc : TypeId × Value → H} {P : Program} {w : World} {base : Nat} {spare : Nat → Bool} {held : Bool}
def OpenAt (w : World) (Z : Prop) (sh : Sh) (cs : List Value) : Prop := ∃ x v, InSh sh x ∧ cs = v.cells.toList ∧ (∀ ws, sh = .st ws → v = .agg cs.toArray) ∧ Rep (fun b => b < w.heap.size) w x v ∧ (Z → SzT x ∧ SzD x)
theorem str_und {t : TypeId} (h : strB P t = true) : P.underlying t = some .string := by
  unfold strB at h; split at h <;> simp_all
theorem bool_und {t : TypeId} (h : boolB P t = true) : P.underlying t = some .bool := by
  unfold boolB at h; split at h <;> simp_all
theorem rows_of {Z : Nat → Prop} {s c off b : Nat} {e : Sh} (hs : 0 < s) (he : e.width = s) : ∀ (len : Nat), (∀ i, i < len → ∃ cs', (cs'.length = s ∧ ∀ j, j < s → w.cell? ⟨b, off + (i * s + j), none⟩ = cs'[j]?) ∧ OpenAt w (Z i) e cs') →
    ∃ xs cells, xs.length = len ∧ Reps (fun b => b < w.heap.size) w xs cells ∧ cells.length = len * s ∧ (∀ j u, cells[j]? = some u → w.cell? ⟨b, off + j, none⟩ = some u) ∧ (∀ x ∈ xs, InSh e x ∧ x.width = s) ∧ ((∀ i, i < len → Z i) → ∀ x ∈ xs, SzD x)
  | 0, _ => ⟨[], [], rfl, by unfold Reps; rfl, by simp, by simp, by simp, by simp⟩
  | len + 1, h => by
    obtain ⟨xs, cells, h1, h2, h3, h4, h5, hz⟩ := rows_of (c := c) hs he len fun i hi => h i (by omega)
    obtain ⟨cs', ⟨h6, h7⟩, x, v, h8, h9, _, h10, hzx⟩ := h len (by omega)
    have hw := Rep.width x v h10
    have hvl : v.cells.toList.length = s := by rw [← h9, h6]
    have hxw : x.width = s := by rw [← hw, ← hvl]; simp
    refine ⟨xs ++ [x], cells ++ cs', by simp [h1], ?_, by rw [List.length_append, h3, h6, Nat.add_mul, Nat.one_mul], ?_, ?_, ?_⟩
    · refine Reps.append h2 ?_
      unfold Reps
      exact ⟨v, [], by rw [h9, List.append_nil], h10, by unfold Reps; rfl⟩
    · intro j u hu
      by_cases hj : j < cells.length
      · rw [List.getElem?_append_left hj] at hu; exact h4 j u hu
      · rw [List.getElem?_append_right (by omega), h3] at hu
        have hjs := (List.getElem?_eq_some_iff.1 hu).1
        rw [h6] at hjs
        have := h7 (j - len * s) hjs
        rw [hu, show len * s + (j - len * s) = j by omega] at this
        exact this
    · intro y hy
      rcases List.mem_append.1 hy with hy | hy
      · exact h5 y hy
      · simp at hy; subst hy; exact ⟨h8, hxw⟩
    · intro hall y hy
      rcases List.mem_append.1 hy with hy | hy
      · exact hz (fun i hi => hall i (by omega)) y hy
      · simp at hy; subst hy; exact (hzx (hall len (by omega))).2
mutual
theorem open_trod : ∀ (sh : Sh) (fuel : Nat) (t : TypeId) (cs : List Value) (x : DataW H × List MemPlace), shOk P sh t = true → DataW.trod enc P w base spare held fuel t cs = some x → OpenAt w ((x.1.weights P t).all (· ≤ reachBytes) = true) sh cs
  | .int k, fuel, t, cs, x, hs, h => by
    simp only [shOk, decide_eq_true_eq] at hs
    obtain ⟨n, rfl, _, hw⟩ := DataW.trod_int (und_int hs) h
    exact ⟨.lit (.int k n), .int k n, ⟨rfl, hw⟩, rfl, by simp, by unfold Rep; exact ⟨rfl, rfl⟩, fun _ => ⟨by unfold SzT; trivial, by unfold SzD; trivial⟩⟩
  | .bool, fuel, t, cs, x, hs, h => by
    simp only [shOk] at hs
    obtain ⟨b, rfl, _⟩ := DataW.trod_bool (bool_und hs) h
    exact ⟨.lit (.bool b), .bool b, trivial, rfl, by simp, by unfold Rep; exact ⟨rfl, rfl⟩, fun _ => ⟨by unfold SzT; trivial, by unfold SzD; trivial⟩⟩
  | .str, fuel, t, cs, x, hs, h => by
    simp only [shOk] at hs
    obtain ⟨s, rfl, _, hm⟩ := DataW.trod_string (str_und hs) h
    exact ⟨.lit (.string s), .string s, hm, rfl, by simp, by unfold Rep; exact ⟨rfl, rfl⟩, fun _ => ⟨by unfold SzT; trivial, by unfold SzD; trivial⟩⟩
  | .sl e, fuel, t, cs, x, hs, h => by
    simp only [shOk] at hs
    split at hs
    · rename_i u hu
      simp only [Bool.and_eq_true, decide_eq_true_eq] at hs
      obtain ⟨⟨⟨h1, h2⟩, h3⟩, hby⟩ := hs
      rcases Deep.open_slice hu h with ⟨rfl, _⟩ | ⟨a, len, cap, m, n, D, Pl, rfl, hb, hl, hm, hmm, rfl, hx⟩
      · refine ⟨.sl e.width [], .slice none 0 0, ?_, rfl, by simp, rep_nil e.width, fun _ => ⟨by unfold SzT; simp, by unfold SzD SzDs; simp⟩⟩
        unfold InSh; exact ⟨rfl, by simp, by simp⟩
      · have hml : len ≤ m := by rw [hmm]; split <;> omega
        by_cases h0 : len = 0
        · subst h0
          refine ⟨.sl e.width [], .slice (some a) 0 cap, ?_, rfl, by simp, ?_, fun _ => ⟨by unfold SzT; simp, by unfold SzD SzDs; simp⟩⟩
          · unfold InSh; exact ⟨rfl, by simp, by simp⟩
          · unfold Rep
            exact ⟨some a, cap, [], rfl, by unfold Reps; rfl, by simp, ⟨Nat.zero_le _, hm, by simp, fun h => (by cases h), .inl rfl⟩⟩
        · obtain ⟨b, off, spot⟩ := a
          obtain ⟨cs0, g1, _⟩ := hx 0 (by omega)
          obtain ⟨_, g2, g3⟩ := World.cells?_some g1
          have g4 := g3 0 (by omega)
          rw [List.getElem?_eq_getElem (by omega)] at g4
          have hspot : spot = none := by simpa [Addr.add] using World.cell?_spot g4
          subst hspot
          have hbl : b < w.heap.size := by
            have := World.block_lt_of_cell? _ _ g4
            simpa [Addr.add] using this
          have hadd : ∀ i, (⟨b, off, none⟩ : Addr).add i = ⟨b, off + i, none⟩ := fun i => by unfold Addr.add; split <;> simp_all
          obtain ⟨xs, cells, k1, k2, k3, k4, k5, k6⟩ := rows_of (w := w) (Z := fun i => ((D i).weights P u).all (· ≤ reachBytes) = true) (c := 0) (b := b) (off := off) h3 rfl len (e := e) (fun i hi => by
            obtain ⟨cs', q1, q2⟩ := hx i (by omega)
            obtain ⟨_, q3, q4⟩ := World.cells?_some q1
            rw [h2] at q3 q4
            refine ⟨cs', ⟨q3, fun j hj => ?_⟩, open_trod e n u cs' _ h1 q2⟩
            have := q4 j hj
            rw [Deep.add_add, hadd] at this
            exact this)
          have hz : ((DataW.slice ((List.range len).map D) ((List.range (m - len)).map fun j => D (len + j))).weights P t).all (· ≤ reachBytes) = true → SzT (.sl e.width xs) ∧ SzD (.sl e.width xs) := by
            intro hz
            unfold DataW.weights at hz
            rw [hu] at hz
            simp only [List.all_cons, List.all_append, Bool.and_eq_true, decide_eq_true_eq, List.length_map, List.length_range] at hz
            have h5 := Nat.mul_le_mul (Nat.le_add_right len (m - len)) hby
            have h6 := Nat.mul_le_mul (Nat.le_refl len) (elB_pos e)
            have h7 := Nat.mul_le_mul (Nat.le_refl len) (listB_le (e := e) (xs := xs) fun x hx => (k5 x hx).1)
            unfold SzT SzD
            rw [k1]
            exact ⟨by omega, by omega, SzDs.of (k6 fun i hi => weightsAll_all hz.2.1 _ (List.mem_map.2 ⟨i, List.mem_range.2 hi, rfl⟩))⟩
          refine ⟨.sl e.width xs, .slice (some ⟨b, off, none⟩) len cap, ?_, rfl, by simp, ?_, hz⟩
          · unfold InSh; exact ⟨rfl, by omega, fun x hx => (k5 x hx).1⟩
          · unfold Rep
            refine ⟨some ⟨b, off, none⟩, cap, cells, by rw [k1], k2, fun y hy => (k5 y hy).2, ?_⟩
            exact ⟨by omega, hm, by rw [k1]; exact k3, fun h => (by cases h), .inr ⟨b, off, rfl, hbl, k4⟩⟩
    · cases hs
  | .st es, fuel, t, cs, x, hs, h => by
    simp only [shOk] at hs
    split at hs
    · rename_i fs hu
      simp only [Bool.and_eq_true, decide_eq_true_eq] at hs
      obtain ⟨ys, n, _, rfl, hl, hlen, hf⟩ := DataW.trod_struct hu h
      obtain ⟨xs, h1, h2, h3⟩ := open_trods es n fs.toList ys 0 cs hs.1 (by simpa using hlen) (fun i f hi => hf i f (by simpa using hi)) (by rw [hl, hs.2]; omega)
      refine ⟨.agg xs, .agg cs.toArray, by unfold InSh; exact h1, by simp [Value.cells], fun _ _ => rfl, ?_, ?_⟩
      · unfold Rep
        exact ⟨cs, rfl, by simpa using h2⟩
      · intro hz
        unfold DataW.weights at hz
        rw [hu] at hz
        unfold SzT SzD
        exact h3 hz
    · cases hs
theorem open_trods : ∀ (es : List Sh) (n : Nat) (fs : List Field) (ys : List (DataW H × List MemPlace)) (o : Nat) (cs : List Value), shOks P es fs o = true → ys.length = fs.length →
    (∀ (i : Nat) (f : Field), fs[i]? = some f → DataW.trod enc P w base spare held n f.type ((cs.drop f.offset).take (P.cellsOf f.type)) = ys[i]?) → cs.length = o + Sh.widths es →
    ∃ xs, InShs es xs ∧ Reps (fun b => b < w.heap.size) w xs (cs.drop o) ∧ ((DataW.weightsEach P (fs.map (·.type)) (ys.map (·.1))).all (· ≤ reachBytes) = true → SzTs xs ∧ SzDs xs)
  | [], n, fs, ys, o, cs, hs, hyl, hf, hl => by
    cases fs with
    | nil => exact ⟨[], by unfold InShs; trivial, by unfold Reps; simp [Sh.widths] at hl; rw [List.drop_eq_nil_of_le (by omega)], fun _ => ⟨by unfold SzTs; trivial, by unfold SzDs; trivial⟩⟩
    | cons f fs => simp [shOks] at hs
  | e :: es, n, fs, ys, o, cs, hs, hyl, hf, hl => by
    cases fs with
    | nil => simp [shOks] at hs
    | cons f fs =>
      cases ys with
      | nil => simp at hyl
      | cons y ys =>
        simp only [shOks, Bool.and_eq_true, decide_eq_true_eq] at hs
        obtain ⟨⟨⟨h1, h2⟩, h3⟩, h4⟩ := hs
        have hy := hf 0 f rfl
        simp only [List.getElem?_cons_zero] at hy
        obtain ⟨x, v, g1, g2, _, g3, g6⟩ := open_trod e n f.type _ _ h3 hy
        simp only [Sh.widths] at hl
        obtain ⟨xs, g4, g5, g7⟩ := open_trods es n fs ys (o + e.width) cs h4 (by simpa using hyl) (fun i q hi => by have := hf (i + 1) q (by simpa using hi); simpa using this) (by omega)
        refine ⟨x :: xs, by unfold InShs; exact ⟨g1, g4⟩, ?_, ?_⟩
        · unfold Reps
          refine ⟨v, cs.drop (o + e.width), ?_, g3, g5⟩
          rw [← g2, h1, h2, ← List.drop_drop]
          exact (List.take_append_drop _ _).symm
        · intro hz
          simp only [List.map_cons, DataW.weightsEach, List.all_append, Bool.and_eq_true] at hz
          unfold SzTs SzDs
          exact ⟨⟨(g6 hz.1).1, (g7 hz.2).1⟩, (g6 hz.1).2, (g7 hz.2).2⟩
end
theorem cells_inj {u v : Value} (hu : u.oneCell' = true) (hv : v.oneCell' = true) (h : u.cells.toList = v.cells.toList) : u = v := by
  rw [cells_one hu, cells_one hv] at h
  simpa using h
/-- An argument. -/
theorem open_any {r : Reach} {b0 : Nat} {t : TypeId} {v : Value} {d : DataW H} {ps : List MemPlace} (sh : Sh) (hs : shOk P sh t = true) (hval : Value.okWide P w r b0 t v) (hd : DataW.Trod enc P w base spare held t v d ps) :
    ∃ x, InSh sh x ∧ RepS (lawG w) w (.t x) v ∧ ((d.weights P t).all (· ≤ reachBytes) = true → SzT x ∧ SzD x) := by
  obtain ⟨fuel, hf⟩ := hd
  obtain ⟨x, u, h1, h2, h3, h4, h5⟩ := open_trod sh fuel t _ _ hs hf
  refine ⟨x, h1, ?_, h5⟩
  have hu : u = v := by
    cases sh with
    | st es =>
      have e1 := h3 es rfl
      simp only [shOk] at hs
      split at hs
      · rename_i fs hfs
        obtain ⟨cs, rfl, _⟩ := okWide_struct hfs hval
        rw [e1]; simp [Value.cells]
      · cases hs
    | int k =>
      simp only [shOk, decide_eq_true_eq] at hs
      obtain ⟨n, rfl⟩ := okWide_int (und_int hs) hval
      exact (cells_inj rfl (by obtain ⟨_, rfl, _⟩ := insh_int h1; unfold Rep at h4; rw [h4.1]; exact h4.2) h2).symm
    | bool =>
      simp only [shOk] at hs
      obtain ⟨n, rfl⟩ := okWide_bool (bool_und hs) hval
      exact (cells_inj rfl (by obtain ⟨_, rfl⟩ := insh_bool h1; unfold Rep at h4; rw [h4.1]; exact h4.2) h2).symm
    | str =>
      simp only [shOk] at hs
      obtain ⟨n, rfl⟩ := okWide_string (str_und hs) hval
      exact (cells_inj rfl (by obtain ⟨_, rfl, _⟩ := insh_str h1; unfold Rep at h4; rw [h4.1]; exact h4.2) h2).symm
    | sl e =>
      simp only [shOk] at hs
      split at hs
      · rename_i q hq
        obtain ⟨a, l, c, rfl⟩ := okWide_slice hq hval
        exact (cells_inj rfl (by obtain ⟨_, rfl, _⟩ := insh_sl h1; unfold Rep at h4; obtain ⟨_, _, _, rfl, _⟩ := h4; rfl) h2).symm
      · cases hs
  unfold RepS
  rw [← hu]; exact h4
end
end Go.Proofs.Ytopmmodcaoaaeaa.Sy
