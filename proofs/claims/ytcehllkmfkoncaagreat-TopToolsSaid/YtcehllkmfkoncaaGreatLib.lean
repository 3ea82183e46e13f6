/- Small general lemmas for the walks of this seat: slices that can be read (Row), and how a reading is kept while the call makes memory of its own. No condition. -/
import Derived.WalkKit
import Derived.WalkSpells
import Derived.WalkLawsBesides
import Derived.Lib.Hide
import Derived.Lib.SlBytesConst
namespace Go.Proofs.YtcehllkmfkoncaaGreat
set_option linter.unusedVariables false
set_option linter.unusedSimpArgs false
open Go.RowKit

/-- A slice value '.slice x n cap' whose n elements (s cells each) read as xs. -/
structure Row (w : World) (x : Option Addr) (n cap s : Nat) (xs : List Value) : Prop where
  le : n ≤ cap
  capLe : cap ≤ maxLen
  len : xs.length = n * s
  nil : x = none → cap = 0
  cells : n = 0 ∨ ∃ b off, x = some ⟨b, off, none⟩ ∧ b < w.heap.size ∧ ∀ j u, xs[j]? = some u → w.cell? ⟨b, off + j, none⟩ = some u

theorem Row.zero {w : World} {s : Nat} : Row w none 0 0 s [] := ⟨Nat.le_refl _, by unfold maxLen; omega, by simp, fun _ => rfl, .inl rfl⟩

theorem Row.later {w w' : World} {x : Option Addr} {n cap s : Nat} {xs : List Value} (h : Row w x n cap s xs) (hb : Below w.heap.size w w') : Row w' x n cap s xs := by
  refine ⟨h.le, h.capLe, h.len, h.nil, ?_⟩
  rcases h.cells with h0 | ⟨b, off, hx, hlt, hc⟩
  · exact .inl h0
  · exact .inr ⟨b, off, hx, Nat.lt_of_lt_of_le hlt hb.size, fun j u hu => (hb.cell (p := ⟨b, off + j, none⟩) hlt).trans (hc j u hu)⟩

theorem Row.pos {w : World} {x : Option Addr} {n cap s : Nat} {xs : List Value} (h : Row w x n cap s xs) (hn : 0 < n) :
    ∃ b off, x = some ⟨b, off, none⟩ ∧ b < w.heap.size ∧ ∀ j u, xs[j]? = some u → w.cell? ⟨b, off + j, none⟩ = some u := by
  rcases h.cells with h0 | h0
  · omega
  · exact h0

theorem Row.take {w : World} {x : Option Addr} {n cap s : Nat} {xs : List Value} (h : Row w x n cap s xs) {k : Nat} (hk : k ≤ n) : Row w x k cap s (xs.take (k * s)) := by
  refine ⟨Nat.le_trans hk h.le, h.capLe, ?_, h.nil, ?_⟩
  · rw [List.length_take, h.len]
    exact Nat.min_eq_left (Nat.mul_le_mul_right _ hk)
  · rcases h.cells with h0 | ⟨b, off, hx, hlt, hc⟩
    · exact .inl (by omega)
    · refine .inr ⟨b, off, hx, hlt, fun j u hu => hc j u ?_⟩
      rw [List.getElem?_take] at hu
      split at hu
      · exact hu
      · cases hu

/-- Bytes (or other numbers of an unsigned kind). -/
def nats (k : IntKind) (bs : List Nat) : List Value := bs.map fun (c : Nat) => Value.int k (c : Int)
theorem nats_length (k : IntKind) (bs : List Nat) : (nats k bs).length = bs.length := by simp [nats]
theorem nats_append (k : IntKind) (a b : List Nat) : nats k (a ++ b) = nats k a ++ nats k b := by simp [nats]
theorem nats_get {k : IntKind} {bs : List Nat} {j c : Nat} (h : bs[j]? = some c) : (nats k bs)[j]? = some (.int k (c : Int)) := by simp [nats, h]
theorem nats_oneCell (k : IntKind) (bs : List Nat) : ∀ u ∈ nats k bs, u.oneCell' = true := by
  intro u hu
  obtain ⟨c, _, rfl⟩ := List.mem_map.1 hu
  rfl
def ints (k : IntKind) (bs : List Int) : List Value := bs.map fun (c : Int) => Value.int k c
theorem ints_length (k : IntKind) (bs : List Int) : (ints k bs).length = bs.length := by simp [ints]
theorem ints_append (k : IntKind) (a b : List Int) : ints k (a ++ b) = ints k a ++ ints k b := by simp [ints]
theorem ints_get {k : IntKind} {bs : List Int} {j : Nat} {c : Int} (h : bs[j]? = some c) : (ints k bs)[j]? = some (.int k c) := by simp [ints, h]
theorem ints_one (k : IntKind) (bs : List Int) : ∀ u ∈ ints k bs, u.oneCell' = true := by
  intro u hu
  obtain ⟨c, _, rfl⟩ := List.mem_map.1 hu
  rfl
def NRow (k : IntKind) (w : World) (x : Option Addr) (n cap : Nat) (bs : List Nat) : Prop := Row w x n cap 1 (nats k bs)
theorem NRow.later {k : IntKind} {w w' : World} {x : Option Addr} {n cap : Nat} {bs : List Nat} (h : NRow k w x n cap bs) (hb : Below w.heap.size w w') : NRow k w' x n cap bs := Row.later h hb
theorem NRow.take {k : IntKind} {w : World} {x : Option Addr} {n cap : Nat} {bs : List Nat} (h : NRow k w x n cap bs) {j : Nat} (hj : j ≤ n) : NRow k w x j cap (bs.take j) := by
  have := Row.take h hj
  rw [Nat.mul_one] at this
  unfold NRow
  rw [show nats k (bs.take j) = (nats k bs).take j by simp [nats, List.map_take]]
  exact this
theorem NRow.length {k : IntKind} {w : World} {x : Option Addr} {n cap : Nat} {bs : List Nat} (h : NRow k w x n cap bs) : bs.length = n := by
  have := h.len; simpa [nats_length, ints_length] using this
theorem NRow.pos {k : IntKind} {w : World} {x : Option Addr} {n cap : Nat} {bs : List Nat} (h : NRow k w x n cap bs) (hn : 0 < n) :
    ∃ b off, x = some ⟨b, off, none⟩ ∧ b < w.heap.size ∧ ∀ (j : Nat) (c : Nat), bs[j]? = some c → w.cell? ⟨b, off + j, none⟩ = some (.int k (c : Int)) := by
  obtain ⟨b, off, hx, hlt, hc⟩ := Row.pos h hn
  exact ⟨b, off, hx, hlt, fun j c hj => hc j _ (nats_get hj)⟩

/-- Numbers of the kind int. -/
def IRow (k : IntKind) (w : World) (x : Option Addr) (n cap : Nat) (zs : List Int) : Prop := Row w x n cap 1 (ints k zs)
theorem IRow.later {k : IntKind} {w w' : World} {x : Option Addr} {n cap : Nat} {bs : List Int} (h : IRow k w x n cap bs) (hb : Below w.heap.size w w') : IRow k w' x n cap bs := Row.later h hb
theorem IRow.length {k : IntKind} {w : World} {x : Option Addr} {n cap : Nat} {bs : List Int} (h : IRow k w x n cap bs) : bs.length = n := by
  have := h.len; simpa [nats_length, ints_length] using this
theorem IRow.pos {k : IntKind} {w : World} {x : Option Addr} {n cap : Nat} {bs : List Int} (h : IRow k w x n cap bs) (hn : 0 < n) :
    ∃ b off, x = some ⟨b, off, none⟩ ∧ b < w.heap.size ∧ ∀ (j : Nat) (c : Int), bs[j]? = some c → w.cell? ⟨b, off + j, none⟩ = some (.int k c) := by
  obtain ⟨b, off, hx, hlt, hc⟩ := Row.pos h hn
  exact ⟨b, off, hx, hlt, fun j c hj => hc j _ (ints_get hj)⟩

theorem ret_int {k : IntKind} {a b : Int} (h : a = b) : Ending.returned (.int k a) = .returned (.int k b) := by rw [h]
theorem take_snoc {α : Type} {l : List α} {k : Nat} {c : α} (h : l[k]? = some c) : l.take (k + 1) = l.take k ++ [c] := by
  obtain ⟨hk, rfl⟩ := List.getElem?_eq_some_iff.1 h
  exact List.take_succ_eq_append_getElem hk
theorem drop_get {α : Type} {l : List α} {k : Nat} {c : α} (h : l[k]? = some c) : l.drop k = c :: l.drop (k + 1) := by
  obtain ⟨hk, rfl⟩ := List.getElem?_eq_some_iff.1 h
  exact List.drop_eq_getElem_cons hk
theorem has_get {α : Type} {l : List α} {k : Nat} (h : k < l.length) : ∃ c, l[k]? = some c := ⟨_, List.getElem?_eq_getElem h⟩
theorem mem_get {α : Type} {l : List α} {k : Nat} {c : α} (h : l[k]? = some c) : c ∈ l := List.mem_of_getElem? h
theorem maxLen_of {n : Nat} (h : n ≤ 9223372036854775807) : n ≤ maxLen := by unfold maxLen; omega
theorem one_oneCell (k : IntKind) (a : Int) : ∀ u ∈ [Value.int k a], u.oneCell' = true := by
  intro u hu; simp at hu; subst hu; rfl
theorem two_oneCell (k : IntKind) (a b : Int) : ∀ u ∈ [Value.int k a, Value.int k b], u.oneCell' = true := by
  intro u hu; simp at hu; rcases hu with rfl | rfl <;> rfl
theorem ret_bool {a b : Bool} (h : a = b) : Ending.returned (.bool a) = .returned (.bool b) := by rw [h]
theorem int_eq {k : IntKind} {a b : Int} (h : a = b) : Value.int k a = .int k b := by rw [h]

theorem bcell {B : Nat} {W w1 : World} (hb : Below B W w1) : (∀ b o, b < B → w1.cell? ⟨b, o, none⟩ = W.cell? ⟨b, o, none⟩) ∧ (∀ b o, b < B → w1.frozen? ⟨b, o, none⟩ = W.frozen? ⟨b, o, none⟩) :=
  ⟨fun b o h => hb.cell (p := ⟨b, o, none⟩) h, fun b o h => hb.frozen (p := ⟨b, o, none⟩) h⟩

/-! ### Rows of the call's own -/

/-- What is told of a slice type: its element's type, cells, bytes and zero. -/
structure Elem (P : Program) (t e : TypeId) (size bytes : Nat) (z : Value) : Prop where
  und : P.underlying t = some (.slice e)
  info : (P.info? e).map (fun i => (i.zero, i.size, i.bytes)) = some (some z, size, bytes)
  zsize : z.cells.size = size
  pos : 0 < size

/-- The slice '.slice x n cap' is the call's own (it lies in a block from B on, or is nil) and reads as xs. -/
def Own (w : World) (B : Nat) (e : TypeId) (size : Nat) (x : Option Addr) (n cap : Nat) (xs : List Value) : Prop :=
  w.ownsRow B e size (.slice x n cap) n xs

theorem Own.none {w : World} {B : Nat} {e : TypeId} {size : Nat} : Own w B e size .none 0 0 [] := World.ownsRow_nil _ _ _ _

theorem Own.row {w : World} {B : Nat} {e : TypeId} {size : Nat} {x : Option Addr} {n cap : Nat} {xs : List Value} (h : Own w B e size x n cap xs) : Row w x n cap size xs := by
  have hl := h.1
  rcases h.2 with ⟨hv, hn⟩ | ⟨g, cap', cur, hv, hB, hh, hc, hm, hs, ht⟩
  · cases hv
    exact ⟨Nat.le_refl _, by unfold maxLen; omega, hl, fun _ => rfl, .inl rfl⟩
  · cases hv
    refine ⟨hc, hm, hl, (fun e => by cases e), .inr ⟨g, 0, rfl, lt_of_block hh, fun j u hu => ?_⟩⟩
    rw [Nat.zero_add, cell_of_row w g j cur e (0, 0) hh]
    rw [← ht, List.getElem?_take] at hu
    split at hu
    · simpa using hu
    · cases hu

/-- A literal row that has just been laid. -/
theorem Own.lit (w : World) (cs : Array Value) (e : TypeId) (size n : Nat) {B : Nat} (hB : B ≤ w.heap.size) (hm : n ≤ maxLen) (hs : cs.size = n * size) :
    Own (w.alloc (.cells cs e)) B e size (some ⟨w.heap.size, 0, .none⟩) n n cs.toList := World.ownsRow_lit w cs n hB hm hs

theorem Own.litg {w : World} {g : Nat} (hg : g = w.heap.size) (cs : Array Value) (e : TypeId) (size n : Nat) {B : Nat} (hB : B ≤ w.heap.size) (hm : n ≤ maxLen) (hs : cs.size = n * size) :
    Own (w.alloc (.cells cs e)) B e size (some ⟨g, 0, .none⟩) n n cs.toList := by subst hg; exact Own.lit w cs e size n hB hm hs
/-- A literal list of numbers that has just been laid. -/
theorem NRow.litg {w : World} {g : Nat} (hg : g = w.heap.size) {k : IntKind} (bs : List Nat) {cs : Array Value} (hc : cs = (nats k bs).toArray) (e : TypeId) {n : Nat} (hn : bs.length = n) (hm : n ≤ maxLen) :
    NRow k (w.alloc (.cells cs e)) (some ⟨g, 0, .none⟩) n n bs := by
  subst hc
  have := (Own.litg hg (nats k bs).toArray e 1 n (Nat.zero_le _) hm (by simp [nats_length, hn])).row
  exact this
/-- The same where the row bears a mark (a constant string's bytes). -/
theorem NRow.markg {w : World} {g : Nat} (hg : g = w.heap.size) {k : IntKind} (bs : List Nat) {cs : Array Value} (hc : cs = (nats k bs).toArray) (e : TypeId) (fr : Nat × Nat) {n : Nat} (hn : bs.length = n) (hm : n ≤ maxLen) :
    NRow k (w.alloc (.cells cs e fr)) (some ⟨g, 0, .none⟩) n n bs := by
  subst hc hg hn
  refine ⟨Nat.le_refl _, hm, by simp [nats_length], (fun h => by cases h), .inr ⟨w.heap.size, 0, rfl, by simp, fun j u hu => ?_⟩⟩
  rw [Nat.zero_add, cell_of_row _ _ j _ e fr (heap_alloc_new w _)]
  simpa using hu
theorem Own.lit1 (w : World) (v : Value) (e : TypeId) {B : Nat} (hB : B ≤ w.heap.size) :
    Own (w.alloc (.cells #[v] e)) B e 1 (some ⟨w.heap.size, 0, .none⟩) 1 1 [v] := Own.lit w #[v] e 1 1 hB (by unfold maxLen; omega) rfl
theorem Own.lit2 (w : World) (v u : Value) (e : TypeId) {B : Nat} (hB : B ≤ w.heap.size) :
    Own (w.alloc (.cells #[v, u] e)) B e 1 (some ⟨w.heap.size, 0, .none⟩) 2 2 [v, u] := Own.lit w #[v, u] e 1 2 hB (by unfold maxLen; omega) rfl

theorem Own.alloc {w : World} {B : Nat} {e : TypeId} {size : Nat} {x : Option Addr} {n cap : Nat} {xs : List Value} (h : Own w B e size x n cap xs) (o : Obj) : Own (w.alloc o) B e size x n cap xs := World.ownsRow.alloc h o
theorem Own.drew {w : World} {B : Nat} {e : TypeId} {size : Nat} {x : Option Addr} {n cap : Nat} {xs : List Value} (h : Own w B e size x n cap xs) : Own w.drew B e size x n cap xs := h
theorem Own.mono {w : World} {B B' : Nat} {e : TypeId} {size : Nat} {x : Option Addr} {n cap : Nat} {xs : List Value} (h : Own w B e size x n cap xs) (hB : B' ≤ B) : Own w B' e size x n cap xs := by
  refine ⟨h.1, ?_⟩
  rcases h.2 with h2 | ⟨g, cap, cur, hv, hg, r⟩
  · exact .inl h2
  · exact .inr ⟨g, cap, cur, hv, Nat.le_trans hB hg, r⟩
/-- It stays the call's own while everything below the present size stays. -/
theorem Own.later {w w' : World} {B : Nat} {e : TypeId} {size : Nat} {x : Option Addr} {n cap : Nat} {xs : List Value} (h : Own w B e size x n cap xs) (hb : Below w.heap.size w w') : Own w' B e size x n cap xs := by
  refine ⟨h.1, ?_⟩
  rcases h.2 with h2 | ⟨g, cap, cur, hv, hg, hh, r⟩
  · exact .inl h2
  · exact .inr ⟨g, cap, cur, hv, hg, by rw [hb.block g (lt_of_block hh)]; exact hh, r⟩
theorem Own.grown {w w' : World} {B : Nat} {e : TypeId} {size : Nat} {x : Option Addr} {n cap : Nat} {xs : List Value} (h : Own w B e size x n cap xs) {row : Option Nat} (hg : w.grownBy w' row) (hne : ∀ a, x = some a → row ≠ some a.block) : Own w' B e size x n cap xs := by
  refine World.ownsRow.kept h hg ?_
  cases x with
  | none => exact .inl rfl
  | some a => exact .inr (fun e => hne a rfl e.symm)
theorem Own.length {w : World} {B : Nat} {e : TypeId} {size : Nat} {x : Option Addr} {n cap : Nat} {xs : List Value} (h : Own w B e size x n cap xs) : xs.length = n * size := h.1

theorem Own.pos {w : World} {B : Nat} {e : TypeId} {size : Nat} {x : Option Addr} {n cap : Nat} {xs : List Value} (h : Own w B e size x n cap xs) (hn : 0 < n) :
    ∃ g, x = some ⟨g, 0, .none⟩ ∧ B ≤ g ∧ g < w.heap.size ∧ (∀ j u, xs[j]? = some u → w.cell? ⟨g, j, .none⟩ = some u) ∧ ∀ j, w.frozen? ⟨g, j, .none⟩ = false := by
  rcases h.2 with ⟨_, hn0⟩ | ⟨g, cap', cur, hv, hB, hh, hc, hm, hs, ht⟩
  · omega
  · cases hv
    refine ⟨g, rfl, hB, lt_of_block hh, fun j u hu => ?_, fun j => World.ownsRow.frozenAt h j⟩
    have := h.1
    rw [World.ownsRow.cellAt h j (by rw [← this]; exact (List.getElem?_eq_some_iff.1 hu).1)]
    exact hu
theorem Own.set {w : World} {B : Nat} {e : TypeId} {size : Nat} {g n cap : Nat} {xs : List Value} (h : Own w B e size (some ⟨g, 0, .none⟩) n cap xs) (j : Nat) (u : Value) :
    Own (w.setCell ⟨g, j, .none⟩ u) B e size (some ⟨g, 0, .none⟩) n cap (xs.set j u) := (World.ownsRow.stored h j u).1

/-- What 'grownBy' of an own row means below B. -/
theorem Own.below {w w' : World} {B : Nat} {e : TypeId} {size : Nat} {x : Option Addr} {n cap : Nat} {xs : List Value} (h : Own w B e size x n cap xs) (hg : w.grownBy w' (Value.slice x n cap).ownBlock) (hB : B ≤ w.heap.size) : Below B w w' :=
  (Below.refl B w).grown hg hB (fun k hk => (World.ownsRow.lt h k hk).1)

theorem run_app {P : Program} (w : World) {t e : TypeId} {size bytes : Nat} {z : Value} (E : Elem P t e size bytes z) (ty : TypeId) {B : Nat}
    {x : Option Addr} {n cap : Nat} {xs : List Value} (hown : Own w B e size x n cap xs)
    {y : Option Addr} {m c : Nat} {news : List Value} (hrow : Row w y m c size news) (h1 : ∀ u ∈ news, u.oneCell' = true)
    (hbytes : (n + m) * bytes ≤ 140737488355328) (h63 : n + m ≤ maxLen) (hbase : B ≤ w.heap.size) :
    ∃ x' cap' w', (Builtin.append_ #[t, t] ty #[.slice x n cap, .slice y m c]).run P w = .ok (.slice x' (n + m) cap') w' ∧ Own w' B e size x' (n + m) cap' (xs ++ news) ∧ w.grownBy w' (Value.slice x n cap).ownBlock := by
  obtain ⟨i, hi, hz0, hz1, hz2⟩ := info_parts E.info
  have shape : ∀ {w' : World} {v' : Value}, w'.ownsRow B e size v' (n + m) (xs ++ news) → ∃ x' cap', v' = .slice x' (n + m) cap' := by
    intro w' v' h
    rcases h.2 with ⟨hv, hn⟩ | ⟨g, cap', cur, hv, _⟩
    · exact ⟨_, _, by rw [hv, hn]⟩
    · exact ⟨_, _, hv⟩
  by_cases hm : m = 0
  · subst hm
    have hnews : news = [] := List.eq_nil_of_length_eq_zero (by have := hrow.len; simpa using this)
    subst hnews
    cases y with
    | none =>
      have hc := hrow.nil rfl
      subst hc
      have := run_append_owned_none (P := P) (w := w) B t ty e i size E.und hi (.slice x n cap) n xs hown
      exact ⟨x, cap, w, this, by simpa using hown, World.grownBy.refl w _⟩
    | some ad =>
      obtain ⟨v', w', hrun, ho, hg, _⟩ := run_append_own (P := P) w B t ty e i z size bytes E.und hi hz0 hz1 hz2 E.zsize E.pos (.slice x n cap) n xs hown ad 0 c [] (by simp) (by simp) (by simp) h63 hbytes hbase
      obtain ⟨x', cap', rfl⟩ := shape ho
      exact ⟨x', cap', w', hrun, ho, hg⟩
  · obtain ⟨b, off, rfl, hlt, hc⟩ := hrow.pos (by omega)
    obtain ⟨v', w', hrun, ho, hg, _⟩ := run_append_own (P := P) w B t ty e i z size bytes E.und hi hz0 hz1 hz2 E.zsize E.pos (.slice x n cap) n xs hown ⟨b, off, none⟩ m c news hrow.len
      (fun j u hu => by rw [show (⟨b, off, none⟩ : Addr).add j = ⟨b, off + j, none⟩ by unfold Addr.add; split <;> simp_all]; exact hc j u hu) h1 h63 hbytes hbase
    obtain ⟨x', cap', rfl⟩ := shape ho
    exact ⟨x', cap', w', hrun, ho, hg⟩

/-- append, whatever is appended, onto a row of the call's own. -/
theorem wpList_app {P : Program} {w : World} {ops : Array Oper} {rest : List Oper} {o : Oper} {a : Act} {Q : Exit → Act → World → Prop} (hgd : o.guard = none) (s q : Operand) (t : TypeId)
    (ho : o.op = .call { callee := .builtin .append, args := #[s, q], argTypes := #[t, t] }) {e : TypeId} {size bytes : Nat} {z : Value} (E : Elem P t e size bytes z) {B : Nat}
    {x : Option Addr} {n cap : Nat} {xs : List Value} (hs : a.eval s = .slice x n cap) (hown : Own w B e size x n cap xs)
    {y : Option Addr} {m c : Nat} {news : List Value} (hq : a.eval q = .slice y m c) (hrow : Row w y m c size news) (h1 : ∀ u ∈ news, u.oneCell' = true)
    (hbytes : (n + m) * bytes ≤ 140737488355328) (h63 : n + m ≤ maxLen) (hbase : B ≤ w.heap.size)
    (h : ∀ x' cap' w', Own w' B e size x' (n + m) cap' (xs ++ news) → w.grownBy w' (Value.slice x n cap).ownBlock → Below B w w' → wpList P ops Q rest (a.put o.dst (.slice x' (n + m) cap')) w') : wpList P ops Q (o :: rest) a w := by
  refine wpList_plain hgd fun K hK => ?_
  obtain ⟨x', cap', w', hrun, ho', hg⟩ := run_app w E o.type hown hrow h1 hbytes h63 hbase
  unfold Oper.wp
  simp [execOp, ho, resolve, invoke, builtin, hs, hq, hrun, Result.andThen]
  exact hK _ _ (h x' cap' w' ho' hg (hown.below hg hbase))

/-- append onto an empty row of the call's own. -/
theorem wpList_clone {P : Program} {w : World} {ops : Array Oper} {rest : List Oper} {o : Oper} {a : Act} {Q : Exit → Act → World → Prop} (hgd : o.guard = none) (s q : Operand) (t : TypeId)
    (ho : o.op = .call { callee := .builtin .append, args := #[s, q], argTypes := #[t, t] }) {e : TypeId} {size bytes : Nat} {z : Value} (E : Elem P t e size bytes z) {B : Nat}
    {x : Option Addr} {cap : Nat} (hs : a.eval s = .slice x 0 cap) (hown : Own w B e size x 0 cap [])
    {y : Option Addr} {m c : Nat} {news : List Value} (hq : a.eval q = .slice y m c) (hrow : Row w y m c size news) (h1 : ∀ u ∈ news, u.oneCell' = true)
    (hbytes : m * bytes ≤ 140737488355328) (h63 : m ≤ maxLen) (hbase : B ≤ w.heap.size)
    (h : ∀ x' cap' w', Own w' B e size x' m cap' news → w.grownBy w' (Value.slice x 0 cap).ownBlock → Below B w w' → wpList P ops Q rest (a.put o.dst (.slice x' m cap')) w') : wpList P ops Q (o :: rest) a w := by
  refine wpList_app hgd s q t ho E hs hown hq hrow h1 (by rw [Nat.zero_add]; exact hbytes) (by rw [Nat.zero_add]; exact h63) hbase ?_
  intro x' cap' w' h1 h2 h3
  rw [Nat.zero_add, List.nil_append] at h1
  rw [Nat.zero_add]
  exact h x' cap' w' h1 h2 h3
theorem Own.empty (w : World) (e : TypeId) (size : Nat) {B : Nat} (hB : B ≤ w.heap.size) : Own (w.alloc (.cells #[] e)) B e size (some ⟨w.heap.size, 0, .none⟩) 0 0 [] :=
  Own.lit w #[] e size 0 hB (maxLen_of (by omega)) (by simp)

/-- A call's answer: a slice of its own that reads as xs; what was there is as it was. -/
def Gives (w : World) (e : TypeId) (size : Nat) (xs : List Value) (en : Ending) (w' : World) : Prop :=
  ∃ x n cap, en = .returned (.slice x n cap) ∧ Own w' w.heap.size e size x n cap xs ∧ Below w.heap.size w w'

/-- A call's answer: a slice of its own that reads as xs, and a number (an error's). -/
def GivesE (w : World) (e : TypeId) (size : Nat) (xs : List Value) (err : Int) (en : Ending) (w' : World) : Prop :=
  ∃ x n cap, en = .returned (.tuple #[.slice x n cap, .int .i64 err]) ∧ Own w' w.heap.size e size x n cap xs ∧ Below w.heap.size w w'

/-- The string of some bytes. -/
def str (bs : List Nat) : ByteArray := ⟨(bs.map fun c => UInt8.ofNat c).toArray⟩
theorem str_size (bs : List Nat) : (str bs).size = bs.length := by simp [str, ByteArray.size]
theorem str_nums (bs : List Nat) : strOfNums (bs.map fun (c : Nat) => (c : Int)) = str bs := by
  simp [strOfNums, str]
theorem str_inj {a b : List Nat} (ha : ∀ c ∈ a, c < 256) (hb : ∀ c ∈ b, c < 256) (h : str a = str b) : a = b := by
  have h1 : a.map UInt8.ofNat = b.map UInt8.ofNat := by
    have := congrArg (fun s => s.data.toList) h
    simpa [str] using this
  have h2 := congrArg (List.map UInt8.toNat) h1
  rw [List.map_map, List.map_map] at h2
  have e : ∀ l : List Nat, (∀ c ∈ l, c < 256) → l.map (UInt8.toNat ∘ UInt8.ofNat) = l := by
    intro l hl
    conv => rhs; rw [← List.map_id l]
    exact List.map_congr_left fun c hc => by simp; exact hl c hc
  rwa [e a ha, e b hb] at h2
theorem str_toList (bs : List Nat) : (str bs).toList = bs.map fun c => UInt8.ofNat c := by simp [str]
theorem str_beq {a b : List Nat} (ha : ∀ c ∈ a, c < 256) (hb : ∀ c ∈ b, c < 256) : ((str a).toList == (str b).toList) = decide (a = b) := by
  rw [Bool.eq_iff_iff]
  simp only [beq_iff_eq, decide_eq_true_eq]
  constructor
  · intro h
    refine str_inj ha hb ?_
    rw [str_toList, str_toList] at h
    simp [str, h]
  · intro h; rw [h]
/-- string(b). -/
theorem run_str {P : Program} (w : World) (src e dst : TypeId) (hs : P.underlying src = some (.slice e)) (he : P.underlying e = some (.int .u8)) (hd : P.underlying dst = some .string)
    {x : Option Addr} {n cap : Nat} {bs : List Nat} (h : NRow .u8 w x n cap bs) : (convert src dst (.slice x n cap)).run P w = .ok (.string (str bs)) w := by
  have hl := h.length
  cases x with
  | none =>
    have hc := h.nil rfl
    have hn : n = 0 := by have := h.le; omega
    subst hn
    have : bs = [] := List.eq_nil_of_length_eq_zero hl
    subst this
    exact run_convert_bytes_nil w src e hs he 0 cap dst hd
  | some ad =>
    by_cases hn : n = 0
    · subst hn
      have : bs = [] := List.eq_nil_of_length_eq_zero hl
      subst this
      rw [run_convert_bytes_string w src dst e (some ad) 0 cap hs he hd, run_bytesToString w ad 0 cap [] (run_loadCells_list w ad [] (by simp))]
      rfl
    · obtain ⟨b, off, hx, _, hc⟩ := h.pos (by omega)
      cases hx
      rw [← str_nums]
      refine run_convert_bytes_arg w src e hs he b off n cap (bs.map fun (c : Nat) => (c : Int)) (by simpa using hl) (fun i hi => ?_) dst hd
      obtain ⟨c, hcg⟩ := has_get (l := bs) (k := i) (by omega)
      rw [hc i c hcg]
      simp [List.getD, hcg]

/-- What a proof's frame tells of a slice of integers that came in. -/
def IsRow (k : IntKind) (w : World) (a : Option Addr) (len cap : Nat) (zs : List Int) : Prop :=
  (a = none ∧ len = 0 ∧ cap = 0 ∧ zs = []) ∨
  ∃ x, a = some x ∧ len ≤ cap ∧ cap ≤ maxLen ∧ zs.length = cap ∧ (∀ i, i < zs.length → w.cell? (x.add i) = some (.int k (zs.getD i 0))) ∧ ∀ n ∈ zs, (Lit.int k n).wf = true

theorem IsRow.row {k : IntKind} {w : World} {a : Option Addr} {len cap : Nat} {zs : List Int} (h : IsRow k w a len cap zs) :
    ∃ l, IRow k w a len cap l ∧ ∀ n ∈ l, (Lit.int k n).wf = true := by
  rcases h with ⟨rfl, rfl, rfl, rfl⟩ | ⟨x, rfl, hl, hm, hz, hcell, hwz⟩
  · exact ⟨[], Row.zero, by simp⟩
  · refine ⟨zs.take len, ⟨hl, hm, by simp [ints_length]; omega, (fun h => by cases h), ?_⟩, fun n hn => hwz n (List.mem_of_mem_take hn)⟩
    by_cases h0 : len = 0
    · exact .inl h0
    · right
      obtain ⟨b, off, spot⟩ := x
      have hc := hcell 0 (by omega)
      have hspot : spot = none := by simpa [Addr.add] using World.cell?_spot hc
      subst hspot
      refine ⟨b, off, rfl, ?_, ?_⟩
      · have := World.block_lt_of_cell? _ _ hc
        simpa [Addr.add] using this
      · intro j u hu
        have hj : j < (ints k (zs.take len)).length := (List.getElem?_eq_some_iff.1 hu).1
        rw [ints_length, List.length_take] at hj
        have h1 := hcell j (by omega)
        rw [show (⟨b, off, none⟩ : Addr).add j = ⟨b, off + j, none⟩ by unfold Addr.add; split <;> simp_all] at h1
        rw [h1]
        rw [← hu]
        simp [ints, List.getElem?_take, List.getD, show j < len by omega, List.getElem?_eq_getElem (show j < zs.length by omega)]

theorem wf_u8 {n : Int} (h : (Lit.int .u8 n).wf = true) : 0 ≤ n ∧ n < 256 := by
  simp only [Lit.wf, IntKind.min, IntKind.max, IntKind.signed, IntKind.bits, Bool.and_eq_true, decide_eq_true_eq] at h
  simp at h; omega
theorem wf_u16 {n : Int} (h : (Lit.int .u16 n).wf = true) : 0 ≤ n ∧ n < 65536 := by
  simp only [Lit.wf, IntKind.min, IntKind.max, IntKind.signed, IntKind.bits, Bool.and_eq_true, decide_eq_true_eq] at h
  simp at h; omega
theorem wf_u32 {n : Int} (h : (Lit.int .u32 n).wf = true) : 0 ≤ n ∧ n < 4294967296 := by
  simp only [Lit.wf, IntKind.min, IntKind.max, IntKind.signed, IntKind.bits, Bool.and_eq_true, decide_eq_true_eq] at h
  simp at h; omega
theorem wf_i64 {n : Int} (h : (Lit.int .i64 n).wf = true) : -9223372036854775808 ≤ n ∧ n ≤ 9223372036854775807 := by
  simp only [Lit.wf, IntKind.min, IntKind.max, IntKind.signed, IntKind.bits, Bool.and_eq_true, decide_eq_true_eq] at h
  simp at h; omega

theorem IsRow.bytes {w : World} {a : Option Addr} {len cap : Nat} {zs : List Int} (h : IsRow .u8 w a len cap zs) :
    ∃ bs, NRow .u8 w a len cap bs ∧ ∀ c ∈ bs, c < 256 := by
  obtain ⟨l, hr, hw⟩ := h.row
  refine ⟨l.map Int.toNat, ?_, ?_⟩
  · have e : nats .u8 (l.map Int.toNat) = ints .u8 l := by
      unfold nats ints
      rw [List.map_map]
      exact List.map_congr_left fun n hn => by have := wf_u8 (hw n hn); simp; omega
    unfold NRow
    rw [e]
    exact hr
  · intro c hc
    obtain ⟨n, hn, rfl⟩ := List.mem_map.1 hc
    have := wf_u8 (hw n hn)
    omega

theorem not_nat64 {st : Nat} (h : st < 18446744073709551616) : 18446744073709551615 ^^^ st = 18446744073709551615 - st := by
  have h1 : (BitVec.allOnes 64 ^^^ BitVec.ofNat 64 st).toNat = (~~~ BitVec.ofNat 64 st).toNat := by rw [BitVec.allOnes_xor]
  rw [BitVec.toNat_xor, BitVec.toNat_not, BitVec.toNat_ofNat, BitVec.toNat_allOnes, Nat.mod_eq_of_lt (by omega)] at h1
  exact h1

end Go.Proofs.YtcehllkmfkoncaaGreat
