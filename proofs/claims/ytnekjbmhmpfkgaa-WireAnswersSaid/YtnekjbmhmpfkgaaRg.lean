/- A region that draws its order of evaluation and holds calls that make memory: one obligation for each operation, whatever the order. Of each operation it is said what is known of its value (a predicate that stays true while memory only grows); an operation may use what is known of the slots that it looks at. No condition. -/
import Derived.Test.YtnekjbmhmpfkgaaLib
import Derived.Orders
namespace Go.Proofs.Ytnekjbmhmpfkgaa
open Go.RowKit
set_option linter.unusedVariables false
set_option linter.unusedSimpArgs false

/-- What is known of a value in a world. -/
abbrev Know := Value → World → Prop
/-- It stays known while everything that is there stays as it is. -/
def Stays (V : Know) : Prop := ∀ v w w', V v w → Below w.heap.size w w' → V v w'
theorem stays_eq (c : Value) : Stays (fun v _ => v = c) := fun _ _ _ h _ => h
/-- The value is just this one. -/
def Is (c : Value) : Know := fun v _ => v = c
theorem Is.stays (c : Value) : Stays (Is c) := fun _ _ _ h _ => h

def rgUpon (P : Program) (V : Know) (w : World) : Result Next → Prop
  | .ok (.value v) w' => Below w.heap.size w w' ∧ V v w'
  | .ok .skip w' => Below w.heap.size w w' ∧ V undef w'
  | .ok (.enter f args) w' => w' = w ∧ Calls P f args w (fun e w'' => ∃ v, e = .returned v ∧ Below w.heap.size w w'' ∧ V v w'')
  | _ => False

/-- What is known of the slots that an operation looks at. -/
def Known (K : List (Tmp × Know)) (a A : Act) (w : World) : List Tmp → Prop
  | [] => True
  | t :: r => (match K.lookup t with | some V => V (A.eval (.tmp t)) w | none => A.eval (.tmp t) = a.eval (.tmp t)) ∧ Known K a A w r

def rgDo (P : Program) (V : Know) (o : Oper) (A : Act) (w : World) : Option (Tmp × Bool) → Prop
  | none => rgUpon P V w ((execOp A.eval o).run P w)
  | some (t, b) => (A.eval (.tmp t) = .bool b → rgUpon P V w ((execOp A.eval o).run P w)) ∧ (A.eval (.tmp t) ≠ .bool b → V undef w)

/-- One obligation for each operation. -/
def rgAll (P : Program) (C : World → Prop) (K : List (Tmp × Know)) (a : Act) : List Oper → List (Option (Tmp × Bool)) → List (List Tmp) → List (Tmp × Know) → Prop
  | o :: os, g :: gs, l :: ls, (_, V) :: vs => (∀ A w, C w → Known K a A w l → rgDo P V o A w g) ∧ rgAll P C K a os gs ls vs
  | _, _, _, _ => True

/-- What stands behind the region: whatever the slots hold, as far as it is known. -/
def rgFin (C : World → Prop) (Q : Act → World → Prop) : List (Tmp × Know) → Act → (World → Prop) → Prop
  | [], a, F => ∀ w, C w → F w → Q a w
  | (t, V) :: r, a, F => ∀ v, rgFin C Q r (a.put (some t) v) (fun w => F w ∧ V v w)

def nodupB : List Tmp → Bool
  | [] => true
  | t :: r => !r.contains t && nodupB r

def guardSlot (ops : Array Oper) (o : Oper) : Option (Tmp × Bool) :=
  match o.guard with
  | none => none
  | some (g, b) => ((ops[g]?).bind (·.dst)).map fun t => (t, b)

/-- The region's shape, asked of the kernel. -/
def rgPlan (ops : Array Oper) (ds : List Tmp) (gs : List (Option (Tmp × Bool))) (ls : List (List Tmp)) : Bool :=
  Region.noSelect ops && ops.toList.length == ds.length && gs == ops.toList.map (guardSlot ops) && ls == ops.toList.map (·.looksAt ops) && nodupB ds &&
  ops.toList.map (·.dst) == ds.map some &&
  ops.toList.all (fun o => match o.guard with | none => true | some (g, _) => ((ops[g]?).bind (·.dst)).isSome) &&
  ((List.range ops.size).all fun j => match ops[j]? with
    | none => false
    | some o => o.after.all (fun e => !Region.binds .any e || decide (e.on < j)) &&
      (o.looksAt ops).all (fun t => match ds.idxOf? t with
        | none => true
        | some i => o.after.any fun e => Region.binds .any e && e.on == i))

section
variable {P : Program} {ops : Array Oper} {C : World → Prop} {K : List (Tmp × Know)} {a : Act} {gs : List (Option (Tmp × Bool))} {ls : List (List Tmp)}

theorem nodupB_spec : ∀ {l : List Tmp}, nodupB l = true → ∀ {i j : Nat} {t : Tmp}, l[i]? = some t → l[j]? = some t → i = j
  | [], _, i, j, t, hi, _ => by simp at hi
  | x :: r, h, i, j, t, hi, hj => by
    simp only [nodupB, Bool.and_eq_true, Bool.not_eq_true'] at h
    cases i with
    | zero =>
      cases j with
      | zero => rfl
      | succ j =>
        simp at hi hj
        subst hi
        have := List.mem_of_getElem? hj
        simp [this] at h
    | succ i =>
      cases j with
      | zero =>
        simp at hi hj
        subst hj
        have := List.mem_of_getElem? hi
        simp [this] at h
      | succ j =>
        simp only [List.getElem?_cons_succ] at hi hj
        rw [nodupB_spec h.2 hi hj]

theorem rgAll_get : ∀ {os : List Oper} {gs : List (Option (Tmp × Bool))} {ls : List (List Tmp)} {vs : List (Tmp × Know)}, rgAll P C K a os gs ls vs →
    ∀ {j : Nat} {o : Oper} {g : Option (Tmp × Bool)} {l : List Tmp} {t : Tmp} {V : Know}, os[j]? = some o → gs[j]? = some g → ls[j]? = some l → vs[j]? = some (t, V) →
    ∀ A w, C w → Known K a A w l → rgDo P V o A w g
  | o :: os, g :: gs, l :: ls, (t, V) :: vs, h, 0, _, _, _, _, _, h1, h2, h3, h4 => by
    simp at h1 h2 h3 h4
    obtain ⟨rfl, rfl⟩ := h4
    subst h1 h2 h3
    exact h.1
  | o :: os, g :: gs, l :: ls, (t, V) :: vs, h, j + 1, _, _, _, _, _, h1, h2, h3, h4 => by
    simp only [List.getElem?_cons_succ] at h1 h2 h3 h4
    exact rgAll_get h.2 h1 h2 h3 h4
  | [], _, _, _, _, _, _, _, _, _, _, h1, _, _, _ => by simp at h1
  | _ :: _, [], _, _, _, _, _, _, _, _, _, _, h2, _, _ => by simp at h2
  | _ :: _, _ :: _, [], _, _, _, _, _, _, _, _, _, _, h3, _ => by simp at h3
  | _ :: _, _ :: _, _ :: _, [], _, _, _, _, _, _, _, _, _, _, h4 => by simp at h4

theorem eval_put_same {A : Act} {t : Tmp} {v : Value} (h : t < A.tmps.size) : (A.put (some t) v).eval (.tmp t) = v := by
  simp [Act.eval, Act.put, h]
theorem eval_put_other {A : Act} {t s : Tmp} {v : Value} (h : t ≠ s) : (A.put (some t) v).eval (.tmp s) = A.eval (.tmp s) := by
  simp [Act.eval, Act.put, Array.getElem?_setIfInBounds_ne h]

/-- What holds between two operations. -/
structure RgInv (C : World → Prop) (K : List (Tmp × Know)) (a : Act) (listed : Array Bool) (A : Act) (w : World) : Prop where
  cls : C w
  defers : A.defers = a.defers
  size : A.tmps.size = a.tmps.size
  held : ∀ i t V, K[i]? = some (t, V) → listed.getD i true = true → V (A.eval (.tmp t)) w
  rest : ∀ t, (∀ i V, K[i]? = some (t, V) → listed.getD i true = false) → A.eval (.tmp t) = a.eval (.tmp t)

theorem lookup_mem : ∀ {K : List (Tmp × Know)} {t : Tmp} {V : Know}, K.lookup t = some V → ∃ i : Nat, K[i]? = some (t, V)
  | [], _, _, h => by simp at h
  | (s, U) :: r, t, V, h => by
    rw [List.lookup_cons] at h
    by_cases e : t == s
    · rw [e] at h
      simp at h e
      subst h e
      exact ⟨0, rfl⟩
    · simp only [Bool.not_eq_true] at e
      rw [e] at h
      obtain ⟨i, hi⟩ := lookup_mem h
      exact ⟨i + 1, by simpa using hi⟩
theorem lookup_none : ∀ {K : List (Tmp × Know)} {t : Tmp}, K.lookup t = none → ∀ (i : Nat) (V : Know), K[i]? ≠ some (t, V)
  | [], _, _, i, V => by simp
  | (s, U) :: r, t, h, i, V => by
    rw [List.lookup_cons] at h
    by_cases e : t == s
    · rw [e] at h; cases h
    · simp only [Bool.not_eq_true] at e
      rw [e] at h
      cases i with
      | zero =>
        intro h1
        simp at h1
        rw [h1.1] at e
        simp at e
      | succ i => simpa using lookup_none h i V

theorem known_of {listed : Array Bool} {A : Act} {w : World} (h : RgInv C K a listed A w) : ∀ (l : List Tmp), (∀ t ∈ l, ∀ i V, K[i]? = some (t, V) → listed.getD i true = true) → Known K a A w l
  | [], _ => trivial
  | t :: r, hl => by
    refine ⟨?_, known_of h r fun s hs => hl s (by simp [hs])⟩
    cases hk : K.lookup t with
    | some V =>
      obtain ⟨i, hi⟩ := lookup_mem hk
      exact h.held i t V hi (hl t (by simp) i V hi)
    | none => exact h.rest t fun i V hi => absurd hi (lookup_none hk i V)

theorem rgInv_put {listed : Array Bool} {A : Act} {w w' : World} {j : Nat} {t : Tmp} {V : Know} {v : Value} (h : RgInv C K a listed A w)
    (hCE : ∀ w w', C w → Below w.heap.size w w' → C w') (hst : ∀ p ∈ K, Stays p.2)
    (hnd : ∀ {i i' : Nat} {s : Tmp} {U U' : Know}, K[i]? = some (s, U) → K[i']? = some (s, U') → i = i') (hin : t < a.tmps.size) (hj : K[j]? = some (t, V)) (hjs : j < listed.size)
    (hb : Below w.heap.size w w') (hv : V v w') : RgInv C K a (listed.setIfInBounds j true) (A.put (some t) v) w' := by
  refine ⟨hCE _ _ h.cls hb, h.defers, by simpa [Act.put] using h.size, ?_, ?_⟩
  · intro i s U hi hl
    by_cases e : j = i
    · subst e
      rw [hj] at hi
      simp at hi
      obtain ⟨rfl, rfl⟩ := hi
      rw [eval_put_same (by rw [h.size]; exact hin)]
      exact hv
    · have hne : t ≠ s := fun e2 => e (hnd (by rw [e2] at hj; exact hj) hi)
      rw [eval_put_other hne]
      rw [getD_set_ne true e] at hl
      exact hst _ (List.mem_of_getElem? hi) _ _ _ (h.held i s U hi hl) hb
  · intro s hs
    have hne : t ≠ s := by
      intro e
      subst e
      have := hs j V hj
      simp [hjs] at this
    rw [eval_put_other hne]
    refine h.rest s fun i U hi => ?_
    have := hs i U hi
    by_cases e : j = i
    · subst e
      rw [hj] at hi
      simp at hi
      exact absurd hi.1 hne
    · rwa [getD_set_ne true e] at this

theorem rg_any {Q : Exit → Act → World → Prop} (hCE : ∀ w w', C w → Below w.heap.size w w' → C w') (hst : ∀ p ∈ K, Stays p.2)
    (hplan : rgPlan ops (K.map (·.1)) gs ls = true) (hin : (K.map (·.1)).all (fun t => decide (t < a.tmps.size)) = true)
    (hobl : rgAll P C K a ops.toList gs ls K)
    (hend : ∀ A w, (∀ listed : Array Bool, listed.size = ops.size → (∀ i, i < ops.size → listed.getD i true = true) → RgInv C K a listed A w → Q .normal A w)) :
    ∀ (fuel : Nat) (listed : Array Bool) (A : Act) (w : World), listed.size = ops.size → (List.range ops.size).countP (fun i => !listed.getD i true) ≤ fuel → RgInv C K a listed A w → wpAny P .any ops Q fuel listed A w := by
  simp only [rgPlan, Bool.and_eq_true, beq_iff_eq] at hplan
  obtain ⟨⟨⟨⟨⟨⟨⟨hsel, hlen⟩, hgs⟩, hls⟩, hnd0⟩, hdst⟩, hgd⟩, hord⟩ := hplan
  rw [List.all_eq_true] at hord hgd
  have hnd : ∀ {i i' : Nat} {s : Tmp} {U U' : Know}, K[i]? = some (s, U) → K[i']? = some (s, U') → i = i' := by
    intro i i' s U U' h1 h2
    exact nodupB_spec hnd0 (t := s) (by rw [List.getElem?_map, h1]; rfl) (by rw [List.getElem?_map, h2]; rfl)
  have hKlen : K.length = ops.size := by simpa using hlen.symm
  have allDone : ∀ listed : Array Bool, listed.size = ops.size → Region.ready .any ops listed = [] → ∀ i, i < ops.size → listed.getD i true = true := by
    intro listed hs hr i
    induction i using Nat.strongRecOn with
    | _ i ih =>
      intro hi
      cases hd : listed.getD i true with
      | true => rfl
      | false =>
        exfalso
        have : i ∈ Region.ready .any ops listed := by
          rw [mem_ready]
          refine ⟨hd, ops[i], Array.getElem?_eq_getElem hi, fun e he hb => ?_⟩
          have h1 := hord i (List.mem_range.2 hi)
          rw [Array.getElem?_eq_getElem hi] at h1
          simp only [Bool.and_eq_true] at h1
          have h2 := Array.all_eq_true_iff_forall_mem.1 h1.1 e he
          simp only [hb, Bool.not_true, Bool.false_or, decide_eq_true_eq] at h2
          have h3 := ih e.on h2 (by omega)
          have h4 : e.on < listed.size := by omega
          simpa [h4] using h3
        rw [hr] at this
        cases this
  intro fuel
  induction fuel with
  | zero =>
    intro listed A w hs hc hI
    have hall : ∀ i, i < ops.size → listed.getD i true = true := by
      intro i hi
      have := List.countP_eq_zero.1 (Nat.le_zero.1 hc) i (List.mem_range.2 hi)
      simpa using this
    refine ⟨?_, hend A w listed hs hall hI⟩
    rw [List.eq_nil_iff_forall_not_mem]
    intro i hi
    obtain ⟨h0, o, ho, _⟩ := mem_ready.1 hi
    rw [hall i (Array.getElem?_eq_some_iff.1 ho).1] at h0
    cases h0
  | succ fuel ih =>
    intro listed A w hs hc hI
    refine ⟨fun hr => hend A w listed hs (allDone listed hs hr) hI, fun j hj => ?_⟩
    obtain ⟨hjun, o, ho, hall⟩ := mem_ready.1 hj
    have hjlt : j < ops.size := (Array.getElem?_eq_some_iff.1 ho).1
    have hoL : ops.toList[j]? = some o := by simpa using ho
    obtain ⟨p, hp⟩ := has_get (l := K) (k := j) (by omega)
    obtain ⟨t, V⟩ := p
    have hod : o.dst = some t := by
      have h1 := congrArg (fun l => l[j]?) hdst
      simp only [List.getElem?_map, hoL, hp, Option.map_some, Option.some.injEq] at h1
      exact h1
    have hG : gs[j]? = some (guardSlot ops o) := by rw [hgs, List.getElem?_map, hoL]; rfl
    have hL : ls[j]? = some (o.looksAt ops) := by rw [hls, List.getElem?_map, hoL]; rfl
    have hK : Known K a A w (o.looksAt ops) := by
      refine known_of hI _ fun s hsl i U hi => ?_
      have h1 := hord j (List.mem_range.2 hjlt)
      rw [ho] at h1
      simp only [Bool.and_eq_true] at h1
      have h2 := List.all_eq_true.1 h1.2 s hsl
      have hidx : (K.map (·.1)).idxOf? s = some i := by
        have hmi : (K.map (·.1))[i]? = some s := by rw [List.getElem?_map, hi]; rfl
        cases hq : (K.map (·.1)).idxOf? s with
        | none =>
          rw [List.idxOf?_eq_none_iff] at hq
          exact absurd (List.mem_of_getElem? hmi) hq
        | some i' =>
          have hh := List.findIdx?_eq_some_iff_getElem.1 hq
          obtain ⟨hlt, heq, _⟩ := hh
          have : (K.map (·.1))[i']? = some s := by
            rw [List.getElem?_eq_getElem hlt]
            simpa using heq
          rw [nodupB_spec hnd0 hmi this]
      rw [hidx] at h2
      obtain ⟨e, he, hb⟩ := Array.any_eq_true'.1 h2
      simp only [Bool.and_eq_true, beq_iff_eq] at hb
      have h3 := hall e he hb.1
      rw [hb.2] at h3
      have hil : i < listed.size := by
        have := (List.getElem?_eq_some_iff.1 hi).1
        omega
      simpa [hil] using h3
    have hdo := rgAll_get hobl hoL hG hL hp A w hI.cls hK
    have hint : t < a.tmps.size := by
      have := List.all_eq_true.1 hin t (List.mem_map.2 ⟨(t, V), List.mem_of_getElem? hp, rfl⟩)
      simpa using this
    have next : ∀ v w', Below w.heap.size w w' → V v w' → wpAny P .any ops Q fuel (listed.setIfInBounds j true) (A.put (some t) v) w' := by
      intro v w' hb hv
      refine ih _ _ _ (by simpa using hs) ?_ (rgInv_put hI hCE hst hnd hint hp (by omega) hb hv)
      have hcount : (List.range ops.size).countP (fun i => !(listed.setIfInBounds j true).getD i true) < (List.range ops.size).countP (fun i => !listed.getD i true) := by
        have key : ∀ (l : List Nat), j ∈ l → l.Nodup → l.countP (fun i => !(listed.setIfInBounds j true).getD i true) < l.countP (fun i => !listed.getD i true) := by
          intro l
          induction l with
          | nil => intro h; cases h
          | cons x l ihl =>
            intro hm hn
            rw [List.nodup_cons] at hn
            by_cases e : j = x
            · subst e
              have h1 : l.countP (fun i => !(listed.setIfInBounds j true).getD i true) = l.countP (fun i => !listed.getD i true) := by
                refine List.countP_congr fun i hi => ?_
                have : j ≠ i := fun e => hn.1 (e ▸ hi)
                rw [getD_set_ne true this]
              rw [List.countP_cons, List.countP_cons, h1]
              have hjs : j < listed.size := by omega
              have h2 : (listed.setIfInBounds j true).getD j true = true := by simp [hjs]
              rw [h2, hjun]
              simp
            · rw [List.countP_cons, List.countP_cons, getD_set_ne true e]
              have := ihl ((List.mem_cons.1 hm).resolve_left e) hn.2
              omega
        exact key _ (List.mem_range.2 hjlt) List.nodup_range
      omega
    have upon : rgUpon P V w ((execOp A.eval o).run P w) → o.wp P A w (wpAny P .any ops Q fuel (listed.setIfInBounds j true)) Q := by
      intro hu
      unfold Oper.wp
      generalize (execOp A.eval o).run P w = r at *
      cases r with
      | ok n w' =>
        cases n <;> simp only [rgUpon] at hu <;> simp only [Oper.upon]
        case value v => rw [hod]; exact next v w' hu.1 hu.2
        case skip => rw [hod]; exact next undef w' hu.1 hu.2
        case enter f args =>
          obtain ⟨rfl, hc⟩ := hu
          refine Calls.mono hc fun e w'' he => ?_
          obtain ⟨v, rfl, hb, hv⟩ := he
          rw [hod]
          exact next v w'' hb hv
      | halt x w' => simp only [rgUpon] at hu
    unfold wpOp
    simp only [ho]
    cases hg : o.guard with
    | none =>
      have hw : Region.wanted o (yielded ops A.tmps) = true := by simp [Region.wanted, hg]
      rw [if_pos hw]
      have : guardSlot ops o = none := by simp [guardSlot, hg]
      rw [this] at hdo
      exact .inl (upon hdo)
    | some gw =>
      obtain ⟨g, b⟩ := gw
      have h1 := hgd o (by simpa using Array.mem_of_getElem? ho)
      simp only [hg] at h1
      obtain ⟨s, hs'⟩ := Option.isSome_iff_exists.1 h1
      have hgs' : guardSlot ops o = some (s, b) := by simp [guardSlot, hg, hs']
      rw [hgs'] at hdo
      obtain ⟨hy, hn⟩ := hdo
      have hwant : Region.wanted o (yielded ops A.tmps) = true ↔ A.eval (.tmp s) = .bool b := by
        unfold Region.wanted yielded
        simp only [hg, hs', Option.bind_some, Act.eval]
        cases hts : A.tmps[s]? with
        | none => simp [hts, undef]
        | some v => cases v <;> simp [hts]
      by_cases hw : Region.wanted o (yielded ops A.tmps) = true
      · rw [if_pos hw]
        exact .inl (upon (hy (hwant.1 hw)))
      · rw [if_neg hw, hod]
        exact next undef w (Below.refl _ _) (hn (fun h => hw (hwant.2 h)))

theorem rgFin_to {Q : Act → World → Prop} {A : Act} {w : World} (hC : C w) : ∀ (l : List (Tmp × Know)) (b : Act) (F : World → Prop), F w → (∀ p ∈ l, p.2 (A.eval (.tmp p.1)) w) → rgFin C Q l b F →
    Q (l.foldl (fun b p => b.put (some p.1) (A.eval (.tmp p.1))) b) w
  | [], b, F, hF, _, h => h w hC hF
  | (t, V) :: r, b, F, hF, hp, h => rgFin_to hC r (b.put (some t) (A.eval (.tmp t))) (fun w => F w ∧ V (A.eval (.tmp t)) w) ⟨hF, hp (t, V) (by simp)⟩ (fun p hm => hp p (by simp [hm])) (h (A.eval (.tmp t)))

theorem foldl_put {A : Act} : ∀ (l : List (Tmp × Know)) (b : Act), b.tmps.size = A.tmps.size → b.defers = A.defers →
    (l.foldl (fun b p => b.put (some p.1) (A.eval (.tmp p.1))) b).tmps.size = A.tmps.size ∧ (l.foldl (fun b p => b.put (some p.1) (A.eval (.tmp p.1))) b).defers = A.defers ∧
    ∀ s, (s ∈ l.map (·.1) ∨ b.eval (.tmp s) = A.eval (.tmp s)) → (l.foldl (fun b p => b.put (some p.1) (A.eval (.tmp p.1))) b).eval (.tmp s) = A.eval (.tmp s)
  | [], b, h1, h2 => ⟨h1, h2, fun s h => by simpa using h⟩
  | (t, V) :: r, b, h1, h2 => by
    have ih := foldl_put (A := A) r (b.put (some t) (A.eval (.tmp t))) (by simpa [Act.put] using h1) h2
    refine ⟨ih.1, ih.2.1, fun s hs => ih.2.2 s ?_⟩
    by_cases e : t = s
    · subst e
      right
      by_cases hlt : t < b.tmps.size
      · exact eval_put_same hlt
      · have h3 : ¬ t < A.tmps.size := by rw [← h1]; exact hlt
        have h4 : A.tmps[t]? = none := Array.getElem?_eq_none (Nat.le_of_not_lt h3)
        have h5 : ∀ v, (b.tmps.setIfInBounds t v)[t]? = none := fun v => Array.getElem?_eq_none (by simpa using Nat.le_of_not_lt hlt)
        simp only [Act.eval, Act.put, Array.getD_eq_getD_getElem?, h4, h5]
    · rcases hs with hs | hs
      · simp only [List.map_cons, List.mem_cons] at hs
        exact .inl (hs.resolve_left fun e2 => e e2.symm)
      · exact .inr (by rw [eval_put_other e]; exact hs)

theorem act_ext {A B : Act} (h1 : A.tmps.size = B.tmps.size) (h2 : A.defers = B.defers) (h3 : ∀ s, A.eval (.tmp s) = B.eval (.tmp s)) : A = B := by
  obtain ⟨ta, da⟩ := A
  obtain ⟨tb, db⟩ := B
  simp only at h1 h2
  subst h2
  congr 1
  apply Array.ext h1
  intro i hi hi'
  have := h3 i
  simpa [Act.eval, hi, hi'] using this

/-- THE RULE. -/
theorem wp_region_rg {id : Nat} {Q : Exit → Act → World → Prop} {w : World} (hm : P.follows .mixedOrders = true) (hC : C { w with drawn := w.drawn + 1 })
    (hCE : ∀ w w', C w → Below w.heap.size w w' → C w') (K : List (Tmp × Know)) (gs : List (Option (Tmp × Bool))) (ls : List (List Tmp)) (hst : ∀ p ∈ K, Stays p.2)
    (hplan : rgPlan ops (K.map (·.1)) gs ls = true) (hin : (K.map (·.1)).all (fun t => decide (t < a.tmps.size)) = true)
    (hobl : rgAll P C K a ops.toList gs ls K) (hfin : rgFin C (Q .normal) K a (fun _ => True)) : (Code.region id ops true).wp P Q a w := by
  refine wp_region_any hm ?_
  have hKlen : K.length = ops.size := by
    simp only [rgPlan, Bool.and_eq_true, beq_iff_eq] at hplan
    simpa using hplan.1.1.1.1.1.1.2.symm
  refine rg_any hCE hst hplan hin hobl ?_ ops.size (Array.replicate ops.size false) a _ (by simp) ?_ ?_
  · intro A w' listed hs hall hI
    have h1 := rgFin_to hI.cls K a (fun _ => True) trivial (fun p hp => by
      obtain ⟨i, hi⟩ := List.getElem?_of_mem hp
      exact hI.held i p.1 p.2 hi (hall i (by have := (List.getElem?_eq_some_iff.1 hi).1; omega))) hfin
    have h2 := foldl_put (A := A) K a hI.size.symm hI.defers.symm
    rw [act_ext h2.1 h2.2.1 (fun s => h2.2.2 s ?_)] at h1
    · exact h1
    · by_cases hm : s ∈ K.map (·.1)
      · exact .inl hm
      · right
        refine (hI.rest s fun i V hi => ?_).symm
        exact absurd (List.mem_map.2 ⟨(s, V), List.mem_of_getElem? hi, rfl⟩) hm
  · refine Nat.le_trans List.countP_le_length ?_
    simp
  · refine ⟨hC, rfl, rfl, ?_, fun _ _ => rfl⟩
    intro i t V hi hl
    have : i < ops.size := by have := (List.getElem?_eq_some_iff.1 hi).1; omega
    simp [this] at hl

theorem stays_all {vs : List Know} (h : vs.foldr (fun V p => Stays V ∧ p) True) : ∀ V ∈ vs, Stays V := by
  induction vs with
  | nil => intro V h; cases h
  | cons x r ih =>
    intro V hV
    rcases List.mem_cons.1 hV with rfl | hV
    · exact h.1
    · exact ih h.2 V hV

/-- The same, by a list that bears the slots from before the region, too. -/
def KnownL (K : List (Tmp × Know)) (A : Act) (w : World) : List Tmp → Prop
  | [] => True
  | t :: r => (match K.lookup t with | some V => V (A.eval (.tmp t)) w | none => True) ∧ KnownL K A w r
def rgAllL (P : Program) (C : World → Prop) (K : List (Tmp × Know)) : List Oper → List (Option (Tmp × Bool)) → List (List Tmp) → List (Tmp × Know) → Prop
  | o :: os, g :: gs, l :: ls, (_, V) :: vs => (∀ A w, C w → KnownL K A w l → rgDo P V o A w g) ∧ rgAllL P C K os gs ls vs
  | _, _, _, _ => True
def heldB (a : Act) (B : List (Tmp × Value)) : Prop := B.foldr (fun p q => a.tmps.getD p.1 undef = p.2 ∧ q) True
theorem heldB_mem {a : Act} : ∀ {B : List (Tmp × Value)}, heldB a B → ∀ p ∈ B, a.tmps.getD p.1 undef = p.2
  | [], _, p, hp => by cases hp
  | q :: r, h, p, hp => by
    rcases List.mem_cons.1 hp with rfl | hp
    · exact h.1
    · exact heldB_mem h.2 p hp
theorem lookup_append_some {K B : List (Tmp × Know)} {t : Tmp} {V : Know} (h : K.lookup t = some V) : (K ++ B).lookup t = some V := by
  rw [List.lookup_append, h]; rfl
theorem lookup_append_none {K B : List (Tmp × Know)} {t : Tmp} (h : K.lookup t = none) : (K ++ B).lookup t = B.lookup t := by
  rw [List.lookup_append, h]; rfl
theorem known_list {B : List (Tmp × Value)} (hB : heldB a B) {A : Act} {w : World} : ∀ {l : List Tmp}, Known K a A w l → KnownL (K ++ B.map fun p => (p.1, Is p.2)) A w l
  | [], _ => trivial
  | t :: r, h => by
    refine ⟨?_, known_list hB h.2⟩
    have h1 := h.1
    cases hk : K.lookup t with
    | some V => rw [lookup_append_some hk]; rw [hk] at h1; exact h1
    | none =>
      rw [lookup_append_none hk]
      rw [hk] at h1
      cases hb : (B.map fun p => (p.1, Is p.2)).lookup t with
      | none => trivial
      | some V =>
        obtain ⟨i, hi⟩ := lookup_mem hb
        obtain ⟨p, hp, he⟩ := List.mem_map.1 (List.mem_of_getElem? hi)
        simp only [Prod.mk.injEq] at he
        obtain ⟨rfl, rfl⟩ := he
        show A.eval (.tmp p.1) = p.2
        have h1' : A.eval (.tmp p.1) = a.eval (.tmp p.1) := h1
        rw [h1']
        exact heldB_mem hB p hp
theorem rgAll_list {B : List (Tmp × Value)} (hB : heldB a B) : ∀ {os : List Oper} {gs : List (Option (Tmp × Bool))} {ls : List (List Tmp)} {vs : List (Tmp × Know)},
    rgAllL P C (K ++ B.map fun p => (p.1, Is p.2)) os gs ls vs → rgAll P C K a os gs ls vs
  | o :: os, g :: gs, l :: ls, (t, V) :: vs, h => ⟨fun A w hC hK => h.1 A w hC (known_list hB hK), rgAll_list hB h.2⟩
  | [], _, _, _, _ => by simp [rgAll]
  | _ :: _, [], _, _, _ => by simp [rgAll]
  | _ :: _, _ :: _, [], _, _ => by simp [rgAll]
  | _ :: _, _ :: _, _ :: _, [], _ => by simp [rgAll]

/-- The rule, the slots and what is known of them in two lists. -/
theorem wp_region_rg' {id : Nat} {Q : Exit → Act → World → Prop} {l : List Oper} {a : Act} {w : World} (w0 : World) (hm : P.follows .mixedOrders = true) (hC : Below w0.heap.size w0 w)
    (ds : List Tmp) (vs : List Know) (B : List (Tmp × Value)) (gs : List (Option (Tmp × Bool))) (ls : List (List Tmp)) (hlen : ds.length = vs.length) (hst : vs.foldr (fun V p => Stays V ∧ p) True)
    (hplan : rgPlan l.toArray ds gs ls = true) (hin : ds.all (fun t => decide (t < a.tmps.size)) = true) (hB : heldB a B)
    (hobl : rgAllL P (fun w' => Below w0.heap.size w0 w') (ds.zip vs ++ B.map fun p => (p.1, Is p.2)) l gs ls (ds.zip vs)) (hfin : rgFin (fun w' => Below w0.heap.size w0 w') (Q .normal) (ds.zip vs) a (fun _ => True)) : (Code.region id l.toArray true).wp P Q a w := by
  have e : (ds.zip vs).map (·.1) = ds := List.map_fst_zip (by omega)
  exact wp_region_rg hm (Below.drew hC) (fun w w' h1 h2 => h1.trans (h2.mono h1.size)) (ds.zip vs) gs ls (fun p hp => stays_all hst p.2 (List.of_mem_zip hp).2) (by rw [e]; exact hplan) (by rw [e]; exact hin) (rgAll_list hB hobl) hfin
end
end Go.Proofs.Ytnekjbmhmpfkgaa
