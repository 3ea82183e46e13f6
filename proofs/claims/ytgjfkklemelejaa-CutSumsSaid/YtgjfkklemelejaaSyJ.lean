/- Symbolic execution of code: regions, branches, loops, functions and their calls. No condition. -/
import Derived.Test.YtgjfkklemelejaaSyI
namespace Go.Proofs.Ytgjfkklemelejaa.Sy
open Go.RowKit
set_option linter.unusedVariables false
set_option linter.unusedSimpArgs false

def lab (o : Oper) : Nat := 100 + (match o.dst with | some t => t | none => 0)
def nwOk (σ : St) : List Nat → Bool
  | [] => true
  | l :: r => allFreeS l σ.g && allFreeB l σ.h && nwOk σ r
def KN (σ : St) (dst : Option Tmp) (acc : List (Option Eff)) (rest : St → List (Option Eff) → Prop) (E : Eff) : Prop := nwOk σ E.nw = true ∧ rest ⟨putS dst E.r σ.g, updB E.u σ.h⟩ (some E :: acc)
def gslot (all : List Oper) (j : Nat) : Option Tmp := match all[j]? with
  | some o => o.dst
  | none => none
def opsK (P : Program) (all : List Oper) (K : St → List (Option Eff) → Prop) : List Oper → St → List (Option Eff) → Prop
  | [], σ, acc => K σ acc
  | o :: r, σ, acc => match o.guard with
    | none => opK P o.op (lab o) (rdS (lkS σ.g)) (lkB σ.h) (KN σ o.dst acc (opsK P all K r))
    | some (j, b) => match gslot all j with
      | some t => match lkS σ.g t with
        | .t (.lit (.bool c)) => if c = b then opK P o.op (lab o) (rdS (lkS ((t, .t (.bool b)) :: σ.g))) (lkB σ.h) (KN ⟨(t, .t (.bool b)) :: σ.g, σ.h⟩ o.dst acc (opsK P all K r))
            else opsK P all K r ⟨putS o.dst (.tup []) ((t, .t (.bool (!b))) :: σ.g), σ.h⟩ (none :: acc)
        | .tup [] => opsK P all K r ⟨putS o.dst (.tup []) σ.g, σ.h⟩ (none :: acc)
        | _ => False
      | none => False

theorem lkS_again {g : List (Nat × S)} {t : Nat} {s : S} (h : lkS g t = s) : lkS ((t, s) :: g) = lkS g := by
  funext k
  simp only [lkS]
  split
  · subst_vars; rfl
  · rfl
theorem nwOk_spec {σ : St} : ∀ {ls : List Nat}, nwOk σ ls = true → ∀ l ∈ ls, Fresh (lkS σ.g) (lkB σ.h) l
  | [], _, l, hl => by cases hl
  | k :: r, h, l, hl => by
    simp only [nwOk, Bool.and_eq_true] at h
    rcases List.mem_cons.1 hl with rfl | hl
    · have := allFreeB_spec h.1.2
      exact ⟨this.1, allFreeS_spec h.1.1, this.2⟩
    · exact nwOk_spec h.2 l hl

section
variable {N : Nat} {P : Program}
theorem opsK_spec {all : List Oper} {K : St → List (Option Eff) → Prop} : ∀ {r : List Oper} {σ : St} {acc : List (Option Eff)}, (∀ o ∈ r, ∀ t, o.dst = some t → t < N) → opsK P all K r σ acc →
    ∃ es σ', Chain N P all r (lkS σ.g) (lkB σ.h) es (lkS σ'.g) (lkB σ'.h) ∧ K σ' (es.reverse ++ acc)
  | [], σ, acc, _, hk => ⟨[], σ, .nil _ _, hk⟩
  | o :: r, σ, acc, hN, hk => by
    have hdst : ∀ t, o.dst = some t → t < N := hN o (by simp)
    have hlab : 100 ≤ lab o := by unfold lab; omega
    have hrest := fun o' ho' => hN o' (List.mem_cons_of_mem _ ho')
    simp only [opsK] at hk
    have run : ∀ σ2 : St, lkS σ2.g = lkS σ.g → σ2.h = σ.h → (∀ E, Does N P o (rdS (lkS σ.g)) (lkB σ.h) E → Step1 N P all o (lkS σ.g) (lkB σ.h) (some E)) →
        opK P o.op (lab o) (rdS (lkS σ2.g)) (lkB σ2.h) (KN σ2 o.dst acc (opsK P all K r)) → ∃ es σ', Chain N P all (o :: r) (lkS σ.g) (lkB σ.h) es (lkS σ'.g) (lkB σ'.h) ∧ K σ' (es.reverse ++ acc) := by
      intro σ2 hg hh hst hk
      obtain ⟨E, h1, h2, h3, h4⟩ := opK_spec (N := N) (o := o) hk
      obtain ⟨es, σ', h5, h6⟩ := opsK_spec hrest h4
      rw [lkS_putS, hg] at h5
      have hu : lkB (updB E.u σ2.h) = hupd E.u (lkB σ.h) := by funext k; rw [lkB_updB, hh]
      rw [hu] at h5
      rw [hg, hh] at h1
      refine ⟨some E :: es, σ', .cons o r _ _ (some E) es _ _ (hst E h1) ?_ h5, by simpa using h6⟩
      intro l hl
      have hf := nwOk_spec h3 l hl
      rw [hg, hh] at hf
      refine ⟨?_, hf⟩
      rcases h2 l hl with h7 | h7
      · omega
      · exact h7
    cases hg : o.guard with
    | none =>
      rw [hg] at hk
      exact run σ rfl rfl (fun E hE => ⟨hdst, by rw [hg]; exact ⟨E, rfl, hE⟩⟩) hk
    | some q =>
      obtain ⟨j, b⟩ := q
      rw [hg] at hk
      simp only at hk
      unfold gslot at hk
      split at hk
      · rename_i t0 t ht
        split at hk
        · rename_i c hc
          obtain ⟨oj, hoj, htj⟩ : ∃ oj, all[j]? = some oj ∧ oj.dst = some t := by
            split at ht
            · rename_i oj hoj
              exact ⟨oj, hoj, ht⟩
            · cases ht
          split at hk
          · rename_i hcb
            subst hcb
            refine run ⟨(t, .t (.bool c)) :: σ.g, σ.h⟩ (lkS_again hc) rfl (fun E hE => ⟨hdst, ?_⟩) hk
            rw [hg]
            exact ⟨oj, t, some c, hoj, htj, hc, .inl ⟨rfl, E, rfl, hE⟩⟩
          · rename_i hcb
            have hc' : lkS σ.g t = .t (.bool (!b)) := by
              rw [hc]; cases c <;> cases b <;> first | rfl | exact (hcb rfl).elim
            obtain ⟨es, σ', h5, h6⟩ := opsK_spec hrest hk
            rw [lkS_putS, lkS_again hc'] at h5
            refine ⟨none :: es, σ', .cons o r _ _ none es _ _ ⟨hdst, ?_⟩ (by simp [eff, deadE]) h5, by simpa using h6⟩
            rw [hg]
            exact ⟨oj, t, some c, hoj, htj, hc, .inr ⟨fun h => hcb (Option.some.inj h), rfl⟩⟩
        · rename_i hc
          obtain ⟨es, σ', h5, h6⟩ := opsK_spec hrest hk
          rw [lkS_putS] at h5
          obtain ⟨oj, hoj, htj⟩ : ∃ oj, all[j]? = some oj ∧ oj.dst = some t := by
            split at ht
            · rename_i oj hoj
              exact ⟨oj, hoj, ht⟩
            · cases ht
          refine ⟨none :: es, σ', .cons o r _ _ none es _ _ ⟨hdst, ?_⟩ (by simp [eff, deadE]) h5, by simpa using h6⟩
          rw [hg]
          exact ⟨oj, t, none, hoj, htj, hc, .inr ⟨by simp, rfl⟩⟩
        · exact hk.elim
      · exact hk.elim
end

/-! ### Code -/
def okOps (N : Nat) (ops : List Oper) : Bool := ops.all fun o => match o.dst with | some t => decide (t < N) | none => true
def okCode (N : Nat) : Code → Bool
  | .region _ ops _ => okOps N ops.toList
  | .seq a b => okCode N a && okCode N b
  | .cond _ a b => okCode N a && okCode N b
  | .block _ c => okCode N c
  | .loop c => okCode N c
  | .scope c => okCode N c
  | _ => true

/-- From every frame and world that are as the state says, the code comes to an end that is as Q says. -/
def CW (N : Nat) (P : Program) (c : Code) (Q : Exit → St → Prop) (σ : St) : Prop :=
  P.follows .mixedOrders = true → okCode N c = true → ∀ (W : World) (G0 : Gh) (A : Nat → Prop) (a : Act) (w : World), Sat N W G0 A σ a w → c.wp P (fun e a' w' => ∃ σ', Q e σ' ∧ Sat N W G0 A σ' a' w') a w

def SeqQ (F : St → Prop) (Q : Exit → St → Prop) (e : Exit) (σ : St) : Prop := match e with
  | .normal => F σ
  | e => Q e σ
def BlockQ (id : Nat) (Q : Exit → St → Prop) (e : Exit) (σ : St) : Prop := match e with
  | .exit i => if i = id then Q .normal σ else Q (.exit i) σ
  | e => Q e σ
def PlainK (F : St → Prop) (σ : St) (acc : List (Option Eff)) : Prop := F σ
def nwsOk (σ : St) : List (Option Eff) → Bool
  | [] => true
  | e :: r => nwOk σ (eff e).nw && nwsOk σ r
def DrawChk (ops : List Oper) (σ0 : St) (acc : List (Option Eff)) : Prop := (drawOk ops acc.reverse && nwsOk σ0 acc) = true
def DrawK (ops : List Oper) (σ0 : St) (F : St → Prop) (σ : St) (acc : List (Option Eff)) : Prop := DrawChk ops σ0 acc ∧ F σ

def firstReg : Code → Option Nat
  | .region id _ _ => some id
  | .seq a _ => firstReg a
  | .block _ c => firstReg c
  | .loop c => firstReg c
  | .scope c => firstReg c
  | .skip => none
  | .cond _ _ _ => none
  | .exit _ => none
  | .ret => none
  | .rangeFunc _ _ _ _ => none
  | .label _ => none
  | .goto _ => none
  | .refuse _ => none
def stops (l : List Nat) (c : Code) : Bool := match firstReg c with
  | some i => l.contains i
  | none => false

/-- What is asked for the code, as far as the first loop or the first region of the list. -/
def nf (N : Nat) (P : Program) (stop : List Nat) : Code → (Exit → St → Prop) → St → Prop
  | .skip, Q, σ => Q .normal σ
  | .region id ops false, Q, σ => opsK P ops.toList (PlainK (Q .normal)) ops.toList σ []
  | .region id ops true, Q, σ => opsK P ops.toList (DrawK ops.toList σ (Q .normal)) ops.toList σ []
  | .seq a b, Q, σ => if stops stop a = true then CW N P (.seq a b) Q σ else nf N P stop a (SeqQ (nf N P stop b Q) Q) σ
  | .cond c x y, Q, σ => match rdS (lkS σ.g) c with
    | .t (.lit (.bool v)) => if v = true then nf N P stop x Q σ else nf N P stop y Q σ
    | _ => False
  | .block id c, Q, σ => nf N P stop c (BlockQ id Q) σ
  | .exit id, Q, σ => Q (.exit id) σ
  | .ret, Q, σ => Q .ret σ
  | .loop c, Q, σ => CW N P (.loop c) Q σ
  | .rangeFunc f ps a b, Q, σ => CW N P (.rangeFunc f ps a b) Q σ
  | .scope c, Q, σ => CW N P (.scope c) Q σ
  | .label l, Q, σ => CW N P (.label l) Q σ
  | .goto l, Q, σ => CW N P (.goto l) Q σ
  | .refuse w, Q, σ => CW N P (.refuse w) Q σ

/-- One step of the code. -/
def nf1 (N : Nat) (P : Program) : Code → (Exit → St → Prop) → St → Prop
  | .skip, Q, σ => Q .normal σ
  | .region _ ops false, Q, σ => opsK P ops.toList (PlainK (Q .normal)) ops.toList σ []
  | .region _ ops true, Q, σ => opsK P ops.toList (DrawK ops.toList σ (Q .normal)) ops.toList σ []
  | .seq a b, Q, σ => nf1 N P a (SeqQ (CW N P b Q) Q) σ
  | .cond c x y, Q, σ => match rdS (lkS σ.g) c with
    | .t (.lit (.bool v)) => if v = true then CW N P x Q σ else CW N P y Q σ
    | _ => False
  | .block id c, Q, σ => nf1 N P c (BlockQ id Q) σ
  | .exit id, Q, σ => Q (.exit id) σ
  | .ret, Q, σ => Q .ret σ
  | .loop c, Q, σ => CW N P (.loop c) Q σ
  | .rangeFunc f ps a b, Q, σ => CW N P (.rangeFunc f ps a b) Q σ
  | .scope c, Q, σ => CW N P (.scope c) Q σ
  | .label l, Q, σ => CW N P (.label l) Q σ
  | .goto l, Q, σ => CW N P (.goto l) Q σ
  | .refuse w, Q, σ => CW N P (.refuse w) Q σ
def goes : Code → Bool
  | .skip => true
  | .region _ _ _ => true
  | .seq a _ => goes a
  | .cond _ _ _ => true
  | .block _ c => goes c
  | .exit _ => true
  | .ret => true
  | _ => false

section
variable {N : Nat} {P : Program} {Q Q' : Exit → St → Prop}
theorem CW.mono {c : Code} {σ : St} (h : CW N P c Q σ) (hq : ∀ e σ, Q e σ → Q' e σ) : CW N P c Q' σ := by
  intro hm hc W G0 A a w hs
  exact wp_mono (h hm hc W G0 A a w hs) fun e a w ⟨σ', h1, h2⟩ => ⟨σ', hq e σ' h1, h2⟩
theorem CW.seq {x y : Code} {σ : St} (h : CW N P x (SeqQ (CW N P y Q) Q) σ) : CW N P (.seq x y) Q σ := by
  intro hm hc W G0 A a w hs
  simp only [okCode, Bool.and_eq_true] at hc
  refine wp_seq (wp_mono (h hm hc.1 W G0 A a w hs) ?_)
  rintro e a w ⟨σ', h1, h2⟩
  cases e <;> first | exact h1 hm hc.2 W G0 A a w h2 | exact ⟨σ', h1, h2⟩
theorem okOps_spec {ops : List Oper} (h : okOps N ops = true) : ∀ o ∈ ops, ∀ t, o.dst = some t → t < N := by
  intro o ho t ht
  unfold okOps at h
  rw [List.all_eq_true] at h
  have := h o ho
  rw [ht] at this
  simpa using this
theorem okOps_get {ops : List Oper} (h : okOps N ops = true) {j : Nat} {o : Oper} {t : Nat} (hj : ops[j]? = some o) (ht : o.dst = some t) : t < N := okOps_spec h o (List.mem_of_getElem? hj) t ht
theorem CW.region {id : Nat} {ops : Array Oper} {σ : St} (h : opsK P ops.toList (PlainK (Q .normal)) ops.toList σ []) : CW N P (.region id ops false) Q σ := by
  intro hm hc W G0 A a w hs
  obtain ⟨G, hs⟩ := hs
  simp only [okCode] at hc
  obtain ⟨es, σ', h1, h2⟩ := opsK_spec (okOps_spec hc) h
  exact wp_region_chain (fun j oj t hj ht => okOps_get hc (by simpa using hj) ht) h1 (fun G a w hs' => ⟨σ', h2, G, hs'⟩) hs
theorem nwsOk_spec {σ : St} : ∀ {es : List (Option Eff)}, nwsOk σ es = true → ∀ e ∈ es, ∀ l ∈ (eff e).nw, Fresh (lkS σ.g) (lkB σ.h) l
  | [], _, e, he => by cases he
  | x :: r, h, e, he => by
    simp only [nwsOk, Bool.and_eq_true] at h
    rcases List.mem_cons.1 he with rfl | he
    · exact nwOk_spec h.1
    · exact nwsOk_spec h.2 e he
theorem chain_nw {all : List Oper} : ∀ {r : List Oper} {g g' : Nat → S} {h h' : Nat → Option Blk} {es : List (Option Eff)}, Chain N P all r g h es g' h' → ∀ e ∈ es, ∀ l ∈ (eff e).nw, 100 ≤ l
  | [], _, _, _, _, _, hc, e, he => by cases hc; cases he
  | o :: r, _, _, _, _, _, hc, e, he => by
    cases hc with
    | cons _ _ _ _ e' es _ _ hst hn hr =>
      rcases List.mem_cons.1 he with rfl | he
      · exact fun l hl => (hn l hl).1
      · exact chain_nw hr e he
theorem CW.draws {id : Nat} {ops : Array Oper} {σ : St} (h : opsK P ops.toList (DrawK ops.toList σ (Q .normal)) ops.toList σ []) : CW N P (.region id ops true) Q σ := by
  intro hm hc W G0 A a w hs
  obtain ⟨G, hs⟩ := hs
  simp only [okCode] at hc
  obtain ⟨es, σ', h1, h2, h3⟩ := opsK_spec (okOps_spec hc) h
  simp only [DrawChk, List.append_nil, List.reverse_reverse, Bool.and_eq_true] at h2
  have := wp_region_draws (id := id) (Q := fun e a' w' => ∃ σ', Q e σ' ∧ Sat N W G0 A σ' a' w') hm (fun j oj t hj ht => okOps_get hc hj ht) h1 h2.1
    (fun e he l hl => ⟨chain_nw h1 e he l hl, nwsOk_spec h2.2 e (by simpa using he) l hl⟩) (fun G a w hs' => ⟨σ', h3, G, hs'⟩) hs
  exact this
theorem CW.cond {c : Operand} {x y : Code} {σ : St} {v : Bool} (hc : rdS (lkS σ.g) c = .t (.lit (.bool v))) (h : if v = true then CW N P x Q σ else CW N P y Q σ) : CW N P (.cond c x y) Q σ := by
  intro hm hok W G0 A a w hs
  simp only [okCode, Bool.and_eq_true] at hok
  obtain ⟨G, hs'⟩ := hs
  have h1 := hs'.eval c
  rw [hc] at h1
  unfold RepS at h1; unfold Rep at h1
  refine wp_cond h1.1 ?_
  cases v
  · exact h hm hok.2 W G0 A a w ⟨G, hs'⟩
  · exact h hm hok.1 W G0 A a w ⟨G, hs'⟩
theorem CW.block {id : Nat} {c : Code} {σ : St} (h : CW N P c (BlockQ id Q) σ) : CW N P (.block id c) Q σ := by
  intro hm hc W G0 A a w hs
  simp only [okCode] at hc
  refine wp_block (wp_mono (h hm hc W G0 A a w hs) ?_)
  rintro e a w ⟨σ', h1, h2⟩
  cases e with
  | exit i =>
    simp only [BlockQ] at h1
    simp only [Exit.inBlock]
    split
    · rename_i e; rw [if_pos e] at h1; exact ⟨σ', h1, h2⟩
    · rename_i e; rw [if_neg e] at h1; exact ⟨σ', h1, h2⟩
  | _ => exact ⟨σ', h1, h2⟩

theorem nf_sound (stop : List Nat) : ∀ (c : Code) (Q : Exit → St → Prop) (σ : St), nf N P stop c Q σ → CW N P c Q σ
  | .skip, Q, σ, h => fun _ _ W G0 A a w hs => wp_skip ⟨σ, h, hs⟩
  | .region id ops false, Q, σ, h => CW.region h
  | .region id ops true, Q, σ, h => CW.draws h
  | .seq x y, Q, σ, h => by
    simp only [nf] at h
    split at h
    · exact h
    · refine CW.seq ((nf_sound stop x _ σ h).mono ?_)
      intro e σ' hq
      cases e <;> first | exact nf_sound stop y Q σ' hq | exact hq
  | .cond c x y, Q, σ, h => by
    simp only [nf] at h
    split at h
    · rename_i v hc
      refine CW.cond hc ?_
      split at h
      · rename_i hv; rw [if_pos hv]; exact nf_sound stop x Q σ h
      · rename_i hv; rw [if_neg hv]; exact nf_sound stop y Q σ h
    · exact h.elim
  | .block id c, Q, σ, h => CW.block (nf_sound stop c _ σ h)
  | .exit id, Q, σ, h => fun _ _ W G0 A a w hs => wp_exit ⟨σ, h, hs⟩
  | .ret, Q, σ, h => fun _ _ W G0 A a w hs => wp_ret ⟨σ, h, hs⟩
  | .loop c, Q, σ, h => h
  | .rangeFunc _ _ _ _, Q, σ, h => h
  | .scope c, Q, σ, h => h
  | .label _, Q, σ, h => h
  | .goto _, Q, σ, h => h
  | .refuse _, Q, σ, h => h

theorem nf1_sound' : ∀ (c : Code) (Q : Exit → St → Prop) (σ : St), nf1 N P c Q σ → CW N P c Q σ
  | .skip, Q, σ, h => fun _ _ W G0 A a w hs => wp_skip ⟨σ, h, hs⟩
  | .region id ops false, Q, σ, h => CW.region h
  | .region id ops true, Q, σ, h => CW.draws h
  | .seq x y, Q, σ, h => by
    simp only [nf1] at h
    exact CW.seq (nf1_sound' x _ σ h)
  | .cond c x y, Q, σ, h => by
    simp only [nf1] at h
    split at h
    · rename_i v hc
      exact CW.cond hc h
    · exact h.elim
  | .block id c, Q, σ, h => CW.block (nf1_sound' c _ σ h)
  | .exit id, Q, σ, h => fun _ _ W G0 A a w hs => wp_exit ⟨σ, h, hs⟩
  | .ret, Q, σ, h => fun _ _ W G0 A a w hs => wp_ret ⟨σ, h, hs⟩
  | .loop c, Q, σ, h => h
  | .rangeFunc _ _ _ _, Q, σ, h => h
  | .scope c, Q, σ, h => h
  | .label _, Q, σ, h => h
  | .goto _, Q, σ, h => h
  | .refuse _, Q, σ, h => h
theorem nf1_sound {c : Code} {σ : St} (hg : goes c = true) (h : nf1 N P c Q σ) : CW N P c Q σ := nf1_sound' c Q σ h
end
end Go.Proofs.Ytgjfkklemelejaa.Sy
