/- The law IntakeAnswers holds for every input: all functions of the intake return what the chapter specifies, for any intakes, telegrams and streams of moderate length. No condition. -/
import Derived.Test.YtopmmodcaoaaeaaRows
import Derived.WalkKit
import Derived.ProofKit
import Derived.OpenShut
import Derived.ShutString
import Derived.ChangeOld
import Derived.Below
import Derived.SizedLaws
import Derived.Test.YtopmmodcaoaaeaaSyT
import Derived.Test.YtopmmodcaoaaeaaLib
import Derived.Test.YtopmmodcaoaaeaaInU
namespace Go.Proofs.Ytopmmodcaoaaeaa.intakeAnswers
open Go.ChangeShapes Go.WideShapes Go.ChangeAt Go.RowKit Sy
open Go.ChangeMaps (open_string shut_string)
set_option linter.unusedVariables false

theorem own : ownKnob Try.prog.godebug = none := by kernel_rfl
theorem laidOut : laidOutB Try.prog = true := by kernel_rfl

theorem walk (v0 v1 v2 v3 v4 : Value) (x0 x1 x2 x3 x4 : T) (w : World) (i0 : InSh (.st [.int .i64, .sl (.int .u8), .sl (.st [.int .i64, .int .i64, .int .i64, .sl (.st [.int .i64, .int .i64, .int .i64, .int .i64, .int .i64, .sl (.int .i64)])])]) x0) (i1 : InSh (.st [.int .i64, .int .i64, .int .i64, .int .i64, .int .i64, .sl (.int .i64)]) x1) (i2 : InSh (.sl (.int .u8)) x2) (i3 : InSh (.int .i64) x3) (i4 : InSh (.sl (.int .i64)) x4) (z0 : SzD x0) (z1 : SzD x1) (z2 : SzD x2) (z3 : SzD x3) (z4 : SzD x4) (r0 : RepS (lawG w) w (.t x0) v0) (r1 : RepS (lawG w) w (.t x1) v1) (r2 : RepS (lawG w) w (.t x2) v2) (r3 : RepS (lawG w) w (.t x3) v3) (r4 : RepS (lawG w) w (.t x4) v4) :
    Calls Try.prog 6 #[v0, v1, v2, v3, v4] w fun e w' => e = .returned (.bool true) ∧ Below w.heap.size w w' :=
  law_run (us := [v0, v1, v2, v3, v4]) (inAnswers_all x0 x1 x2 x3 x4 i0 i1 i2 i3 i4 z0 z1 z2 z3 z4) (reps_cons r0 (reps_cons r1 (reps_cons r2 (reps_cons r3 (reps_cons r4 reps_nil)))))

set_option maxRecDepth 100000 in
theorem lifted (os : Os) (started : os.Started) (H : Type) (enc : TypeId × Value → H) :
    ReturnsInHanded {} Try.checked os 6 .any (Rows.intakeAnswersSpec.pre6 enc Try.prog Try.f6 Rows.intakeAnswersRow.domain false) (Rows.intakeAnswersSpec.post enc Try.prog Try.f6 false true false false) := by
  refine returnsInHanded_of_change_sized (C := Try.checked) own started (by kernel_rfl) Try.func6
    (ChangeSpec.witness6 (enc := enc) (C := Try.checked) false ⟨#[], #[.agg #[.int .i64 0, .slice none 0 0, .slice none 0 0], .agg #[.int .i64 0, .int .i64 0, .int .i64 0, .int .i64 0, .int .i64 0, .slice none 0 0], .slice none 0 0, .int .i64 0, .slice none 0 0], []⟩ 8 (by kernel_rfl) (by kernel_rfl) (by kernel_rfl) (by kernel_rfl)) ?_
  intro W base args ds gs before hval0 hW hcnd hzz _
  have hval : ∀ (j : Nat) t v, Try.f6.params[j]? = some t → args[j]? = some v → Value.okWide Try.prog W .any base t v := hval0
  have hW' := hW
  obtain ⟨p, q, hA0, hV, rfl, hfz, hnd⟩ := hW
  have hA : DataW.TrodAll enc Try.prog W 0 (fun _ => true) true Try.f6.params.toList args.toList ds p := hA0
  rw [Try.params6] at hA hval
  obtain ⟨v0, vs0, d0, ds0, p0, q0, hargs, rfl, rfl, h0, r0⟩ := trodAll_cons hA
  obtain ⟨v1, vs1, d1, ds1, p1, q1, rfl, rfl, rfl, h1, r1⟩ := trodAll_cons r0
  obtain ⟨v2, vs2, d2, ds2, p2, q2, rfl, rfl, rfl, h2, r2⟩ := trodAll_cons r1
  obtain ⟨v3, vs3, d3, ds3, p3, q3, rfl, rfl, rfl, h3, r3⟩ := trodAll_cons r2
  obtain ⟨v4, vs4, d4, ds4, p4, q4, rfl, rfl, rfl, h4, r4⟩ := trodAll_cons r3
  obtain ⟨rfl, rfl, rfl⟩ := trodAll_nil r4
  obtain rfl : args = #[v0, v1, v2, v3, v4] := by cases args; simp_all
  obtain ⟨rfl, rfl⟩ := trodVars_none hV
  have lt0 : ∀ x ∈ p0, x.block < W.heap.size := by obtain ⟨m, hm⟩ := h0; exact DataW.trod_lt m _ _ _ hm
  obtain ⟨x0, e0, s0, z0⟩ := open_any (.st [.int .i64, .sl (.int .u8), .sl (.st [.int .i64, .int .i64, .int .i64, .sl (.st [.int .i64, .int .i64, .int .i64, .int .i64, .int .i64, .sl (.int .i64)])])]) (by kernel_rfl) (hval 0 29 v0 rfl rfl) h0
  have lt1 : ∀ x ∈ p1, x.block < W.heap.size := by obtain ⟨m, hm⟩ := h1; exact DataW.trod_lt m _ _ _ hm
  obtain ⟨x1, e1, s1, z1⟩ := open_any (.st [.int .i64, .int .i64, .int .i64, .int .i64, .int .i64, .sl (.int .i64)]) (by kernel_rfl) (hval 1 38 v1 rfl rfl) h1
  have lt2 : ∀ x ∈ p2, x.block < W.heap.size := by obtain ⟨m, hm⟩ := h2; exact DataW.trod_lt m _ _ _ hm
  obtain ⟨x2, e2, s2, z2⟩ := open_any (.sl (.int .u8)) (by kernel_rfl) (hval 2 26 v2 rfl rfl) h2
  have lt3 : ∀ x ∈ p3, x.block < W.heap.size := by obtain ⟨m, hm⟩ := h3; exact DataW.trod_lt m _ _ _ hm
  obtain ⟨x3, e3, s3, z3⟩ := open_any (.int .i64) (by kernel_rfl) (hval 3 3 v3 rfl rfl) h3
  have lt4 : ∀ x ∈ p4, x.block < W.heap.size := by obtain ⟨m, hm⟩ := h4; exact DataW.trod_lt m _ _ _ hm
  obtain ⟨x4, e4, s4, z4⟩ := open_any (.sl (.int .i64)) (by kernel_rfl) (hval 4 22 v4 rfl rfl) h4
  rw [Try.params6] at hzz
  simp only [List.cons_append, List.nil_append, List.append_nil, DataW.weightsEach, List.all_append, Bool.and_eq_true] at hzz
  have zz0 := hzz.1
  have zz1 := hzz.2.1
  have zz2 := hzz.2.2.1
  have zz3 := hzz.2.2.2.1
  have zz4 := hzz.2.2.2.2.1
  clear hA0 hval0
  refine (walk v0 v1 v2 v3 v4 x0 x1 x2 x3 x4 W e0 e1 e2 e3 e4 (z0 zz0).2 (z1 zz1).2 (z2 zz2).2 (z3 zz3).2 (z4 zz4).2 s0 s1 s2 s3 s4).mono fun e W' ⟨he, bel⟩ => ?_
  subst he
  exact ⟨_, rfl, _, _, _, [], _, [], hW', trodAll_mk1 (shut_bool Try.underlying4 _), (trodAll_cons_mk (Below.trod laidOut (by kernel_rfl) (of_decide_eq_true (by kernel_rfl)) h0 bel lt0) (trodAll_cons_mk (Below.trod laidOut (by kernel_rfl) (of_decide_eq_true (by kernel_rfl)) h1 bel lt1) (trodAll_cons_mk (Below.trod laidOut (by kernel_rfl) (of_decide_eq_true (by kernel_rfl)) h2 bel lt2) (trodAll_cons_mk (Below.trod laidOut (by kernel_rfl) (of_decide_eq_true (by kernel_rfl)) h3 bel lt3) (trodAll_cons_mk (Below.trod laidOut (by kernel_rfl) (of_decide_eq_true (by kernel_rfl)) h4 bel lt4) trodAll_mk0))))), rfl, bel.frame _, fun h => by cases h⟩

theorem over : Rows.intakeAnswersRow.holds Try.pinned (OpenSpec.ofChange Rows.intakeAnswersSpec) :=
  OpenClaim.holds_of_wide 6 Try.f6 rfl rfl rfl rfl rfl rfl rfl ⟨rfl, rfl, rfl, rfl, rfl⟩ rfl rfl rfl rfl rfl (by kernel_rfl) Try.func6 (by kernel_rfl)
    (of_decide_eq_true (by kernel_rfl)) (by unfold Func.isWrapper; first | (rw [if_pos (by decide +kernel)]; kernel_rfl) | (rw [if_neg (by decide +kernel)]; exact ⟨rfl, rfl⟩))
    (fun os started H enc _ => lifted os started H enc)

theorem proved : Rows.IntakeAnswersSaid := over
#print axioms proved
end Go.Proofs.Ytopmmodcaoaaeaa.intakeAnswers
