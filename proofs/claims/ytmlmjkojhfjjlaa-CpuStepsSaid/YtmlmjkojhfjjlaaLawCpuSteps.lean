/- CpuSteps: the row: whatever the arguments, the law answers true, and the arguments read as before. -/
import Derived.Test.YtmlmjkojhfjjlaaOpen
import Derived.Test.YtmlmjkojhfjjlaaOpenI
import Derived.Test.YtmlmjkojhfjjlaaCpuSteps
namespace Go.Proofs.Ytmlmjkojhfjjlaa.cpuSteps
set_option linter.unusedVariables false
set_option linter.unusedSimpArgs false
open Go.ChangeShapes Go.WideShapes Go.ChangeAt Go.RowKit Go.Joins
open Go.ChangeMaps (open_string shut_string)
set_option maxRecDepth 100000 in
theorem lifted (os : Os) (started : os.Started) (H : Type) (enc : TypeId × Value → H) :
    ReturnsInHanded {} Try.checked os 13 .any (Rows.cpuStepsSpec.pre6 enc Try.prog Try.f13 Rows.cpuStepsRow.domain false) (Rows.cpuStepsSpec.post enc Try.prog Try.f13 false true false false) := by
  refine returnsInHanded_of_change_sized (C := Try.checked) own_knob started (by kernel_rfl) Try.func13
    (ChangeSpec.witness6 (enc := enc) (C := Try.checked) false ⟨#[], #[.agg #[.int .i64 0, .bool false, .bool false, .int .i64 0, .int .i64 0, .int .i64 0, .int .i64 0, .int .i64 0], .slice none 0 0, .string ⟨#[]⟩], []⟩ 8 (by kernel_rfl) (by kernel_rfl) (by kernel_rfl) (by kernel_rfl)) ?_
  intro W base args ds gs before hval0 hW hcnd hsz0 _
  have hval : ∀ (j : Nat) t v, Try.f13.params[j]? = some t → args[j]? = some v → Value.okWide Try.prog W .any base t v := hval0
  have hW' := hW
  obtain ⟨p, q, hA0, hV, rfl, hfz, hnd⟩ := hW
  have hA : DataW.TrodAll enc Try.prog W 0 (fun _ => true) true Try.f13.params.toList args.toList ds p := hA0
  rw [Try.params13] at hA hval
  have hSz := Lib.hid hsz0
  clear hsz0
  obtain ⟨v0, vs0, d0, ds0, p0, q0, hargs, rfl, rfl, h0, r0⟩ := trodAll_cons hA
  obtain ⟨v1, vs1, d1, ds1, p1, q1, rfl, rfl, rfl, h1, r1⟩ := trodAll_cons r0
  obtain ⟨v2, vs2, d2, ds2, p2, q2, rfl, rfl, rfl, h2, r2⟩ := trodAll_cons r1
  obtain ⟨rfl, rfl, rfl⟩ := trodAll_nil r2
  obtain rfl : args = #[v0, v1, v2] := by cases args; simp_all
  obtain ⟨rfl, rfl⟩ := trodVars_none hV
  have hAll : DataW.TrodAll enc Try.prog W 0 (fun _ => true) true [24, 32, 9] [v0, v1, v2] [d0, d1, d2] _ := hA
  have hlt := hW'.lt
  obtain ⟨xf0, xu0, xv0, xa0, xb0, xc0, xo0, xi0, rfl⟩ := open_instr (hval 0 24 v0 rfl rfl) h0
  obtain ⟨sp1, c1, ws1, hS1⟩ := open_words (hval 1 32 v1 rfl rfl) h1
  obtain ⟨a2, rfl, _, _, w2⟩ := open_string Try.underlying9 (hval 2 9 v2 rfl rfl) h2
  refine (csteps_any W sp1 c1 ws1 _ a2 xf0 xu0 xv0 xa0 xb0 xc0 xo0 xi0 hS1).mono fun e W' ⟨he, bel⟩ => ?_
  subst he
  exact ⟨_, rfl, _, _, _, [], _, [], hW', trodAll_mk1 (shut_bool Try.underlying4 _), args_stay bel (by decide) hAll (fun p hp => by simpa using hlt p (List.mem_append_left _ hp)), rfl, bel.frame _, fun h => by cases h⟩
theorem over : Rows.cpuStepsRow.holds Try.pinned (OpenSpec.ofChange Rows.cpuStepsSpec) :=
  OpenClaim.holds_of_wide 13 Try.f13 rfl rfl rfl rfl rfl rfl rfl ⟨rfl, rfl, rfl, rfl, rfl⟩ rfl rfl rfl rfl rfl (by kernel_rfl) Try.func13 (by kernel_rfl)
    (of_decide_eq_true (by kernel_rfl)) (by unfold Func.isWrapper; first | (rw [if_pos (by decide +kernel)]; kernel_rfl) | (rw [if_neg (by decide +kernel)]; exact ⟨rfl, rfl⟩))
    (fun os started H enc _ => lifted os started H enc)
theorem proved : Rows.CpuStepsSaid := over
#print axioms proved
end Go.Proofs.Ytmlmjkojhfjjlaa.cpuSteps
namespace Go.Proofs.Ytmlmjkojhfjjlaa
/-- The row, under a short name, for the claim. -/
theorem cpuSteps_holds : Rows.CpuStepsSaid := cpuSteps.proved
end Go.Proofs.Ytmlmjkojhfjjlaa
