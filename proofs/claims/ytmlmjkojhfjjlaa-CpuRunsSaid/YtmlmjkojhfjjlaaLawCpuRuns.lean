/- CpuRuns: the row: whatever the arguments, the law answers true, and the arguments read as before. -/
import Derived.Test.YtmlmjkojhfjjlaaOpen
import Derived.Test.YtmlmjkojhfjjlaaOpenP
import Derived.Test.YtmlmjkojhfjjlaaCpuRuns
namespace Go.Proofs.Ytmlmjkojhfjjlaa.cpuRuns
set_option linter.unusedVariables false
set_option linter.unusedSimpArgs false
open Go.ChangeShapes Go.WideShapes Go.ChangeAt Go.RowKit Go.Joins
open Go.ChangeMaps (open_string shut_string)
set_option maxRecDepth 100000 in
theorem lifted (os : Os) (started : os.Started) (H : Type) (enc : TypeId × Value → H) :
    ReturnsInHanded {} Try.checked os 12 .any (Rows.cpuRunsSpec.pre6 enc Try.prog Try.f12 Rows.cpuRunsRow.domain false) (Rows.cpuRunsSpec.post enc Try.prog Try.f12 false true false false) := by
  refine returnsInHanded_of_change_sized (C := Try.checked) own_knob started (by kernel_rfl) Try.func12
    (ChangeSpec.witness6 (enc := enc) (C := Try.checked) false ⟨#[], #[.slice none 0 0, .agg #[.int .i64 0, .string ⟨#[]⟩, .slice none 0 0]], []⟩ 8 (by kernel_rfl) (by kernel_rfl) (by kernel_rfl) (by kernel_rfl)) ?_
  intro W base args ds gs before hval0 hW hcnd hsz0 _
  have hval : ∀ (j : Nat) t v, Try.f12.params[j]? = some t → args[j]? = some v → Value.okWide Try.prog W .any base t v := hval0
  have hW' := hW
  obtain ⟨p, q, hA0, hV, rfl, hfz, hnd⟩ := hW
  have hA : DataW.TrodAll enc Try.prog W 0 (fun _ => true) true Try.f12.params.toList args.toList ds p := hA0
  rw [Try.params12] at hA hval
  have hSz := Lib.hid hsz0
  clear hsz0
  obtain ⟨v0, vs0, d0, ds0, p0, q0, hargs, rfl, rfl, h0, r0⟩ := trodAll_cons hA
  obtain ⟨v1, vs1, d1, ds1, p1, q1, rfl, rfl, rfl, h1, r1⟩ := trodAll_cons r0
  obtain ⟨rfl, rfl, rfl⟩ := trodAll_nil r1
  obtain rfl : args = #[v0, v1] := by cases args; simp_all
  obtain ⟨rfl, rfl⟩ := trodVars_none hV
  have hAll : DataW.TrodAll enc Try.prog W 0 (fun _ => true) true [32, 65] [v0, v1] [d0, d1] _ := hA
  have hlt := hW'.lt
  obtain ⟨sp0, c0, ws0, hS0⟩ := open_words (hval 0 32 v0 rfl rfl) h0
  obtain ⟨a1, inp1, v1f, sp1, c1, fs1, rfl, hS1⟩ := open_play (hval 1 65 v1 rfl rfl) h1
  refine (cruns_any W sp0 sp1 c0 c1 ws0 fs1 _ _ a1 inp1 hS0 hS1).mono fun e W' ⟨he, bel⟩ => ?_
  subst he
  exact ⟨_, rfl, _, _, _, [], _, [], hW', trodAll_mk1 (shut_bool Try.underlying4 _), args_stay bel (by decide) hAll (fun p hp => by simpa using hlt p (List.mem_append_left _ hp)), rfl, bel.frame _, fun h => by cases h⟩
theorem over : Rows.cpuRunsRow.holds Try.pinned (OpenSpec.ofChange Rows.cpuRunsSpec) :=
  OpenClaim.holds_of_wide 12 Try.f12 rfl rfl rfl rfl rfl rfl rfl ⟨rfl, rfl, rfl, rfl, rfl⟩ rfl rfl rfl rfl rfl (by kernel_rfl) Try.func12 (by kernel_rfl)
    (of_decide_eq_true (by kernel_rfl)) (by unfold Func.isWrapper; first | (rw [if_pos (by decide +kernel)]; kernel_rfl) | (rw [if_neg (by decide +kernel)]; exact ⟨rfl, rfl⟩))
    (fun os started H enc _ => lifted os started H enc)
theorem proved : Rows.CpuRunsSaid := over
#print axioms proved
end Go.Proofs.Ytmlmjkojhfjjlaa.cpuRuns
namespace Go.Proofs.Ytmlmjkojhfjjlaa
/-- The row, under a short name, for the claim. -/
theorem cpuRuns_holds : Rows.CpuRunsSaid := cpuRuns.proved
end Go.Proofs.Ytmlmjkojhfjjlaa
