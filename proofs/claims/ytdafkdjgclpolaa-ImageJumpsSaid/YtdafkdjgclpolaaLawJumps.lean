/- ImageJumps: the row: whatever the arguments, the law answers true, and the arguments read as before. -/
import Derived.Test.YtdafkdjgclpolaaOpen
import Derived.Test.YtdafkdjgclpolaaJumpsO
import Derived.Test.YtdafkdjgclpolaaOpenN
namespace Go.Proofs.Ytdafkdjgclpolaa.imageJumps
set_option linter.unusedVariables false
set_option linter.unusedSimpArgs false
open Go.ChangeShapes Go.WideShapes Go.ChangeAt Go.RowKit Go.Joins
open Go.ChangeMaps (open_string shut_string)
set_option maxRecDepth 100000 in
theorem lifted (os : Os) (started : os.Started) (H : Type) (enc : TypeId × Value → H) :
    ReturnsInHanded {} Try.checked os 4 .any (Rows.imageJumpsSpec.pre6 enc Try.prog Try.f4 Rows.imageJumpsRow.domain false) (Rows.imageJumpsSpec.post enc Try.prog Try.f4 false true false false) := by
  refine returnsInHanded_of_change_sized (C := Try.checked) own_knob started (by kernel_rfl) Try.func4
    (ChangeSpec.witness6 (enc := enc) (C := Try.checked) false ⟨#[], #[.int .i64 0, .slice none 0 0, .agg #[.int .i64 0, .int .i64 0]], []⟩ 8 (by kernel_rfl) (by kernel_rfl) (by kernel_rfl) (by kernel_rfl)) ?_
  intro W base args ds gs before hval0 hW hcnd hsz0 _
  have hval : ∀ (j : Nat) t v, Try.f4.params[j]? = some t → args[j]? = some v → Value.okWide Try.prog W .any base t v := hval0
  have hW' := hW
  obtain ⟨p, q, hA0, hV, rfl, hfz, hnd⟩ := hW
  have hA : DataW.TrodAll enc Try.prog W 0 (fun _ => true) true Try.f4.params.toList args.toList ds p := hA0
  rw [Try.params4] at hA hval
  have hSz := Lib.hid hsz0
  clear hsz0
  obtain ⟨v0, vs0, d0, ds0, p0, q0, hargs, rfl, rfl, h0, r0⟩ := trodAll_cons hA
  obtain ⟨v1, vs1, d1, ds1, p1, q1, rfl, rfl, rfl, h1, r1⟩ := trodAll_cons r0
  obtain ⟨v2, vs2, d2, ds2, p2, q2, rfl, rfl, rfl, h2, r2⟩ := trodAll_cons r1
  obtain ⟨rfl, rfl, rfl⟩ := trodAll_nil r2
  obtain rfl : args = #[v0, v1, v2] := by cases args; simp_all
  obtain ⟨rfl, rfl⟩ := trodVars_none hV
  have hAll : DataW.TrodAll enc Try.prog W 0 (fun _ => true) true [3, 22, 34] [v0, v1, v2] [d0, d1, d2] _ := hA
  have hlt := hW'.lt
  obtain ⟨a0, rfl, _, _, w0⟩ := open_int Try.underlying3 (hval 0 3 v0 rfl rfl) h0
  obtain ⟨sp1, c1, ws1, hS1⟩ := open_nums (hval 1 22 v1 rfl rfl) h1
  obtain ⟨a2, b2, rfl, pa2, pb2⟩ := open_pair (hval 2 34 v2 rfl rfl) h2
  refine (imgjumps_any W sp1 c1 ws1 v1 a0 a2 b2 hS1).mono fun e W' ⟨he, bel⟩ => ?_
  subst he
  exact ⟨_, rfl, _, _, _, [], _, [], hW', trodAll_mk1 (shut_bool Try.underlying4 _), args_stay bel (by decide) hAll (fun p hp => by simpa using hlt p (List.mem_append_left _ hp)), rfl, bel.frame _, fun h => by cases h⟩
theorem over : Rows.imageJumpsRow.holds Try.pinned (OpenSpec.ofChange Rows.imageJumpsSpec) :=
  OpenClaim.holds_of_wide 4 Try.f4 rfl rfl rfl rfl rfl rfl rfl ⟨rfl, rfl, rfl, rfl, rfl⟩ rfl rfl rfl rfl rfl (by kernel_rfl) Try.func4 (by kernel_rfl)
    (of_decide_eq_true (by kernel_rfl)) (by unfold Func.isWrapper; first | (rw [if_pos (by decide +kernel)]; kernel_rfl) | (rw [if_neg (by decide +kernel)]; exact ⟨rfl, rfl⟩))
    (fun os started H enc _ => lifted os started H enc)
theorem proved : Rows.ImageJumpsSaid := over
#print axioms proved
end Go.Proofs.Ytdafkdjgclpolaa.imageJumps
namespace Go.Proofs.Ytdafkdjgclpolaa
/-- The row, under a short name, for the claim. -/
theorem imageJumps_holds : Rows.ImageJumpsSaid := imageJumps.proved
end Go.Proofs.Ytdafkdjgclpolaa
