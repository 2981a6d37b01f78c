/- The sample run of law 27. -/
import Derived.Test.YtmlmjkojhfjjlaaRunI
import Derived.Test.YtmlmjkojhfjjlaaNone
namespace Go.Proofs.Ytmlmjkojhfjjlaa
set_option linter.unusedVariables false
set_option linter.unusedSimpArgs false
open Go.RowKit

theorem wakeB : ocV (M.runs 100 (st0 (haltW 66) 0 ⟨#[]⟩)) (M.steps 100 (st0 (haltW 66) 0 ⟨#[]⟩)) = .agg #[.int .i64 1, .int .i64 0, .string ⟨#[66]⟩, .int .i64 5, .int .i64 0] := by kernel_rfl
theorem wakeN : ocV (M.runs 1 (st0 [] 0 ⟨#[]⟩)) (M.steps 1 (st0 [] 0 ⟨#[]⟩)) = .agg #[.int .i64 5, .int .i64 0, .string ⟨#[]⟩, .int .i64 1, .int .i64 0] := by kernel_rfl

set_option maxHeartbeats 4000000 in
set_option maxRecDepth 100000 in
theorem wakesR_any (w : World) : Calls Try.prog 23 #[] w (RetB (.bool true) w) := by
  go_enter Try.func23, Try.ntmps23
  have B0 := Lib.hid (Below.refl w.heap.size w)
  go_wp2_with (first
    | (go_at_call 40; refine (halt_any 66 _ (by decide) (by decide)).mono ?_; rintro e w1 ⟨v, rfl, hown, hB1⟩; obtain ⟨sp, c, hS⟩ := src_own hown (halt_bd 66 (by decide) (by decide)); obtain rfl := hS.v; have HS := Lib.hid hS; have HB1 := Lib.hid hB1; clear hown hS hB1 B0)
    | (go_at_call 24; have tok := HB2; refine (rrun_ok _ none 0 [] (.slice none 0 0) (.slice none 0 0) 0 ⟨#[]⟩ 1 (src_nil _) (by decide) (by decide) (by decide) (by decide) (by decide)).mono ?_; rintro e w3 ⟨he, hB3⟩; rw [wakeN] at he; subst he; have hO1 := ((Cel.new w2 28 #[.int .i64 1, .int .i64 0, .string ⟨#[66]⟩, .int .i64 5, .int .i64 0]).below hB3 (by simp)).alloc (.cells #[.int .i64 5, .int .i64 0, .string ⟨#[]⟩, .int .i64 1, .int .i64 0] 28); have hO2 := Cel.new w3 28 #[.int .i64 5, .int .i64 0, .string ⟨#[]⟩, .int .i64 1, .int .i64 0]; have x1 := hO1.cell 0; have x2 := hO1.cell 2; have x3 := hO2.cell 0; have HB3 := Lib.hid (HB2.out.trans ((((Below.refl _ w2).alloc (Nat.le_refl _) _).trans (hB3.mono (by simp))).mono HB2.out.size)); clear hO1 hO2 hB3)
    | (go_at_call 24; refine (rrun_ok _ sp c (haltW 66) _ (.slice none 0 0) 0 ⟨#[]⟩ 100 HS.out (by decide) (by decide) (by decide) (by decide) (by decide)).mono ?_; rintro e w2 ⟨he, hB2⟩; rw [wakeB] at he; subst he; have HB2 := Lib.hid (HB1.out.trans (hB2.mono HB1.out.size)); clear hB2)
    | fail)
  go_ret
  exact ⟨ret_b (by first | rfl | simp), HB3.out.alloc HB3.out.size _⟩

end Go.Proofs.Ytmlmjkojhfjjlaa
