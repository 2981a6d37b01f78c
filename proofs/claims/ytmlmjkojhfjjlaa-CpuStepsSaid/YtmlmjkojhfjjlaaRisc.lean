/- Contracts of the program's package risc: Good, Encode, Decode of instructions whose fields are in range. -/
import Derived.Test.YtmlmjkojhfjjlaaBits
import Derived.RegionTactic
import Derived.ChangeAlike
namespace Go.Proofs.Ytmlmjkojhfjjlaa
set_option linter.unusedVariables false
set_option linter.unusedSimpArgs false
open Go.RowKit

/-- An instruction as a value. -/
abbrev iv (f : Int) (u v : Bool) (a b c op im : Int) : Value := .agg #[.int .i64 f, .bool u, .bool v, .int .i64 a, .int .i64 b, .int .i64 c, .int .i64 op, .int .i64 im]

theorem below2d (w : World) (o p : Obj) : Below w.heap.size w ((w.alloc o).alloc p).drew := (((Below.refl _ _).alloc (Nat.le_refl _) _).alloc (by simp) _).drew
theorem below2 (w : World) (o p : Obj) : Below w.heap.size w ((w.alloc o).alloc p) := ((Below.refl _ _).alloc (Nat.le_refl _) _).alloc (by simp) _
theorem good_yes {f : Int} {u v : Bool} {a b c op im : Int} (h : M.Good f u v a b c op im) : true = M.good f u v a b c op im := (decide_eq_true h).symm
theorem good_no {f : Int} {u v : Bool} {a b c op im : Int} (h : ¬ M.Good f u v a b c op im) : false = M.good f u v a b c op im := (decide_eq_false h).symm

set_option maxHeartbeats 1000000 in
set_option maxRecDepth 100000 in
theorem good0 (u v : Bool) (a b c op : Int) (w : World) (ha : 0 ≤ a) (ha' : a < 16) (hb : 0 ≤ b) (hb' : b < 16) (hc : 0 ≤ c) (hc' : c < 16) (ho : 0 ≤ op) (ho' : op < 16) :
    Calls Try.prog 53 #[iv 0 u v a b c op 0] w (RetB (.bool (M.good 0 u v a b c op 0)) w) := by
  have h4 : ∀ x : Int, 0 ≤ x → x < 16 → halfB x 4 = true := fun x h h' => by unfold halfB; exact decide_eq_true ⟨h, h'⟩
  have ka := h4 a ha ha'
  have kb := h4 b hb hb'
  have kc := h4 c hc hc'
  clear h4
  cases u <;> cases v
  all_goals
    go_enter Try.func53, Try.ntmps53
    go_wp2_with (go_at_call 71; refine (half_any _ _ _ (by decide) (by decide)).mono ?_; rintro e w' ⟨rfl, rfl⟩)
    go_region
    all_goals go_wp2_with (go_at_call 71; refine (half_any _ _ _ (by decide) (by decide)).mono ?_; rintro e w' ⟨rfl, rfl⟩)
    all_goals
      go_ret
      refine ⟨ret_b ?_, below2d _ _ _⟩
      first
        | exact good_yes (by unfold M.Good; simp <;> omega)
        | exact good_no (by unfold M.Good; simp <;> omega)

theorem half4 (x : Int) (h : 0 ≤ x) (h' : x < 16) : halfB x 4 = true := by unfold halfB; exact decide_eq_true ⟨h, h'⟩
theorem half16 (x : Int) (h : 0 ≤ x) (h' : x < 65536) : halfB x 16 = true := by unfold halfB; exact decide_eq_true ⟨h, h'⟩
theorem fits20 (x : Int) (h : -524288 ≤ x) (h' : x < 524288) : M.fits x 20 = true := by unfold M.fits; exact decide_eq_true ⟨h, h'⟩
theorem fits24 (x : Int) (h : -8388608 ≤ x) (h' : x < 8388608) : M.fits x 24 = true := by unfold M.fits; exact decide_eq_true ⟨h, h'⟩

set_option maxHeartbeats 1000000 in
set_option maxRecDepth 100000 in
theorem good1 (u v : Bool) (a b op im : Int) (w : World) (ha : 0 ≤ a) (ha' : a < 16) (hb : 0 ≤ b) (hb' : b < 16) (ho : 0 ≤ op) (ho' : op < 16) (hi : 0 ≤ im) (hi' : im < 65536) :
    Calls Try.prog 53 #[iv 1 u v a b 0 op im] w (RetB (.bool (M.good 1 u v a b 0 op im)) w) := by
  have ka := half4 a ha ha'
  have kb := half4 b hb hb'
  have k0 := half4 0 (by decide) (by decide)
  have ki := half16 im hi hi'
  cases u
  all_goals
    go_enter Try.func53, Try.ntmps53
    go_wp2_with (go_at_call 71; refine (half_any _ _ _ (by decide) (by decide)).mono ?_; rintro e w' ⟨rfl, rfl⟩)
    go_region
    all_goals go_wp2_with (go_at_call 71; refine (half_any _ _ _ (by decide) (by decide)).mono ?_; rintro e w' ⟨rfl, rfl⟩)
    all_goals
      go_ret
      refine ⟨ret_b ?_, below2d _ _ _⟩
      first
        | exact good_yes (by unfold M.Good; simp <;> omega)
        | exact good_no (by unfold M.Good; simp <;> omega)

set_option maxHeartbeats 1000000 in
set_option maxRecDepth 100000 in
theorem good2 (u v : Bool) (a b im : Int) (w : World) (ha : 0 ≤ a) (ha' : a < 16) (hb : 0 ≤ b) (hb' : b < 16) (hi : -524288 ≤ im) (hi' : im < 524288) :
    Calls Try.prog 53 #[iv 2 u v a b 0 0 im] w (RetB (.bool (M.good 2 u v a b 0 0 im)) w) := by
  have ka := half4 a ha ha'
  have kb := half4 b hb hb'
  have k0 := half4 0 (by decide) (by decide)
  have ki := fits20 im hi hi'
  cases u
  all_goals
    go_enter Try.func53, Try.ntmps53
    go_wp2_with (go_at_call 71; refine (half_any _ _ _ (by decide) (by decide)).mono ?_; rintro e w' ⟨rfl, rfl⟩)
    go_region
    all_goals go_wp2_with (first | (go_at_call 71; refine (half_any _ _ _ (by decide) (by decide)).mono ?_; rintro e w' ⟨rfl, rfl⟩) | (go_at_call 72; refine (fits_any _ _ _ (by decide) (by decide)).mono ?_; rintro e w' ⟨rfl, rfl⟩))
    all_goals
      go_ret
      refine ⟨ret_b ?_, below2d _ _ _⟩
      exact good_yes (by unfold M.Good; simp <;> omega)

set_option maxHeartbeats 1000000 in
set_option maxRecDepth 100000 in
theorem good3u (v : Bool) (a im : Int) (w : World) (ha : 0 ≤ a) (ha' : a < 16) (hi : -8388608 ≤ im) (hi' : im < 8388608) :
    Calls Try.prog 53 #[iv 3 true v a 0 0 0 im] w (RetB (.bool (M.good 3 true v a 0 0 0 im)) w) := by
  have ka := half4 a ha ha'
  have k0 := half4 0 (by decide) (by decide)
  have ki := fits24 im hi hi'
  go_enter Try.func53, Try.ntmps53
  go_wp2_with (first | (go_at_call 71; refine (half_any _ _ _ (by decide) (by decide)).mono ?_; rintro e w' ⟨rfl, rfl⟩) | (go_at_call 72; refine (fits_any _ _ _ (by decide) (by decide)).mono ?_; rintro e w' ⟨rfl, rfl⟩))
  go_ret
  refine ⟨ret_b ?_, below2 _ _ _⟩
  exact good_yes (by unfold M.Good; simp <;> omega)

set_option maxHeartbeats 1000000 in
set_option maxRecDepth 100000 in
theorem good3 (v : Bool) (a c : Int) (w : World) (ha : 0 ≤ a) (ha' : a < 16) (hc : 0 ≤ c) (hc' : c < 16) :
    Calls Try.prog 53 #[iv 3 false v a 0 c 0 0] w (RetB (.bool (M.good 3 false v a 0 c 0 0)) w) := by
  have ka := half4 a ha ha'
  have kc := half4 c hc hc'
  have k0 := half4 0 (by decide) (by decide)
  have ki := fits24 0 (by decide) (by decide)
  go_enter Try.func53, Try.ntmps53
  go_wp2_with (first | (go_at_call 71; refine (half_any _ _ _ (by decide) (by decide)).mono ?_; rintro e w' ⟨rfl, rfl⟩) | (go_at_call 72; refine (fits_any _ _ _ (by decide) (by decide)).mono ?_; rintro e w' ⟨rfl, rfl⟩))
  go_ret
  refine ⟨ret_b ?_, below2 _ _ _⟩
  exact good_yes (by unfold M.Good; simp <;> omega)

end Go.Proofs.Ytmlmjkojhfjjlaa
