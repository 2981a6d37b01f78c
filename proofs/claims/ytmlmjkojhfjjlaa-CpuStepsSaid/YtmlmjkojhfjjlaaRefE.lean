/- Contracts of the document's instructions: Good, Encode. -/
import Derived.Test.YtmlmjkojhfjjlaaRefA
import Derived.Test.YtmlmjkojhfjjlaaRisc
namespace Go.Proofs.Ytmlmjkojhfjjlaa
set_option linter.unusedVariables false
set_option linter.unusedSimpArgs false
open Go.RowKit

set_option maxHeartbeats 1000000 in
set_option maxRecDepth 100000 in
theorem rword_any (v : Int) (w : World) (h0 : -9223372036854775808 ≤ v) (h1 : v < 9223372036854775808) : Calls Try.prog 52 #[.int .i64 v] w (Ret (.int .u32 (v % 4294967296)) w) := by
  have hb := Int.lt_tmod_of_pos v (show (0 : Int) < 4294967296 by decide)
  have hb' := Int.tmod_lt_of_pos v (show (0 : Int) < 4294967296 by decide)
  by_cases hv : v.tmod 4294967296 < 0
  · go_enter Try.func52, Try.ntmps52
    go_wp2
    go_ret
    refine ⟨ret_i ?_, rfl⟩
    have := Int.tmod_add_mul_tdiv v 4294967296
    omega
  · have hv' : 0 ≤ v.tmod 4294967296 := by omega
    go_enter Try.func52, Try.ntmps52
    go_wp2
    go_ret
    refine ⟨ret_i ?_, rfl⟩
    have := Int.tmod_add_mul_tdiv v 4294967296
    omega

set_option maxHeartbeats 1000000 in
set_option maxRecDepth 100000 in
theorem rin_any (n a b : Int) (w : World) : Calls Try.prog 66 #[.int .i64 n, .int .i64 a, .int .i64 b] w (Ret (.bool (decide (a ≤ n ∧ n ≤ b))) w) := by
  go_enter Try.func66, Try.ntmps66
  go_wp2
  all_goals
    go_ret
    refine ⟨ret_b ?_, rfl⟩
    first
      | rfl
      | (rw [Bool.eq_iff_iff]; simp <;> omega)

set_option maxHeartbeats 1000000 in
set_option maxRecDepth 100000 in
theorem rfits_any (v n : Int) (w : World) (h1 : 1 ≤ n) (h2 : n ≤ 32) : Calls Try.prog 67 #[.int .i64 v, .int .i64 n] w (Ret (.bool (M.fits v n)) w) := by
  obtain ⟨m, rfl⟩ := Int.eq_ofNat_of_zero_le (show 0 ≤ n by omega)
  have q0 := pow_ge1 (m - 1)
  have q1 := pow_le31 (m - 1) (by omega)
  have hm := fun w0 => rpow_any m w0 (by omega)
  have e : (2 : Int) ^ m = 2 ^ (m - 1) * 2 := by
    have : m = (m - 1) + 1 := by omega
    conv => lhs; rw [this]
    exact Int.pow_succ 2 _
  have ef : M.fits v m = decide (-(2 ^ (m - 1)) ≤ v ∧ v < 2 ^ (m - 1)) := by
    unfold M.fits
    have : ((m : Int) - 1).toNat = m - 1 := by omega
    rw [this]
  rw [ef]
  rw [e] at hm
  generalize (2 : Int) ^ (m - 1) = Q at *
  have eq : (Q * 2).tdiv 2 = Q := by rw [Int.tdiv_eq_ediv_of_nonneg (by omega)]; omega
  have n1 : ¬ (m : Int) < 1 := by omega
  have n2 : ¬ (32 : Int) < m := by omega
  clear e ef
  go_enter Try.func67, Try.ntmps67
  go_wp2_with (go_at_call 70; refine (hm _).mono ?_; rintro e w' ⟨rfl, rfl⟩)
  all_goals
    go_ret
    refine ⟨ret_b ?_, rfl⟩
    first
      | rfl
      | (rw [Bool.eq_iff_iff]; simp <;> omega)


set_option maxHeartbeats 1000000 in
set_option maxRecDepth 100000 in
theorem rgood1 (u v : Bool) (a b op im : Int) (w : World) (hG : M.Good 1 u v a b 0 op im) :
    Calls Try.prog 49 #[iv 1 u v a b 0 op im] w (RetB (.bool true) w) := by
  obtain ⟨⟨ha, ha', hb, hb', hc, hc', ho, ho'⟩, hk⟩ := hG
  cases u <;> cases v
  all_goals try simp at hk
  all_goals
    go_enter Try.func49, Try.ntmps49
    go_wp2_with (first | (go_at_call 66; refine (rin_any _ _ _ _).mono ?_; rintro e w' ⟨rfl, rfl⟩))
    all_goals
      go_ret
      exact ⟨ret_b (by first | rfl | (simp <;> omega) | (simp [hF] <;> omega)), (Below.refl _ _).alloc (Nat.le_refl _) _⟩


set_option maxHeartbeats 1000000 in
set_option maxRecDepth 100000 in
theorem rgood2 (u v : Bool) (a b im : Int) (w : World) (hG : M.Good 2 u v a b 0 0 im) :
    Calls Try.prog 49 #[iv 2 u v a b 0 0 im] w (RetB (.bool true) w) := by
  obtain ⟨⟨ha, ha', hb, hb', hc, hc', ho, ho'⟩, hk⟩ := hG
  have hF : M.fits im 20 = true := by
    unfold M.fits
    exact decide_eq_true (by rcases hk with h | h | h | h <;> first | (exfalso; omega) | (constructor <;> simp <;> omega))
  cases u <;> cases v
  all_goals try simp at hk
  all_goals
    go_enter Try.func49, Try.ntmps49
    go_wp2_with (first | (go_at_call 66; refine (rin_any _ _ _ _).mono ?_; rintro e w' ⟨rfl, rfl⟩) | (go_at_call 67; refine (rfits_any _ _ _ (by decide) (by decide)).mono ?_; rintro e w' ⟨rfl, rfl⟩))
    all_goals
      go_ret
      exact ⟨ret_b (by first | rfl | (simp <;> omega) | (simp [hF] <;> omega)), (Below.refl _ _).alloc (Nat.le_refl _) _⟩


set_option maxHeartbeats 1000000 in
set_option maxRecDepth 100000 in
theorem rgood3 (u v : Bool) (a c im : Int) (w : World) (hG : M.Good 3 u v a 0 c 0 im) :
    Calls Try.prog 49 #[iv 3 u v a 0 c 0 im] w (RetB (.bool true) w) := by
  obtain ⟨⟨ha, ha', hb, hb', hc, hc', ho, ho'⟩, hk⟩ := hG
  have hF : M.fits im 24 = true := by
    unfold M.fits
    exact decide_eq_true (by rcases hk with h | h | h | h <;> first | (exfalso; omega) | (constructor <;> simp <;> omega))
  cases u <;> cases v
  all_goals try simp at hk
  all_goals
    go_enter Try.func49, Try.ntmps49
    go_wp2_with (first | (go_at_call 66; refine (rin_any _ _ _ _).mono ?_; rintro e w' ⟨rfl, rfl⟩) | (go_at_call 67; refine (rfits_any _ _ _ (by decide) (by decide)).mono ?_; rintro e w' ⟨rfl, rfl⟩))
    all_goals
      go_ret
      exact ⟨ret_b (by first | rfl | (simp <;> omega) | (simp [hF] <;> omega)), (Below.refl _ _).alloc (Nat.le_refl _) _⟩


set_option maxHeartbeats 1000000 in
set_option maxRecDepth 100000 in
theorem rgood0 (u v : Bool) (a b c op : Int) (w : World) (hG : M.Good 0 u v a b c op 0) :
    Calls Try.prog 49 #[iv 0 u v a b c op 0] w (RetB (.bool true) w) := by
  obtain ⟨⟨ha, ha', hb, hb', hc, hc', ho, ho'⟩, hk⟩ := hG
  cases u <;> cases v
  all_goals try simp at hk
  all_goals
    go_enter Try.func49, Try.ntmps49
    go_wp2_with (first | (go_at_call 66; refine (rin_any _ _ _ _).mono ?_; rintro e w' ⟨rfl, rfl⟩))
    all_goals
      go_ret
      exact ⟨ret_b (by first | rfl | (simp <;> omega) | (simp [hF] <;> omega)), (Below.refl _ _).alloc (Nat.le_refl _) _⟩

end Go.Proofs.Ytmlmjkojhfjjlaa
