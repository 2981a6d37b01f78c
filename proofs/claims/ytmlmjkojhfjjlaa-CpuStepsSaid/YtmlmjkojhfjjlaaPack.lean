/- The contract of the program's packed: the flags as bits. -/
import Derived.Test.YtmlmjkojhfjjlaaBits
namespace Go.Proofs.Ytmlmjkojhfjjlaa
set_option linter.unusedVariables false
set_option linter.unusedSimpArgs false
open Go.RowKit

theorem andNot_small (x : Int) (k : Nat) (hk : k < 32) (h0 : 0 ≤ x) (h1 : x < 2 ^ k) : bits .andNot .u32 x (2 ^ k) = x := by
  obtain ⟨a, rfl⟩ := Int.eq_ofNat_of_zero_le h0
  have ha : a < 2 ^ k := by exact_mod_cast h1
  have hp : (2 : Nat) ^ k ≤ 2 ^ 31 := Nat.pow_le_pow_right (by decide) (by omega)
  have h32 : a < 2 ^ 32 := by omega
  show IntKind.u32.wrap ((BitVec.ofInt 32 (a : Int) &&& ~~~(BitVec.ofInt 32 (2 ^ k))).toNat : Int) = _
  have e2 : BitVec.ofInt 32 ((2 : Int) ^ k) = BitVec.ofNat 32 (2 ^ k) := by
    rw [show ((2 : Int) ^ k) = ((2 ^ k : Nat) : Int) by simp, BitVec.ofInt_natCast]
  rw [e2, BitVec.ofInt_natCast]
  have e3 : BitVec.ofNat 32 a &&& ~~~(BitVec.ofNat 32 (2 ^ k)) = BitVec.ofNat 32 a := by
    apply BitVec.eq_of_getLsbD_eq
    intro i hi
    rw [BitVec.getLsbD_and, BitVec.getLsbD_not, BitVec.getLsbD_ofNat, BitVec.getLsbD_ofNat]
    by_cases e : i = k
    · subst e
      have : a.testBit i = false := Nat.testBit_lt_two_pow ha
      simp [this]
    · have : (2 ^ k).testBit i = false := by rw [Nat.testBit_two_pow]; simp; omega
      simp [this, hi]
  rw [e3, BitVec.toNat_ofNat, Nat.mod_eq_of_lt h32, IntKind.wrap_u32]
  omega

theorem or_comm32 (x y : Int) : bits .or .u32 x y = bits .or .u32 y x := by
  unfold bits
  simp only [BitVec.or_comm]

set_option maxHeartbeats 1000000 in
theorem put_bit (x lo : Int) (w : World) (h0 : 28 ≤ lo) (h1 : lo ≤ 31) (hx : 0 ≤ x) (hx' : x < 2 ^ lo.toNat) :
    Calls Try.prog 94 #[.int .u32 x, .int .i64 lo, .int .i64 1, .int .u32 1] w (Ret (.int .u32 (x + 2 ^ lo.toNat)) w) := by
  have hi : inB lo 1 = true := by unfold inB; exact decide_eq_true (by omega)
  have hp := pow_le31 lo.toNat (by omega)
  have hp0 := pow_ge1 lo.toNat
  have em : (2 : Int) ^ (1 : Int).toNat - 1 = 1 := by decide
  go_enter Try.func94, Try.ntmps94
  go_wp2_with (first | (go_at_call 89; refine (inside_any _ _ _ (by omega) (by omega) (by omega) (by omega)).mono ?_; rintro e w' ⟨rfl, rfl⟩) | (go_at_call 90; refine (mask_any _ _ (by omega) (by omega)).mono ?_; rintro e w' ⟨rfl, rfl⟩))
  go_ret
  refine ⟨ret_i ?_, rfl⟩
  have hk : (2 : Int) ^ lo.toNat = ((2 ^ lo.toNat : Nat) : Int) := by simp
  have hs : bits .and .u32 (2 ^ lo.toNat) (2 ^ lo.toNat) = 2 ^ lo.toNat := by
    unfold bits
    rw [hk]
    simp only [BitVec.and_self, BitVec.ofInt_natCast, BitVec.toNat_ofNat]
    have : (2 : Nat) ^ lo.toNat ≤ 2 ^ 31 := Nat.pow_le_pow_right (by decide) (by omega)
    rw [IntKind.wrap_u32]
    show ((2 ^ lo.toNat % 2 ^ 32 : Nat) : Int) % 4294967296 = _
    rw [Nat.mod_eq_of_lt (by omega)]
    omega
  rw [andNot_small x lo.toNat (by omega) hx hx', hs, or_comm32, u32_join lo.toNat _ x (by omega) (by simp) (by omega) hx hx' (by omega)]
  omega

def pk (fn fz fc fv : Bool) (k : Nat) : Int :=
  (if 0 < k then M.bit fv 268435456 else 0) + (if 1 < k then M.bit fc 536870912 else 0) + (if 2 < k then M.bit fz 1073741824 else 0) + (if 3 < k then M.bit fn 2147483648 else 0)
theorem pk_bd (fn fz fc fv : Bool) (k : Nat) (hk : k ≤ 3) : 0 ≤ pk fn fz fc fv k ∧ pk fn fz fc fv k < 2 ^ (28 + (k : Int)).toNat := by
  have : k = 0 ∨ k = 1 ∨ k = 2 ∨ k = 3 := by omega
  rcases this with rfl | rfl | rfl | rfl <;> cases fn <;> cases fz <;> cases fc <;> cases fv <;> decide
theorem pk_4 (fn fz fc fv : Bool) : pk fn fz fc fv 4 = M.bit fn 2147483648 + M.bit fz 1073741824 + M.bit fc 536870912 + M.bit fv 268435456 := by
  unfold pk; simp; omega

def fb (fn fz fc fv : Bool) (k : Nat) : Bool := if k = 0 then fv else if k = 1 then fc else if k = 2 then fz else fn
theorem pk_yes (fn fz fc fv : Bool) (k : Nat) (hk : k ≤ 3) (h : fb fn fz fc fv k = true) : pk fn fz fc fv k + 2 ^ (28 + (k : Int)).toNat = pk fn fz fc fv (k + 1) := by
  have : k = 0 ∨ k = 1 ∨ k = 2 ∨ k = 3 := by omega
  rcases this with rfl | rfl | rfl | rfl <;> cases fn <;> cases fz <;> cases fc <;> cases fv <;> revert h <;> decide
theorem pk_no (fn fz fc fv : Bool) (k : Nat) (hk : k ≤ 3) (h : fb fn fz fc fv k = false) : pk fn fz fc fv k = pk fn fz fc fv (k + 1) := by
  have : k = 0 ∨ k = 1 ∨ k = 2 ∨ k = 3 := by omega
  rcases this with rfl | rfl | rfl | rfl <;> cases fn <;> cases fz <;> cases fc <;> cases fv <;> revert h <;> decide

theorem idx0 (a b c d : Value) (w : World) : (Instr.index 140 (.agg #[a, b, c, d]) (.int .i64 0)).run Try.prog w = .ok a w := by kernel_rfl
theorem idx1 (a b c d : Value) (w : World) : (Instr.index 140 (.agg #[a, b, c, d]) (.int .i64 1)).run Try.prog w = .ok b w := by kernel_rfl
theorem idx2 (a b c d : Value) (w : World) : (Instr.index 140 (.agg #[a, b, c, d]) (.int .i64 2)).run Try.prog w = .ok c w := by kernel_rfl
theorem idx3 (a b c d : Value) (w : World) : (Instr.index 140 (.agg #[a, b, c, d]) (.int .i64 3)).run Try.prog w = .ok d w := by kernel_rfl
theorem idx_any (fn fz fc fv : Bool) (k : Nat) (hk : k ≤ 3) (w : World) : (Instr.index 140 (.agg #[.bool fv, .bool fc, .bool fz, .bool fn]) (.int .i64 (k : Int))).run Try.prog w = .ok (.bool (fb fn fz fc fv k)) w := by
  have : k = 0 ∨ k = 1 ∨ k = 2 ∨ k = 3 := by omega
  rcases this with rfl | rfl | rfl | rfl
  · exact idx0 _ _ _ _ w
  · exact idx1 _ _ _ _ w
  · exact idx2 _ _ _ _ w
  · exact idx3 _ _ _ _ w

set_option maxHeartbeats 1000000 in
theorem packed_any (fn fz fc fv : Bool) (w : World) :
    Calls Try.prog 80 #[.agg #[.bool fn, .bool fz, .bool fc, .bool fv]] w (RetB (.int .u32 (M.bit fn 2147483648 + M.bit fz 1073741824 + M.bit fc 536870912 + M.bit fv 268435456)) w) := by
  go_enter Try.func80, Try.ntmps80
  go_wp2
  go_loop [3, 4, 5, 15, 16, 17, 18, 19, 20, 21, 22, 23, 24] (fun r _ _ i _ _ _ _ _ _ _ _ _ => ∃ k : Nat, k ≤ 4 ∧ i = .int .i64 k ∧ r = .int .u32 (pk fn fz fc fv k)) (fun _ _ _ i _ _ _ _ _ _ _ _ _ => 4 - (intOf i).toNat)
  case atStart => exact ⟨0, by omega, rfl, rfl⟩
  case round =>
    obtain ⟨k, hk, rfl, rfl⟩ := hrel
    by_cases hlt : k ≤ 3
    · have hi := idx_any fn fz fc fv k hlt
      have hbd := pk_bd fn fz fc fv k hlt
      cases hb : fb fn fz fc fv k
      · have HN := Lib.hid (pk_no fn fz fc fv k hlt hb)
        go_wp2
        go_round
        case rel => exact ⟨k + 1, by omega, by go_num, by rw [HN.out]⟩
        case measure => simp [intOf]; omega
      · have HN := Lib.hid (pk_yes fn fz fc fv k hlt hb)
        go_wp2_with (go_at_call 94; refine (put_bit _ _ _ (by omega) (by omega) (by omega) (by omega)).mono ?_; rintro e w' ⟨rfl, rfl⟩)
        go_round
        case rel => exact ⟨k + 1, by omega, by go_num, by rw [← HN.out]⟩
        case measure => simp [intOf]; omega
    · obtain rfl : k = 4 := by omega
      go_wp2
      go_ret
      exact ⟨ret_i (pk_4 fn fz fc fv), (Below.refl _ _).alloc (Nat.le_refl _) _⟩

end Go.Proofs.Ytmlmjkojhfjjlaa
