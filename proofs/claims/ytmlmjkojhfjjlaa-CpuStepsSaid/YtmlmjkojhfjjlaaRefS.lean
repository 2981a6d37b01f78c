/- Contracts of the document's bits: Signed, Lsl, Asr, Ror, Extend; of its alu: carry, floor. -/
import Derived.Test.YtmlmjkojhfjjlaaRefE
import Derived.Test.YtmlmjkojhfjjlaaAlu
namespace Go.Proofs.Ytmlmjkojhfjjlaa
set_option linter.unusedVariables false
set_option linter.unusedSimpArgs false
open Go.RowKit

set_option maxHeartbeats 1000000 in
set_option maxRecDepth 100000 in
theorem rsigned_any (x : Int) (w : World) (h0 : 0 ≤ x) (h1 : x < 4294967296) : Calls Try.prog 101 #[.int .u32 x] w (Ret (.int .i64 (M.sg x)) w) := by
  by_cases h : x < 2147483648
  · have E := Lib.hid (show M.sg x = x from if_pos h)
    go_enter Try.func101, Try.ntmps101
    go_wp2
    go_ret
    exact ⟨ret_i (by rw [E.out]; try omega), rfl⟩
  · have E := Lib.hid (show M.sg x = x - 4294967296 from if_neg h)
    have h' : 2147483648 ≤ x := by omega
    go_enter Try.func101, Try.ntmps101
    go_wp2
    go_ret
    exact ⟨ret_i (by rw [E.out]; try omega), rfl⟩

set_option maxHeartbeats 1000000 in
set_option maxRecDepth 100000 in
theorem rlsl_any (x n : Int) (w : World) (h0 : 0 ≤ x) (h1 : x < 4294967296) (hn : 0 ≤ n) (hn' : n < 4294967296) : Calls Try.prog 102 #[.int .u32 x, .int .u32 n] w (Ret (.int .u32 (x * 2 ^ (n % 32).toNat % 4294967296)) w) := by
  obtain ⟨k, hk⟩ := Int.eq_ofNat_of_zero_le (show 0 ≤ n % 32 by omega)
  have hk' : k ≤ 31 := by omega
  have hp := fun w0 => rpow_any k w0 (by omega)
  have q0 := pow_ge1 k
  have q1 := pow_le32 k (by omega)
  have hm : n.tmod 32 = (k : Int) := by rw [Int.tmod_eq_emod_of_nonneg hn, hk]
  have hB0 : 0 ≤ x * 2 ^ k := Int.mul_nonneg h0 (by omega)
  have hB1 : x * 2 ^ k < 18446744073709551616 := by
    have a1 := Int.mul_le_mul (show x ≤ 4294967295 by omega) q1 (by omega) (by omega)
    omega
  rw [hk]
  show Calls _ _ _ _ (Ret (.int .u32 (x * 2 ^ k % 4294967296)) w)
  generalize (2 : Int) ^ k = P at *
  generalize hX : x * P = X at *
  have HP := Lib.hid hp
  clear hk hp
  go_enter Try.func102, Try.ntmps102
  go_wp2_with (first
    | (go_at_call 70; refine (HP.out _).mono ?_; rintro e w' ⟨rfl, rfl⟩)
    | fail)
  go_ret
  exact ⟨ret_i rfl, rfl⟩

theorem asr_step (s y : Int) (hs : -2147483648 ≤ s) (hs' : s < 2147483648) (e : y = s % 4294967296) : y / 2 + y / 2147483648 * 2147483648 = s / 2 % 4294967296 := by omega

theorem div_lo (s : Int) (k : Nat) (h : -2147483648 ≤ s) : -2147483648 ≤ s / 2 ^ k := by
  have q := pow_ge1 k
  refine Int.le_ediv_of_mul_le (by omega) ?_
  have := Int.mul_le_mul_of_nonneg_left q (show (0 : Int) ≤ 2147483648 by decide)
  rw [Int.neg_mul]
  omega
theorem div_hi (s : Int) (k : Nat) (h : s < 2147483648) : s / 2 ^ k < 2147483648 := by
  have q := pow_ge1 k
  refine Int.ediv_lt_of_lt_mul (by omega) ?_
  have := Int.mul_le_mul_of_nonneg_left q (show (0 : Int) ≤ 2147483648 by decide)
  omega

set_option maxHeartbeats 1000000 in
set_option maxRecDepth 100000 in
theorem rasr_any (x n : Int) (w : World) (h0 : 0 ≤ x) (h1 : x < 4294967296) (hn : 0 ≤ n) (hn' : n < 4294967296) : Calls Try.prog 103 #[.int .u32 x, .int .u32 n] w (Ret (.int .u32 (M.sg x / 2 ^ (n % 32).toNat % 4294967296)) w) := by
  obtain ⟨m, hk⟩ := Int.eq_ofNat_of_zero_le (show 0 ≤ n % 32 by omega)
  have hk' : m ≤ 31 := by omega
  have hm : n.tmod 32 = (m : Int) := by rw [Int.tmod_eq_emod_of_nonneg hn, hk]
  rw [hk]
  have hsg : -2147483648 ≤ M.sg x ∧ M.sg x < 2147483648 ∧ x = M.sg x % 4294967296 := by unfold M.sg; split <;> omega
  generalize M.sg x = s at *
  have HS := Lib.hid hsg
  clear hsg hk
  go_enter Try.func103, Try.ntmps103
  go_wp2
  go_loop [0, 5] (fun y i => ∃ k : Nat, ∃ z : Int, k ≤ m ∧ i = .int .u32 (k : Int) ∧ y = .int .u32 z ∧ z = s / 2 ^ k % 4294967296) (fun _ i => m - (intOf i).toNat)
  · exact ⟨0, x, by omega, by simp, rfl, by simpa using HS.out.2.2⟩
  obtain ⟨k, z, hk, rfl, rfl, hz⟩ := hrel
  have HZ := Lib.hid hz
  have hz0 : 0 ≤ z := by omega
  have hz1 : z < 4294967296 := by omega
  clear hz
  by_cases hlt : k < m
  · have hlt' : (k : Int) < (m : Int) := by omega
    have e := asr_step (s / 2 ^ k) z (div_lo s k HS.out.1) (div_hi s k HS.out.2.1) HZ.out
    have e2 : s / 2 ^ k / 2 = s / 2 ^ (k + 1) := by rw [Int.pow_succ, Int.ediv_ediv_of_nonneg (by have := pow_ge1 k; omega)]
    rw [e2] at e
    have HE := Lib.hid e
    clear e e2
    go_wp2
    go_round
    case rel => exact ⟨k + 1, z / 2 + z / 2147483648 * 2147483648, by omega, by go_num, by go_num, HE.out⟩
    case measure => simp [intOf]; omega
  · have : k = m := by omega
    subst this
    go_wp2
    go_ret
    exact ⟨ret_i HZ.out, rfl⟩

theorem ror_step (x : Int) (k : Nat) (hk : k ≤ 31) (z : Int) (e : z = x / 2 ^ k + x % 2 ^ k * 2 ^ (32 - k)) : z / 2 + z % 2 * 2147483648 = x / 2 ^ (k + 1) + x % 2 ^ (k + 1) * 2 ^ (32 - (k + 1)) := by
  have q := pow_ge1 k
  have hc : (2 : Int) ^ (32 - k) = 2 * 2 ^ (31 - k) := by rw [show 32 - k = (31 - k) + 1 by omega, Int.pow_succ, Int.mul_comm]
  have hm : (2 : Int) ^ k * 2 ^ (31 - k) = 2147483648 := by rw [← Int.pow_add, show k + (31 - k) = 31 by omega]; rfl
  rw [show 32 - (k + 1) = 31 - k by omega]
  have h1 : x / 2 ^ (k + 1) = x / 2 ^ k / 2 := by rw [Int.pow_succ, Int.ediv_ediv_of_nonneg (by omega)]
  have h2 : x % 2 ^ (k + 1) = x % 2 ^ k + 2 ^ k * (x / 2 ^ k % 2) := by
    have a1 := Int.mul_ediv_add_emod x (2 ^ (k + 1))
    have a2 := Int.mul_ediv_add_emod x (2 ^ k)
    have a3 := Int.mul_ediv_add_emod (x / 2 ^ k) 2
    rw [h1, Int.pow_succ, Int.mul_assoc] at a1
    rw [Int.pow_succ]
    have a4 : (2 : Int) ^ k * (x / 2 ^ k) = 2 ^ k * (2 * (x / 2 ^ k / 2)) + 2 ^ k * (x / 2 ^ k % 2) := by rw [← Int.mul_add, a3]
    omega
  rw [h1, h2, Int.add_mul, Int.mul_right_comm, hm, e, hc]
  generalize x / 2 ^ k = a
  rw [← Int.mul_assoc, Int.mul_comm _ 2, Int.mul_assoc]
  generalize x % 2 ^ k * 2 ^ (31 - k) = b
  omega

set_option maxHeartbeats 1000000 in
set_option maxRecDepth 100000 in
theorem rror_any (x n : Int) (w : World) (h0 : 0 ≤ x) (h1 : x < 4294967296) (hn : 0 ≤ n) (hn' : n < 4294967296) : Calls Try.prog 104 #[.int .u32 x, .int .u32 n] w (Ret (.int .u32 (x / 2 ^ (n % 32).toNat + x % 2 ^ (n % 32).toNat * 2 ^ (32 - n % 32).toNat)) w) := by
  obtain ⟨m, hk⟩ := Int.eq_ofNat_of_zero_le (show 0 ≤ n % 32 by omega)
  have hk' : m ≤ 31 := by omega
  have hm : n.tmod 32 = (m : Int) := by rw [Int.tmod_eq_emod_of_nonneg hn, hk]
  rw [hk, show ((32 : Int) - (m : Int)).toNat = 32 - m by omega]
  clear hk
  go_enter Try.func104, Try.ntmps104
  go_wp2
  go_loop [0, 5] (fun y i => ∃ k : Nat, ∃ z : Int, k ≤ m ∧ i = .int .u32 (k : Int) ∧ y = .int .u32 z ∧ 0 ≤ z ∧ z < 4294967296 ∧ z = x / 2 ^ k + x % 2 ^ k * 2 ^ (32 - k)) (fun _ i => m - (intOf i).toNat)
  · exact ⟨0, x, by omega, by simp, rfl, h0, h1, by simp⟩
  obtain ⟨k, z, hk, rfl, rfl, hz0, hz1, hz⟩ := hrel
  have HZ := Lib.hid hz
  clear hz
  by_cases hlt : k < m
  · have hlt' : (k : Int) < (m : Int) := by omega
    have HE := Lib.hid (ror_step x k (by omega) z HZ.out)
    have ht : z.tmod 2 = z % 2 := Int.tmod_eq_emod_of_nonneg hz0
    go_wp2
    go_round
    case rel => exact ⟨k + 1, z / 2 + z % 2 * 2147483648, by omega, by go_num, by go_num, by omega, by omega, HE.out⟩
    case measure => simp [intOf]; omega
  · have : k = m := by omega
    subst this
    go_wp2
    go_ret
    exact ⟨ret_i HZ.out, rfl⟩

set_option maxHeartbeats 1000000 in
set_option maxRecDepth 100000 in
theorem rfloor_any (a b : Int) (w : World) (hb : 0 < b) (hb' : b ≤ 4294967296) (ha : -4611686018427387904 ≤ a) (ha' : a ≤ 4611686018427387904) : Calls Try.prog 106 #[.int .i64 a, .int .i64 b] w (Ret (.int .i64 (a / b)) w) := by
  have e0 := Int.mul_tdiv_add_tmod a b
  have e1 := Int.lt_tmod_of_pos a hb
  have e2 := Int.tmod_lt_of_pos a hb
  rw [Int.mul_comm] at e0
  have hz : (b == 0) = false := beq_false_of_ne (by omega)
  have hm1 : ¬ b = -1 := by omega
  have hq : -4611686018427387904 ≤ a.tdiv b ∧ a.tdiv b ≤ 4611686018427387904 := by
    have h1 := Int.natAbs_tdiv_le_natAbs a b
    omega
  generalize hqq : a.tdiv b = q at *
  generalize a.tmod b = r at *
  by_cases hr : r < 0
  · have hd : a / b = q - 1 := ((Int.ediv_emod_unique hb).2 ⟨show (r + b) + b * (q - 1) = a by rw [Int.mul_sub, Int.mul_comm b q]; omega, by omega, by omega⟩).1
    have hgt : a < q * b := by omega
    have HD := Lib.hid hd
    clear hd
    generalize hQQ : q * b = Q at *
    go_enter Try.func106, Try.ntmps106
    go_wp2
    go_ret
    exact ⟨ret_i (by rw [HD.out]), rfl⟩
  · have hd : a / b = q := ((Int.ediv_emod_unique hb).2 ⟨show r + b * q = a by rw [Int.mul_comm b q]; omega, by omega, by omega⟩).1
    have hgt : q * b ≤ a := by omega
    have HD := Lib.hid hd
    clear hd
    generalize hQQ : q * b = Q at *
    go_enter Try.func106, Try.ntmps106
    go_wp2
    go_ret
    exact ⟨ret_i (by rw [HD.out]), rfl⟩

set_option maxHeartbeats 1000000 in
set_option maxRecDepth 100000 in
theorem rcarry_any (u fn fz fc fv : Bool) (w : World) : Calls Try.prog 105 #[.bool u, flv fn fz fc fv] w (RetB (.int .i64 (M.carry u fc)) w) := by
  cases u <;> cases fc
  all_goals
    go_enter Try.func105, Try.ntmps105
    go_wp2
    go_ret
    exact ⟨ret_i (by decide), (Below.refl _ w).alloc (Nat.le_refl _) _⟩

set_option maxHeartbeats 1000000 in
set_option maxRecDepth 100000 in
theorem rext_any (x : Int) (n : Nat) (P : Int) (w : World) (h0 : 0 ≤ x) (h1 : x < 4294967296) (hn : 1 ≤ n) (hn' : n ≤ 32) (hP : (2 : Int) ^ n = P) : Calls Try.prog 83 #[.int .u32 x, .int .i64 (n : Int)] w (Ret (.int .i64 (if x % P < P / 2 then x % P else x % P - P)) w) := by
  have q0 := pow_ge1 n
  have q1 := pow_le32 n hn'
  have hp := fun w0 => rpow_any n w0 hn'
  simp only [hP] at hp q0 q1
  have HPp := Lib.hid hP
  clear hP
  have hz : (P == 0) = false := beq_false_of_ne (by omega)
  have ht : x.tmod P = x % P := Int.tmod_eq_emod_of_nonneg h0
  have ht2 : P.tdiv 2 = P / 2 := Int.tdiv_eq_ediv_of_nonneg (by omega)
  have k0 := Int.emod_nonneg x (show P ≠ 0 by omega)
  have k1 := Int.emod_lt_of_pos x (show 0 < P by omega)
  generalize x % P = X at *
  have HP := Lib.hid hp
  clear hp
  by_cases hlt : X < P / 2
  · rw [if_pos hlt]
    go_enter Try.func83, Try.ntmps83
    go_wp2_with (first
      | (go_at_call 70; refine (HP.out _).mono ?_; rintro e w' ⟨rfl, rfl⟩)
      | fail)
    go_ret
    exact ⟨ret_i rfl, rfl⟩
  · rw [if_neg hlt]
    have hle : P / 2 ≤ X := by omega
    go_enter Try.func83, Try.ntmps83
    go_wp2_with (first
      | (go_at_call 70; refine (HP.out _).mono ?_; rintro e w' ⟨rfl, rfl⟩)
      | fail)
    go_ret
    exact ⟨ret_i rfl, rfl⟩

end Go.Proofs.Ytmlmjkojhfjjlaa
