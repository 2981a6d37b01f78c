/- Contracts of the small functions on words and numbers of the program's packages bits and risc: each call returns what the plain function of the same name tells, and leaves what was there as it was. -/
import Derived.Test.YtmlmjkojhfjjlaaWords
import Derived.Test.YtmlmjkojhfjjlaaModel
namespace Go.Proofs.Ytmlmjkojhfjjlaa
set_option linter.unusedVariables false
set_option linter.unusedSimpArgs false
open Go.RowKit

theorem RetD.of {v : Value} {w w' : World} {e : Ending} (h : Ret v w e w') : RetD v w e w' := ⟨h.1, 0, h.2.symm⟩

def halfB (v n : Int) : Bool := decide (0 ≤ v ∧ v < 2 ^ n.toNat)

theorem pow_le62 (k : Nat) (h : k ≤ 62) : (2 : Int) ^ k ≤ 4611686018427387904 := by
  have h2 : (2 : Nat) ^ k ≤ 2 ^ 62 := Nat.pow_le_pow_right (by decide) h
  have h3 : ((2 ^ k : Nat) : Int) ≤ ((2 ^ 62 : Nat) : Int) := by exact_mod_cast h2
  simpa using h3
theorem pow_ge1 (k : Nat) : (1 : Int) ≤ 2 ^ k := by
  have h : 0 < (2 : Nat) ^ k := Nat.two_pow_pos _
  have h3 : ((0 : Nat) : Int) < ((2 ^ k : Nat) : Int) := by exact_mod_cast h
  simp at h3
  omega

theorem ret_b {a b : Bool} (h : a = b) : Ending.returned (.bool a) = .returned (.bool b) := by rw [h]
theorem ret_ii {k l : IntKind} {a b c d : Int} (h : a = b) (h' : c = d) : Ending.returned (.tuple #[.int k a, .int l c]) = .returned (.tuple #[.int k b, .int l d]) := by rw [h, h']
theorem ret_i {k : IntKind} {a b : Int} (h : a = b) : Ending.returned (.int k a) = .returned (.int k b) := by rw [h]

set_option maxHeartbeats 400000 in
theorem half_any (v n : Int) (w : World) (h0 : 0 ≤ n) (h1 : n ≤ 32) :
    Calls Try.prog 71 #[.int .i64 v, .int .i64 n] w (Ret (.bool (halfB v n)) w) := by
  have hp := pow_le62 n.toNat (by omega)
  have hq := pow_ge1 n.toNat
  go_enter Try.func71, Try.ntmps71
  go_wp2
  all_goals
    go_ret
    refine ⟨ret_b ?_, rfl⟩
    unfold halfB
    rw [Bool.eq_iff_iff]
    simp only [decide_eq_true_eq, Bool.false_eq_true, false_iff, iff_false]
    generalize (2 : Int) ^ n.toNat = p at *
    omega

set_option maxHeartbeats 400000 in
theorem fits_any (v n : Int) (w : World) (h0 : 1 ≤ n) (h1 : n ≤ 32) :
    Calls Try.prog 72 #[.int .i64 v, .int .i64 n] w (Ret (.bool (M.fits v n)) w) := by
  have hp := pow_le62 (n.toNat - 1) (by omega)
  have hq := pow_ge1 (n.toNat - 1)
  go_enter Try.func72, Try.ntmps72
  go_wp2
  all_goals
    go_ret
    refine ⟨ret_b ?_, rfl⟩
    have e : (n - 1).toNat = n.toNat - 1 := by omega
    unfold M.fits
    rw [Bool.eq_iff_iff, e]
    simp only [decide_eq_true_eq, Bool.false_eq_true, false_iff, iff_false]
    generalize (2 : Int) ^ (n.toNat - 1) = p at *
    omega

def inB (lo n : Int) : Bool := decide (0 ≤ lo ∧ 1 ≤ n ∧ lo + n ≤ 32)
set_option maxHeartbeats 400000 in
theorem inside_any (lo n : Int) (w : World) (h0 : 0 ≤ lo) (h1 : lo ≤ 31) (h2 : 1 ≤ n) (h3 : n ≤ 32) :
    Calls Try.prog 89 #[.int .i64 lo, .int .i64 n] w (Ret (.bool (inB lo n)) w) := by
  go_enter Try.func89, Try.ntmps89
  go_wp2
  all_goals
    go_ret
    refine ⟨ret_b ?_, rfl⟩
    unfold inB
    rw [Bool.eq_iff_iff]
    simp only [decide_eq_true_eq, Bool.false_eq_true, false_iff, iff_false]
    omega

theorem pow_le31 (k : Nat) (h : k ≤ 31) : (2 : Int) ^ k ≤ 2147483648 := by
  have h2 : (2 : Nat) ^ k ≤ 2 ^ 31 := Nat.pow_le_pow_right (by decide) h
  have h3 : ((2 ^ k : Nat) : Int) ≤ ((2 ^ 31 : Nat) : Int) := by exact_mod_cast h2
  simpa using h3

set_option maxHeartbeats 400000 in
theorem mask_any (n : Int) (w : World) (h0 : 1 ≤ n) (h1 : n ≤ 31) :
    Calls Try.prog 90 #[.int .i64 n] w (Ret (.int .u32 (2 ^ n.toNat - 1)) w) := by
  have hp := pow_le31 n.toNat (by omega)
  have hq := pow_ge1 n.toNat
  go_enter Try.func90, Try.ntmps90
  go_wp2
  go_ret
  refine ⟨ret_i ?_, rfl⟩
  generalize (2 : Int) ^ n.toNat = p at *
  omega

theorem wraps_u32 (n : Int) (h₀ : 0 ≤ n) (h₁ : n < 2 ^ 32) : IntKind.u32.wrap n = n := by rw [IntKind.wrap_u32]; omega
theorem u32_mask (i : Nat) (hi : i ≤ 32) (x : Int) (h0 : 0 ≤ x) (h1 : x < 4294967296) : bits .and .u32 x (2 ^ i - 1) = x % 2 ^ i :=
  bits_mask .u32 32 (by decide) wraps_u32 i hi x h0 (by omega)
theorem u32_join (i : Nat) (x y : Int) (hx₀ : 0 ≤ x) (hx : x % 2 ^ i = 0) (hx₁ : x < 4294967296) (hy₀ : 0 ≤ y) (hy : y < 2 ^ i) (hy₁ : y < 4294967296) : bits .or .u32 x y = x + y :=
  bits_join .u32 32 (by decide) wraps_u32 i x y hx₀ hx (by omega) hy₀ hy (by omega)

set_option maxHeartbeats 400000 in
theorem get_any (x lo n : Int) (w : World) (h0 : 0 ≤ lo) (h1 : 1 ≤ n) (h2 : lo + n ≤ 31) (hx : 0 ≤ x) (hx' : x < 4294967296) :
    Calls Try.prog 74 #[.int .u32 x, .int .i64 lo, .int .i64 n] w (RetD (.int .u32 (M.get x lo n)) w) := by
  have hi : inB lo n = true := by unfold inB; exact decide_eq_true (by omega)
  go_enter Try.func74, Try.ntmps74
  go_wp2_with (go_at_call 89; refine (inside_any _ _ _ (by omega) (by omega) (by omega) (by omega)).mono ?_; rintro e w' ⟨rfl, rfl⟩)
  go_quiet ((go_at_call 90; exact Calls.quiet_of_same ((mask_any _ _ (by omega) (by omega)).mono fun _ _ h => ⟨h.1, h.2.symm⟩)))
  go_wp2
  go_ret
  refine ⟨ret_i ?_, _, rfl⟩
  have hq := pow_ge1 lo.toNat
  exact u32_mask _ (by omega) _ (Int.ediv_nonneg hx (by omega)) (Int.lt_of_le_of_lt (Int.ediv_le_self _ hx) hx')

set_option maxHeartbeats 400000 in
theorem ext20_any (x : Int) (w : World) (hx : 0 ≤ x) (hx' : x < 4294967296) :
    Calls Try.prog 75 #[.int .u32 x, .int .i64 20] w (Ret (.int .i64 (M.ext20 x)) w) := by
  go_enter Try.func75, Try.ntmps75
  go_wp2
  go_ret
  refine ⟨ret_i ?_, rfl⟩
  unfold M.ext20 wrap64 wrap32
  split <;> omega

set_option maxHeartbeats 400000 in
theorem ext24_any (x : Int) (w : World) (hx : 0 ≤ x) (hx' : x < 4294967296) :
    Calls Try.prog 75 #[.int .u32 x, .int .i64 24] w (Ret (.int .i64 (M.ext24 x)) w) := by
  go_enter Try.func75, Try.ntmps75
  go_wp2
  go_ret
  refine ⟨ret_i ?_, rfl⟩
  unfold M.ext24 wrap64 wrap32
  split <;> omega

set_option maxHeartbeats 400000 in
theorem signed_any (x : Int) (w : World) (hx : 0 ≤ x) (hx' : x < 4294967296) :
    Calls Try.prog 91 #[.int .u32 x] w (Ret (.int .i64 (M.sg x)) w) := by
  go_enter Try.func91, Try.ntmps91
  go_wp2
  go_ret
  refine ⟨ret_i ?_, rfl⟩
  unfold M.sg wrap64 wrap32
  split <;> omega

set_option maxHeartbeats 400000 in
theorem lsl_any (x n : Int) (w : World) (hn : 0 ≤ n) (hn' : n < 4294967296) :
    Calls Try.prog 95 #[.int .u32 x, .int .u32 n] w (Ret (.int .u32 (x * 2 ^ (n % 32).toNat % 4294967296)) w) := by
  go_enter Try.func95, Try.ntmps95
  go_wp2
  go_ret
  exact ⟨rfl, rfl⟩

theorem sg_wrap (x : Int) (hx : 0 ≤ x) (hx' : x < 4294967296) : wrap32 x = M.sg x := by unfold M.sg wrap32; split <;> omega
theorem sg_bd (x : Int) (hx : 0 ≤ x) (hx' : x < 4294967296) : -2147483648 ≤ M.sg x ∧ M.sg x < 2147483648 := by unfold M.sg; split <;> omega

set_option maxHeartbeats 400000 in
theorem asr_any (x n : Int) (w : World) (hx : 0 ≤ x) (hx' : x < 4294967296) (hn : 0 ≤ n) (hn' : n < 4294967296) :
    Calls Try.prog 96 #[.int .u32 x, .int .u32 n] w (Ret (.int .u32 (M.sg x / 2 ^ (n % 32).toNat % 4294967296)) w) := by
  go_enter Try.func96, Try.ntmps96
  go_wp2
  go_ret
  exact ⟨ret_i (by rw [sg_wrap x hx hx']), rfl⟩

theorem ror_math (x : Int) (hx : 0 ≤ x) (hx' : x < 4294967296) (s : Nat) (h1 : 1 ≤ s) (h2 : s ≤ 31) :
    bits .or .u32 (x * 2 ^ s % 4294967296) (x / 2 ^ (32 - s)) = x / 2 ^ (32 - s) + x % 2 ^ (32 - s) * 2 ^ s := by
  have hp := pow_ge1 s
  have hq := pow_ge1 (32 - s)
  have e : (4294967296 : Int) = 2 ^ s * 2 ^ (32 - s) := by rw [← Int.pow_add, show s + (32 - s) = 32 by omega]; rfl
  have em : x * 2 ^ s % 4294967296 = x % 2 ^ (32 - s) * 2 ^ s := by rw [e, Int.mul_comm x, Int.mul_emod_mul_of_pos _ _ (by omega), Int.mul_comm]
  have hd : x / 2 ^ (32 - s) < 2 ^ s := by
    apply Int.ediv_lt_of_lt_mul (by omega)
    rw [← e]; exact hx'
  have hd0 : 0 ≤ x / 2 ^ (32 - s) := Int.ediv_nonneg hx (by omega)
  rw [em, u32_join s _ _ (Int.mul_nonneg (Int.emod_nonneg _ (by omega)) (by omega)) (Int.mul_emod_left _ _) (by rw [← em]; exact Int.emod_lt_of_pos _ (by decide)) hd0 hd
    (Int.lt_of_le_of_lt (Int.ediv_le_self _ hx) hx'), Int.add_comm]

theorem wraps_u64 (n : Int) (h₀ : 0 ≤ n) (h₁ : n < 2 ^ 64) : IntKind.u64.wrap n = n := by rw [IntKind.wrap_u64]; omega
theorem u64_31 (x : Int) (h0 : 0 ≤ x) (h1 : x < 18446744073709551616) : bits .and .u64 x 31 = x % 32 :=
  bits_mask .u64 64 (by decide) wraps_u64 5 (by decide) x h0 (by omega)

/-- A word, turned right by k bits. -/
def ror (x : Int) (k : Nat) : Int := x / 2 ^ k + x % 2 ^ k * 2 ^ (32 - k)

set_option maxHeartbeats 400000 in
theorem rotl_any (x k : Int) (w : World) (hx : 0 ≤ x) (hx' : x < 4294967296) (h0 : -31 ≤ k) (h1 : k ≤ 0) :
    Calls Try.prog 111 #[.int .u32 x, .int .i64 k] w (Ret (.int .u32 (ror x (-k).toNat)) w) := by
  obtain ⟨s, hs, hs0, hs1, hk⟩ : ∃ s : Int, bits .and .u64 (IntKind.u64.wrap k) 31 = s ∧ 0 ≤ s ∧ s ≤ 31 ∧ s % 32 = k % 32 := by
    refine ⟨k % 32, ?_, by omega, by omega, by omega⟩
    rw [IntKind.wrap_u64, u64_31 _ (by omega) (by omega)]
    omega
  have HK := Lib.hid hk
  clear hk
  go_enter Try.func111, Try.ntmps111
  go_wp2
  go_ret
  refine ⟨ret_i ?_, rfl⟩
  have hk := HK.out
  unfold ror
  by_cases e : k = 0
  · subst e
    obtain rfl : s = 0 := by omega
    have hz : x / 4294967296 = 0 := by omega
    have := u32_join 32 0 x (by omega) (by decide) (by omega) hx (by omega) hx'
    have hc : bits .or .u32 x 0 = bits .or .u32 0 x := by simp [bits]
    simp [Int.emod_eq_of_lt hx hx', hz, hc, this]
  · obtain ⟨j, rfl⟩ := Int.eq_ofNat_of_zero_le hs0
    have e2 : (-k).toNat = 32 - j := by omega
    have e3 : (32 - (j : Int)).toNat = 32 - j := by omega
    have e4 : 32 - (32 - j) = j := by omega
    have := ror_math x hx hx' j (by omega) (by omega)
    simp only [e2, e3, e4, Int.toNat_natCast] at this ⊢
    exact this

set_option maxHeartbeats 400000 in
theorem over_any (n : Int) (w : World) (h0 : -9223372036854775808 ≤ n) (h1 : n ≤ 9223372036854775807) :
    Calls Try.prog 98 #[.int .i64 n] w (Ret (.bool (M.over n)) w) := by
  go_enter Try.func98, Try.ntmps98
  go_wp2
  go_ret
  refine ⟨ret_b ?_, rfl⟩
  unfold M.over wrap64 wrap32
  rw [Bool.eq_iff_iff, bne_iff_ne]
  simp only [decide_eq_true_eq]
  omega

theorem mul_u (b n : Int) (hb : 0 ≤ b) (hb' : b < 4294967296) (hn : 0 ≤ n) (hn' : n < 4294967296) : 0 ≤ b * n ∧ b * n ≤ 18446744065119617025 := by
  refine ⟨Int.mul_nonneg hb hn, ?_⟩
  have := Int.mul_le_mul (show b ≤ 4294967295 by omega) (show n ≤ 4294967295 by omega) hn (by decide)
  omega
theorem mul_s (b n : Int) (hb : -2147483648 ≤ b) (hb' : b < 2147483648) (hn : -2147483648 ≤ n) (hn' : n < 2147483648) : -4611686018427387904 ≤ b * n ∧ b * n ≤ 4611686018427387904 := by
  have h1 : (b * n).natAbs ≤ 2147483648 * 2147483648 := by rw [Int.natAbs_mul]; exact Nat.mul_le_mul (by omega) (by omega)
  omega
theorem sg_w (b : Int) (hb : 0 ≤ b) (hb' : b < 4294967296) : wrap64 (wrap32 b) = M.sg b := by
  rw [sg_wrap b hb hb']
  have := sg_bd b hb hb'
  unfold wrap64; omega

set_option maxHeartbeats 400000 in
theorem product_u (b n : Int) (w : World) (hb : 0 ≤ b) (hb' : b < 4294967296) (hn : 0 ≤ n) (hn' : n < 4294967296) :
    Calls Try.prog 99 #[.bool true, .int .u32 b, .int .u32 n] w (Ret (.tuple #[.int .u32 (b * n % 4294967296), .int .u32 (b * n / 4294967296)]) w) := by
  have hm := mul_u b n hb hb' hn hn'
  go_enter Try.func99, Try.ntmps99
  go_wp2
  go_ret2
  exact ⟨rfl, rfl⟩

set_option maxHeartbeats 400000 in
theorem product_s (b n : Int) (w : World) (hb : 0 ≤ b) (hb' : b < 4294967296) (hn : 0 ≤ n) (hn' : n < 4294967296) :
    Calls Try.prog 99 #[.bool false, .int .u32 b, .int .u32 n] w (Ret (.tuple #[.int .u32 (M.sg b * M.sg n % 4294967296), .int .u32 (M.sg b * M.sg n / 4294967296 % 4294967296)]) w) := by
  go_enter Try.func99, Try.ntmps99
  go_wp2
  go_ret2
  have hb1 := sg_bd b hb hb'
  have hn1 := sg_bd n hn hn'
  have hm := mul_s _ _ hb1.1 hb1.2 hn1.1 hn1.2
  have e : IntKind.u64.wrap (wrap64 (wrap64 (wrap32 b) * wrap64 (wrap32 n))) = M.sg b * M.sg n % 18446744073709551616 := by
    rw [sg_w b hb hb', sg_w n hn hn', IntKind.wrap_u64]; unfold wrap64; omega
  refine ⟨ret_ii ?_ ?_, rfl⟩
  · rw [e]; generalize M.sg b * M.sg n = p at *; omega
  · rw [e]; generalize M.sg b * M.sg n = p at *; omega

/-- Go's quotient and rest of a divisor above 0, put right. -/
theorem floor_math (b n : Int) (hn : 0 < n) : (b.tmod n < 0 → b.tdiv n - 1 = b / n ∧ b.tmod n + n = b % n) ∧ (0 ≤ b.tmod n → b.tdiv n = b / n ∧ b.tmod n = b % n) := by
  have h1 := Int.mul_tdiv_add_tmod b n
  have h2 := Int.mul_ediv_add_emod b n
  have h3 := Int.emod_nonneg b (show n ≠ 0 by omega)
  have h4 := Int.emod_lt_of_pos b hn
  have h5 : (b.tmod n).natAbs < n.natAbs := by rw [Int.natAbs_tmod]; exact Nat.mod_lt _ (by omega)
  have key : ∀ q r : Int, n * q + r = b → 0 ≤ r → r < n → q = b / n ∧ r = b % n := by
    intro q r hq hr0 hr1
    have e1 : b / n = q := by
      rw [← hq, Int.add_comm, Int.add_mul_ediv_left _ _ (by omega), Int.ediv_eq_zero_of_lt hr0 hr1]; omega
    refine ⟨e1.symm, ?_⟩
    rw [e1] at h2
    omega
  constructor
  · intro hlt
    refine key _ _ ?_ (by omega) (by omega)
    rw [Int.mul_sub, Int.mul_one]; omega
  · intro hge
    exact key _ _ h1 hge (by omega)

set_option maxHeartbeats 400000 in
theorem quotient_any (b n : Int) (w : World) (hb : 0 ≤ b) (hb' : b < 4294967296) (hn : 0 ≤ n) (hn' : n < 4294967296) :
    Calls Try.prog 100 #[.int .u32 b, .int .u32 n] w (RetD (.tuple #[.int .u32 (if 0 < M.sg n then M.sg b / M.sg n % 4294967296 else 0), .int .u32 (if 0 < M.sg n then M.sg b % M.sg n else b)]) w) := by
  have hb1 := sg_bd b hb hb'
  have hn1 := sg_bd n hn hn'
  have eb := sg_w b hb hb'
  have en := sg_w n hn hn'
  generalize M.sg b = B at *
  generalize M.sg n = N at *
  by_cases hN : 0 < N
  · go_enter Try.func100, Try.ntmps100
    go_wp2
    go_quiet (fail)
    go_wp2
    · go_ret2
      obtain ⟨hq, hr⟩ := (floor_math B N hN).1 (by assumption)
      have h3 := Int.emod_nonneg B (show N ≠ 0 by omega)
      have h4 := Int.emod_lt_of_pos B hN
      have h6 := Int.natAbs_tdiv_le_natAbs B N
      refine ⟨ret_ii ?_ ?_, nq, rfl⟩
      · rw [← hq]; unfold wrap64; omega
      · rw [← hr]; unfold wrap64; omega
    · go_ret2
      obtain ⟨hq, hr⟩ := (floor_math B N hN).2 (by assumption)
      have h3 := Int.emod_nonneg B (show N ≠ 0 by omega)
      have h4 := Int.emod_lt_of_pos B hN
      refine ⟨ret_ii ?_ ?_, nq, rfl⟩
      · rw [hq]
      · rw [hr]; omega
  · go_enter Try.func100, Try.ntmps100
    go_wp2
    go_ret2
    exact ⟨ret_ii rfl rfl, 0, rfl⟩

end Go.Proofs.Ytmlmjkojhfjjlaa
