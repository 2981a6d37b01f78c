/- Contracts of the document's bits: pow, Get, Put, Word. -/
import Derived.Test.YtmlmjkojhfjjlaaBits
import Derived.LoopTactic
import Derived.Laws.Bits64
namespace Go.Proofs.Ytmlmjkojhfjjlaa
set_option linter.unusedVariables false
set_option linter.unusedSimpArgs false
open Go.RowKit

theorem pow_le32 (k : Nat) (h : k ≤ 32) : (2 : Int) ^ k ≤ 4294967296 := by
  have : ∀ k : Fin 33, (2 : Int) ^ k.val ≤ 4294967296 := by decide
  exact this ⟨k, by omega⟩

set_option maxHeartbeats 1000000 in
set_option maxRecDepth 100000 in
theorem rpow_any (n : Nat) (w : World) (hn : n ≤ 32) : Calls Try.prog 70 #[.int .u32 (n : Int)] w (Ret (.int .u64 (2 ^ n)) w) := by
  go_enter Try.func70, Try.ntmps70
  go_wp2
  go_loop [3, 4] (fun p i => ∃ k : Nat, k ≤ n ∧ i = .int .u32 (k : Int) ∧ p = .int .u64 (2 ^ k)) (fun _ i => n - (intOf i).toNat)
  · exact ⟨0, by omega, by simp, by simp⟩
  obtain ⟨k, hk, rfl, rfl⟩ := hrel
  by_cases hlt : k < n
  · have h1 := pow_le32 (k + 1) (by omega)
    have h0 := pow_ge1 k
    have e : (2 : Int) ^ (k + 1) = 2 ^ k * 2 := Int.pow_succ 2 k
    have hz : ((k : Int) < (n : Int)) := by omega
    generalize (2 : Int) ^ k = q at *
    go_wp2
    go_round
    case rel => exact ⟨k + 1, by omega, by go_num, by rw [e]⟩
    case measure => simp [intOf]; omega
  · have : k = n := by omega
    subst this
    go_wp2
    go_ret
    exact ⟨rfl, rfl⟩

set_option maxHeartbeats 1000000 in
set_option maxRecDepth 100000 in
theorem may_any (lo n : Int) (w : World) (h0 : 0 ≤ lo) (h1 : 1 ≤ n) (h2 : lo ≤ 31) (h3 : n ≤ 32 - lo) : Calls Try.prog 68 #[.int .i64 lo, .int .i64 n] w (Ret (.bool true) w) := by
  have a0 : decide (0 ≤ lo) = true := decide_eq_true h0
  have a1 : decide (1 ≤ n) = true := decide_eq_true h1
  have a2 : decide (lo ≤ 31) = true := decide_eq_true h2
  have a3 : decide (n ≤ 32 - lo) = true := decide_eq_true h3
  go_enter Try.func68, Try.ntmps68
  go_wp2
  go_ret
  exact ⟨ret_b (by simp <;> omega), rfl⟩

theorem quiet_same2 {f : FuncId} {args : Array Value} {w : World} {n k : Nat} {v : Value} (h : Calls Try.prog f args (w.drewN (n + k)) (Ret v (w.drewN (n + k)))) :
    Calls Try.prog f args (w.drewN (n + k)) fun e w' => e = .returned v ∧ ∃ m, w' = w.drewN (n + m) := h.mono fun _ _ h => ⟨h.1, k, h.2.symm⟩

theorem quiet_retD {f : FuncId} {args : Array Value} {w : World} {n : Nat} {v : Value} (h : Calls Try.prog f args (w.drewN n) (Ret v (w.drewN n))) :
    Calls Try.prog f args (w.drewN n) fun e w' => e = .returned v ∧ ∃ m, w' = w.drewN m := h.mono fun _ _ h => ⟨h.1, n, h.2.symm⟩

set_option maxHeartbeats 1000000 in
set_option maxRecDepth 100000 in
theorem rget_any (x lo n : Int) (w : World) (hx : 0 ≤ x) (hx' : x < 4294967296) (h0 : 0 ≤ lo) (h1 : 1 ≤ n) (h2 : lo ≤ 31) (h3 : n ≤ 32 - lo) :
    Calls Try.prog 69 #[.int .u32 x, .int .i64 lo, .int .i64 n] w (RetD (.int .u32 (M.get x lo n)) w) := by
  obtain ⟨l, rfl⟩ := Int.eq_ofNat_of_zero_le h0
  obtain ⟨m, rfl⟩ := Int.eq_ofNat_of_zero_le (show 0 ≤ n by omega)
  have p0 := pow_ge1 l
  have p1 := pow_le32 l (by omega)
  have q0 := pow_ge1 m
  have q1 := pow_le32 m (by omega)
  have hl := fun w0 => rpow_any l w0 (by omega)
  have hm := fun w0 => rpow_any m w0 (by omega)
  have hmay := fun w0 => may_any (l : Int) (m : Int) w0 h0 h1 h2 h3
  show Calls _ _ _ _ (RetD (.int .u32 (x / 2 ^ l % 2 ^ m)) w)
  generalize (2 : Int) ^ l = P at *
  generalize (2 : Int) ^ m = Q at *
  have hP : ¬ P = 0 := by omega
  have hQ : ¬ Q = 0 := by omega
  have hPb : (P == 0) = false := by simpa using hP
  have hQb : (Q == 0) = false := by simpa using hQ
  go_enter Try.func69, Try.ntmps69
  go_wp2_with (go_at_call 68; refine (hmay _).mono ?_; rintro e w' ⟨rfl, rfl⟩)
  go_quiet ((go_at_call 70; first | with_reducible exact quiet_retD (hl _) | with_reducible exact quiet_retD (hm _)))
  go_wp2
  go_ret
  refine ⟨ret_i ?_, nq, rfl⟩
  have hn : 0 ≤ x / P := Int.ediv_nonneg hx (by omega)
  rw [Int.tmod_eq_emod_of_nonneg hn]
  have k0 := Int.emod_nonneg (x / P) hQ
  have k1 := Int.emod_lt_of_pos (x / P) (show 0 < Q by omega)
  exact Int.emod_eq_of_lt k0 (by omega)

/-- A word with other bits. -/
def putM (x lo n v : Int) : Int := (x - x / 2 ^ lo.toNat % 2 ^ n.toNat * 2 ^ lo.toNat + v % 2 ^ n.toNat * 2 ^ lo.toNat) % 4294967296

set_option maxHeartbeats 1000000 in
set_option maxRecDepth 100000 in
theorem rput_any (x lo n v : Int) (w : World) (hx : 0 ≤ x) (hx' : x < 4294967296) (hv : 0 ≤ v) (hv' : v < 4294967296) (h0 : 0 ≤ lo) (h1 : 1 ≤ n) (h2 : lo ≤ 31) (h3 : n ≤ 32 - lo) :
    Calls Try.prog 50 #[.int .u32 x, .int .i64 lo, .int .i64 n, .int .u32 v] w (RetD (.int .u32 (putM x lo n v)) w) := by
  obtain ⟨l, rfl⟩ := Int.eq_ofNat_of_zero_le h0
  obtain ⟨m, rfl⟩ := Int.eq_ofNat_of_zero_le (show 0 ≤ n by omega)
  have p0 := pow_ge1 l
  have p1 := pow_le32 l (by omega)
  have q0 := pow_ge1 m
  have q1 := pow_le32 m (by omega)
  have hl := fun w0 => rpow_any l w0 (by omega)
  have hm := fun w0 => rpow_any m w0 (by omega)
  have hmay := fun w0 => may_any (l : Int) (m : Int) w0 h0 h1 h2 h3
  have hget := fun w0 => rget_any x (l : Int) (m : Int) w0 hx hx' h0 h1 h2 h3
  show Calls _ _ _ _ (RetD (.int .u32 ((x - x / 2 ^ l % 2 ^ m * 2 ^ l + v % 2 ^ m * 2 ^ l) % 4294967296)) w)
  change ∀ w0, Calls _ _ _ _ (RetD (.int .u32 (x / 2 ^ l % 2 ^ m)) w0) at hget
  generalize (2 : Int) ^ l = P at *
  generalize (2 : Int) ^ m = Q at *
  have hP : ¬ P = 0 := by omega
  have hQ : ¬ Q = 0 := by omega
  have hPb : (P == 0) = false := by simpa using hP
  have hQb : (Q == 0) = false := by simpa using hQ
  have g0 := Int.emod_nonneg (x / P) hQ
  have g1 := Int.emod_lt_of_pos (x / P) (show 0 < Q by omega)
  generalize x / P % Q = G at *
  go_enter Try.func50, Try.ntmps50
  go_wp2_with (first | (go_at_call 68; refine (hmay _).mono ?_; rintro e w' ⟨rfl, rfl⟩) | (go_at_call 69; refine (hget _).mono ?_; rintro e w' ⟨rfl, nd, rfl⟩) | (go_at_call 70; refine (hl _).mono ?_; rintro e w' ⟨rfl, rfl⟩))
  go_quiet ((go_at_call 70; first | with_reducible exact quiet_same2 (hl _) | with_reducible exact quiet_same2 (hm _)))
  go_wp2
  go_ret
  refine ⟨ret_i ?_, nd + nq, by simp⟩
  generalize G * P = A
  generalize v % Q * P = B
  simp only [IntKind.wrap_u64]
  omega

end Go.Proofs.Ytmlmjkojhfjjlaa
