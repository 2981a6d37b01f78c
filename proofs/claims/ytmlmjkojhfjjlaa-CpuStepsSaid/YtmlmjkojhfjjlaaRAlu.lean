/- Contracts of the document's alu: Do and Holds tell what the plain machine tells. -/
import Derived.Test.YtmlmjkojhfjjlaaRefS
import Derived.Test.YtmlmjkojhfjjlaaAluD
namespace Go.Proofs.Ytmlmjkojhfjjlaa
set_option linter.unusedVariables false
set_option linter.unusedSimpArgs false
open Go.RowKit

set_option maxHeartbeats 2000000 in
set_option maxRecDepth 100000 in
theorem rholds_any (c : Int) (fn fz fc fv : Bool) (w : World) (h0 : 0 ≤ c) (h1 : c ≤ 15) :
    Calls Try.prog 88 #[.int .i64 c, flv fn fz fc fv] w (RetB (.bool (M.holds c fn fz fc fv)) w) := by
  have hc : c = 0 ∨ c = 1 ∨ c = 2 ∨ c = 3 ∨ c = 4 ∨ c = 5 ∨ c = 6 ∨ c = 7 ∨ c = 8 ∨ c = 9 ∨ c = 10 ∨ c = 11 ∨ c = 12 ∨ c = 13 ∨ c = 14 ∨ c = 15 := by omega
  rcases hc with rfl | rfl | rfl | rfl | rfl | rfl | rfl | rfl | rfl | rfl | rfl | rfl | rfl | rfl | rfl | rfl
  all_goals
    clear h0 h1
    go_enter Try.func88, Try.ntmps88
    go_wp2
    all_goals
      go_ret
      refine ⟨ret_b ?_, (Below.refl _ _).alloc (Nat.le_refl _) _⟩
      cases fn <;> cases fz <;> cases fc <;> cases fv <;> first | rfl | contradiction

/-- A struct out of its block, as the one result. -/
theorem res_cell {P : Program} {fn : Func} {p : Tmp} {ty t : TypeId} {g : Nat} {cs : Array Value} {w : World} {d : TypeDesc} {tmps : Array Value} (h : fn.results = #[.cell p ty])
    (hp : tmps.getD p undef = .pointer (some ⟨g, 0, none⟩)) (hg : Cel w g t cs) (hu : P.underlying ty = some d) (hd : (match d with | .struct _ | .array _ _ => true | _ => false) = true)
    (hi : (P.info? ty).map (·.size) = some cs.size) {v : Value} (hv : v = .agg cs) : (results fn tmps).run P w = .ok v w := hv ▸ results_cell_row h tmps w g t cs (0, 0) d hp hg hu hd hi

/-- What the document's Do tells. -/
def rdoV (op : Int) (u : Bool) (b n h : Int) (fn fz fc fv : Bool) : Value :=
  .agg #[.int .u32 (M.aluR op u b n h fc), .int .u32 (M.aluH op u b n h), .bool (decide (2147483648 ≤ M.aluR op u b n h fc)), .bool (decide (M.aluR op u b n h fc = 0)), .bool (M.aluC op u b n fc), .bool (M.aluV op u b n fc fv), .bool true]

theorem rdoV_eq {op : Int} {u : Bool} {b n h : Int} {fn fz fc fv : Bool} {r g : Int} {C V : Bool} (hr : r = M.aluR op u b n h fc) (hh : g = M.aluH op u b n h) (hC : C = M.aluC op u b n fc) (hV : V = M.aluV op u b n fc fv) :
    Ending.returned (.agg #[.int .u32 r, .int .u32 g, .bool (decide (2147483648 ≤ r)), .bool (r == 0), .bool C, .bool V, .bool true]) = .returned (rdoV op u b n h fn fz fc fv) := by
  have e2 : (r == 0) = decide (r = 0) := by rw [Bool.eq_iff_iff, beq_iff_eq, decide_eq_true_iff]
  unfold rdoV
  rw [e2, ← hr, ← hh, ← hC, ← hV]

abbrev TOLD : TypeId := 134

theorem rd_cel (w : World) (o p : Obj) (cs : Array Value) : Cel (((w.alloc o).alloc (.cells cs TOLD)).alloc p) (w.heap.size + 1) TOLD cs := by
  have h := Cel.new (w.alloc o) TOLD cs
  rw [World.size_alloc] at h
  exact h.alloc p
theorem rd_below (w : World) (o p : Obj) (cs : Array Value) : Below w.heap.size w (((w.alloc o).alloc (.cells cs TOLD)).alloc p) :=
  (((Below.refl _ _).alloc (Nat.le_refl _) _).alloc (by simp) _).alloc (by simp <;> omega) _

set_option maxHeartbeats 1000000 in
set_option maxRecDepth 100000 in
theorem rcarry_ex (u fn fz fc fv : Bool) (c : Int) (hc : M.carry u fc = c) (w : World) : Calls Try.prog 105 #[.bool u, flv fn fz fc fv] w (fun e w' => e = .returned (.int .i64 c) ∧ w.alloc (.cells #[.bool fn, .bool fz, .bool fc, .bool fv] 87) = w') := by
  subst hc
  cases u <;> cases fc
  all_goals
    go_enter Try.func105, Try.ntmps105
    go_wp2
    go_ret
    exact ⟨ret_i (by decide), rfl⟩

theorem fits_over (x : Int) : (!(M.fits x 32)) = M.over x := by
  unfold M.fits M.over
  have e : (2 : Int) ^ ((32 : Int) - 1).toNat = 2147483648 := by decide
  rw [e, Bool.eq_iff_iff]
  simp <;> omega
theorem sg_mul (b n : Int) (hb : 0 ≤ b) (hb' : b < 4294967296) (hn : 0 ≤ n) (hn' : n < 4294967296) : -4611686018427387904 ≤ M.sg b * M.sg n ∧ M.sg b * M.sg n ≤ 4611686018427387904 := by
  have h1 := sg_bd b hb hb'
  have h2 := sg_bd n hn hn'
  generalize M.sg b = x at *
  generalize M.sg n = y at *
  have k : (x * y).natAbs ≤ 2147483648 * 2147483648 := by
    rw [Int.natAbs_mul]
    exact Nat.mul_le_mul (by omega) (by omega)
  omega
theorem div_parts (x y : Int) (hy : 0 < y) (hx : -2147483648 ≤ x) (hx' : x ≤ 2147483647) (hy' : y ≤ 2147483647) : -2147483648 ≤ x / y ∧ x / y ≤ 2147483647 ∧ (-4294967296 ≤ x / y * y ∧ x / y * y ≤ 2147483648) ∧ (x - x / y * y) % 4294967296 = x % y := by
  have e := Int.mul_ediv_add_emod x y
  have m0 := Int.emod_nonneg x (show y ≠ 0 by omega)
  have m1 := Int.emod_lt_of_pos x hy
  rw [Int.mul_comm] at e
  refine ⟨?_, ?_, by omega, ?_⟩
  · refine Int.le_ediv_of_mul_le hy ?_
    have := Int.mul_le_mul_of_nonneg_left (show (1 : Int) ≤ y by omega) (show (0 : Int) ≤ 2147483648 by decide)
    omega
  · have : x / y < 2147483648 := by
      refine Int.ediv_lt_of_lt_mul hy ?_
      have := Int.mul_le_mul_of_nonneg_left (show (1 : Int) ≤ y by omega) (show (0 : Int) ≤ 2147483648 by decide)
      omega
    omega
  · omega

/-- PRINTED FROM HERE by gen_ralu.py. -/
theorem rprinted : True := trivial

set_option maxHeartbeats 2000000 in
set_option maxRecDepth 100000 in
theorem rdo_mov (u : Bool) (b n h : Int) (fn fz fc fv : Bool) (w : World) (hb : 0 ≤ b) (hb' : b < 4294967296) (hn : 0 ≤ n) (hn' : n < 4294967296) (hh : 0 ≤ h) (hh' : h < 4294967296) :
    Calls Try.prog 85 #[.int .i64 0, .bool u, .int .u32 b, .int .u32 n, .int .u32 h, flv fn fz fc fv] w (RetB (rdoV 0 u b n h fn fz fc fv) w) := by
  cases u
  all_goals
    go_enter Try.func85, Try.ntmps85
    go_wp2_with (first
      | (go_at_call 101; refine (rsigned_any _ _ (by omega) (by omega)).mono ?_; rintro e w' ⟨rfl, rfl⟩)
      | fail)
    refine bodyPost_ret (res_cell rfl rfl (rd_cel _ _ _ _) Try.underlying134 rfl (by kernel_rfl) rfl) rfl ⟨rdoV_eq ?_ ?_ ?_ ?_, rd_below _ _ _ _⟩
    all_goals first
      | (simp [M.aluR, M.aluH, M.aluC, M.aluV, M.carry]; done)
      | omega

set_option maxHeartbeats 2000000 in
set_option maxRecDepth 100000 in
theorem rdo_lsl (b n h : Int) (fn fz fc fv : Bool) (w : World) (hb : 0 ≤ b) (hb' : b < 4294967296) (hn : 0 ≤ n) (hn' : n < 4294967296) (hh : 0 ≤ h) (hh' : h < 4294967296) :
    Calls Try.prog 85 #[.int .i64 1, .bool false, .int .u32 b, .int .u32 n, .int .u32 h, flv fn fz fc fv] w (RetB (rdoV 1 false b n h fn fz fc fv) w) := by
  skip
  all_goals
    go_enter Try.func85, Try.ntmps85
    go_wp2_with (first
      | (go_at_call 101; refine (rsigned_any _ _ (by omega) (by omega)).mono ?_; rintro e w' ⟨rfl, rfl⟩)
      | (go_at_call 102; refine (rlsl_any _ _ _ (by omega) (by omega) (by omega) (by omega)).mono ?_; rintro e w' ⟨rfl, rfl⟩)
      | fail)
    refine bodyPost_ret (res_cell rfl rfl (rd_cel _ _ _ _) Try.underlying134 rfl (by kernel_rfl) rfl) rfl ⟨rdoV_eq ?_ ?_ ?_ ?_, rd_below _ _ _ _⟩
    all_goals first
      | (simp [M.aluR, M.aluH, M.aluC, M.aluV, M.carry]; done)
      | omega

set_option maxHeartbeats 2000000 in
set_option maxRecDepth 100000 in
theorem rdo_asr (b n h : Int) (fn fz fc fv : Bool) (w : World) (hb : 0 ≤ b) (hb' : b < 4294967296) (hn : 0 ≤ n) (hn' : n < 4294967296) (hh : 0 ≤ h) (hh' : h < 4294967296) :
    Calls Try.prog 85 #[.int .i64 2, .bool false, .int .u32 b, .int .u32 n, .int .u32 h, flv fn fz fc fv] w (RetB (rdoV 2 false b n h fn fz fc fv) w) := by
  skip
  all_goals
    go_enter Try.func85, Try.ntmps85
    go_wp2_with (first
      | (go_at_call 101; refine (rsigned_any _ _ (by omega) (by omega)).mono ?_; rintro e w' ⟨rfl, rfl⟩)
      | (go_at_call 103; refine (rasr_any _ _ _ (by omega) (by omega) (by omega) (by omega)).mono ?_; rintro e w' ⟨rfl, rfl⟩)
      | fail)
    refine bodyPost_ret (res_cell rfl rfl (rd_cel _ _ _ _) Try.underlying134 rfl (by kernel_rfl) rfl) rfl ⟨rdoV_eq ?_ ?_ ?_ ?_, rd_below _ _ _ _⟩
    all_goals first
      | (simp [M.aluR, M.aluH, M.aluC, M.aluV, M.carry]; done)
      | omega

set_option maxHeartbeats 2000000 in
set_option maxRecDepth 100000 in
theorem rdo_ror (b n h : Int) (fn fz fc fv : Bool) (w : World) (hb : 0 ≤ b) (hb' : b < 4294967296) (hn : 0 ≤ n) (hn' : n < 4294967296) (hh : 0 ≤ h) (hh' : h < 4294967296) :
    Calls Try.prog 85 #[.int .i64 3, .bool false, .int .u32 b, .int .u32 n, .int .u32 h, flv fn fz fc fv] w (RetB (rdoV 3 false b n h fn fz fc fv) w) := by
  skip
  all_goals
    go_enter Try.func85, Try.ntmps85
    go_wp2_with (first
      | (go_at_call 101; refine (rsigned_any _ _ (by omega) (by omega)).mono ?_; rintro e w' ⟨rfl, rfl⟩)
      | (go_at_call 104; refine (rror_any _ _ _ (by omega) (by omega) (by omega) (by omega)).mono ?_; rintro e w' ⟨rfl, rfl⟩)
      | fail)
    refine bodyPost_ret (res_cell rfl rfl (rd_cel _ _ _ _) Try.underlying134 rfl (by kernel_rfl) rfl) rfl ⟨rdoV_eq ?_ ?_ ?_ ?_, rd_below _ _ _ _⟩
    all_goals first
      | (simp [M.aluR, M.aluH, M.aluC, M.aluV, M.carry]; done)
      | omega

set_option maxHeartbeats 2000000 in
set_option maxRecDepth 100000 in
theorem rdo_and (b n h : Int) (fn fz fc fv : Bool) (w : World) (hb : 0 ≤ b) (hb' : b < 4294967296) (hn : 0 ≤ n) (hn' : n < 4294967296) (hh : 0 ≤ h) (hh' : h < 4294967296) :
    Calls Try.prog 85 #[.int .i64 4, .bool false, .int .u32 b, .int .u32 n, .int .u32 h, flv fn fz fc fv] w (RetB (rdoV 4 false b n h fn fz fc fv) w) := by
  skip
  all_goals
    go_enter Try.func85, Try.ntmps85
    go_wp2_with (first
      | (go_at_call 101; refine (rsigned_any _ _ (by omega) (by omega)).mono ?_; rintro e w' ⟨rfl, rfl⟩)
      | fail)
    refine bodyPost_ret (res_cell rfl rfl (rd_cel _ _ _ _) Try.underlying134 rfl (by kernel_rfl) rfl) rfl ⟨rdoV_eq ?_ ?_ ?_ ?_, rd_below _ _ _ _⟩
    all_goals first
      | (simp [M.aluR, M.aluH, M.aluC, M.aluV, M.carry]; done)
      | omega

set_option maxHeartbeats 2000000 in
set_option maxRecDepth 100000 in
theorem rdo_ann (b n h : Int) (fn fz fc fv : Bool) (w : World) (hb : 0 ≤ b) (hb' : b < 4294967296) (hn : 0 ≤ n) (hn' : n < 4294967296) (hh : 0 ≤ h) (hh' : h < 4294967296) :
    Calls Try.prog 85 #[.int .i64 5, .bool false, .int .u32 b, .int .u32 n, .int .u32 h, flv fn fz fc fv] w (RetB (rdoV 5 false b n h fn fz fc fv) w) := by
  skip
  all_goals
    go_enter Try.func85, Try.ntmps85
    go_wp2_with (first
      | (go_at_call 101; refine (rsigned_any _ _ (by omega) (by omega)).mono ?_; rintro e w' ⟨rfl, rfl⟩)
      | fail)
    refine bodyPost_ret (res_cell rfl rfl (rd_cel _ _ _ _) Try.underlying134 rfl (by kernel_rfl) rfl) rfl ⟨rdoV_eq ?_ ?_ ?_ ?_, rd_below _ _ _ _⟩
    all_goals first
      | (simp [M.aluR, M.aluH, M.aluC, M.aluV, M.carry]; done)
      | omega

set_option maxHeartbeats 2000000 in
set_option maxRecDepth 100000 in
theorem rdo_ior (b n h : Int) (fn fz fc fv : Bool) (w : World) (hb : 0 ≤ b) (hb' : b < 4294967296) (hn : 0 ≤ n) (hn' : n < 4294967296) (hh : 0 ≤ h) (hh' : h < 4294967296) :
    Calls Try.prog 85 #[.int .i64 6, .bool false, .int .u32 b, .int .u32 n, .int .u32 h, flv fn fz fc fv] w (RetB (rdoV 6 false b n h fn fz fc fv) w) := by
  skip
  all_goals
    go_enter Try.func85, Try.ntmps85
    go_wp2_with (first
      | (go_at_call 101; refine (rsigned_any _ _ (by omega) (by omega)).mono ?_; rintro e w' ⟨rfl, rfl⟩)
      | fail)
    refine bodyPost_ret (res_cell rfl rfl (rd_cel _ _ _ _) Try.underlying134 rfl (by kernel_rfl) rfl) rfl ⟨rdoV_eq ?_ ?_ ?_ ?_, rd_below _ _ _ _⟩
    all_goals first
      | (simp [M.aluR, M.aluH, M.aluC, M.aluV, M.carry]; done)
      | omega

set_option maxHeartbeats 2000000 in
set_option maxRecDepth 100000 in
theorem rdo_xor (b n h : Int) (fn fz fc fv : Bool) (w : World) (hb : 0 ≤ b) (hb' : b < 4294967296) (hn : 0 ≤ n) (hn' : n < 4294967296) (hh : 0 ≤ h) (hh' : h < 4294967296) :
    Calls Try.prog 85 #[.int .i64 7, .bool false, .int .u32 b, .int .u32 n, .int .u32 h, flv fn fz fc fv] w (RetB (rdoV 7 false b n h fn fz fc fv) w) := by
  skip
  all_goals
    go_enter Try.func85, Try.ntmps85
    go_wp2_with (first
      | (go_at_call 101; refine (rsigned_any _ _ (by omega) (by omega)).mono ?_; rintro e w' ⟨rfl, rfl⟩)
      | fail)
    refine bodyPost_ret (res_cell rfl rfl (rd_cel _ _ _ _) Try.underlying134 rfl (by kernel_rfl) rfl) rfl ⟨rdoV_eq ?_ ?_ ?_ ?_, rd_below _ _ _ _⟩
    all_goals first
      | (simp [M.aluR, M.aluH, M.aluC, M.aluV, M.carry]; done)
      | omega

set_option maxHeartbeats 2000000 in
set_option maxRecDepth 100000 in
theorem rdo_add (u : Bool) (b n h : Int) (fn fz fc fv : Bool) (w : World) (hb : 0 ≤ b) (hb' : b < 4294967296) (hn : 0 ≤ n) (hn' : n < 4294967296) (hh : 0 ≤ h) (hh' : h < 4294967296) :
    Calls Try.prog 85 #[.int .i64 8, .bool u, .int .u32 b, .int .u32 n, .int .u32 h, flv fn fz fc fv] w (RetB (rdoV 8 u b n h fn fz fc fv) w) := by
  have hb1 := sg_bd b hb hb'
  have hn1 := sg_bd n hn hn'
  cases u <;> cases fc
  all_goals
    go_enter Try.func85, Try.ntmps85
    go_wp2_with (first
      | (go_at_call 101; refine (rsigned_any _ _ (by omega) (by omega)).mono ?_; rintro e w' ⟨rfl, rfl⟩)
      | (go_at_call 105; (first | refine (rcarry_ex _ _ _ _ _ 1 (by decide) _).mono ?_ | refine (rcarry_ex _ _ _ _ _ 0 (by decide) _).mono ?_); rintro e w' ⟨rfl, rfl⟩)
      | (go_at_call 52; refine (rword_any _ _ (by omega) (by omega)).mono ?_; rintro e w' ⟨rfl, rfl⟩)
      | (go_at_call 67; refine (rfits_any _ _ _ (by decide) (by decide)).mono ?_; rintro e w' ⟨rfl, rfl⟩)
      | fail)
    refine bodyPost_ret (res_cell rfl rfl (((rd_cel _ _ _ _).alloc _).alloc _) Try.underlying134 rfl (by kernel_rfl) rfl) rfl ⟨rdoV_eq ?_ ?_ ?_ ?_, ((rd_below _ _ _ _).alloc (by simp <;> omega) _).alloc (by simp <;> omega) _⟩
    all_goals first
      | (simp [M.aluR, M.aluH, M.aluC, M.aluV, M.carry, fits_over]; done)
      | (simp [M.aluR, M.aluH, M.aluC, M.aluV, M.carry, fits_over]; omega)
      | (rw [Bool.eq_iff_iff]; simp [M.aluC, M.carry]; omega)

set_option maxHeartbeats 2000000 in
set_option maxRecDepth 100000 in
theorem rdo_sub (u : Bool) (b n h : Int) (fn fz fc fv : Bool) (w : World) (hb : 0 ≤ b) (hb' : b < 4294967296) (hn : 0 ≤ n) (hn' : n < 4294967296) (hh : 0 ≤ h) (hh' : h < 4294967296) :
    Calls Try.prog 85 #[.int .i64 9, .bool u, .int .u32 b, .int .u32 n, .int .u32 h, flv fn fz fc fv] w (RetB (rdoV 9 u b n h fn fz fc fv) w) := by
  have hb1 := sg_bd b hb hb'
  have hn1 := sg_bd n hn hn'
  cases u <;> cases fc
  all_goals
    go_enter Try.func85, Try.ntmps85
    go_wp2_with (first
      | (go_at_call 101; refine (rsigned_any _ _ (by omega) (by omega)).mono ?_; rintro e w' ⟨rfl, rfl⟩)
      | (go_at_call 105; (first | refine (rcarry_ex _ _ _ _ _ 1 (by decide) _).mono ?_ | refine (rcarry_ex _ _ _ _ _ 0 (by decide) _).mono ?_); rintro e w' ⟨rfl, rfl⟩)
      | (go_at_call 52; refine (rword_any _ _ (by omega) (by omega)).mono ?_; rintro e w' ⟨rfl, rfl⟩)
      | (go_at_call 67; refine (rfits_any _ _ _ (by decide) (by decide)).mono ?_; rintro e w' ⟨rfl, rfl⟩)
      | fail)
    refine bodyPost_ret (res_cell rfl rfl (((rd_cel _ _ _ _).alloc _).alloc _) Try.underlying134 rfl (by kernel_rfl) rfl) rfl ⟨rdoV_eq ?_ ?_ ?_ ?_, ((rd_below _ _ _ _).alloc (by simp <;> omega) _).alloc (by simp <;> omega) _⟩
    all_goals first
      | (simp [M.aluR, M.aluH, M.aluC, M.aluV, M.carry, fits_over]; done)
      | (simp [M.aluR, M.aluH, M.aluC, M.aluV, M.carry, fits_over]; omega)
      | (rw [Bool.eq_iff_iff]; simp [M.aluC, M.carry]; omega)

set_option maxHeartbeats 2000000 in
set_option maxRecDepth 100000 in
theorem rdo_mulu (b n h : Int) (fn fz fc fv : Bool) (w : World) (hb : 0 ≤ b) (hb' : b < 4294967296) (hn : 0 ≤ n) (hn' : n < 4294967296) (hh : 0 ≤ h) (hh' : h < 4294967296) :
    Calls Try.prog 85 #[.int .i64 10, .bool true, .int .u32 b, .int .u32 n, .int .u32 h, flv fn fz fc fv] w (RetB (rdoV 10 true b n h fn fz fc fv) w) := by
  have p0 : 0 ≤ b * n := Int.mul_nonneg hb hn
  have p1 : b * n ≤ 18446744065119617025 := by
    have h1 := Int.mul_le_mul (show b ≤ 4294967295 by omega) (show n ≤ 4294967295 by omega) hn (by omega)
    omega
  have E1 : Hid (M.aluR 10 true b n h fc = b * n % 4294967296) := Lib.hid (by simp [M.aluR])
  have E2 : Hid (M.aluH 10 true b n h = b * n / 4294967296) := Lib.hid (by simp [M.aluH])
  skip
  all_goals
    go_enter Try.func85, Try.ntmps85
    go_wp2_with (first
      | (go_at_call 101; refine (rsigned_any _ _ (by omega) (by omega)).mono ?_; rintro e w' ⟨rfl, rfl⟩)
      | fail)
    refine bodyPost_ret (res_cell rfl rfl (rd_cel _ _ _ _) Try.underlying134 rfl (by kernel_rfl) rfl) rfl ⟨rdoV_eq ?_ ?_ ?_ ?_, rd_below _ _ _ _⟩
    · rw [E1.out]
    · rw [E2.out]; try omega
    · simp [M.aluC]
    · simp [M.aluV]

set_option maxHeartbeats 2000000 in
set_option maxRecDepth 100000 in
theorem rdo_muls (b n h : Int) (fn fz fc fv : Bool) (w : World) (hb : 0 ≤ b) (hb' : b < 4294967296) (hn : 0 ≤ n) (hn' : n < 4294967296) (hh : 0 ≤ h) (hh' : h < 4294967296) :
    Calls Try.prog 85 #[.int .i64 10, .bool false, .int .u32 b, .int .u32 n, .int .u32 h, flv fn fz fc fv] w (RetB (rdoV 10 false b n h fn fz fc fv) w) := by
  have hb1 := sg_bd b hb hb'
  have hn1 := sg_bd n hn hn'
  have pp := sg_mul b n hb hb' hn hn'
  have E1 : Hid (M.aluR 10 false b n h fc = M.sg b * M.sg n % 4294967296) := Lib.hid (by simp [M.aluR])
  have E2 : Hid (M.aluH 10 false b n h = M.sg b * M.sg n / 4294967296 % 4294967296) := Lib.hid (by simp [M.aluH])
  skip
  all_goals
    go_enter Try.func85, Try.ntmps85
    go_wp2_with (first
      | (go_at_call 101; refine (rsigned_any _ _ (by omega) (by omega)).mono ?_; rintro e w' ⟨rfl, rfl⟩)
      | (go_at_call 52; refine (rword_any _ _ (by omega) (by omega)).mono ?_; rintro e w' ⟨rfl, rfl⟩)
      | (go_at_call 106; refine (rfloor_any _ _ _ (by omega) (by omega) (by omega) (by omega)).mono ?_; rintro e w' ⟨rfl, rfl⟩)
      | fail)
    refine bodyPost_ret (res_cell rfl rfl (rd_cel _ _ _ _) Try.underlying134 rfl (by kernel_rfl) rfl) rfl ⟨rdoV_eq ?_ ?_ ?_ ?_, rd_below _ _ _ _⟩
    · rw [E1.out]
    · rw [E2.out]
    · simp [M.aluC]
    · simp [M.aluV]

set_option maxHeartbeats 2000000 in
set_option maxRecDepth 100000 in
theorem rdo_div1 (b n h : Int) (fn fz fc fv : Bool) (w : World) (hb : 0 ≤ b) (hb' : b < 4294967296) (hn : 0 ≤ n) (hn' : n < 4294967296) (hh : 0 ≤ h) (hh' : h < 4294967296) (hN : 0 < M.sg n) :
    Calls Try.prog 85 #[.int .i64 11, .bool false, .int .u32 b, .int .u32 n, .int .u32 h, flv fn fz fc fv] w (RetB (rdoV 11 false b n h fn fz fc fv) w) := by
  have hb1 := sg_bd b hb hb'
  have hn1 := sg_bd n hn hn'
  obtain ⟨d1, d2, d3, d4⟩ := div_parts (M.sg b) (M.sg n) hN (by omega) (by omega) (by omega)
  have E1 : Hid (M.aluR 11 false b n h fc = M.sg b / M.sg n % 4294967296) := Lib.hid (by simp [M.aluR, hN])
  have E2 : Hid (M.aluH 11 false b n h = M.sg b % M.sg n) := Lib.hid (by simp [M.aluH, hN])
  have D4 := Lib.hid d4
  clear d4
  skip
  all_goals
    go_enter Try.func85, Try.ntmps85
    go_wp2_with (first
      | (go_at_call 101; refine (rsigned_any _ _ (by omega) (by omega)).mono ?_; rintro e w' ⟨rfl, rfl⟩)
      | (go_at_call 52; refine (rword_any _ _ (by omega) (by omega)).mono ?_; rintro e w' ⟨rfl, rfl⟩)
      | (go_at_call 106; refine (rfloor_any _ _ _ (by omega) (by omega) (by omega) (by omega)).mono ?_; rintro e w' ⟨rfl, rfl⟩)
      | fail)
    refine bodyPost_ret (res_cell rfl rfl (rd_cel _ _ _ _) Try.underlying134 rfl (by kernel_rfl) rfl) rfl ⟨rdoV_eq ?_ ?_ ?_ ?_, rd_below _ _ _ _⟩
    · rw [E1.out]
    · rw [E2.out]; exact D4.out
    · simp [M.aluC]
    · simp [M.aluV]

set_option maxHeartbeats 2000000 in
set_option maxRecDepth 100000 in
theorem rdo_div0 (b n h : Int) (fn fz fc fv : Bool) (w : World) (hb : 0 ≤ b) (hb' : b < 4294967296) (hn : 0 ≤ n) (hn' : n < 4294967296) (hh : 0 ≤ h) (hh' : h < 4294967296) (hN : ¬ 0 < M.sg n) :
    Calls Try.prog 85 #[.int .i64 11, .bool false, .int .u32 b, .int .u32 n, .int .u32 h, flv fn fz fc fv] w (RetB (rdoV 11 false b n h fn fz fc fv) w) := by
  have hb1 := sg_bd b hb hb'
  have hn1 := sg_bd n hn hn'
  have hN' : M.sg n ≤ 0 := by omega
  have E1 : Hid (M.aluR 11 false b n h fc = 0) := Lib.hid (by simp [M.aluR, hN])
  have E2 : Hid (M.aluH 11 false b n h = b) := Lib.hid (by simp [M.aluH, hN])
  skip
  all_goals
    go_enter Try.func85, Try.ntmps85
    go_wp2_with (first
      | (go_at_call 101; refine (rsigned_any _ _ (by omega) (by omega)).mono ?_; rintro e w' ⟨rfl, rfl⟩)
      | fail)
    refine bodyPost_ret (res_cell rfl rfl (rd_cel _ _ _ _) Try.underlying134 rfl (by kernel_rfl) rfl) rfl ⟨rdoV_eq ?_ ?_ ?_ ?_, rd_below _ _ _ _⟩
    · rw [E1.out]
    · rw [E2.out]
    · simp [M.aluC]
    · simp [M.aluV]

/-- The document's Do, whatever operation there is. -/
theorem rdo_any (op : Int) (u : Bool) (b n h : Int) (fn fz fc fv : Bool) (w : World) (ho : 0 ≤ op) (ho' : op ≤ 11) (hu : u = true → op = 0 ∨ 8 ≤ op ∧ op ≤ 10)
    (hb : 0 ≤ b) (hb' : b < 4294967296) (hn : 0 ≤ n) (hn' : n < 4294967296) (hh : 0 ≤ h) (hh' : h < 4294967296) :
    Calls Try.prog 85 #[.int .i64 op, .bool u, .int .u32 b, .int .u32 n, .int .u32 h, flv fn fz fc fv] w (RetB (rdoV op u b n h fn fz fc fv) w) := by
  have hc : op = 0 ∨ op = 1 ∨ op = 2 ∨ op = 3 ∨ op = 4 ∨ op = 5 ∨ op = 6 ∨ op = 7 ∨ op = 8 ∨ op = 9 ∨ op = 10 ∨ op = 11 := by omega
  rcases hc with rfl | rfl | rfl | rfl | rfl | rfl | rfl | rfl | rfl | rfl | rfl | rfl
  · exact rdo_mov u b n h fn fz fc fv w hb hb' hn hn' hh hh'
  · cases u
    · exact rdo_lsl b n h fn fz fc fv w hb hb' hn hn' hh hh'
    · exact absurd (hu rfl) (by decide)
  · cases u
    · exact rdo_asr b n h fn fz fc fv w hb hb' hn hn' hh hh'
    · exact absurd (hu rfl) (by decide)
  · cases u
    · exact rdo_ror b n h fn fz fc fv w hb hb' hn hn' hh hh'
    · exact absurd (hu rfl) (by decide)
  · cases u
    · exact rdo_and b n h fn fz fc fv w hb hb' hn hn' hh hh'
    · exact absurd (hu rfl) (by decide)
  · cases u
    · exact rdo_ann b n h fn fz fc fv w hb hb' hn hn' hh hh'
    · exact absurd (hu rfl) (by decide)
  · cases u
    · exact rdo_ior b n h fn fz fc fv w hb hb' hn hn' hh hh'
    · exact absurd (hu rfl) (by decide)
  · cases u
    · exact rdo_xor b n h fn fz fc fv w hb hb' hn hn' hh hh'
    · exact absurd (hu rfl) (by decide)
  · exact rdo_add u b n h fn fz fc fv w hb hb' hn hn' hh hh'
  · exact rdo_sub u b n h fn fz fc fv w hb hb' hn hn' hh hh'
  · cases u
    · exact rdo_muls b n h fn fz fc fv w hb hb' hn hn' hh hh'
    · exact rdo_mulu b n h fn fz fc fv w hb hb' hn hn' hh hh'
  · cases u
    · by_cases hN : 0 < M.sg n
      · exact rdo_div1 b n h fn fz fc fv w hb hb' hn hn' hh hh' hN
      · exact rdo_div0 b n h fn fz fc fv w hb hb' hn hn' hh hh' hN
    · exact absurd (hu rfl) (by decide)

end Go.Proofs.Ytmlmjkojhfjjlaa
