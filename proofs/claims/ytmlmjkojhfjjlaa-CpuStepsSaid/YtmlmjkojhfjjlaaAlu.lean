/- Contracts of the program's package alu, and of the flags as bits: each call returns what the plain function tells. -/
import Derived.Test.YtmlmjkojhfjjlaaBits
import Derived.RegionTactic
import Derived.ChangeAlike
import Derived.BigRegion
namespace Go.Proofs.Ytmlmjkojhfjjlaa
set_option linter.unusedVariables false
set_option linter.unusedSimpArgs false
open Go.RowKit

/-- The flags as a value. -/
abbrev flv (fn fz fc fv : Bool) : Value := .agg #[.bool fn, .bool fz, .bool fc, .bool fv]

set_option maxHeartbeats 2000000 in
theorem holds_any (c : Int) (fn fz fc fv : Bool) (w : World) (h0 : 0 ≤ c) (h1 : c ≤ 15) :
    Calls Try.prog 79 #[.int .i64 c, flv fn fz fc fv] w (RetB (.bool (M.holds c fn fz fc fv)) w) := by
  have hc : c = 0 ∨ c = 1 ∨ c = 2 ∨ c = 3 ∨ c = 4 ∨ c = 5 ∨ c = 6 ∨ c = 7 ∨ c = 8 ∨ c = 9 ∨ c = 10 ∨ c = 11 ∨ c = 12 ∨ c = 13 ∨ c = 14 ∨ c = 15 := by omega
  rcases hc with rfl | rfl | rfl | rfl | rfl | rfl | rfl | rfl | rfl | rfl | rfl | rfl | rfl | rfl | rfl | rfl
  all_goals
    clear h0 h1
    go_enter Try.func79, Try.ntmps79
    go_wp2
    all_goals
      go_ret
      refine ⟨ret_b ?_, (Below.refl _ _).alloc (Nat.le_refl _) _⟩
      cases fn <;> cases fz <;> cases fc <;> cases fv <;> first | rfl | contradiction

set_option maxHeartbeats 1000000 in
theorem ror_any (x n : Int) (w : World) (hx : 0 ≤ x) (hx' : x < 4294967296) (hn : 0 ≤ n) (hn' : n < 4294967296) :
    Calls Try.prog 97 #[.int .u32 x, .int .u32 n] w (Ret (.int .u32 (x / 2 ^ (n % 32).toNat + x % 2 ^ (n % 32).toNat * 2 ^ (32 - n % 32).toNat)) w) := by
  go_enter Try.func97, Try.ntmps97
  go_wp2_with (go_at_call 111; refine (rotl_any _ _ _ (by omega) (by omega) (by omega) (by omega)).mono ?_; rintro e w' ⟨rfl, rfl⟩)
  go_ret
  refine ⟨ret_i ?_, rfl⟩
  unfold ror
  have e2 : 32 - (n % 32).toNat = (32 - n % 32).toNat := by omega
  rw [e2]

/-- What Do tells. -/
def doV (op : Int) (u : Bool) (b n h : Int) (fn fz fc fv : Bool) : Value :=
  .tuple #[.int .u32 (M.aluR op u b n h fc), .int .u32 (M.aluH op u b n h), flv (decide (2147483648 ≤ M.aluR op u b n h fc)) (decide (M.aluR op u b n h fc = 0)) (M.aluC op u b n fc) (M.aluV op u b n fc fv), .bool true]

theorem doV_eq {op : Int} {u : Bool} {b n h : Int} {fn fz fc fv : Bool} {r g : Int} {C V : Bool} (hr : r = M.aluR op u b n h fc) (hb : 0 ≤ r ∧ r < 4294967296) (hh : g = M.aluH op u b n h) (hC : C = M.aluC op u b n fc) (hV : V = M.aluV op u b n fc fv) :
    Ending.returned (.tuple #[.int .u32 r, .int .u32 g, .agg #[.bool (r / 2147483648 == 1), .bool (r == 0), .bool C, .bool V], .bool true]) = .returned (doV op u b n h fn fz fc fv) := by
  have e1 : (r / 2147483648 == 1) = decide (2147483648 ≤ r) := by rw [Bool.eq_iff_iff, beq_iff_eq, decide_eq_true_iff]; omega
  have e2 : (r == 0) = decide (r = 0) := by rw [Bool.eq_iff_iff, beq_iff_eq, decide_eq_true_iff]
  unfold doV
  rw [e1, e2, ← hr, ← hh, ← hC, ← hV]

theorem res_ttct {P : Program} {fn : Func} {p q s u : Tmp} {ty t : TypeId} {g : Nat} {cs : Array Value} {w : World} {d : TypeDesc} {tmps : Array Value} (h : fn.results = #[.tmp p, .tmp q, .cell s ty, .tmp u])
    (hp : tmps.getD s undef = .pointer (some ⟨g, 0, none⟩)) (hg : Cel w g t cs) (hu : P.underlying ty = some d) (hd : (match d with | .struct _ | .array _ _ => true | _ => false) = true)
    (hi : (P.info? ty).map (·.size) = some cs.size) : (results fn tmps).run P w = .ok (.tuple #[tmps.getD p undef, tmps.getD q undef, .agg cs, tmps.getD u undef]) w := by
  have hp' : tmps[s]?.getD undef = .pointer (some ⟨g, 0, none⟩) := by simpa using hp
  simp [results, h, hp', asAddr, Sem.run_bind, run_loadVar_row w g t ty cs (0, 0) d hg hu hd hi]

theorem cel_new2d (w : World) (o : Obj) (t : TypeId) (cs : Array Value) : Cel ((w.alloc o).alloc (.cells cs t)).drew (w.heap.size + 1) t cs := by
  have h := Cel.new (w.alloc o) t cs
  rw [World.size_alloc] at h
  exact h.drew
theorem below2d (w : World) (o p : Obj) : Below w.heap.size w ((w.alloc o).alloc p).drew := (((Below.refl _ _).alloc (Nat.le_refl _) _).alloc (by simp) _).drew
theorem cel_new2dN (w : World) (o : Obj) (t : TypeId) (cs : Array Value) (n : Nat) : Cel (((w.alloc o).alloc (.cells cs t)).drewN n) (w.heap.size + 1) t cs := by
  have h := Cel.new (w.alloc o) t cs
  rw [World.size_alloc] at h
  exact h.drewN n
theorem below2dN (w : World) (o p : Obj) (n : Nat) : Below w.heap.size w (((w.alloc o).alloc p).drewN n) := below_drewN (((Below.refl _ _).alloc (Nat.le_refl _) _).alloc (by simp) _) n

theorem bits_bd (op : BinOp) (x y : Int) : 0 ≤ bits op .u32 x y ∧ bits op .u32 x y < 4294967296 := by
  unfold bits
  rw [IntKind.wrap_u32]
  omega

theorem ror_bd (b n : Int) (hb : 0 ≤ b) (hb' : b < 4294967296) : 0 ≤ b / 2 ^ (n % 32).toNat + b % 2 ^ (n % 32).toNat * 2 ^ (32 - n % 32).toNat ∧ b / 2 ^ (n % 32).toNat + b % 2 ^ (n % 32).toNat * 2 ^ (32 - n % 32).toNat < 4294967296 := by
  obtain ⟨k, hk⟩ : ∃ k : Nat, n % 32 = k := ⟨(n % 32).toNat, by omega⟩
  have hk2 : k < 32 := by omega
  have e2 : (32 - n % 32).toNat = 32 - k := by omega
  rw [e2, hk, Int.toNat_natCast]
  have hp := pow_ge1 k
  have hq := pow_ge1 (32 - k)
  have e : (4294967296 : Int) = 2 ^ k * 2 ^ (32 - k) := by rw [← Int.pow_add, show k + (32 - k) = 32 by omega]; rfl
  have hd : b / 2 ^ k < 2 ^ (32 - k) := by
    apply Int.ediv_lt_of_lt_mul (by omega)
    rw [Int.mul_comm, ← e]; exact hb'
  have hd0 : 0 ≤ b / 2 ^ k := Int.ediv_nonneg hb (by omega)
  have hm0 : 0 ≤ b % 2 ^ k := Int.emod_nonneg _ (by omega)
  have hm1 : b % 2 ^ k + 1 ≤ 2 ^ k := Int.emod_lt_of_pos _ (by omega)
  have h3 : 0 ≤ b % 2 ^ k * 2 ^ (32 - k) := Int.mul_nonneg hm0 (by omega)
  have h4 : (b % 2 ^ k + 1) * 2 ^ (32 - k) ≤ 2 ^ k * 2 ^ (32 - k) := Int.mul_le_mul_of_nonneg_right hm1 (by omega)
  rw [Int.add_mul, Int.one_mul, ← e] at h4
  omega
theorem div_bd (b n : Int) (hb : 0 ≤ b) (hb' : b < 4294967296) (hn : 0 ≤ n) (hn' : n < 4294967296) : 0 ≤ (if 0 < M.sg n then M.sg b / M.sg n % 4294967296 else 0) ∧ (if 0 < M.sg n then M.sg b / M.sg n % 4294967296 else 0) < 4294967296 := by
  split <;> omega

set_option maxHeartbeats 2000000 in
set_option maxRecDepth 100000 in
theorem do_mov (u : Bool) (b n h : Int) (fn fz fc fv : Bool) (w : World) (hb : 0 ≤ b) (hb' : b < 4294967296) (hn : 0 ≤ n) (hn' : n < 4294967296) (hh : 0 ≤ h) (hh' : h < 4294967296) :
    Calls Try.prog 81 #[.int .i64 0, .bool u, .int .u32 b, .int .u32 n, .int .u32 h, flv fn fz fc fv] w (RetB (doV 0 u b n h fn fz fc fv) w) := by
  cases u <;> cases fc
  all_goals
    go_enter Try.func81, Try.ntmps81
    go_wp2
    go_region
    all_goals go_wp2
    all_goals
      refine bodyPost_ret (res_ttct rfl rfl (cel_new2d _ _ _ _) Try.underlying87 rfl (by kernel_rfl)) rfl ⟨doV_eq ?_ ?_ ?_ ?_ ?_, below2d _ _ _⟩
      all_goals first
        | (simp [M.aluR, M.aluH, M.aluC, M.aluV, M.carry]; done)
        | omega
        | (rw [Bool.eq_iff_iff]; simp [M.aluC, M.carry]; omega)

set_option maxHeartbeats 2000000 in
set_option maxRecDepth 100000 in
theorem do_add (u : Bool) (b n h : Int) (fn fz fc fv : Bool) (w : World) (hb : 0 ≤ b) (hb' : b < 4294967296) (hn : 0 ≤ n) (hn' : n < 4294967296) (hh : 0 ≤ h) (hh' : h < 4294967296) :
    Calls Try.prog 81 #[.int .i64 8, .bool u, .int .u32 b, .int .u32 n, .int .u32 h, flv fn fz fc fv] w (RetB (doV 8 u b n h fn fz fc fv) w) := by
  have eb := sg_w b hb hb'
  have en := sg_w n hn hn'
  have hb1 := sg_bd b hb hb'
  have hn1 := sg_bd n hn hn'
  cases u <;> cases fc
  all_goals
    go_enter Try.func81, Try.ntmps81
    go_wp2_with (go_at_call 98; refine (over_any _ _ (by omega) (by omega)).mono ?_; rintro e w' ⟨rfl, rfl⟩)
    go_region
    all_goals go_wp2
    all_goals
      refine bodyPost_ret (res_ttct rfl rfl (cel_new2d _ _ _ _) Try.underlying87 rfl (by kernel_rfl)) rfl ⟨doV_eq ?_ ?_ ?_ ?_ ?_, below2d _ _ _⟩
      all_goals first
        | (simp [M.aluR, M.aluH, M.aluC, M.aluV, M.carry]; done)
        | omega
        | (rw [Bool.eq_iff_iff]; simp [M.aluC, M.carry]; omega)

set_option maxHeartbeats 2000000 in
set_option maxRecDepth 100000 in
theorem do_sub (u : Bool) (b n h : Int) (fn fz fc fv : Bool) (w : World) (hb : 0 ≤ b) (hb' : b < 4294967296) (hn : 0 ≤ n) (hn' : n < 4294967296) (hh : 0 ≤ h) (hh' : h < 4294967296) :
    Calls Try.prog 81 #[.int .i64 9, .bool u, .int .u32 b, .int .u32 n, .int .u32 h, flv fn fz fc fv] w (RetB (doV 9 u b n h fn fz fc fv) w) := by
  have eb := sg_w b hb hb'
  have en := sg_w n hn hn'
  have hb1 := sg_bd b hb hb'
  have hn1 := sg_bd n hn hn'
  cases u <;> cases fc
  all_goals
    go_enter Try.func81, Try.ntmps81
    go_wp2_with (go_at_call 98; refine (over_any _ _ (by omega) (by omega)).mono ?_; rintro e w' ⟨rfl, rfl⟩)
    go_region
    all_goals go_wp2
    all_goals
      refine bodyPost_ret (res_ttct rfl rfl (cel_new2d _ _ _ _) Try.underlying87 rfl (by kernel_rfl)) rfl ⟨doV_eq ?_ ?_ ?_ ?_ ?_, below2d _ _ _⟩
      all_goals first
        | (simp [M.aluR, M.aluH, M.aluC, M.aluV, M.carry]; done)
        | omega
        | (rw [Bool.eq_iff_iff]; simp [M.aluC, M.carry]; omega)

set_option maxHeartbeats 2000000 in
set_option maxRecDepth 100000 in
theorem do_lsl (b n h : Int) (fn fz fc fv : Bool) (w : World) (hb : 0 ≤ b) (hb' : b < 4294967296) (hn : 0 ≤ n) (hn' : n < 4294967296) (hh : 0 ≤ h) (hh' : h < 4294967296) :
    Calls Try.prog 81 #[.int .i64 1, .bool false, .int .u32 b, .int .u32 n, .int .u32 h, flv fn fz fc fv] w (RetB (doV 1 false b n h fn fz fc fv) w) := by
  go_enter Try.func81, Try.ntmps81
  go_wp2_with (go_at_call 95; refine (lsl_any _ _ _ (by omega) (by omega)).mono ?_; rintro e w' ⟨rfl, rfl⟩)
  go_region
  all_goals go_wp2
  all_goals
    refine bodyPost_ret (res_ttct rfl rfl (cel_new2d _ _ _ _) Try.underlying87 rfl (by kernel_rfl)) rfl ⟨doV_eq ?_ ?_ ?_ ?_ ?_, below2d _ _ _⟩
    all_goals first
      | (simp [M.aluR, M.aluH, M.aluC, M.aluV, M.carry]; done)
      | exact bits_bd _ _ _
      | omega

set_option maxHeartbeats 2000000 in
set_option maxRecDepth 100000 in
theorem do_asr (b n h : Int) (fn fz fc fv : Bool) (w : World) (hb : 0 ≤ b) (hb' : b < 4294967296) (hn : 0 ≤ n) (hn' : n < 4294967296) (hh : 0 ≤ h) (hh' : h < 4294967296) :
    Calls Try.prog 81 #[.int .i64 2, .bool false, .int .u32 b, .int .u32 n, .int .u32 h, flv fn fz fc fv] w (RetB (doV 2 false b n h fn fz fc fv) w) := by
  go_enter Try.func81, Try.ntmps81
  go_wp2_with (go_at_call 96; refine (asr_any _ _ _ (by omega) (by omega) (by omega) (by omega)).mono ?_; rintro e w' ⟨rfl, rfl⟩)
  go_region
  all_goals go_wp2
  all_goals
    refine bodyPost_ret (res_ttct rfl rfl (cel_new2d _ _ _ _) Try.underlying87 rfl (by kernel_rfl)) rfl ⟨doV_eq ?_ ?_ ?_ ?_ ?_, below2d _ _ _⟩
    all_goals first
      | (simp [M.aluR, M.aluH, M.aluC, M.aluV, M.carry]; done)
      | exact bits_bd _ _ _
      | omega

set_option maxHeartbeats 2000000 in
set_option maxRecDepth 100000 in
theorem do_ror (b n h : Int) (fn fz fc fv : Bool) (w : World) (hb : 0 ≤ b) (hb' : b < 4294967296) (hn : 0 ≤ n) (hn' : n < 4294967296) (hh : 0 ≤ h) (hh' : h < 4294967296) :
    Calls Try.prog 81 #[.int .i64 3, .bool false, .int .u32 b, .int .u32 n, .int .u32 h, flv fn fz fc fv] w (RetB (doV 3 false b n h fn fz fc fv) w) := by
  go_enter Try.func81, Try.ntmps81
  go_wp2_with (go_at_call 97; refine (ror_any _ _ _ (by omega) (by omega) (by omega) (by omega)).mono ?_; rintro e w' ⟨rfl, rfl⟩)
  go_region
  all_goals go_wp2
  all_goals
    refine bodyPost_ret (res_ttct rfl rfl (cel_new2d _ _ _ _) Try.underlying87 rfl (by kernel_rfl)) rfl ⟨doV_eq ?_ ?_ ?_ ?_ ?_, below2d _ _ _⟩
    all_goals first
      | (simp [M.aluR, M.aluH, M.aluC, M.aluV, M.carry]; done)
      | exact bits_bd _ _ _
      | omega
      | exact ror_bd b n hb hb'
      | trace_state

set_option maxHeartbeats 2000000 in
set_option maxRecDepth 100000 in
theorem do_and (b n h : Int) (fn fz fc fv : Bool) (w : World) (hb : 0 ≤ b) (hb' : b < 4294967296) (hn : 0 ≤ n) (hn' : n < 4294967296) (hh : 0 ≤ h) (hh' : h < 4294967296) :
    Calls Try.prog 81 #[.int .i64 4, .bool false, .int .u32 b, .int .u32 n, .int .u32 h, flv fn fz fc fv] w (RetB (doV 4 false b n h fn fz fc fv) w) := by
  go_enter Try.func81, Try.ntmps81
  go_wp2
  go_region
  all_goals go_wp2
  all_goals
    refine bodyPost_ret (res_ttct rfl rfl (cel_new2d _ _ _ _) Try.underlying87 rfl (by kernel_rfl)) rfl ⟨doV_eq ?_ ?_ ?_ ?_ ?_, below2d _ _ _⟩
    all_goals first
      | (simp [M.aluR, M.aluH, M.aluC, M.aluV, M.carry]; done)
      | exact bits_bd _ _ _
      | omega

set_option maxHeartbeats 2000000 in
set_option maxRecDepth 100000 in
theorem do_ann (b n h : Int) (fn fz fc fv : Bool) (w : World) (hb : 0 ≤ b) (hb' : b < 4294967296) (hn : 0 ≤ n) (hn' : n < 4294967296) (hh : 0 ≤ h) (hh' : h < 4294967296) :
    Calls Try.prog 81 #[.int .i64 5, .bool false, .int .u32 b, .int .u32 n, .int .u32 h, flv fn fz fc fv] w (RetB (doV 5 false b n h fn fz fc fv) w) := by
  go_enter Try.func81, Try.ntmps81
  go_wp2
  go_region
  all_goals go_wp2
  all_goals
    refine bodyPost_ret (res_ttct rfl rfl (cel_new2d _ _ _ _) Try.underlying87 rfl (by kernel_rfl)) rfl ⟨doV_eq ?_ ?_ ?_ ?_ ?_, below2d _ _ _⟩
    all_goals first
      | (simp [M.aluR, M.aluH, M.aluC, M.aluV, M.carry]; done)
      | exact bits_bd _ _ _
      | omega

set_option maxHeartbeats 2000000 in
set_option maxRecDepth 100000 in
theorem do_ior (b n h : Int) (fn fz fc fv : Bool) (w : World) (hb : 0 ≤ b) (hb' : b < 4294967296) (hn : 0 ≤ n) (hn' : n < 4294967296) (hh : 0 ≤ h) (hh' : h < 4294967296) :
    Calls Try.prog 81 #[.int .i64 6, .bool false, .int .u32 b, .int .u32 n, .int .u32 h, flv fn fz fc fv] w (RetB (doV 6 false b n h fn fz fc fv) w) := by
  go_enter Try.func81, Try.ntmps81
  go_wp2
  go_region
  all_goals go_wp2
  all_goals
    refine bodyPost_ret (res_ttct rfl rfl (cel_new2d _ _ _ _) Try.underlying87 rfl (by kernel_rfl)) rfl ⟨doV_eq ?_ ?_ ?_ ?_ ?_, below2d _ _ _⟩
    all_goals first
      | (simp [M.aluR, M.aluH, M.aluC, M.aluV, M.carry]; done)
      | exact bits_bd _ _ _
      | omega

set_option maxHeartbeats 2000000 in
set_option maxRecDepth 100000 in
theorem do_xor (b n h : Int) (fn fz fc fv : Bool) (w : World) (hb : 0 ≤ b) (hb' : b < 4294967296) (hn : 0 ≤ n) (hn' : n < 4294967296) (hh : 0 ≤ h) (hh' : h < 4294967296) :
    Calls Try.prog 81 #[.int .i64 7, .bool false, .int .u32 b, .int .u32 n, .int .u32 h, flv fn fz fc fv] w (RetB (doV 7 false b n h fn fz fc fv) w) := by
  go_enter Try.func81, Try.ntmps81
  go_wp2
  go_region
  all_goals go_wp2
  all_goals
    refine bodyPost_ret (res_ttct rfl rfl (cel_new2d _ _ _ _) Try.underlying87 rfl (by kernel_rfl)) rfl ⟨doV_eq ?_ ?_ ?_ ?_ ?_, below2d _ _ _⟩
    all_goals first
      | (simp [M.aluR, M.aluH, M.aluC, M.aluV, M.carry]; done)
      | exact bits_bd _ _ _
      | omega

set_option maxHeartbeats 2000000 in
set_option maxRecDepth 100000 in
theorem do_mulu (b n h : Int) (fn fz fc fv : Bool) (w : World) (hb : 0 ≤ b) (hb' : b < 4294967296) (hn : 0 ≤ n) (hn' : n < 4294967296) (hh : 0 ≤ h) (hh' : h < 4294967296) :
    Calls Try.prog 81 #[.int .i64 10, .bool true, .int .u32 b, .int .u32 n, .int .u32 h, flv fn fz fc fv] w (RetB (doV 10 true b n h fn fz fc fv) w) := by
  cases fc
  all_goals
    go_enter Try.func81, Try.ntmps81
    go_wp2_with (go_at_call 99; refine (product_u _ _ _ (by omega) (by omega) (by omega) (by omega)).mono ?_; rintro e w' ⟨rfl, rfl⟩)
    go_region
    all_goals go_wp2
    all_goals
      refine bodyPost_ret (res_ttct rfl rfl (cel_new2d _ _ _ _) Try.underlying87 rfl (by kernel_rfl)) rfl ⟨doV_eq ?_ ?_ ?_ ?_ ?_, below2d _ _ _⟩
      all_goals first
        | (simp [M.aluR, M.aluH, M.aluC, M.aluV, M.carry]; done)
        | exact bits_bd _ _ _
        | omega
        | trace_state

set_option maxHeartbeats 2000000 in
set_option maxRecDepth 100000 in
theorem do_muls (b n h : Int) (fn fz fc fv : Bool) (w : World) (hb : 0 ≤ b) (hb' : b < 4294967296) (hn : 0 ≤ n) (hn' : n < 4294967296) (hh : 0 ≤ h) (hh' : h < 4294967296) :
    Calls Try.prog 81 #[.int .i64 10, .bool false, .int .u32 b, .int .u32 n, .int .u32 h, flv fn fz fc fv] w (RetB (doV 10 false b n h fn fz fc fv) w) := by
  go_enter Try.func81, Try.ntmps81
  go_wp2_with (go_at_call 99; refine (product_s _ _ _ (by omega) (by omega) (by omega) (by omega)).mono ?_; rintro e w' ⟨rfl, rfl⟩)
  go_region
  all_goals go_wp2
  all_goals
    refine bodyPost_ret (res_ttct rfl rfl (cel_new2d _ _ _ _) Try.underlying87 rfl (by kernel_rfl)) rfl ⟨doV_eq ?_ ?_ ?_ ?_ ?_, below2d _ _ _⟩
    all_goals first
      | (simp [M.aluR, M.aluH, M.aluC, M.aluV, M.carry]; done)
      | exact bits_bd _ _ _
      | omega
      | trace_state

end Go.Proofs.Ytmlmjkojhfjjlaa
