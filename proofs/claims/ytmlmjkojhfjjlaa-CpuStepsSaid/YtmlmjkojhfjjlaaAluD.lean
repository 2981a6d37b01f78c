/- The contract of alu.Do at the operation 11. -/
import Derived.Test.YtmlmjkojhfjjlaaAlu
namespace Go.Proofs.Ytmlmjkojhfjjlaa
set_option linter.unusedVariables false
set_option linter.unusedSimpArgs false
open Go.RowKit

theorem cel4 {w : World} {g : Nat} {t : TypeId} {x0 x1 x2 x3 : Value} (h : Cel w g t #[x0, x1, x2, x3]) (a b c d : Value) :
    Cel ((((w.setCell ⟨g, 0, none⟩ a).setCell ⟨g, 1, none⟩ b).setCell ⟨g, 2, none⟩ c).setCell ⟨g, 3, none⟩ d) g t #[a, b, c, d] :=
  ((((h.set 0 a).set 1 b).set 2 c).set 3 d).to (by simp)

set_option maxHeartbeats 2000000 in
set_option maxRecDepth 100000 in
theorem do_div1 (b n h : Int) (fn fz fc fv : Bool) (w : World) (hb : 0 ≤ b) (hb' : b < 4294967296) (hn : 0 ≤ n) (hn' : n < 4294967296) (hN : 0 < M.sg n) :
    Calls Try.prog 81 #[.int .i64 11, .bool false, .int .u32 b, .int .u32 n, .int .u32 h, flv fn fz fc fv] w (RetB (doV 11 false b n h fn fz fc fv) w) := by
  have hq := fun w => quotient_any b n w hb hb' hn hn'
  simp only [if_pos hN] at hq
  have er : M.sg b / M.sg n % 4294967296 = M.aluR 11 false b n h fc := by simp [M.aluR, hN]
  have eg : M.sg b % M.sg n = M.aluH 11 false b n h := by simp [M.aluH, hN]
  have hbd : 0 ≤ M.sg b / M.sg n % 4294967296 ∧ M.sg b / M.sg n % 4294967296 < 4294967296 := by omega
  generalize M.sg b / M.sg n % 4294967296 = r at *
  generalize M.sg b % M.sg n = g at *
  have HR := Lib.hid er
  have HG := Lib.hid eg
  clear er eg hN
  go_enter Try.func81, Try.ntmps81
  go_wp2_with fail
  refine (hq _).mono ?_
  rintro e w' ⟨rfl, nd, rfl⟩
  clear hq
  go_wp2
  go_region
  go_wp2
  refine bodyPost_ret (res_ttct rfl rfl (cel4 (((cel_new2dN _ _ _ _ nd).far (by simp) _).far (by simp) _) _ _ _ _).drew Try.underlying87 rfl (by kernel_rfl)) rfl ⟨doV_eq HR.out hbd HG.out (by simp [M.aluC]) (by simp [M.aluV]), ?_⟩
  repeat (first | (with_reducible exact below2dN _ _ _ _) | (with_reducible apply Below.drew) | (with_reducible refine Below.setCell ?_ (by simp) _))

set_option maxHeartbeats 2000000 in
set_option maxRecDepth 100000 in
theorem do_div0 (b n h : Int) (fn fz fc fv : Bool) (w : World) (hb : 0 ≤ b) (hb' : b < 4294967296) (hn : 0 ≤ n) (hn' : n < 4294967296) (hN : ¬ 0 < M.sg n) :
    Calls Try.prog 81 #[.int .i64 11, .bool false, .int .u32 b, .int .u32 n, .int .u32 h, flv fn fz fc fv] w (RetB (doV 11 false b n h fn fz fc fv) w) := by
  have hq := fun w => quotient_any b n w hb hb' hn hn'
  simp only [if_neg hN] at hq
  have er : (0 : Int) = M.aluR 11 false b n h fc := by simp [M.aluR, hN]
  have eg : b = M.aluH 11 false b n h := by simp [M.aluH, hN]
  have HR := Lib.hid er
  have HG := Lib.hid eg
  clear er eg hN
  go_enter Try.func81, Try.ntmps81
  go_wp2_with fail
  refine (hq _).mono ?_
  rintro e w' ⟨rfl, nd, rfl⟩
  clear hq
  go_wp2
  go_region
  go_wp2
  refine bodyPost_ret (res_ttct rfl rfl (cel4 (((cel_new2dN _ _ _ _ nd).far (by simp) _).far (by simp) _) _ _ _ _).drew Try.underlying87 rfl (by kernel_rfl)) rfl ⟨doV_eq HR.out (by decide) HG.out (by simp [M.aluC]) (by simp [M.aluV]), ?_⟩
  repeat (first | (with_reducible exact below2dN _ _ _ _) | (with_reducible apply Below.drew) | (with_reducible refine Below.setCell ?_ (by simp) _))

/-- alu.Do, whatever operation there is. -/
theorem do_any (op : Int) (u : Bool) (b n h : Int) (fn fz fc fv : Bool) (w : World) (ho : 0 ≤ op) (ho' : op ≤ 11) (hu : u = true → op = 0 ∨ 8 ≤ op ∧ op ≤ 10)
    (hb : 0 ≤ b) (hb' : b < 4294967296) (hn : 0 ≤ n) (hn' : n < 4294967296) (hh : 0 ≤ h) (hh' : h < 4294967296) :
    Calls Try.prog 81 #[.int .i64 op, .bool u, .int .u32 b, .int .u32 n, .int .u32 h, flv fn fz fc fv] w (RetB (doV op u b n h fn fz fc fv) w) := by
  have hc : op = 0 ∨ op = 1 ∨ op = 2 ∨ op = 3 ∨ op = 4 ∨ op = 5 ∨ op = 6 ∨ op = 7 ∨ op = 8 ∨ op = 9 ∨ op = 10 ∨ op = 11 := by omega
  rcases hc with rfl | rfl | rfl | rfl | rfl | rfl | rfl | rfl | rfl | rfl | rfl | rfl
  · exact do_mov u b n h fn fz fc fv w hb hb' hn hn' hh hh'
  · cases u
    · exact do_lsl b n h fn fz fc fv w hb hb' hn hn' hh hh'
    · exact absurd (hu rfl) (by decide)
  · cases u
    · exact do_asr b n h fn fz fc fv w hb hb' hn hn' hh hh'
    · exact absurd (hu rfl) (by decide)
  · cases u
    · exact do_ror b n h fn fz fc fv w hb hb' hn hn' hh hh'
    · exact absurd (hu rfl) (by decide)
  · cases u
    · exact do_and b n h fn fz fc fv w hb hb' hn hn' hh hh'
    · exact absurd (hu rfl) (by decide)
  · cases u
    · exact do_ann b n h fn fz fc fv w hb hb' hn hn' hh hh'
    · exact absurd (hu rfl) (by decide)
  · cases u
    · exact do_ior b n h fn fz fc fv w hb hb' hn hn' hh hh'
    · exact absurd (hu rfl) (by decide)
  · cases u
    · exact do_xor b n h fn fz fc fv w hb hb' hn hn' hh hh'
    · exact absurd (hu rfl) (by decide)
  · exact do_add u b n h fn fz fc fv w hb hb' hn hn' hh hh'
  · exact do_sub u b n h fn fz fc fv w hb hb' hn hn' hh hh'
  · cases u
    · exact do_muls b n h fn fz fc fv w hb hb' hn hn' hh hh'
    · exact do_mulu b n h fn fz fc fv w hb hb' hn hn' hh hh'
  · cases u
    · by_cases hN : 0 < M.sg n
      · exact do_div1 b n h fn fz fc fv w hb hb' hn hn' hN
      · exact do_div0 b n h fn fz fc fv w hb hb' hn hn' hN
    · exact absurd (hu rfl) (by decide)

end Go.Proofs.Ytmlmjkojhfjjlaa
