/- CpuLoads: the walk. -/
import Derived.Test.YtmlmjkojhfjjlaaRuns3
import Derived.RegionTactic
namespace Go.Proofs.Ytmlmjkojhfjjlaa
set_option linter.unusedVariables false
set_option linter.unusedSimpArgs false
open Go.RowKit

theorem Ins.of_cel {w : World} {g : Nat} {t : TypeId} {is : List M.I} (h : Cel w g t (rowC is).toArray) : Ins w g is :=
  ⟨fun k j hk hj => by rw [h.cell, List.getElem?_toArray, Nat.mul_comm]; exact rowC_at is k j hk hj, h.lt⟩

/-- An int's remainder as the law takes it. -/
theorem mod16 (reg : Int) (hr : -9223372036854775808 ≤ reg) (hr' : reg < 9223372036854775808) : wrap64 ((IntKind.u64.wrap reg).tmod 16) = reg % 16 := by
  rw [IntKind.wrap_u64, Int.tmod_eq_emod_of_nonneg (by omega)]
  unfold wrap64
  omega
theorem low16 (w : Int) (hw : 0 ≤ w) (hw' : w < 4294967296) : wrap64 (bits .and .u32 w 65535) = w % 65536 := by
  have : bits .and .u32 w 65535 = w % 65536 := u32_mask 16 (by decide) w hw hw'
  rw [this]
  unfold wrap64
  omega

/-- The flags, as the law reckons them. -/
def flagW (w : Int) : Int := M.packed (decide (2147483648 ≤ w)) (decide (w = 0)) false false

set_option maxHeartbeats 4000000 in
set_option maxRecDepth 100000 in
theorem loads_walk (W : World) (w reg a : Int) (hw : 0 ≤ w) (hw' : w < 4294967296) (hr : -9223372036854775808 ≤ reg) (hr' : reg < 9223372036854775808) (ha : wrap64 ((IntKind.u64.wrap reg).tmod 16) = a) (ha0 : 0 ≤ a) (ha1 : a < 16)
    (ws : List Int) (s2 : M.St) (hws : encs (M.loadsI a w) ++ List.replicate 8 0 = ws) (hs2 : M.runs 3 (st0 ws 0 ⟨#[]⟩) = s2) (hv : ocV (M.runs 3 (st0 ws 0 ⟨#[]⟩)) (M.steps 3 (st0 ws 0 ⟨#[]⟩)) = .agg #[.int .i64 3, .int .i64 0, .string ⟨#[]⟩, .int .i64 3, .int .i64 0])
    (hg : ∀ (k : Nat) (hk : k < (M.loadsI a w).length), M.goodI (M.loadsI a w)[k] = true) (hpc : s2.pc = 3) (h1 : M.at_ s2.r a = w) (F : Int) (h2 : M.at_ s2.r ((a + 1) % 16) = F)
    (hF : (2147483648 ≤ w ∧ (w == 0) = false ∧ F = 2147483648) ∨ (w ≤ 0 ∧ (w == 0) = true ∧ F = 1073741824) ∨ (0 < w ∧ w < 2147483648 ∧ (w == 0) = false ∧ F = 0)) :
    Calls Try.prog 8 #[.int .u32 w, .int .i64 reg] W (RetB (.bool true) W) := by
  have HWS := Lib.hid hws
  have HS2 := Lib.hid hs2
  have HV := Lib.hid hv
  have HG := Lib.hid hg
  have e16 := low16 w hw hw'
  have eO1 : bits .or .u32 0 2147483648 = 2147483648 := by decide
  have eO2 : bits .or .u32 0 1073741824 = 1073741824 := by decide
  have B0 := Lib.hid ((Below.refl _ W).alloc (Nat.le_refl _) (.cells (rowC (M.loadsI a w)).toArray 24))
  have I0 := Lib.hid (Ins.of_cel (Cel.new W 24 (rowC (M.loadsI a w)).toArray))
  have HP := Lib.hid hpc
  have H1 := Lib.hid h1
  have H2 := Lib.hid h2
  clear hws hs2 hv hg hpc h1 h2
  rcases hF with ⟨hF, hz, rfl⟩ | ⟨hF, hz, rfl⟩ | ⟨hF, hF', hz, rfl⟩
  have eW : wrap32 w = w - 4294967296 := by unfold wrap32; omega
  rotate_left
  have eW : wrap32 w = w := by unfold wrap32; omega
  rotate_left
  have eW : wrap32 w = w := by unfold wrap32; omega
  rotate_left
  all_goals
    go_enter Try.func8, Try.ntmps8
    go_wp2_with (first
      | (go_at_call 16; refine (played_ok _ W.heap.size 3 3 (M.loadsI a w) ⟨#[]⟩ 3 ws s2 _ _ _ _ _ HWS.out HS2.out HV.out rfl I0.out HG.out (show 0 < 3 by decide) (show 3 ≤ 500 by decide) (by decide) (by decide)).mono ?_; rintro e w2 ⟨gg, gm, gw, ov, rfl, hM, hB⟩; have HM := Lib.hid (hM.alloc (.cells #[.int .i64 3, .int .i64 0, .string ⟨#[]⟩, .int .i64 3, .int .i64 0] 28)); have o0 := (Cel.new w2 28 #[.int .i64 3, .int .i64 0, .string ⟨#[]⟩, .int .i64 3, .int .i64 0]).cell 0; have HB := Lib.hid (B0.out.trans (hB.mono B0.out.size)); clear hM hB)
      | (go_at_call 28; first | ((with_reducible refine (reg_is _ _ _ _ _ _ _ _ a _ HM.out ha0 ha1 H1.out).mono ?_); rintro e w' ⟨rfl, rfl⟩) | ((with_reducible refine (reg_is _ _ _ _ _ _ _ _ ((a + 1) % 16) _ HM.out (by omega) (by omega) H2.out).mono ?_); rintro e w' ⟨rfl, rfl⟩))
      | (go_at_call 20; refine (pc_is _ _ _ _ _ _ _ _ _ HM.out HP.out).mono ?_; rintro e w' ⟨rfl, rfl⟩)
      | (go_at_call 15; refine (wakes_any _).mono ?_; rintro e w5 ⟨rfl, hB5⟩)
      | fail)
    go_ret
    exact ⟨ret_b (by first | rfl | simp), (HB.out.alloc HB.out.size _).trans (hB5.mono (by have := HB.out.size; simp; omega))⟩

theorem loads_any (W : World) (w reg : Int) (hw : 0 ≤ w ∧ w < 4294967296) (hr : -9223372036854775808 ≤ reg ∧ reg < 9223372036854775808) :
    Calls Try.prog 8 #[.int .u32 w, .int .i64 reg] W (RetB (.bool true) W) := by
  have ha := mod16 reg hr.1 hr.2
  have hL := M.loads_run (reg % 16) w (by omega) (by omega) hw.1 hw.2 ⟨#[]⟩ _ rfl
  obtain ⟨h1, h2, h3, h4, h5, h6, h7, h8⟩ := hL
  refine loads_walk W w reg (reg % 16) hw.1 hw.2 hr.1 hr.2 ha (by omega) (by omega) _ _ rfl rfl ?_ (M.good_at (M.loads_good (reg % 16) w (by omega) (by omega) hw.1 hw.2)) h5 h6 _ h7 ?_
  · unfold ocV
    rw [h1, h2, h3, h4, h8]
    rfl
  · unfold M.packed
    by_cases hb : 2147483648 ≤ w
    · have hz : ¬ w = 0 := by omega
      exact .inl ⟨hb, by simpa using hz, by simp [hb, hz, M.bit]⟩
    · by_cases hz : w = 0
      · exact .inr (.inl ⟨by omega, by simp [hz], by simp [hz, M.bit]⟩)
      · exact .inr (.inr ⟨by omega, by omega, by simpa using hz, by simp [hb, hz, M.bit]⟩)

end Go.Proofs.Ytmlmjkojhfjjlaa
