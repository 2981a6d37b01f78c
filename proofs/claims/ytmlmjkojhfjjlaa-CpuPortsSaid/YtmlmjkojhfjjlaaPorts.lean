/- CpuPorts: the walk. -/
import Derived.Test.YtmlmjkojhfjjlaaLoads
import Derived.Test.YtmlmjkojhfjjlaaRunsP
namespace Go.Proofs.Ytmlmjkojhfjjlaa
set_option linter.unusedVariables false
set_option linter.unusedSimpArgs false
open Go.RowKit

set_option maxHeartbeats 4000000 in
set_option maxRecDepth 100000 in
theorem ports_early (W : World) (inp : ByteArray) (h : 500 < inp.size) : Calls Try.prog 3 #[.string inp] W (RetB (.bool true) W) := by
  go_enter Try.func3, Try.ntmps3
  go_wp2_with (first
    | (go_at_call 15; refine (wakes_any _).mono ?_; rintro e w5 ⟨rfl, hB5⟩)
    | fail)
  go_ret
  exact ⟨ret_b (by first | rfl | simp), hB5⟩

set_option maxHeartbeats 4000000 in
set_option maxRecDepth 100000 in
theorem ports_walk (W : World) (inp : ByteArray) (h : inp.size ≤ 500) (ws : List Int) (s2 : M.St) (n : Nat) (hws : encs M.portsI ++ List.replicate 8 0 = ws) (hs2 : M.runs 10000 (st0 ws 0 inp) = s2)
    (hv : ocV (M.runs 10000 (st0 ws 0 inp)) (M.steps 10000 (st0 ws 0 inp)) = .agg #[.int .i64 1, .int .i64 0, .string inp, .int .i64 (n : Int), .int .i64 (inp.size : Int)]) (hn : n = 5 + 5 * inp.size) :
    Calls Try.prog 3 #[.string inp] W (RetB (.bool true) W) := by
  have HWS := Lib.hid hws
  have HS2 := Lib.hid hs2
  have HV := Lib.hid hv
  have hn1 : ((n : Int) == 5 + 5 * (inp.size : Int)) = true := by simp; omega
  have HG := Lib.hid (M.good_at M.ports_good)
  have B0 := Lib.hid ((Below.refl _ W).alloc (Nat.le_refl _) (.cells (rowC M.portsI).toArray 24))
  have I0 := Lib.hid (Ins.of_cel (Cel.new W 24 (rowC M.portsI).toArray))
  clear hws hs2 hv hn
  go_enter Try.func3, Try.ntmps3
  go_wp2_with (first
    | (go_at_call 16; refine (played_ok _ W.heap.size 8 8 M.portsI inp 10000 ws s2 _ _ _ _ _ HWS.out HS2.out HV.out rfl I0.out HG.out (by decide) (by decide) (by omega) (by decide)).mono ?_; rintro e w2 ⟨gg, gm, gw, ov, rfl, hM, hB⟩; have O0 := Cel.new w2 28 #[.int .i64 1, .int .i64 0, .string inp, .int .i64 (n : Int), .int .i64 (inp.size : Int)]; have o0 := O0.cell 0; have o2 := O0.cell 2; have o3 := O0.cell 3; have o4 := O0.cell 4; have HB := Lib.hid (B0.out.trans (hB.mono B0.out.size)); clear hM hB O0)
    | (go_at_call 15; refine (wakes_any _).mono ?_; rintro e w5 ⟨rfl, hB5⟩)
    | fail)
  go_ret
  exact ⟨ret_b (by first | rfl | simp), (HB.out.alloc HB.out.size _).trans (hB5.mono (by have := HB.out.size; simp; omega))⟩

theorem ports_any (W : World) (inp : ByteArray) : Calls Try.prog 3 #[.string inp] W (RetB (.bool true) W) := by
  by_cases h : 500 < inp.size
  · exact ports_early W inp h
  · obtain ⟨h1, h2, h3, h4, h5⟩ := M.ports_run inp (by omega) _ rfl
    refine ports_walk W inp (by omega) _ _ _ rfl rfl ?_ rfl
    unfold ocV
    rw [h1, h2, h3, h4, h5, M.strOf_bytes]
    rfl

end Go.Proofs.Ytmlmjkojhfjjlaa
