/- RunInside: the law's own walk. -/
import Derived.Test.YtmlmjkojhfjjlaaInside
import Derived.Deep.RegionHeld3
namespace Go.Proofs.Ytmlmjkojhfjjlaa
set_option linter.unusedVariables false
set_option linter.unusedSimpArgs false
open Go.RowKit

set_option maxHeartbeats 4000000 in
set_option maxRecDepth 100000 in
theorem insl_early (w : World) (sp mp : Option Addr) (c n m mc : Nat) (start p : Int) (h : lgR n m = true) :
    Calls Try.prog 11 #[.agg #[.slice sp n c, .int .i64 start, .slice mp m mc], .int .i64 p] w (RetB (.bool true) w) := by
  go_enter Try.func11, Try.ntmps11
  go_wp2_with (first
    | (go_at_call 22; refine (large27_any _ _ _ _ _ _ _ _).mono ?_; rintro e w1 ⟨rfl, hb1⟩; have B1 := Lib.hid (((Below.refl _ w).alloc (Nat.le_refl _) (.cells #[.slice sp n c, .int .i64 start, .slice mp m mc] 45)).trans (hb1.mono (by simp))); clear hb1)
    | (go_at_call 23; refine (wakesR_any _).mono ?_; rintro e w5 ⟨rfl, hB5⟩)
    | fail)
  go_ret
  exact ⟨ret_b (by first | rfl | simp), B1.out.trans (hB5.mono B1.out.size)⟩

set_option maxHeartbeats 4000000 in
set_option maxRecDepth 100000 in
theorem insl_walk (w : World) (sp mp : Option Addr) (c m mc : Nat) (ws : List Int) (start p : Int) (D C : Nat → Int) (bb : Bool) (h : Src w (.slice sp ws.length c) sp c ws) (hM : Mods w mp m D C) (hl : ws.length ≤ 1000000) (hm : m ≤ 1000000) (hlg : lgR ws.length m = false) (hb : insB ws m D C p = bb) :
    Calls Try.prog 11 #[.agg #[.slice sp ws.length c, .int .i64 start, .slice mp m mc], .int .i64 p] w (RetB (.bool true) w) := by
  have HH := Lib.hid (And.intro h (And.intro hM hb))
  have I0 := Lib.hid (Cel.new w 45 #[.slice sp ws.length c, .int .i64 start, .slice mp m mc])
  have B0 := Lib.hid ((Below.refl _ w).alloc (Nat.le_refl _) (.cells #[.slice sp ws.length c, .int .i64 start, .slice mp m mc] 45))
  clear h hM hb
  cases bb
  all_goals
    go_enter Try.func11, Try.ntmps11
    go_wp2_with (first
      | (go_at_call 22; refine (large27_any _ _ _ _ _ _ _ _).mono ?_; rintro e w1 ⟨rfl, hb1⟩; have B1 := Lib.hid (B0.out.trans (hb1.mono B0.out.size)); have I1 := Lib.hid (I0.out.below hb1 I0.out.lt); have i0 := I1.out.cell 0; have i1 := I1.out.cell 1; have i2 := I1.out.cell 2; clear hb1)
      | fail)
    go_region_held3 (fun w' => w'.cell? ⟨w.heap.size, 0, none⟩ = some (.slice sp ws.length c) ∧ w'.cell? ⟨w.heap.size, 1, none⟩ = some (.int .i64 start) ∧ w'.cell? ⟨w.heap.size, 2, none⟩ = some (.slice mp m mc))
      (first | exact ⟨i0, i1, i2⟩ | exact ⟨j0, j1, j2⟩ | exact ⟨k0, k1, k2⟩ | exact ⟨l0, l1, l2⟩ | go_keep)
      (first
        | (go_at_call 30; refine (runinside_any _ sp mp c m mc ws start p D C (HH.out.1.below B1.out.drew) (HH.out.2.1.below B1.out.drew) hl hm).mono ?_; rw [HH.out.2.2]; rintro e w2 ⟨rfl, hb2⟩; have B2 := Lib.hid (B1.out.drew.trans (hb2.mono B1.out.size)); have I2 := Lib.hid (I1.out.drew.below hb2 I1.out.lt); have j0 := I2.out.cell 0; have j1 := I2.out.cell 1; have j2 := I2.out.cell 2; clear hb2)
        | (go_at_call 31; refine (rinside_any _ sp mp c m mc ws start p D C (HH.out.1.below B2.out) (HH.out.2.1.below B2.out) hl hm).mono ?_; rw [HH.out.2.2]; rintro e w3 ⟨rfl, hb3⟩; have B3 := Lib.hid (B2.out.trans (hb3.mono B2.out.size)); have I3 := Lib.hid (I2.out.below hb3 I2.out.lt); have k0 := I3.out.cell 0; have k1 := I3.out.cell 1; have k2 := I3.out.cell 2; clear hb3)
        | (go_at_call 23; refine (wakesR_any _).mono ?_; rintro e w5 ⟨rfl, hB5⟩; have B5 := Lib.hid (B3.out.trans (hB5.mono B3.out.size)); have I5 := Lib.hid (I3.out.below hB5 I3.out.lt); have l0 := I5.out.cell 0; have l1 := I5.out.cell 1; have l2 := I5.out.cell 2; clear hB5))
    go_wp2
    go_ret
    exact ⟨ret_b (by first | rfl | simp), B5.out⟩

theorem insl_any (w : World) (sp mp : Option Addr) (c m mc : Nat) (ws : List Int) (v : Value) (start p : Int) (D C : Nat → Int) (h : Src w v sp c ws) (hM : Mods w mp m D C) :
    Calls Try.prog 11 #[.agg #[v, .int .i64 start, .slice mp m mc], .int .i64 p] w (RetB (.bool true) w) := by
  obtain rfl := h.v
  cases hlg : lgR ws.length m with
  | true => exact insl_early w sp mp c _ m mc start p hlg
  | false =>
    have hle : ws.length ≤ 70000 ∧ m ≤ 100 := by
      have := of_decide_eq_false hlg
      omega
    exact insl_walk w sp mp c m mc ws start p D C _ h hM (by omega) (by omega) hlg rfl

end Go.Proofs.Ytmlmjkojhfjjlaa
