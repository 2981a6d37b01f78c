/- The contracts of the document's register instructions at the operations of alu: FormReg. Printed by gen_rreck.py. -/
import Derived.Test.YtmlmjkojhfjjlaaDocMach
namespace Go.Proofs.Ytmlmjkojhfjjlaa
set_option linter.unusedVariables false
set_option linter.unusedSimpArgs false
open Go.RowKit

set_option maxHeartbeats 4000000 in
set_option maxRecDepth 100000 in
theorem rreck_r1 (g gm : Nat) (ov : Value) (st : Int) (s : M.St) (a b c : Int) (w : World) (hC : Cel w g DT (dc s gm ov st)) (hl : s.r.length = 16) (hrb : ∀ i, 0 ≤ M.at_ s.r i ∧ M.at_ s.r i < 4294967296)
    (hh : 0 ≤ s.h ∧ s.h < 4294967296) (ha : 0 ≤ a) (ha' : a < 16) (hb : 0 ≤ b) (hb' : b < 16) (hc : 0 ≤ c) (hc' : c < 16) :
    Calls Try.prog 62 #[.pointer (some ⟨g, 0, none⟩), iv 0 true false a b c 0 0] w (RetR (.tuple #[]) (· = g) g gm ov st (M.reckons s ⟨0, true, false, a, b, c, 0, 0⟩) w) := by
  have cb := dmach_reg hC hl b hb hb'
  have cc := dmach_reg hC hl c hc hc'
  obtain ⟨c16, c17, c18, c19, c20, c21, c22, c23, c24, c25, c26, c27, c28⟩ := dmach_fld hC hl
  have hg := hC.lt
  have hg1 : g < w.heap.size + 1 := by omega
  have hne : g ≠ w.heap.size := by omega
  have hne' : w.heap.size ≠ g := by omega
  have hne2 : g ≠ w.heap.size + 1 := by omega
  have hne3 : w.heap.size + 1 ≠ g := by omega
  have hbb := hrb b
  have hcb := hrb c
  obtain ⟨R, eR⟩ : ∃ x, M.aluR 0 true (M.at_ s.r b) (M.at_ s.r c) s.h s.fc = x := ⟨_, rfl⟩
  obtain ⟨H, eH⟩ : ∃ x, M.aluH 0 true (M.at_ s.r b) (M.at_ s.r c) s.h = x := ⟨_, rfl⟩
  obtain ⟨C, eC⟩ : ∃ x, M.aluC 0 true (M.at_ s.r b) (M.at_ s.r c) s.fc = x := ⟨_, rfl⟩
  obtain ⟨V, eV⟩ : ∃ x, M.aluV 0 true (M.at_ s.r b) (M.at_ s.r c) s.fc s.fv = x := ⟨_, rfl⟩
  obtain ⟨N, eN⟩ : ∃ x, decide (2147483648 ≤ R) = x := ⟨_, rfl⟩
  obtain ⟨Z, eZ⟩ : ∃ x, decide (R = 0) = x := ⟨_, rfl⟩
  have hD : ∀ W, Calls Try.prog 85 #[.int .i64 0, .bool true, .int .u32 (M.at_ s.r b), .int .u32 (M.at_ s.r c), .int .u32 s.h, flv s.fn s.fz s.fc s.fv] W (RetB (.agg #[.int .u32 R, .int .u32 H, .bool N, .bool Z, .bool C, .bool V, .bool true]) W) := by
    intro W
    have := rdo_any 0 true (M.at_ s.r b) (M.at_ s.r c) s.h s.fn s.fz s.fc s.fv W (by decide) (by decide) (by simp) hbb.1 hbb.2 (by omega) (by omega) hh.1 hh.2
    unfold rdoV at this
    rw [eR, eH, eC, eV, eN, eZ] at this
    exact this
  have HS : Hid (M.reckons s ⟨0, true, false, a, b, c, 0, 0⟩ = { s with r := M.put_ s.r a R, h := H, fn := N, fz := Z, fc := C, fv := V }) := by
    show M.reckons s ⟨0, true, false, a, b, c, 0, 0⟩ = { s with r := M.put_ s.r a R, h := H, fn := N, fz := Z, fc := C, fv := V }
    unfold M.reckons
    simp only [M.second]
    rw [if_neg (by simp), if_neg (by simp), if_neg (by decide), eR, eH, eC, eV, eN, eZ]
  have HD := Lib.hid hD
  clear hD eR eH eC eV eN eZ
  go_enter Try.func62, Try.ntmps62
  go_wp2
  go_quiet (fail)
  go_wp2
  go_region_held3 (fun w' => w'.cell? ⟨w.heap.size, 6, none⟩ = some (.int .i64 0) ∧ w'.cell? ⟨w.heap.size, 1, none⟩ = some (.bool true) ∧ w'.cell? ⟨w.heap.size, 4, none⟩ = some (.int .i64 b) ∧ w'.cell? ⟨g, b.toNat, none⟩ = some (.int .u32 (M.at_ s.r b)) ∧ w'.cell? ⟨g, 16, none⟩ = some (.int .u32 s.h) ∧ w'.cell? ⟨g, 17, none⟩ = some (.bool s.fn) ∧ w'.cell? ⟨g, 18, none⟩ = some (.bool s.fz) ∧ w'.cell? ⟨g, 19, none⟩ = some (.bool s.fc) ∧ w'.cell? ⟨g, 20, none⟩ = some (.bool s.fv))
    (first | go_keep | (obtain ⟨hx1, hx2⟩ := box_cells hb1 (by simp); have hx3 := hx2 g hg; clear hx2; simp only [hx1, hx3]; go_keep) | (obtain ⟨hx1, hx2⟩ := box_cells hb1 (by simp); have hx3 := hx2 g hg; have hz1 := box_lt hb1; have ha1 := fun (o : Obj) (j : Nat) => World.cell?_alloc_lt w1 o ⟨w.heap.size, j, none⟩ hz1; have ha2 := fun (o : Obj) (j : Nat) => World.cell?_alloc_lt w1 o ⟨g, j, none⟩ (Nat.lt_trans hg hz1); clear hx2; simp only [ha1, ha2, hx1, hx3]; go_keep) | (obtain ⟨hx1, hx2⟩ := box_cellsZ hb1 (by simp); have hx3 := hx2 g hg; clear hx2; simp only [hx1, hx3]; go_keep))
    (first | (go_at_call 85; refine (HD.out _).mono ?_; rintro e w1 ⟨rfl, hb1⟩; try have hzc := z_cells hb1 (by simp); try have hzf := z_frozen hb1 (by simp)))
  · have hC1 : Cel w1 g DT (dc s gm ov st) := below_cel hb1 (cel_heap (hC.alloc _) rfl) (by simp <;> omega)
    have hB1 : Cel w1 w.heap.size 24 #[.int .i64 0, .bool true, .bool false, .int .i64 a, .int .i64 b, .int .i64 c, .int .i64 0, .int .i64 0] := below_cel hb1 (cel_heap (Cel.new w _ _) rfl) (by simp)
    have hF1 : Fr (fun k => k = g) w w1 := fr_box hb1 (by simp)
    have hz1 := box_lt hb1
    have hC2 := hC1.alloc (.cells #[.int .u32 R, .int .u32 H, .bool N, .bool Z, .bool C, .bool V, .bool true] TOLD)
    have hB2 := hB1.alloc (.cells #[.int .u32 R, .int .u32 H, .bool N, .bool Z, .bool C, .bool V, .bool true] TOLD)
    have hV2 := Cel.new w1 TOLD #[.int .u32 R, .int .u32 H, .bool N, .bool Z, .bool C, .bool V, .bool true]
    have hF2 := hF1.alloc (.cells #[.int .u32 R, .int .u32 H, .bool N, .bool Z, .bool C, .bool V, .bool true] TOLD)
    have hn1 : g ≠ w1.heap.size := by omega
    have hn2 : w1.heap.size ≠ g := by omega
    generalize w1.heap.size = k at *
    generalize w1.alloc (.cells #[.int .u32 R, .int .u32 H, .bool N, .bool Z, .bool C, .bool V, .bool true] TOLD) = W2 at *
    obtain ⟨d16, d17, d18, d19, d20, _, _, _, _, _, _, _, _⟩ := dmach_fld hC2 hl
    have da := dmach_reg hC2 hl a ha ha'
    have df := hC2.frozen
    have db := hB2.cell
    have dv := hV2.cell
    clear c16 c17 c18 c19 c20 c21 c22 c23 c24 c25 c26 c27 c28 cb cc hb1 hB1 hC1 hF1
    go_wp2
    go_region
    go_wp2
    go_end0
    have hr := put_len hl a R
    refine ⟨rfl, ?_, (fr_set (fr_set (fr_set (fr_set (fr_set (fr_set hF2 _ _) _ _) _ _) _ _) _ _) _ _).drew⟩
    rw [HS.out]
    exact (dcel_fv (dcel_fc (dcel_fz (dcel_fn (dcel_h (dcel_reg hC2 hl a R ha ha') hr H) hr N) hr Z) hr C) hr V).drew
  · have hC1 : Cel w1 g DT (dc s gm ov st) := below_cel hb1 ((cel_heap (w' := (w.alloc _).drewN _) (hC.alloc _) rfl).alloc _) (by simp <;> omega)
    have hB1 : Cel w1 w.heap.size 24 #[.int .i64 0, .bool true, .bool false, .int .i64 a, .int .i64 b, .int .i64 c, .int .i64 0, .int .i64 0] := below_cel hb1 ((cel_heap (w' := (w.alloc _).drewN _) (Cel.new w _ _) rfl).alloc _) (by simp <;> omega)
    have hF1 : Fr (fun k => k = g) w w1 := fr_box2 hb1 (by simp <;> omega)
    have hV2 := cel7 (z_cel hb1 (by simp)) (.int .u32 R) (.int .u32 H) (.bool N) (.bool Z) (.bool C) (.bool V) (.bool true)
    have hC2 := (((((((hC1.far (p := ⟨w.heap.size + 1, 0, none⟩) hne2 (.int .u32 R)).far (p := ⟨w.heap.size + 1, 1, none⟩) hne2 (.int .u32 H)).far (p := ⟨w.heap.size + 1, 2, none⟩) hne2 (.bool N)).far (p := ⟨w.heap.size + 1, 3, none⟩) hne2 (.bool Z)).far (p := ⟨w.heap.size + 1, 4, none⟩) hne2 (.bool C)).far (p := ⟨w.heap.size + 1, 5, none⟩) hne2 (.bool V)).far (p := ⟨w.heap.size + 1, 6, none⟩) hne2 (.bool true))
    have hn0 : w.heap.size ≠ w.heap.size + 1 := by omega
    have hB2 := (((((((hB1.far (p := ⟨w.heap.size + 1, 0, none⟩) hn0 (.int .u32 R)).far (p := ⟨w.heap.size + 1, 1, none⟩) hn0 (.int .u32 H)).far (p := ⟨w.heap.size + 1, 2, none⟩) hn0 (.bool N)).far (p := ⟨w.heap.size + 1, 3, none⟩) hn0 (.bool Z)).far (p := ⟨w.heap.size + 1, 4, none⟩) hn0 (.bool C)).far (p := ⟨w.heap.size + 1, 5, none⟩) hn0 (.bool V)).far (p := ⟨w.heap.size + 1, 6, none⟩) hn0 (.bool true))
    have hF2 := (((((((hF1.setCell (p := ⟨w.heap.size + 1, 0, none⟩) (.inr (by simp)) (.int .u32 R)).setCell (p := ⟨w.heap.size + 1, 1, none⟩) (.inr (by simp)) (.int .u32 H)).setCell (p := ⟨w.heap.size + 1, 2, none⟩) (.inr (by simp)) (.bool N)).setCell (p := ⟨w.heap.size + 1, 3, none⟩) (.inr (by simp)) (.bool Z)).setCell (p := ⟨w.heap.size + 1, 4, none⟩) (.inr (by simp)) (.bool C)).setCell (p := ⟨w.heap.size + 1, 5, none⟩) (.inr (by simp)) (.bool V)).setCell (p := ⟨w.heap.size + 1, 6, none⟩) (.inr (by simp)) (.bool true))
    clear hzc hzf
    generalize (((((((w1.setCell ⟨w.heap.size + 1, 0, none⟩ (.int .u32 R)).setCell ⟨w.heap.size + 1, 1, none⟩ (.int .u32 H)).setCell ⟨w.heap.size + 1, 2, none⟩ (.bool N)).setCell ⟨w.heap.size + 1, 3, none⟩ (.bool Z)).setCell ⟨w.heap.size + 1, 4, none⟩ (.bool C)).setCell ⟨w.heap.size + 1, 5, none⟩ (.bool V)).setCell ⟨w.heap.size + 1, 6, none⟩ (.bool true)) = W2 at *
    obtain ⟨d16, d17, d18, d19, d20, _, _, _, _, _, _, _, _⟩ := dmach_fld hC2 hl
    have da := dmach_reg hC2 hl a ha ha'
    have df := hC2.frozen
    have db := hB2.cell
    have dv := hV2.cell
    clear c16 c17 c18 c19 c20 c21 c22 c23 c24 c25 c26 c27 c28 cb cc hb1 hB1 hC1 hF1
    go_wp2
    go_region
    go_wp2
    go_end0
    have hr := put_len hl a R
    refine ⟨rfl, ?_, (fr_set (fr_set (fr_set (fr_set (fr_set (fr_set hF2 _ _) _ _) _ _) _ _) _ _) _ _).drew⟩
    rw [HS.out]
    exact (dcel_fv (dcel_fc (dcel_fz (dcel_fn (dcel_h (dcel_reg hC2 hl a R ha ha') hr H) hr N) hr Z) hr C) hr V).drew

set_option maxHeartbeats 4000000 in
set_option maxRecDepth 100000 in
theorem rreck_r2 (g gm : Nat) (ov : Value) (st : Int) (s : M.St) (v : Bool) (a b c : Int) (w : World) (hC : Cel w g DT (dc s gm ov st)) (hl : s.r.length = 16) (hrb : ∀ i, 0 ≤ M.at_ s.r i ∧ M.at_ s.r i < 4294967296)
    (hh : 0 ≤ s.h ∧ s.h < 4294967296) (ha : 0 ≤ a) (ha' : a < 16) (hb : 0 ≤ b) (hb' : b < 16) (hc : 0 ≤ c) (hc' : c < 16) :
    Calls Try.prog 62 #[.pointer (some ⟨g, 0, none⟩), iv 0 false v a b c 0 0] w (RetR (.tuple #[]) (· = g) g gm ov st (M.reckons s ⟨0, false, v, a, b, c, 0, 0⟩) w) := by
  have cb := dmach_reg hC hl b hb hb'
  have cc := dmach_reg hC hl c hc hc'
  obtain ⟨c16, c17, c18, c19, c20, c21, c22, c23, c24, c25, c26, c27, c28⟩ := dmach_fld hC hl
  have hg := hC.lt
  have hg1 : g < w.heap.size + 1 := by omega
  have hne : g ≠ w.heap.size := by omega
  have hne' : w.heap.size ≠ g := by omega
  have hne2 : g ≠ w.heap.size + 1 := by omega
  have hne3 : w.heap.size + 1 ≠ g := by omega
  have hbb := hrb b
  have hcb := hrb c
  obtain ⟨R, eR⟩ : ∃ x, M.aluR 0 false (M.at_ s.r b) (M.at_ s.r c) s.h s.fc = x := ⟨_, rfl⟩
  obtain ⟨H, eH⟩ : ∃ x, M.aluH 0 false (M.at_ s.r b) (M.at_ s.r c) s.h = x := ⟨_, rfl⟩
  obtain ⟨C, eC⟩ : ∃ x, M.aluC 0 false (M.at_ s.r b) (M.at_ s.r c) s.fc = x := ⟨_, rfl⟩
  obtain ⟨V, eV⟩ : ∃ x, M.aluV 0 false (M.at_ s.r b) (M.at_ s.r c) s.fc s.fv = x := ⟨_, rfl⟩
  obtain ⟨N, eN⟩ : ∃ x, decide (2147483648 ≤ R) = x := ⟨_, rfl⟩
  obtain ⟨Z, eZ⟩ : ∃ x, decide (R = 0) = x := ⟨_, rfl⟩
  have hD : ∀ W, Calls Try.prog 85 #[.int .i64 0, .bool false, .int .u32 (M.at_ s.r b), .int .u32 (M.at_ s.r c), .int .u32 s.h, flv s.fn s.fz s.fc s.fv] W (RetB (.agg #[.int .u32 R, .int .u32 H, .bool N, .bool Z, .bool C, .bool V, .bool true]) W) := by
    intro W
    have := rdo_any 0 false (M.at_ s.r b) (M.at_ s.r c) s.h s.fn s.fz s.fc s.fv W (by decide) (by decide) (by simp) hbb.1 hbb.2 (by omega) (by omega) hh.1 hh.2
    unfold rdoV at this
    rw [eR, eH, eC, eV, eN, eZ] at this
    exact this
  have HS : Hid (M.reckons s ⟨0, false, v, a, b, c, 0, 0⟩ = { s with r := M.put_ s.r a R, h := H, fn := N, fz := Z, fc := C, fv := V }) := by
    show M.reckons s ⟨0, false, v, a, b, c, 0, 0⟩ = { s with r := M.put_ s.r a R, h := H, fn := N, fz := Z, fc := C, fv := V }
    unfold M.reckons
    simp only [M.second]
    rw [if_neg (by simp), if_neg (by simp), if_neg (by decide), eR, eH, eC, eV, eN, eZ]
  have HD := Lib.hid hD
  clear hD eR eH eC eV eN eZ
  go_enter Try.func62, Try.ntmps62
  go_wp2
  go_quiet (fail)
  go_wp2
  go_region_held3 (fun w' => w'.cell? ⟨w.heap.size, 6, none⟩ = some (.int .i64 0) ∧ w'.cell? ⟨w.heap.size, 1, none⟩ = some (.bool false) ∧ w'.cell? ⟨w.heap.size, 4, none⟩ = some (.int .i64 b) ∧ w'.cell? ⟨g, b.toNat, none⟩ = some (.int .u32 (M.at_ s.r b)) ∧ w'.cell? ⟨g, 16, none⟩ = some (.int .u32 s.h) ∧ w'.cell? ⟨g, 17, none⟩ = some (.bool s.fn) ∧ w'.cell? ⟨g, 18, none⟩ = some (.bool s.fz) ∧ w'.cell? ⟨g, 19, none⟩ = some (.bool s.fc) ∧ w'.cell? ⟨g, 20, none⟩ = some (.bool s.fv))
    (first | go_keep | (obtain ⟨hx1, hx2⟩ := box_cells hb1 (by simp); have hx3 := hx2 g hg; clear hx2; simp only [hx1, hx3]; go_keep) | (obtain ⟨hx1, hx2⟩ := box_cells hb1 (by simp); have hx3 := hx2 g hg; have hz1 := box_lt hb1; have ha1 := fun (o : Obj) (j : Nat) => World.cell?_alloc_lt w1 o ⟨w.heap.size, j, none⟩ hz1; have ha2 := fun (o : Obj) (j : Nat) => World.cell?_alloc_lt w1 o ⟨g, j, none⟩ (Nat.lt_trans hg hz1); clear hx2; simp only [ha1, ha2, hx1, hx3]; go_keep) | (obtain ⟨hx1, hx2⟩ := box_cellsZ hb1 (by simp); have hx3 := hx2 g hg; clear hx2; simp only [hx1, hx3]; go_keep))
    (first | (go_at_call 85; refine (HD.out _).mono ?_; rintro e w1 ⟨rfl, hb1⟩; try have hzc := z_cells hb1 (by simp); try have hzf := z_frozen hb1 (by simp)))
  · have hC1 : Cel w1 g DT (dc s gm ov st) := below_cel hb1 (cel_heap (hC.alloc _) rfl) (by simp <;> omega)
    have hB1 : Cel w1 w.heap.size 24 #[.int .i64 0, .bool false, .bool v, .int .i64 a, .int .i64 b, .int .i64 c, .int .i64 0, .int .i64 0] := below_cel hb1 (cel_heap (Cel.new w _ _) rfl) (by simp)
    have hF1 : Fr (fun k => k = g) w w1 := fr_box hb1 (by simp)
    have hz1 := box_lt hb1
    have hC2 := hC1.alloc (.cells #[.int .u32 R, .int .u32 H, .bool N, .bool Z, .bool C, .bool V, .bool true] TOLD)
    have hB2 := hB1.alloc (.cells #[.int .u32 R, .int .u32 H, .bool N, .bool Z, .bool C, .bool V, .bool true] TOLD)
    have hV2 := Cel.new w1 TOLD #[.int .u32 R, .int .u32 H, .bool N, .bool Z, .bool C, .bool V, .bool true]
    have hF2 := hF1.alloc (.cells #[.int .u32 R, .int .u32 H, .bool N, .bool Z, .bool C, .bool V, .bool true] TOLD)
    have hn1 : g ≠ w1.heap.size := by omega
    have hn2 : w1.heap.size ≠ g := by omega
    generalize w1.heap.size = k at *
    generalize w1.alloc (.cells #[.int .u32 R, .int .u32 H, .bool N, .bool Z, .bool C, .bool V, .bool true] TOLD) = W2 at *
    obtain ⟨d16, d17, d18, d19, d20, _, _, _, _, _, _, _, _⟩ := dmach_fld hC2 hl
    have da := dmach_reg hC2 hl a ha ha'
    have df := hC2.frozen
    have db := hB2.cell
    have dv := hV2.cell
    clear c16 c17 c18 c19 c20 c21 c22 c23 c24 c25 c26 c27 c28 cb cc hb1 hB1 hC1 hF1
    go_wp2
    go_region
    go_wp2
    go_end0
    have hr := put_len hl a R
    refine ⟨rfl, ?_, (fr_set (fr_set (fr_set (fr_set (fr_set (fr_set hF2 _ _) _ _) _ _) _ _) _ _) _ _).drew⟩
    rw [HS.out]
    exact (dcel_fv (dcel_fc (dcel_fz (dcel_fn (dcel_h (dcel_reg hC2 hl a R ha ha') hr H) hr N) hr Z) hr C) hr V).drew
  · have hC1 : Cel w1 g DT (dc s gm ov st) := below_cel hb1 ((cel_heap (w' := (w.alloc _).drewN _) (hC.alloc _) rfl).alloc _) (by simp <;> omega)
    have hB1 : Cel w1 w.heap.size 24 #[.int .i64 0, .bool false, .bool v, .int .i64 a, .int .i64 b, .int .i64 c, .int .i64 0, .int .i64 0] := below_cel hb1 ((cel_heap (w' := (w.alloc _).drewN _) (Cel.new w _ _) rfl).alloc _) (by simp <;> omega)
    have hF1 : Fr (fun k => k = g) w w1 := fr_box2 hb1 (by simp <;> omega)
    have hV2 := cel7 (z_cel hb1 (by simp)) (.int .u32 R) (.int .u32 H) (.bool N) (.bool Z) (.bool C) (.bool V) (.bool true)
    have hC2 := (((((((hC1.far (p := ⟨w.heap.size + 1, 0, none⟩) hne2 (.int .u32 R)).far (p := ⟨w.heap.size + 1, 1, none⟩) hne2 (.int .u32 H)).far (p := ⟨w.heap.size + 1, 2, none⟩) hne2 (.bool N)).far (p := ⟨w.heap.size + 1, 3, none⟩) hne2 (.bool Z)).far (p := ⟨w.heap.size + 1, 4, none⟩) hne2 (.bool C)).far (p := ⟨w.heap.size + 1, 5, none⟩) hne2 (.bool V)).far (p := ⟨w.heap.size + 1, 6, none⟩) hne2 (.bool true))
    have hn0 : w.heap.size ≠ w.heap.size + 1 := by omega
    have hB2 := (((((((hB1.far (p := ⟨w.heap.size + 1, 0, none⟩) hn0 (.int .u32 R)).far (p := ⟨w.heap.size + 1, 1, none⟩) hn0 (.int .u32 H)).far (p := ⟨w.heap.size + 1, 2, none⟩) hn0 (.bool N)).far (p := ⟨w.heap.size + 1, 3, none⟩) hn0 (.bool Z)).far (p := ⟨w.heap.size + 1, 4, none⟩) hn0 (.bool C)).far (p := ⟨w.heap.size + 1, 5, none⟩) hn0 (.bool V)).far (p := ⟨w.heap.size + 1, 6, none⟩) hn0 (.bool true))
    have hF2 := (((((((hF1.setCell (p := ⟨w.heap.size + 1, 0, none⟩) (.inr (by simp)) (.int .u32 R)).setCell (p := ⟨w.heap.size + 1, 1, none⟩) (.inr (by simp)) (.int .u32 H)).setCell (p := ⟨w.heap.size + 1, 2, none⟩) (.inr (by simp)) (.bool N)).setCell (p := ⟨w.heap.size + 1, 3, none⟩) (.inr (by simp)) (.bool Z)).setCell (p := ⟨w.heap.size + 1, 4, none⟩) (.inr (by simp)) (.bool C)).setCell (p := ⟨w.heap.size + 1, 5, none⟩) (.inr (by simp)) (.bool V)).setCell (p := ⟨w.heap.size + 1, 6, none⟩) (.inr (by simp)) (.bool true))
    clear hzc hzf
    generalize (((((((w1.setCell ⟨w.heap.size + 1, 0, none⟩ (.int .u32 R)).setCell ⟨w.heap.size + 1, 1, none⟩ (.int .u32 H)).setCell ⟨w.heap.size + 1, 2, none⟩ (.bool N)).setCell ⟨w.heap.size + 1, 3, none⟩ (.bool Z)).setCell ⟨w.heap.size + 1, 4, none⟩ (.bool C)).setCell ⟨w.heap.size + 1, 5, none⟩ (.bool V)).setCell ⟨w.heap.size + 1, 6, none⟩ (.bool true)) = W2 at *
    obtain ⟨d16, d17, d18, d19, d20, _, _, _, _, _, _, _, _⟩ := dmach_fld hC2 hl
    have da := dmach_reg hC2 hl a ha ha'
    have df := hC2.frozen
    have db := hB2.cell
    have dv := hV2.cell
    clear c16 c17 c18 c19 c20 c21 c22 c23 c24 c25 c26 c27 c28 cb cc hb1 hB1 hC1 hF1
    go_wp2
    go_region
    go_wp2
    go_end0
    have hr := put_len hl a R
    refine ⟨rfl, ?_, (fr_set (fr_set (fr_set (fr_set (fr_set (fr_set hF2 _ _) _ _) _ _) _ _) _ _) _ _).drew⟩
    rw [HS.out]
    exact (dcel_fv (dcel_fc (dcel_fz (dcel_fn (dcel_h (dcel_reg hC2 hl a R ha ha') hr H) hr N) hr Z) hr C) hr V).drew

set_option maxHeartbeats 4000000 in
set_option maxRecDepth 100000 in
theorem rreck_r3 (g gm : Nat) (ov : Value) (st : Int) (s : M.St) (u v : Bool) (a b c op : Int) (w : World) (hC : Cel w g DT (dc s gm ov st)) (hl : s.r.length = 16) (hrb : ∀ i, 0 ≤ M.at_ s.r i ∧ M.at_ s.r i < 4294967296)
    (hh : 0 ≤ s.h ∧ s.h < 4294967296) (ha : 0 ≤ a) (ha' : a < 16) (hb : 0 ≤ b) (hb' : b < 16) (hc : 0 ≤ c) (hc' : c < 16) (ho : 0 ≤ op) (ho' : op ≤ 11) (hu : u = true → op = 0 ∨ 8 ≤ op ∧ op ≤ 10) (hn : op ≠ 0) :
    Calls Try.prog 62 #[.pointer (some ⟨g, 0, none⟩), iv 0 u v a b c op 0] w (RetR (.tuple #[]) (· = g) g gm ov st (M.reckons s ⟨0, u, v, a, b, c, op, 0⟩) w) := by
  have cb := dmach_reg hC hl b hb hb'
  have cc := dmach_reg hC hl c hc hc'
  obtain ⟨c16, c17, c18, c19, c20, c21, c22, c23, c24, c25, c26, c27, c28⟩ := dmach_fld hC hl
  have hg := hC.lt
  have hg1 : g < w.heap.size + 1 := by omega
  have hne : g ≠ w.heap.size := by omega
  have hne' : w.heap.size ≠ g := by omega
  have hne2 : g ≠ w.heap.size + 1 := by omega
  have hne3 : w.heap.size + 1 ≠ g := by omega
  have hbb := hrb b
  have hcb := hrb c
  obtain ⟨R, eR⟩ : ∃ x, M.aluR op u (M.at_ s.r b) (M.at_ s.r c) s.h s.fc = x := ⟨_, rfl⟩
  obtain ⟨H, eH⟩ : ∃ x, M.aluH op u (M.at_ s.r b) (M.at_ s.r c) s.h = x := ⟨_, rfl⟩
  obtain ⟨C, eC⟩ : ∃ x, M.aluC op u (M.at_ s.r b) (M.at_ s.r c) s.fc = x := ⟨_, rfl⟩
  obtain ⟨V, eV⟩ : ∃ x, M.aluV op u (M.at_ s.r b) (M.at_ s.r c) s.fc s.fv = x := ⟨_, rfl⟩
  obtain ⟨N, eN⟩ : ∃ x, decide (2147483648 ≤ R) = x := ⟨_, rfl⟩
  obtain ⟨Z, eZ⟩ : ∃ x, decide (R = 0) = x := ⟨_, rfl⟩
  have hD : ∀ W, Calls Try.prog 85 #[.int .i64 op, .bool u, .int .u32 (M.at_ s.r b), .int .u32 (M.at_ s.r c), .int .u32 s.h, flv s.fn s.fz s.fc s.fv] W (RetB (.agg #[.int .u32 R, .int .u32 H, .bool N, .bool Z, .bool C, .bool V, .bool true]) W) := by
    intro W
    have := rdo_any op u (M.at_ s.r b) (M.at_ s.r c) s.h s.fn s.fz s.fc s.fv W ho ho' hu hbb.1 hbb.2 (by omega) (by omega) hh.1 hh.2
    unfold rdoV at this
    rw [eR, eH, eC, eV, eN, eZ] at this
    exact this
  have HS : Hid (M.reckons s ⟨0, u, v, a, b, c, op, 0⟩ = { s with r := M.put_ s.r a R, h := H, fn := N, fz := Z, fc := C, fv := V }) := by
    show M.reckons s ⟨0, u, v, a, b, c, op, 0⟩ = { s with r := M.put_ s.r a R, h := H, fn := N, fz := Z, fc := C, fv := V }
    unfold M.reckons
    simp only [M.second]
    rw [if_neg (by simp [hn]), if_neg (by simp [hn]), if_neg (by decide), eR, eH, eC, eV, eN, eZ]
  have HD := Lib.hid hD
  clear hD eR eH eC eV eN eZ
  have e0 : (op == 0) = false := by simpa using hn
  clear hu hn
  go_enter Try.func62, Try.ntmps62
  go_wp2
  go_quiet (fail)
  go_wp2
  go_region_held3 (fun w' => w'.cell? ⟨w.heap.size, 6, none⟩ = some (.int .i64 op) ∧ w'.cell? ⟨w.heap.size, 1, none⟩ = some (.bool u) ∧ w'.cell? ⟨w.heap.size, 4, none⟩ = some (.int .i64 b) ∧ w'.cell? ⟨g, b.toNat, none⟩ = some (.int .u32 (M.at_ s.r b)) ∧ w'.cell? ⟨g, 16, none⟩ = some (.int .u32 s.h) ∧ w'.cell? ⟨g, 17, none⟩ = some (.bool s.fn) ∧ w'.cell? ⟨g, 18, none⟩ = some (.bool s.fz) ∧ w'.cell? ⟨g, 19, none⟩ = some (.bool s.fc) ∧ w'.cell? ⟨g, 20, none⟩ = some (.bool s.fv))
    (first | go_keep | (obtain ⟨hx1, hx2⟩ := box_cells hb1 (by simp); have hx3 := hx2 g hg; clear hx2; simp only [hx1, hx3]; go_keep) | (obtain ⟨hx1, hx2⟩ := box_cells hb1 (by simp); have hx3 := hx2 g hg; have hz1 := box_lt hb1; have ha1 := fun (o : Obj) (j : Nat) => World.cell?_alloc_lt w1 o ⟨w.heap.size, j, none⟩ hz1; have ha2 := fun (o : Obj) (j : Nat) => World.cell?_alloc_lt w1 o ⟨g, j, none⟩ (Nat.lt_trans hg hz1); clear hx2; simp only [ha1, ha2, hx1, hx3]; go_keep) | (obtain ⟨hx1, hx2⟩ := box_cellsZ hb1 (by simp); have hx3 := hx2 g hg; clear hx2; simp only [hx1, hx3]; go_keep))
    (first | (go_at_call 85; refine (HD.out _).mono ?_; rintro e w1 ⟨rfl, hb1⟩; try have hzc := z_cells hb1 (by simp); try have hzf := z_frozen hb1 (by simp)))
  · have hC1 : Cel w1 g DT (dc s gm ov st) := below_cel hb1 (cel_heap (hC.alloc _) rfl) (by simp <;> omega)
    have hB1 : Cel w1 w.heap.size 24 #[.int .i64 0, .bool u, .bool v, .int .i64 a, .int .i64 b, .int .i64 c, .int .i64 op, .int .i64 0] := below_cel hb1 (cel_heap (Cel.new w _ _) rfl) (by simp)
    have hF1 : Fr (fun k => k = g) w w1 := fr_box hb1 (by simp)
    have hz1 := box_lt hb1
    have hC2 := hC1.alloc (.cells #[.int .u32 R, .int .u32 H, .bool N, .bool Z, .bool C, .bool V, .bool true] TOLD)
    have hB2 := hB1.alloc (.cells #[.int .u32 R, .int .u32 H, .bool N, .bool Z, .bool C, .bool V, .bool true] TOLD)
    have hV2 := Cel.new w1 TOLD #[.int .u32 R, .int .u32 H, .bool N, .bool Z, .bool C, .bool V, .bool true]
    have hF2 := hF1.alloc (.cells #[.int .u32 R, .int .u32 H, .bool N, .bool Z, .bool C, .bool V, .bool true] TOLD)
    have hn1 : g ≠ w1.heap.size := by omega
    have hn2 : w1.heap.size ≠ g := by omega
    generalize w1.heap.size = k at *
    generalize w1.alloc (.cells #[.int .u32 R, .int .u32 H, .bool N, .bool Z, .bool C, .bool V, .bool true] TOLD) = W2 at *
    obtain ⟨d16, d17, d18, d19, d20, _, _, _, _, _, _, _, _⟩ := dmach_fld hC2 hl
    have da := dmach_reg hC2 hl a ha ha'
    have df := hC2.frozen
    have db := hB2.cell
    have dv := hV2.cell
    clear c16 c17 c18 c19 c20 c21 c22 c23 c24 c25 c26 c27 c28 cb cc hb1 hB1 hC1 hF1
    go_wp2
    go_region
    go_wp2
    go_end0
    have hr := put_len hl a R
    refine ⟨rfl, ?_, (fr_set (fr_set (fr_set (fr_set (fr_set (fr_set hF2 _ _) _ _) _ _) _ _) _ _) _ _).drew⟩
    rw [HS.out]
    exact (dcel_fv (dcel_fc (dcel_fz (dcel_fn (dcel_h (dcel_reg hC2 hl a R ha ha') hr H) hr N) hr Z) hr C) hr V).drew
  · have hC1 : Cel w1 g DT (dc s gm ov st) := below_cel hb1 ((cel_heap (w' := (w.alloc _).drewN _) (hC.alloc _) rfl).alloc _) (by simp <;> omega)
    have hB1 : Cel w1 w.heap.size 24 #[.int .i64 0, .bool u, .bool v, .int .i64 a, .int .i64 b, .int .i64 c, .int .i64 op, .int .i64 0] := below_cel hb1 ((cel_heap (w' := (w.alloc _).drewN _) (Cel.new w _ _) rfl).alloc _) (by simp <;> omega)
    have hF1 : Fr (fun k => k = g) w w1 := fr_box2 hb1 (by simp <;> omega)
    have hV2 := cel7 (z_cel hb1 (by simp)) (.int .u32 R) (.int .u32 H) (.bool N) (.bool Z) (.bool C) (.bool V) (.bool true)
    have hC2 := (((((((hC1.far (p := ⟨w.heap.size + 1, 0, none⟩) hne2 (.int .u32 R)).far (p := ⟨w.heap.size + 1, 1, none⟩) hne2 (.int .u32 H)).far (p := ⟨w.heap.size + 1, 2, none⟩) hne2 (.bool N)).far (p := ⟨w.heap.size + 1, 3, none⟩) hne2 (.bool Z)).far (p := ⟨w.heap.size + 1, 4, none⟩) hne2 (.bool C)).far (p := ⟨w.heap.size + 1, 5, none⟩) hne2 (.bool V)).far (p := ⟨w.heap.size + 1, 6, none⟩) hne2 (.bool true))
    have hn0 : w.heap.size ≠ w.heap.size + 1 := by omega
    have hB2 := (((((((hB1.far (p := ⟨w.heap.size + 1, 0, none⟩) hn0 (.int .u32 R)).far (p := ⟨w.heap.size + 1, 1, none⟩) hn0 (.int .u32 H)).far (p := ⟨w.heap.size + 1, 2, none⟩) hn0 (.bool N)).far (p := ⟨w.heap.size + 1, 3, none⟩) hn0 (.bool Z)).far (p := ⟨w.heap.size + 1, 4, none⟩) hn0 (.bool C)).far (p := ⟨w.heap.size + 1, 5, none⟩) hn0 (.bool V)).far (p := ⟨w.heap.size + 1, 6, none⟩) hn0 (.bool true))
    have hF2 := (((((((hF1.setCell (p := ⟨w.heap.size + 1, 0, none⟩) (.inr (by simp)) (.int .u32 R)).setCell (p := ⟨w.heap.size + 1, 1, none⟩) (.inr (by simp)) (.int .u32 H)).setCell (p := ⟨w.heap.size + 1, 2, none⟩) (.inr (by simp)) (.bool N)).setCell (p := ⟨w.heap.size + 1, 3, none⟩) (.inr (by simp)) (.bool Z)).setCell (p := ⟨w.heap.size + 1, 4, none⟩) (.inr (by simp)) (.bool C)).setCell (p := ⟨w.heap.size + 1, 5, none⟩) (.inr (by simp)) (.bool V)).setCell (p := ⟨w.heap.size + 1, 6, none⟩) (.inr (by simp)) (.bool true))
    clear hzc hzf
    generalize (((((((w1.setCell ⟨w.heap.size + 1, 0, none⟩ (.int .u32 R)).setCell ⟨w.heap.size + 1, 1, none⟩ (.int .u32 H)).setCell ⟨w.heap.size + 1, 2, none⟩ (.bool N)).setCell ⟨w.heap.size + 1, 3, none⟩ (.bool Z)).setCell ⟨w.heap.size + 1, 4, none⟩ (.bool C)).setCell ⟨w.heap.size + 1, 5, none⟩ (.bool V)).setCell ⟨w.heap.size + 1, 6, none⟩ (.bool true)) = W2 at *
    obtain ⟨d16, d17, d18, d19, d20, _, _, _, _, _, _, _, _⟩ := dmach_fld hC2 hl
    have da := dmach_reg hC2 hl a ha ha'
    have df := hC2.frozen
    have db := hB2.cell
    have dv := hV2.cell
    clear c16 c17 c18 c19 c20 c21 c22 c23 c24 c25 c26 c27 c28 cb cc hb1 hB1 hC1 hF1
    go_wp2
    go_region
    go_wp2
    go_end0
    have hr := put_len hl a R
    refine ⟨rfl, ?_, (fr_set (fr_set (fr_set (fr_set (fr_set (fr_set hF2 _ _) _ _) _ _) _ _) _ _) _ _).drew⟩
    rw [HS.out]
    exact (dcel_fv (dcel_fc (dcel_fz (dcel_fn (dcel_h (dcel_reg hC2 hl a R ha ha') hr H) hr N) hr Z) hr C) hr V).drew

end Go.Proofs.Ytmlmjkojhfjjlaa
