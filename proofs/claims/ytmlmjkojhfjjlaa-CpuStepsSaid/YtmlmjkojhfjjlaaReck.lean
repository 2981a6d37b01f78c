/- The contract of the machine's reckons: a register instruction does what the plain machine does. -/
import Derived.Test.YtmlmjkojhfjjlaaMach
import Derived.Deep.RegionWith
namespace Go.Proofs.Ytmlmjkojhfjjlaa
set_option linter.unusedVariables false
set_option linter.unusedSimpArgs false
open Go.RowKit

theorem cel_heap {w w' : World} {g : Nat} {t : TypeId} {cs : Array Value} (h : Cel w g t cs) (e : w'.heap = w.heap) : Cel w' g t cs := by unfold Cel at *; rw [e]; exact h
theorem below_cel {B : Nat} {a w' : World} {g : Nat} {t : TypeId} {cs : Array Value} (hb : Below B a w') (h : Cel a g t cs) (hg : g < B) : Cel w' g t cs := h.below hb hg
theorem fr_box {S : Nat → Prop} {w w1 : World} {o : Obj} {n B : Nat} (hb : Below B ((w.alloc o).drewN n) w1) (hB : w.heap.size ≤ B) : Fr S w w1 :=
  Fr.of_below (((Below.refl _ _).alloc (Nat.le_refl _) _).trans (⟨hb.os, hb.tape, hb.output, hb.size, fun k hk => hb.block k (by omega)⟩ : Below w.heap.size (w.alloc o) w1))
theorem box_cells {w w1 : World} {cs : Array Value} {t : TypeId} {n B : Nat} (hb : Below B ((w.alloc (.cells cs t)).drewN n) w1) (hB : w.heap.size + 1 ≤ B) :
    (∀ j, w1.cell? ⟨w.heap.size, j, none⟩ = cs[j]?) ∧ (∀ g, g < w.heap.size → ∀ j, w1.cell? ⟨g, j, none⟩ = w.cell? ⟨g, j, none⟩) := by
  constructor
  · intro j
    have h : Cel w1 w.heap.size t cs := below_cel hb (cel_heap (Cel.new w t cs) rfl) (by omega)
    exact h.cell j
  · intro g hg j
    exact (World.cell?_of_block (hb.block g (by omega))).trans (World.cell?_alloc_lt w _ _ hg)
theorem box_cellsZ {w w1 : World} {cs : Array Value} {t : TypeId} {n B : Nat} {o : Obj} (hb : Below B (((w.alloc (.cells cs t)).drewN n).alloc o) w1) (hB : w.heap.size + 1 ≤ B) :
    (∀ j, w1.cell? ⟨w.heap.size, j, none⟩ = cs[j]?) ∧ (∀ g, g < w.heap.size → ∀ j, w1.cell? ⟨g, j, none⟩ = w.cell? ⟨g, j, none⟩) := by
  have hs : ((w.alloc (.cells cs t)).drewN n).heap.size = w.heap.size + 1 := World.size_alloc w _
  constructor
  · intro j
    have h : Cel w1 w.heap.size t cs := below_cel hb ((cel_heap (w' := (w.alloc (.cells cs t)).drewN n) (Cel.new w t cs) rfl).alloc o) (by omega)
    exact h.cell j
  · intro g hg j
    exact (World.cell?_of_block (hb.block g (by omega))).trans ((World.cell?_alloc_lt _ _ _ (by first | (rw [hs]; show g < _; omega) | (rw [World.size_alloc]; show g < _; omega))).trans (World.cell?_alloc_lt w _ _ hg))
theorem z_cel {w w1 : World} {cs : Array Value} {t : TypeId} {n B : Nat} {o : Obj} (hb : Below B (((w.alloc o).drewN n).alloc (.cells cs t)) w1) (hB : w.heap.size + 2 ≤ B) : Cel w1 (w.heap.size + 1) t cs := by
  have hs : ((w.alloc o).drewN n).heap.size = w.heap.size + 1 := World.size_alloc w _
  have h := Cel.new ((w.alloc o).drewN n) t cs
  rw [hs] at h
  exact below_cel hb h (by omega)
theorem z_cells {w w1 : World} {cs : Array Value} {t : TypeId} {n B : Nat} {o : Obj} (hb : Below B (((w.alloc o).drewN n).alloc (.cells cs t)) w1) (hB : w.heap.size + 2 ≤ B) :
    (∀ j, w1.cell? ⟨w.heap.size + 1, j, none⟩ = cs[j]?) := fun j => (z_cel hb hB).cell j
theorem z_frozen {w w1 : World} {cs : Array Value} {t : TypeId} {n B : Nat} {o : Obj} (hb : Below B (((w.alloc o).drewN n).alloc (.cells cs t)) w1) (hB : w.heap.size + 2 ≤ B) :
    (∀ j, w1.frozen? ⟨w.heap.size + 1, j, none⟩ = false) := fun j => (z_cel hb hB).frozen j
theorem box_lt {w w1 : World} {o : Obj} {n B : Nat} (hb : Below B ((w.alloc o).drewN n) w1) : w.heap.size < w1.heap.size := by
  have := hb.size
  have h2 : ((w.alloc o).drewN n).heap.size = w.heap.size + 1 := World.size_alloc w o
  omega
theorem fr_box2 {S : Nat → Prop} {w w1 : World} {o o2 : Obj} {n B : Nat} (hb : Below B (((w.alloc o).drewN n).alloc o2) w1) (hB : w.heap.size ≤ B) : Fr S w w1 :=
  Fr.of_below ((((Below.refl _ _).alloc (Nat.le_refl _) o).trans (below_drewN (Below.refl _ _) n)).trans (((Below.refl _ _).alloc (by show w.heap.size ≤ (w.alloc o).heap.size; simp) o2).trans (⟨hb.os, hb.tape, hb.output, hb.size, fun k hk => hb.block k (by omega)⟩ : Below w.heap.size _ w1)))
theorem at_bd_cell {l : List Int} {i : Int} : M.at_ l i = l.getD i.toNat 0 := rfl
theorem or_hi (im : Int) (h0 : 0 ≤ im) (h1 : im < 65536) : bits .or .u32 im 4294901760 = im + 4294901760 := by
  rw [or_comm32, u32_join 16 4294901760 im (by decide) (by decide) (by decide) h0 (by omega) (by omega)]; omega

set_option maxHeartbeats 2000000 in
set_option maxRecDepth 100000 in
/-- MOV with U of FormIm. -/
theorem reck_im (g gm : Nat) (ov : Value) (s : M.St) (v : Bool) (a b im : Int) (w : World) (hC : Cel w g MT (mc s gm ov)) (hl : s.r.length = 16)
    (ha : 0 ≤ a) (ha' : a < 16) (hi : 0 ≤ im) (hi' : im < 65536) :
    Calls Try.prog 60 #[.pointer (some ⟨g, 0, none⟩), iv 1 true v a b 0 0 im] w (RetM (· = g) g gm ov (M.reckons s ⟨1, true, v, a, b, 0, 0, im⟩) w) := by
  have c0 := (hC.cell 0).trans (mc_reg hl 0 (by decide))
  have hg := hC.lt
  have hg1 : g < w.heap.size + 1 := by omega
  have hne : g ≠ w.heap.size := by omega
  have hne' : w.heap.size ≠ g := by omega
  have eo := or_hi im hi hi'
  cases v
  all_goals
    go_enter Try.func60, Try.ntmps60
    go_wp2
    go_quiet (fail)
    go_wp2_with fail
    refine (sets_any g gm ov s _ _ _ ((hC.alloc _).drewN _) hl ha ha' (by omega) (by omega)).mono ?_
    rintro e w1 ⟨rfl, hC1, hF1⟩
    go_wp2
    exact bodyPost_ret (results_none rfl _ _ _) rfl ⟨rfl, hC1, (((Fr.refl _ w).alloc _).drewN _).trans hF1⟩

set_option maxHeartbeats 2000000 in
set_option maxRecDepth 100000 in
/-- MOV with U and V of FormReg: the flags. -/
theorem reck_fl (g gm : Nat) (ov : Value) (s : M.St) (a b c : Int) (w : World) (hC : Cel w g MT (mc s gm ov)) (hl : s.r.length = 16)
    (ha : 0 ≤ a) (ha' : a < 16) (hc : 0 ≤ c) (hc' : c < 16) :
    Calls Try.prog 60 #[.pointer (some ⟨g, 0, none⟩), iv 0 true true a b c 0 0] w (RetM (· = g) g gm ov (M.reckons s ⟨0, true, true, a, b, c, 0, 0⟩) w) := by
  have cc := mach_reg hC hl c hc hc'
  obtain ⟨c16, c17, c18, c19, c20, c21, c22, c23, c24, c25, c26, c27⟩ := mach_fld hC hl
  have hg := hC.lt
  have hg1 : g < w.heap.size + 1 := by omega
  have hne : g ≠ w.heap.size := by omega
  have hne' : w.heap.size ≠ g := by omega
  have hpk : 0 ≤ M.packed s.fn s.fz s.fc s.fv ∧ M.packed s.fn s.fz s.fc s.fv < 4294967296 := by
    unfold M.packed; cases s.fn <;> cases s.fz <;> cases s.fc <;> cases s.fv <;> decide
  go_enter Try.func60, Try.ntmps60
  go_wp2
  go_quiet (fail)
  go_wp2
  go_region_with (first
    | (go_at_call 80; refine (packed_any _ _ _ _ _).mono ?_; rintro e w1 ⟨rfl, hb1⟩; obtain ⟨hcx, hfx⟩ := bcell hb1; have hC1 : Cel w1 g MT (mc s gm ov) := below_cel hb1 (cel_heap (hC.alloc _) rfl) (by simp <;> omega))
    | (go_at_call 78; refine (sets_any g gm ov s _ _ _ hC1 hl ha ha' hpk.1 hpk.2).mono ?_; rintro e w2 ⟨rfl, hC2, hF2⟩))
  all_goals
    go_wp2
    exact bodyPost_ret (results_none rfl _ _ _) rfl ⟨rfl, hC2, (fr_box hb1 (by simp)).trans hF2⟩

end Go.Proofs.Ytmlmjkojhfjjlaa
