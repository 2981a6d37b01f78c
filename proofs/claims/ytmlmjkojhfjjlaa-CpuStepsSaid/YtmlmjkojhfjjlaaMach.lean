/- The program's machine in memory: how a state lies in a block; contracts of sets, reckons, jumps. -/
import Derived.Test.YtmlmjkojhfjjlaaState
import Derived.Test.YtmlmjkojhfjjlaaAluD
import Derived.Test.YtmlmjkojhfjjlaaPack
import Derived.Test.YtmlmjkojhfjjlaaRisc
import Derived.Deep.RegionHeld3
import Derived.StillTailTactics
namespace Go.Proofs.Ytmlmjkojhfjjlaa
set_option linter.unusedVariables false
set_option linter.unusedSimpArgs false
open Go.RowKit

/-- A machine's cells. -/
def mc (s : M.St) (gm : Nat) (ov : Value) : Array Value :=
  (s.r.map (Value.int .u32) ++ [.int .u32 s.h, .bool s.fn, .bool s.fz, .bool s.fc, .bool s.fv, .int .i64 s.pc, .pointer (some ⟨gm, 0, none⟩), .string s.inp, .int .i64 s.rd, ov, .int .i64 s.en, .int .i64 s.tr]).toArray

theorem mc_reg {s : M.St} {gm : Nat} {ov : Value} (hl : s.r.length = 16) (i : Nat) (hi : i < 16) : (mc s gm ov)[i]? = some (.int .u32 (s.r.getD i 0)) := by
  unfold mc
  rw [List.getElem?_toArray, List.getElem?_append_left (by simp; omega), List.getElem?_map]
  have : i < s.r.length := by omega
  simp [this]
theorem mc_fld {s : M.St} {gm : Nat} {ov : Value} (hl : s.r.length = 16) (j : Nat) : (mc s gm ov)[16 + j]? = [.int .u32 s.h, .bool s.fn, .bool s.fz, .bool s.fc, .bool s.fv, .int .i64 s.pc, .pointer (some ⟨gm, 0, none⟩), .string s.inp, .int .i64 s.rd, ov, .int .i64 s.en, .int .i64 s.tr][j]? := by
  unfold mc
  rw [List.getElem?_toArray, List.getElem?_append_right (by simp; omega)]
  simp [hl]
theorem mc_setreg {s : M.St} {gm : Nat} {ov : Value} (hl : s.r.length = 16) (i : Nat) (hi : i < 16) (v : Int) : (mc s gm ov).setIfInBounds i (.int .u32 v) = mc { s with r := s.r.set i v } gm ov := by
  unfold mc
  rw [List.setIfInBounds_toArray, List.set_append_left _ _ (by simp; omega), List.map_set]
theorem mc_set {s s' : M.St} {gm : Nat} {ov ov' : Value} (hl : s.r.length = 16) (j : Nat) (v : Value) (hr : s'.r = s.r)
    (h : [.int .u32 s.h, .bool s.fn, .bool s.fz, .bool s.fc, .bool s.fv, .int .i64 s.pc, .pointer (some ⟨gm, 0, none⟩), .string s.inp, .int .i64 s.rd, ov, .int .i64 s.en, .int .i64 s.tr].set j v =
      [.int .u32 s'.h, .bool s'.fn, .bool s'.fz, .bool s'.fc, .bool s'.fv, .int .i64 s'.pc, .pointer (some ⟨gm, 0, none⟩), .string s'.inp, .int .i64 s'.rd, ov', .int .i64 s'.en, .int .i64 s'.tr]) :
    (mc s gm ov).setIfInBounds (16 + j) v = mc s' gm ov' := by
  unfold mc
  rw [List.setIfInBounds_toArray, List.set_append_right _ _ (by simp; omega)]
  simp only [List.length_map, hl, Nat.add_sub_cancel_left]
  rw [h, hr]

section
variable {w : World} {g gm : Nat} {s : M.St} {ov : Value}
abbrev MT : TypeId := 89
/-- The machine's facts, as the walk wants them. -/
theorem mach_fld (h : Cel w g MT (mc s gm ov)) (hl : s.r.length = 16) :
    w.cell? ⟨g, 16, none⟩ = some (.int .u32 s.h) ∧ w.cell? ⟨g, 17, none⟩ = some (.bool s.fn) ∧ w.cell? ⟨g, 18, none⟩ = some (.bool s.fz) ∧ w.cell? ⟨g, 19, none⟩ = some (.bool s.fc) ∧ w.cell? ⟨g, 20, none⟩ = some (.bool s.fv) ∧
    w.cell? ⟨g, 21, none⟩ = some (.int .i64 s.pc) ∧ w.cell? ⟨g, 22, none⟩ = some (.pointer (some ⟨gm, 0, none⟩)) ∧ w.cell? ⟨g, 23, none⟩ = some (.string s.inp) ∧ w.cell? ⟨g, 24, none⟩ = some (.int .i64 s.rd) ∧
    w.cell? ⟨g, 25, none⟩ = some ov ∧ w.cell? ⟨g, 26, none⟩ = some (.int .i64 s.en) ∧ w.cell? ⟨g, 27, none⟩ = some (.int .i64 s.tr) := by
  refine ⟨?_, ?_, ?_, ?_, ?_, ?_, ?_, ?_, ?_, ?_, ?_, ?_⟩
  · rw [h.cell]; exact mc_fld hl 0
  · rw [h.cell]; exact mc_fld hl 1
  · rw [h.cell]; exact mc_fld hl 2
  · rw [h.cell]; exact mc_fld hl 3
  · rw [h.cell]; exact mc_fld hl 4
  · rw [h.cell]; exact mc_fld hl 5
  · rw [h.cell]; exact mc_fld hl 6
  · rw [h.cell]; exact mc_fld hl 7
  · rw [h.cell]; exact mc_fld hl 8
  · rw [h.cell]; exact mc_fld hl 9
  · rw [h.cell]; exact mc_fld hl 10
  · rw [h.cell]; exact mc_fld hl 11
theorem mach_reg (h : Cel w g MT (mc s gm ov)) (hl : s.r.length = 16) (i : Int) (h0 : 0 ≤ i) (h1 : i < 16) : w.cell? ⟨g, i.toNat, none⟩ = some (.int .u32 (M.at_ s.r i)) := by
  rw [h.cell, mc_reg hl _ (by omega)]; rfl
end

/-- What a method of the machine leaves: the state s'; nothing else has turned but what is let go. -/
def RetM (S : Nat → Prop) (g gm : Nat) (ov : Value) (s : M.St) (w : World) (e : Ending) (w' : World) : Prop :=
  e = .returned (.tuple #[]) ∧ Cel w' g MT (mc s gm ov) ∧ Fr S w w'

theorem n_eq (v : Int) (h0 : 0 ≤ v) (h1 : v < 4294967296) : (v / 2147483648 == 1) = decide (2147483648 ≤ v) := by rw [Bool.eq_iff_iff, beq_iff_eq, decide_eq_true_iff]; omega
theorem z_eq (v : Int) : (v == 0) = decide (v = 0) := by rw [Bool.eq_iff_iff, beq_iff_eq, decide_eq_true_iff]

theorem cel_reg {w : World} {g gm : Nat} {s : M.St} {ov : Value} (h : Cel w g MT (mc s gm ov)) (hl : s.r.length = 16) (i v : Int) (h0 : 0 ≤ i) (h1 : i < 16) :
    Cel (w.setCell ⟨g, i.toNat, none⟩ (.int .u32 v)) g MT (mc { s with r := M.put_ s.r i v } gm ov) := (h.set _ _).to (mc_setreg hl _ (by omega) v)
theorem cel_fn {w : World} {g gm : Nat} {s : M.St} {ov : Value} (h : Cel w g MT (mc s gm ov)) (hl : s.r.length = 16) (b : Bool) : Cel (w.setCell ⟨g, 17, none⟩ (.bool b)) g MT (mc { s with fn := b } gm ov) := (h.set _ _).to (mc_set hl 1 _ rfl rfl)
theorem cel_fz {w : World} {g gm : Nat} {s : M.St} {ov : Value} (h : Cel w g MT (mc s gm ov)) (hl : s.r.length = 16) (b : Bool) : Cel (w.setCell ⟨g, 18, none⟩ (.bool b)) g MT (mc { s with fz := b } gm ov) := (h.set _ _).to (mc_set hl 2 _ rfl rfl)
theorem cel_fc {w : World} {g gm : Nat} {s : M.St} {ov : Value} (h : Cel w g MT (mc s gm ov)) (hl : s.r.length = 16) (b : Bool) : Cel (w.setCell ⟨g, 19, none⟩ (.bool b)) g MT (mc { s with fc := b } gm ov) := (h.set _ _).to (mc_set hl 3 _ rfl rfl)
theorem cel_fv {w : World} {g gm : Nat} {s : M.St} {ov : Value} (h : Cel w g MT (mc s gm ov)) (hl : s.r.length = 16) (b : Bool) : Cel (w.setCell ⟨g, 20, none⟩ (.bool b)) g MT (mc { s with fv := b } gm ov) := (h.set _ _).to (mc_set hl 4 _ rfl rfl)
theorem cel_h {w : World} {g gm : Nat} {s : M.St} {ov : Value} (h : Cel w g MT (mc s gm ov)) (hl : s.r.length = 16) (v : Int) : Cel (w.setCell ⟨g, 16, none⟩ (.int .u32 v)) g MT (mc { s with h := v } gm ov) := (h.set _ _).to (mc_set hl 0 _ rfl rfl)
theorem cel_pc {w : World} {g gm : Nat} {s : M.St} {ov : Value} (h : Cel w g MT (mc s gm ov)) (hl : s.r.length = 16) (v : Int) : Cel (w.setCell ⟨g, 21, none⟩ (.int .i64 v)) g MT (mc { s with pc := v } gm ov) := (h.set _ _).to (mc_set hl 5 _ rfl rfl)
theorem cel_rd {w : World} {g gm : Nat} {s : M.St} {ov : Value} (h : Cel w g MT (mc s gm ov)) (hl : s.r.length = 16) (v : Int) : Cel (w.setCell ⟨g, 24, none⟩ (.int .i64 v)) g MT (mc { s with rd := v } gm ov) := (h.set _ _).to (mc_set hl 8 _ rfl rfl)
theorem cel_ov {w : World} {g gm : Nat} {s : M.St} {ov : Value} (h : Cel w g MT (mc s gm ov)) (hl : s.r.length = 16) (v : Value) : Cel (w.setCell ⟨g, 25, none⟩ v) g MT (mc s gm v) := (h.set _ _).to (mc_set hl 9 _ rfl rfl)
theorem cel_en {w : World} {g gm : Nat} {s : M.St} {ov : Value} (h : Cel w g MT (mc s gm ov)) (hl : s.r.length = 16) (v : Int) : Cel (w.setCell ⟨g, 26, none⟩ (.int .i64 v)) g MT (mc { s with en := v } gm ov) := (h.set _ _).to (mc_set hl 10 _ rfl rfl)
theorem cel_tr {w : World} {g gm : Nat} {s : M.St} {ov : Value} (h : Cel w g MT (mc s gm ov)) (hl : s.r.length = 16) (v : Int) : Cel (w.setCell ⟨g, 27, none⟩ (.int .i64 v)) g MT (mc { s with tr := v } gm ov) := (h.set _ _).to (mc_set hl 11 _ rfl rfl)
theorem fr_set {g : Nat} {a b : World} (h : Fr (fun k => k = g) a b) (i : Nat) (v : Value) : Fr (fun k => k = g) a (b.setCell ⟨g, i, none⟩ v) := h.setCell (.inl rfl) v
theorem put_len {l : List Int} {n : Nat} (h : l.length = n) (i v : Int) : (M.put_ l i v).length = n := by unfold M.put_; simp [h]

set_option maxHeartbeats 1000000 in
theorem sets_any (g gm : Nat) (ov : Value) (s : M.St) (a v : Int) (w : World) (hC : Cel w g MT (mc s gm ov)) (hl : s.r.length = 16) (ha : 0 ≤ a) (ha' : a < 16) (hv : 0 ≤ v) (hv' : v < 4294967296) :
    Calls Try.prog 78 #[.pointer (some ⟨g, 0, none⟩), .int .i64 a, .int .u32 v] w (RetM (· = g) g gm ov (M.sets s a v) w) := by
  obtain ⟨c16, c17, c18, c19, c20, c21, c22, c23, c24, c25, c26, c27⟩ := mach_fld hC hl
  have ca := mach_reg hC hl a ha ha'
  have f := hC.frozen
  go_enter Try.func78, Try.ntmps78
  go_wp2
  go_end0
  rw [n_eq v hv hv', z_eq v]
  exact ⟨rfl, cel_fz (cel_fn (cel_reg hC hl a v ha ha') (put_len hl _ _) _) (put_len hl _ _) _, fr_set (fr_set (fr_set (Fr.refl _ _) _ _) _ _) _ _⟩

theorem and30 (x : Int) : bits .and .i64 x 1073741823 = x % 1073741824 := by
  show IntKind.i64.wrap ((BitVec.ofInt 64 x &&& BitVec.ofInt 64 1073741823).toNat : Int) = _
  have e1 : (BitVec.ofInt 64 x).toNat = (x % 18446744073709551616).toNat := by rw [BitVec.toNat_ofInt]; rfl
  have e2 : (BitVec.ofInt 64 1073741823).toNat = 2 ^ 30 - 1 := by decide
  rw [BitVec.toNat_and, e1, e2, Nat.and_two_pow_sub_one_eq_mod, IntKind.wrap_i64]
  show (((x % 18446744073709551616).toNat % 1073741824 : Nat) + 9223372036854775808 : Int) % 18446744073709551616 - 9223372036854775808 = _
  omega

set_option maxHeartbeats 2000000 in
set_option maxRecDepth 100000 in
theorem jumps_any (g gm : Nat) (ov : Value) (s : M.St) (u v : Bool) (a c im : Int) (w : World) (hC : Cel w g MT (mc s gm ov)) (hl : s.r.length = 16) (hrb : ∀ i, 0 ≤ M.at_ s.r i ∧ M.at_ s.r i < 4294967296)
    (hp : 0 ≤ s.pc) (hp' : s.pc ≤ 1073741824) (ha : 0 ≤ a) (ha' : a < 16) (hc : 0 ≤ c) (hc' : c < 16) (hi : -8388608 ≤ im) (hi' : im < 8388608) :
    Calls Try.prog 59 #[.pointer (some ⟨g, 0, none⟩), iv 3 u v a 0 c 0 im] w (RetM (· = g) g gm ov (M.jumps s ⟨3, u, v, a, 0, c, 0, im⟩) w) := by
  obtain ⟨c16, c17, c18, c19, c20, c21, c22, c23, c24, c25, c26, c27⟩ := mach_fld hC hl
  have cc := mach_reg hC hl c hc hc'
  have hcb := hrb c
  have f := hC.frozen
  have hg := hC.lt
  have hg1 : g < w.heap.size + 1 := by omega
  have hne : g ≠ w.heap.size := by omega
  have hne' : w.heap.size ≠ g := by omega
  have e30 := and30 (s.pc + im)
  have HJ := Lib.hid (rfl : M.jumps s ⟨3, u, v, a, 0, c, 0, im⟩ = M.jumps s ⟨3, u, v, a, 0, c, 0, im⟩)
  cases hh : M.holds a s.fn s.fz s.fc s.fv <;> cases u <;> cases v
  all_goals
    go_enter Try.func59, Try.ntmps59
    go_wp2
    go_region_held3 (fun w' => w'.cell? ⟨w.heap.size, 3, none⟩ = some (.int .i64 a) ∧ w'.cell? ⟨g, 17, none⟩ = some (.bool s.fn) ∧ w'.cell? ⟨g, 18, none⟩ = some (.bool s.fz) ∧ w'.cell? ⟨g, 19, none⟩ = some (.bool s.fc) ∧ w'.cell? ⟨g, 20, none⟩ = some (.bool s.fv))
      (first | go_keep | (obtain ⟨hcx, hfx⟩ := bcell hb1; go_keep))
      (first | (go_at_call 79; refine (holds_any _ _ _ _ _ _ (by omega) (by omega)).mono ?_; rintro e w1 ⟨rfl, hb1⟩))
    have hC1 : Cel w1 g MT (mc s gm ov) := (hC.alloc _).drew.below hb1 (by simp <;> omega)
    have hB1 := (Cel.new w _ _).drew.below hb1 (by simp <;> omega)
    have hF1 : Fr (fun k => k = g) w w1 := Fr.of_below (((Below.refl _ _).alloc (Nat.le_refl _) _).drew.trans (hb1.mono (by simp)))
    have hz1 := hb1.size
    clear c16 c17 c18 c19 c20 c21 c22 c23 c24 c25 c26 c27 cc f
    obtain ⟨c16, c17, c18, c19, c20, c21, c22, c23, c24, c25, c26, c27⟩ := mach_fld hC1 hl
    have cc := mach_reg hC1 hl c hc hc'
    have c15 := (hC1.cell 15).trans (mc_reg hl 15 (by decide))
    have f := hC1.frozen
    have b := hB1.cell
    go_wp2
  iterate 4
    refine bodyPost_ret (results_none rfl _ _ _) rfl ⟨rfl, hC1.to (by unfold M.jumps; simp only [hh]; rfl), hF1⟩
  · go_region
    go_wp2
    go_end0
    exact ⟨rfl, ((cel_pc hC1 hl (M.at_ s.r c / 4)).to (by unfold M.jumps; simp only [hh]; rfl)).drew, (fr_set hF1 _ _).drew⟩
  · go_region
    go_wp2
    go_end0
    exact ⟨rfl, ((cel_reg (cel_pc hC1 hl (M.at_ s.r c / 4)) hl 15 _ (by decide) (by decide)).to (by unfold M.jumps; simp only [hh]; rfl)).drew, (fr_set (fr_set hF1 _ _) _ _).drew⟩
  · go_end0
    exact ⟨rfl, ((cel_pc hC1 hl ((s.pc + im) % 1073741824)).to (by unfold M.jumps; simp only [hh]; rfl)), (fr_set hF1 _ _)⟩
  · go_end0
    exact ⟨rfl, ((cel_reg (cel_pc hC1 hl ((s.pc + im) % 1073741824)) hl 15 _ (by decide) (by decide)).to (by unfold M.jumps; simp only [hh]; rfl)), (fr_set (fr_set hF1 _ _) _ _)⟩

end Go.Proofs.Ytmlmjkojhfjjlaa
