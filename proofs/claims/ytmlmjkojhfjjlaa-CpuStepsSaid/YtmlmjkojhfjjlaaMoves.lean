/- The contract of the machine's moves: a load or a store does what the plain machine does. -/
import Derived.Test.YtmlmjkojhfjjlaaStores
import Derived.Test.YtmlmjkojhfjjlaaReck
namespace Go.Proofs.Ytmlmjkojhfjjlaa
set_option linter.unusedVariables false
set_option linter.unusedSimpArgs false
open Go.RowKit

set_option maxHeartbeats 2000000 in
set_option maxRecDepth 100000 in
theorem mv_store (w : World) (g gm gw cap : Nat) (rest : List Value) (ov : Value) (s : M.St) (v : Bool) (a b im : Int) (h : Mach w g gm gw cap rest ov s) (hw : Wf s)
    (ha : 0 ≤ a) (ha' : a < 16) (hb : 0 ≤ b) (hb' : b < 16) (hi : -524288 ≤ im) (hi' : im < 524288) :
    Calls Try.prog 58 #[.pointer (some ⟨g, 0, none⟩), iv 2 true v a b 0 0 im] w (RetMM (.tuple #[]) g gm gw cap rest ov (M.moves s ⟨2, true, v, a, b, 0, 0, im⟩) w) := by
  have hC := h.mc
  have ca := mach_reg hC hw.rl a ha ha'
  have cb := mach_reg hC hw.rl b hb hb'
  have hra := hw.rb a
  have hrb := hw.rb b
  have hg := hC.lt
  have hg1 : g < w.heap.size + 1 := by omega
  have hne : g ≠ w.heap.size := by omega
  have hne' : w.heap.size ≠ g := by omega
  go_enter Try.func58, Try.ntmps58
  go_wp2
  go_quiet (fail)
  go_wp2
  go_region_with (go_at_call 76; refine (stores_any _ g gm gw cap rest ov s _ _ _ (mach_box h _ _) hw (by omega) (by omega) ⟨hra.1, hra.2⟩).mono ?_; rintro e w1 ⟨rfl, hR⟩)
  all_goals
    go_wp2
    refine bodyPost_ret (results_none rfl _ _ _) rfl (RetMM.pre ⟨rfl, hR⟩ (fr_box0 w _ _))

theorem inp_at (s : M.St) (h0 : 0 ≤ s.rd) (hr : s.rd < s.inp.size) (hl : s.rd.toNat < s.inp.size) : ((s.inp[s.rd.toNat]'hl).toNat : Int) % 4294967296 = M.inAt s := by
  unfold M.inAt
  have e : s.inp.data.toList.getD s.rd.toNat 0 = s.inp[s.rd.toNat]'hl := by
    rw [List.getD_eq_getElem?_getD]
    have : s.inp.data.toList[s.rd.toNat]? = some (s.inp[s.rd.toNat]'hl) := by
      rw [Array.getElem?_toList]
      exact Array.getElem?_eq_getElem hl
    rw [this]; rfl
  rw [e]
  have := (s.inp[s.rd.toNat]'hl).toNat_lt
  omega
theorem inAt_bd (s : M.St) : 0 ≤ M.inAt s ∧ M.inAt s < 4294967296 := by
  unfold M.inAt
  have := (s.inp.data.toList.getD s.rd.toNat 0).toNat_lt
  omega

set_option maxHeartbeats 2000000 in
set_option maxRecDepth 100000 in
theorem mv_in (w : World) (g gm gw cap : Nat) (rest : List Value) (ov : Value) (s : M.St) (v : Bool) (a b im : Int) (h : Mach w g gm gw cap rest ov s) (hw : Wf s)
    (ha : 0 ≤ a) (ha' : a < 16) (hb : 0 ≤ b) (hb' : b < 16) (hi : -524288 ≤ im) (hi' : im < 524288) (he : (M.at_ s.r b + im) % 4294967296 = 4294967240) (hr : s.rd < s.inp.size) :
    Calls Try.prog 58 #[.pointer (some ⟨g, 0, none⟩), iv 2 false v a b 0 0 im] w (RetM (· = g) g gm ov (M.moves s ⟨2, false, v, a, b, 0, 0, im⟩) w) := by
  have hmod : M.moves s ⟨2, false, v, a, b, 0, 0, im⟩ = M.sets { s with rd := s.rd + 1 } a (M.inAt s) := by
    unfold M.moves M.loads
    simp only [Bool.false_eq_true, if_false]
    rw [if_pos he, if_pos hr]
  rw [hmod]
  clear hmod
  have hC := h.mc
  obtain ⟨c16, c17, c18, c19, c20, c21, c22, c23, c24, c25, c26, c27⟩ := mach_fld hC hw.rl
  have f := hC.frozen
  have cb := mach_reg hC hw.rl b hb hb'
  have hrb := hw.rb b
  have hil := hw.il
  have hrd := hw.rd
  have hg := hC.lt
  have hg1 : g < w.heap.size + 1 := by omega
  have hne : g ≠ w.heap.size := by omega
  have hne' : w.heap.size ≠ g := by omega
  go_enter Try.func58, Try.ntmps58
  go_wp2
  go_quiet (fail)
  go_wp2_with fail
  go_quiet (fail)
  go_wp2_with fail
  go_quiet (fail)
  go_wp2_with fail
  rw [inp_at s hrd.1 hr]
  refine (sets_any g gm ov { s with rd := s.rd + 1 } _ _ _ (cel_rd ((hC.alloc _).drewN _) hw.rl _) hw.rl ha ha' (inAt_bd s).1 (inAt_bd s).2).mono ?_
  rintro e w1 ⟨rfl, hC1, hF1⟩
  go_wp2
  go_end0
  exact ⟨rfl, hC1, (fr_set (fr_box0 w _ _) _ _).trans hF1⟩

set_option maxHeartbeats 2000000 in
set_option maxRecDepth 100000 in
theorem mv_in0 (w : World) (g gm gw cap : Nat) (rest : List Value) (ov : Value) (s : M.St) (v : Bool) (a b im : Int) (h : Mach w g gm gw cap rest ov s) (hw : Wf s)
    (ha : 0 ≤ a) (ha' : a < 16) (hb : 0 ≤ b) (hb' : b < 16) (hi : -524288 ≤ im) (hi' : im < 524288) (he : (M.at_ s.r b + im) % 4294967296 = 4294967240) (hr : ¬ s.rd < s.inp.size) :
    Calls Try.prog 58 #[.pointer (some ⟨g, 0, none⟩), iv 2 false v a b 0 0 im] w (RetM (· = g) g gm ov (M.moves s ⟨2, false, v, a, b, 0, 0, im⟩) w) := by
  have hmod : M.moves s ⟨2, false, v, a, b, 0, 0, im⟩ = M.sets s a 0 := by
    unfold M.moves M.loads
    simp only [Bool.false_eq_true, if_false]
    rw [if_pos he, if_neg hr]
  rw [hmod]
  clear hmod
  have hC := h.mc
  obtain ⟨c16, c17, c18, c19, c20, c21, c22, c23, c24, c25, c26, c27⟩ := mach_fld hC hw.rl
  have f := hC.frozen
  have cb := mach_reg hC hw.rl b hb hb'
  have hrb := hw.rb b
  have hil := hw.il
  have hrd := hw.rd
  have hg := hC.lt
  have hg1 : g < w.heap.size + 1 := by omega
  have hne : g ≠ w.heap.size := by omega
  have hne' : w.heap.size ≠ g := by omega
  go_enter Try.func58, Try.ntmps58
  go_wp2
  go_quiet (fail)
  go_wp2_with fail
  go_quiet (fail)
  go_wp2_with fail
  refine (sets_any g gm ov s _ _ _ ((hC.alloc _).drewN _) hw.rl ha ha' (by decide) (by decide)).mono ?_
  rintro e w1 ⟨rfl, hC1, hF1⟩
  go_wp2
  go_end0
  exact ⟨rfl, hC1, (fr_box0 w _ _).trans hF1⟩

set_option maxHeartbeats 2000000 in
set_option maxRecDepth 100000 in
theorem mv_st1 (w : World) (g gm gw cap : Nat) (rest : List Value) (ov : Value) (s : M.St) (v : Bool) (a b im : Int) (h : Mach w g gm gw cap rest ov s) (hw : Wf s)
    (ha : 0 ≤ a) (ha' : a < 16) (hb : 0 ≤ b) (hb' : b < 16) (hi : -524288 ≤ im) (hi' : im < 524288) (he : (M.at_ s.r b + im) % 4294967296 = 4294967244) (hr : s.rd < s.inp.size) :
    Calls Try.prog 58 #[.pointer (some ⟨g, 0, none⟩), iv 2 false v a b 0 0 im] w (RetM (· = g) g gm ov (M.moves s ⟨2, false, v, a, b, 0, 0, im⟩) w) := by
  have hmod : M.moves s ⟨2, false, v, a, b, 0, 0, im⟩ = M.sets s a 1 := by
    unfold M.moves M.loads
    simp only [Bool.false_eq_true, if_false]
    rw [if_neg (by omega), if_pos he, if_pos hr]
  rw [hmod]
  clear hmod
  have hC := h.mc
  obtain ⟨c16, c17, c18, c19, c20, c21, c22, c23, c24, c25, c26, c27⟩ := mach_fld hC hw.rl
  have f := hC.frozen
  have cb := mach_reg hC hw.rl b hb hb'
  have hrb := hw.rb b
  have hil := hw.il
  have hrd := hw.rd
  have hg := hC.lt
  have hg1 : g < w.heap.size + 1 := by omega
  have hne : g ≠ w.heap.size := by omega
  have hne' : w.heap.size ≠ g := by omega
  go_enter Try.func58, Try.ntmps58
  go_wp2
  go_quiet (fail)
  go_wp2_with fail
  go_quiet (fail)
  go_wp2_with fail
  refine (sets_any g gm ov s _ _ _ ((hC.alloc _).drewN _) hw.rl ha ha' (by decide) (by decide)).mono ?_
  rintro e w1 ⟨rfl, hC1, hF1⟩
  go_wp2
  go_end0
  exact ⟨rfl, hC1, (fr_box0 w _ _).trans hF1⟩

set_option maxHeartbeats 2000000 in
set_option maxRecDepth 100000 in
theorem mv_st0 (w : World) (g gm gw cap : Nat) (rest : List Value) (ov : Value) (s : M.St) (v : Bool) (a b im : Int) (h : Mach w g gm gw cap rest ov s) (hw : Wf s)
    (ha : 0 ≤ a) (ha' : a < 16) (hb : 0 ≤ b) (hb' : b < 16) (hi : -524288 ≤ im) (hi' : im < 524288) (he : (M.at_ s.r b + im) % 4294967296 = 4294967244) (hr : ¬ s.rd < s.inp.size) :
    Calls Try.prog 58 #[.pointer (some ⟨g, 0, none⟩), iv 2 false v a b 0 0 im] w (RetM (· = g) g gm ov (M.moves s ⟨2, false, v, a, b, 0, 0, im⟩) w) := by
  have hmod : M.moves s ⟨2, false, v, a, b, 0, 0, im⟩ = M.sets s a 0 := by
    unfold M.moves M.loads
    simp only [Bool.false_eq_true, if_false]
    rw [if_neg (by omega), if_pos he, if_neg hr]
  rw [hmod]
  clear hmod
  have hC := h.mc
  obtain ⟨c16, c17, c18, c19, c20, c21, c22, c23, c24, c25, c26, c27⟩ := mach_fld hC hw.rl
  have f := hC.frozen
  have cb := mach_reg hC hw.rl b hb hb'
  have hrb := hw.rb b
  have hil := hw.il
  have hrd := hw.rd
  have hg := hC.lt
  have hg1 : g < w.heap.size + 1 := by omega
  have hne : g ≠ w.heap.size := by omega
  have hne' : w.heap.size ≠ g := by omega
  go_enter Try.func58, Try.ntmps58
  go_wp2
  go_quiet (fail)
  go_wp2_with fail
  go_quiet (fail)
  go_wp2_with fail
  refine (sets_any g gm ov s _ _ _ ((hC.alloc _).drewN _) hw.rl ha ha' (by decide) (by decide)).mono ?_
  rintro e w1 ⟨rfl, hC1, hF1⟩
  go_wp2
  go_end0
  exact ⟨rfl, hC1, (fr_box0 w _ _).trans hF1⟩

set_option maxHeartbeats 2000000 in
set_option maxRecDepth 100000 in
theorem mv_byte (w : World) (g gm gw cap : Nat) (rest : List Value) (ov : Value) (s : M.St) (a b im p : Int) (h : Mach w g gm gw cap rest ov s) (hw : Wf s)
    (ha : 0 ≤ a) (ha' : a < 16) (hb : 0 ≤ b) (hb' : b < 16) (hi : -524288 ≤ im) (hi' : im < 524288) (hp : (M.at_ s.r b + im) % 4294967296 = p) (n1 : p ≠ 4294967240) (n2 : p ≠ 4294967244) (ht : M.there s.mem p) :
    Calls Try.prog 58 #[.pointer (some ⟨g, 0, none⟩), iv 2 false true a b 0 0 im] w (RetM (· = g) g gm ov (M.moves s ⟨2, false, true, a, b, 0, 0, im⟩) w) := by
  have hmod : M.moves s ⟨2, false, true, a, b, 0, 0, im⟩ = M.sets s a (M.byteAt s.mem p) := by
    unfold M.moves M.loads
    simp only [Bool.false_eq_true, if_false, hp]
    rw [if_neg n1, if_neg n2, if_pos trivial, if_pos ht]
  rw [hmod]
  clear hmod
  have ep : (M.at_ s.r b + im % 4294967296) % 4294967296 = p := by omega
  have hp0 : 0 ≤ p := by omega
  have hp1 : p < 4294967296 := by omega
  have e1 : (p == 4294967240) = false := by simpa using n1
  have e2 : (p == 4294967244) = false := by simpa using n2
  have hbd : 0 ≤ M.byteAt s.mem p ∧ M.byteAt s.mem p < 4294967296 := by
    have := h.mm.bd (p / 4)
    unfold M.byteAt; omega
  have HB := Lib.hid hbd
  clear hbd
  have hC := h.mc
  obtain ⟨c16, c17, c18, c19, c20, c21, c22, c23, c24, c25, c26, c27⟩ := mach_fld hC hw.rl
  have f := hC.frozen
  have cb := mach_reg hC hw.rl b hb hb'
  have hrb := hw.rb b
  have hg := hC.lt
  have hg1 : g < w.heap.size + 1 := by omega
  have hne : g ≠ w.heap.size := by omega
  have hne' : w.heap.size ≠ g := by omega
  clear hp n1 n2
  go_enter Try.func58, Try.ntmps58
  go_wp2
  go_quiet (fail)
  go_wp2_with (go_at_call 77; refine (byte_ok _ gm gw cap s.mem rest (mach_box h _ _).mm _ (by omega) (by omega) ht).mono ?_; rintro e w' ⟨rfl, rfl⟩)
  refine (sets_any g gm ov s _ _ _ ((hC.alloc _).drewN _) hw.rl ha ha' HB.out.1 HB.out.2).mono ?_
  rintro e w1 ⟨rfl, hC1, hF1⟩
  go_wp2
  go_end0
  exact ⟨rfl, hC1, (fr_box0 w _ _).trans hF1⟩

set_option maxHeartbeats 2000000 in
set_option maxRecDepth 100000 in
theorem mv_byte0 (w : World) (g gm gw cap : Nat) (rest : List Value) (ov : Value) (s : M.St) (a b im p : Int) (h : Mach w g gm gw cap rest ov s) (hw : Wf s)
    (ha : 0 ≤ a) (ha' : a < 16) (hb : 0 ≤ b) (hb' : b < 16) (hi : -524288 ≤ im) (hi' : im < 524288) (hp : (M.at_ s.r b + im) % 4294967296 = p) (n1 : p ≠ 4294967240) (n2 : p ≠ 4294967244) (ht : ¬ M.there s.mem p) :
    Calls Try.prog 58 #[.pointer (some ⟨g, 0, none⟩), iv 2 false true a b 0 0 im] w (RetM (· = g) g gm ov (M.moves s ⟨2, false, true, a, b, 0, 0, im⟩) w) := by
  have hmod : M.moves s ⟨2, false, true, a, b, 0, 0, im⟩ = { s with en := 5 } := by
    unfold M.moves M.loads
    simp only [Bool.false_eq_true, if_false, hp]
    rw [if_neg n1, if_neg n2, if_pos trivial, if_neg ht]
  rw [hmod]
  clear hmod
  have ep : (M.at_ s.r b + im % 4294967296) % 4294967296 = p := by omega
  have hp0 : 0 ≤ p := by omega
  have hp1 : p < 4294967296 := by omega
  have e1 : (p == 4294967240) = false := by simpa using n1
  have e2 : (p == 4294967244) = false := by simpa using n2
  have hC := h.mc
  obtain ⟨c16, c17, c18, c19, c20, c21, c22, c23, c24, c25, c26, c27⟩ := mach_fld hC hw.rl
  have f := hC.frozen
  have cb := mach_reg hC hw.rl b hb hb'
  have hrb := hw.rb b
  have hg := hC.lt
  have hg1 : g < w.heap.size + 1 := by omega
  have hne : g ≠ w.heap.size := by omega
  have hne' : w.heap.size ≠ g := by omega
  clear hp n1 n2
  go_enter Try.func58, Try.ntmps58
  go_wp2
  go_quiet (fail)
  go_wp2_with (go_at_call 77; refine (byte_no _ gm gw cap s.mem rest (mach_box h _ _).mm _ (by omega) (by omega) ht).mono ?_; rintro e w' ⟨rfl, rfl⟩)
  exact bodyPost_ret (results_none rfl _ _ _) rfl ⟨rfl, cel_en ((hC.alloc _).drewN _) hw.rl 5, fr_set (fr_box0 w _ _) _ _⟩

set_option maxHeartbeats 2000000 in
set_option maxRecDepth 100000 in
theorem mv_word (w : World) (g gm gw cap : Nat) (rest : List Value) (ov : Value) (s : M.St) (a b im p : Int) (h : Mach w g gm gw cap rest ov s) (hw : Wf s)
    (ha : 0 ≤ a) (ha' : a < 16) (hb : 0 ≤ b) (hb' : b < 16) (hi : -524288 ≤ im) (hi' : im < 524288) (hp : (M.at_ s.r b + im) % 4294967296 = p) (n1 : p ≠ 4294967240) (n2 : p ≠ 4294967244) (ht : p % 4 = 0 ∧ M.there s.mem p) :
    Calls Try.prog 58 #[.pointer (some ⟨g, 0, none⟩), iv 2 false false a b 0 0 im] w (RetM (· = g) g gm ov (M.moves s ⟨2, false, false, a, b, 0, 0, im⟩) w) := by
  have hmod : M.moves s ⟨2, false, false, a, b, 0, 0, im⟩ = M.sets s a (M.at_ s.mem (p / 4)) := by
    unfold M.moves M.loads
    simp only [Bool.false_eq_true, if_false, hp]
    rw [if_neg n1, if_neg n2, if_pos ht]
  rw [hmod]
  clear hmod
  have ep : (M.at_ s.r b + im % 4294967296) % 4294967296 = p := by omega
  have hp0 : 0 ≤ p := by omega
  have hp1 : p < 4294967296 := by omega
  have e1 : (p == 4294967240) = false := by simpa using n1
  have e2 : (p == 4294967244) = false := by simpa using n2
  have hbd : 0 ≤ M.at_ s.mem (p / 4) ∧ M.at_ s.mem (p / 4) < 4294967296 := by
    have := h.mm.bd (p / 4)
    exact this
  have HB := Lib.hid hbd
  clear hbd
  have hC := h.mc
  obtain ⟨c16, c17, c18, c19, c20, c21, c22, c23, c24, c25, c26, c27⟩ := mach_fld hC hw.rl
  have f := hC.frozen
  have cb := mach_reg hC hw.rl b hb hb'
  have hrb := hw.rb b
  have hg := hC.lt
  have hg1 : g < w.heap.size + 1 := by omega
  have hne : g ≠ w.heap.size := by omega
  have hne' : w.heap.size ≠ g := by omega
  clear hp n1 n2
  go_enter Try.func58, Try.ntmps58
  go_wp2
  go_quiet (fail)
  go_wp2_with (go_at_call 56; refine (load_ok _ gm gw cap s.mem rest (mach_box h _ _).mm _ (by omega) (by omega) ht).mono ?_; rintro e w' ⟨rfl, rfl⟩)
  refine (sets_any g gm ov s _ _ _ ((hC.alloc _).drewN _) hw.rl ha ha' HB.out.1 HB.out.2).mono ?_
  rintro e w1 ⟨rfl, hC1, hF1⟩
  go_wp2
  go_end0
  exact ⟨rfl, hC1, (fr_box0 w _ _).trans hF1⟩

set_option maxHeartbeats 2000000 in
set_option maxRecDepth 100000 in
theorem mv_word0 (w : World) (g gm gw cap : Nat) (rest : List Value) (ov : Value) (s : M.St) (a b im p : Int) (h : Mach w g gm gw cap rest ov s) (hw : Wf s)
    (ha : 0 ≤ a) (ha' : a < 16) (hb : 0 ≤ b) (hb' : b < 16) (hi : -524288 ≤ im) (hi' : im < 524288) (hp : (M.at_ s.r b + im) % 4294967296 = p) (n1 : p ≠ 4294967240) (n2 : p ≠ 4294967244) (ht : ¬ (p % 4 = 0 ∧ M.there s.mem p)) :
    Calls Try.prog 58 #[.pointer (some ⟨g, 0, none⟩), iv 2 false false a b 0 0 im] w (RetM (· = g) g gm ov (M.moves s ⟨2, false, false, a, b, 0, 0, im⟩) w) := by
  have hmod : M.moves s ⟨2, false, false, a, b, 0, 0, im⟩ = { s with en := 5 } := by
    unfold M.moves M.loads
    simp only [Bool.false_eq_true, if_false, hp]
    rw [if_neg n1, if_neg n2, if_neg ht]
  rw [hmod]
  clear hmod
  have ep : (M.at_ s.r b + im % 4294967296) % 4294967296 = p := by omega
  have hp0 : 0 ≤ p := by omega
  have hp1 : p < 4294967296 := by omega
  have e1 : (p == 4294967240) = false := by simpa using n1
  have e2 : (p == 4294967244) = false := by simpa using n2
  have hC := h.mc
  obtain ⟨c16, c17, c18, c19, c20, c21, c22, c23, c24, c25, c26, c27⟩ := mach_fld hC hw.rl
  have f := hC.frozen
  have cb := mach_reg hC hw.rl b hb hb'
  have hrb := hw.rb b
  have hg := hC.lt
  have hg1 : g < w.heap.size + 1 := by omega
  have hne : g ≠ w.heap.size := by omega
  have hne' : w.heap.size ≠ g := by omega
  clear hp n1 n2
  go_enter Try.func58, Try.ntmps58
  go_wp2
  go_quiet (fail)
  go_wp2_with (go_at_call 56; refine (load_no _ gm gw cap s.mem rest (mach_box h _ _).mm _ (by omega) (by omega) ht).mono ?_; rintro e w' ⟨rfl, rfl⟩)
  exact bodyPost_ret (results_none rfl _ _ _) rfl ⟨rfl, cel_en ((hC.alloc _).drewN _) hw.rl 5, fr_set (fr_box0 w _ _) _ _⟩

theorem moves_any (w : World) (g gm gw cap : Nat) (rest : List Value) (ov : Value) (s : M.St) (u v : Bool) (a b im : Int) (h : Mach w g gm gw cap rest ov s) (hw : Wf s)
    (ha : 0 ≤ a) (ha' : a < 16) (hb : 0 ≤ b) (hb' : b < 16) (hi : -524288 ≤ im) (hi' : im < 524288) :
    Calls Try.prog 58 #[.pointer (some ⟨g, 0, none⟩), iv 2 u v a b 0 0 im] w (RetMM (.tuple #[]) g gm gw cap rest ov (M.moves s ⟨2, u, v, a, b, 0, 0, im⟩) w) := by
  cases u
  · have hs : (M.moves s ⟨2, false, v, a, b, 0, 0, im⟩).mem = s.mem ∧ (M.moves s ⟨2, false, v, a, b, 0, 0, im⟩).out = s.out := by
      unfold M.moves M.loads M.sets
      simp only [Bool.false_eq_true, if_false]
      constructor <;> (repeat' split) <;> rfl
    have key : Calls Try.prog 58 #[.pointer (some ⟨g, 0, none⟩), iv 2 false v a b 0 0 im] w (RetM (· = g) g gm ov (M.moves s ⟨2, false, v, a, b, 0, 0, im⟩) w) := by
      by_cases n1 : (M.at_ s.r b + im) % 4294967296 = 4294967240
      · by_cases hr : s.rd < s.inp.size
        · exact mv_in w g gm gw cap rest ov s v a b im h hw ha ha' hb hb' hi hi' n1 hr
        · exact mv_in0 w g gm gw cap rest ov s v a b im h hw ha ha' hb hb' hi hi' n1 hr
      by_cases n2 : (M.at_ s.r b + im) % 4294967296 = 4294967244
      · by_cases hr : s.rd < s.inp.size
        · exact mv_st1 w g gm gw cap rest ov s v a b im h hw ha ha' hb hb' hi hi' n2 hr
        · exact mv_st0 w g gm gw cap rest ov s v a b im h hw ha ha' hb hb' hi hi' n2 hr
      cases v
      · by_cases ht : ((M.at_ s.r b + im) % 4294967296) % 4 = 0 ∧ M.there s.mem ((M.at_ s.r b + im) % 4294967296)
        · exact mv_word w g gm gw cap rest ov s a b im _ h hw ha ha' hb hb' hi hi' rfl n1 n2 ht
        · exact mv_word0 w g gm gw cap rest ov s a b im _ h hw ha ha' hb hb' hi hi' rfl n1 n2 ht
      · by_cases ht : M.there s.mem ((M.at_ s.r b + im) % 4294967296)
        · exact mv_byte w g gm gw cap rest ov s a b im _ h hw ha ha' hb hb' hi hi' rfl n1 n2 ht
        · exact mv_byte0 w g gm gw cap rest ov s a b im _ h hw ha ha' hb hb' hi hi' rfl n1 n2 ht
    exact key.mono fun e w' hh => hh.mm h hs.1 hs.2
  · exact mv_store w g gm gw cap rest ov s v a b im h hw ha ha' hb hb' hi hi'

end Go.Proofs.Ytmlmjkojhfjjlaa
