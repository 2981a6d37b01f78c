/- How a memory and a machine are made. -/
import Derived.Test.YtmlmjkojhfjjlaaStores
import Derived.Deep.OwnRows
import Derived.Laws.CopyOwn
namespace Go.Proofs.Ytmlmjkojhfjjlaa
set_option linter.unusedVariables false
set_option linter.unusedSimpArgs false
open Go.RowKit

theorem info32 : (Try.prog.info? 54).map (fun i => (i.zero, i.size, i.bytes)) = some (some (.int .u32 0), 1, 4) := by kernel_rfl
theorem info32s : (Try.prog.info? 54).map (·.size) = some 1 := by kernel_rfl

/-- A slice of words, as it lies in memory. -/
structure Src (w : World) (v : Value) (sp : Option Addr) (c : Nat) (ws : List Int) : Prop where
  v : v = .slice sp ws.length c
  at_ : 0 < ws.length → ∃ ad, sp = some ad ∧ ∀ j u, (ws.map (Value.int .u32))[j]? = some u → w.cell? (ad.add j) = some u
  bd : ∀ i, 0 ≤ M.at_ ws i ∧ M.at_ ws i < 4294967296

theorem made_list (n : Nat) : ∃ Z : List Value, Z.toArray = madeCells #[.int .u32 0] n ∧ Z.length = n :=
  ⟨(madeCells #[.int .u32 0] n).toList, by simp, by simp [size_madeCells]⟩

/-- What a new memory is. -/
def RetNew (v : Nat → Value) (ws : List Int) (w : World) (e : Ending) (w' : World) : Prop :=
  ∃ gm gw, e = .returned (v gm) ∧ MemAt w' gm gw ws.length ws [] ∧ Below w.heap.size w w' ∧ w.heap.size ≤ gm ∧ w.heap.size ≤ gw ∧ gm < w'.heap.size

theorem Cel.setRow {w : World} {g : Nat} {t : TypeId} {cs : Array Value} (h : Cel w g t cs) (cs' : Array Value) : Cel (w.setRow g cs') g t cs' := setRow_heap w g cs cs' t _ h
theorem Cel.farRow {w : World} {g g' : Nat} {t : TypeId} {cs : Array Value} (h : Cel w g t cs) (hne : g ≠ g') (cs' : Array Value) : Cel (w.setRow g' cs') g t cs := (setRow_other w g' g cs' hne).trans h

theorem row_under (w : World) (cs : Array Value) (t : TypeId) (o : Obj) : ((w.alloc (.cells cs t)).alloc o).heap[w.heap.size]? = some (.cells cs t (0, 0)) := (Cel.new w t cs).alloc o
theorem Cel.new1 (w : World) (o : Obj) (cs : Array Value) (t : TypeId) : Cel ((w.alloc o).alloc (.cells cs t)) (w.heap.size + 1) t cs := by
  have := Cel.new (w.alloc o) t cs
  simpa using this

set_option maxHeartbeats 1000000 in
set_option maxRecDepth 100000 in
theorem memnew_any (w : World) (sp : Option Addr) (c : Nat) (ws : List Int) (v : Value) (h : Src w v sp c ws) (hl : ws.length ≤ 65536) :
    Calls Try.prog 41 #[v] w (RetNew (fun gm => .tuple #[.pointer (some ⟨gm, 0, none⟩), .int .i64 0]) ws w) := by
  obtain ⟨rfl, hat, hbd⟩ := h
  obtain ⟨i0, hi, hz0, hz1, hz2⟩ := info_parts info32
  obtain ⟨Z, hZ, hZl⟩ := made_list ws.length
  have n1 : ¬ (65536 : Int) < (ws.length : Int) := by omega
  clear hZ hZl Z
  by_cases hn : ws.length = 0
  · have HN := Lib.hid hn
    have HB := Lib.hid hbd
    clear hat hbd hn
    go_enter Try.func41, Try.ntmps41
    go_wp2_with (first | (at_make; refine wpList_make_row _ rfl _ _ 32 rfl 54 i0 (.int .u32 0) Try.underlying32 hi hz0 hz1 rfl .i64 .i64 ws.length rfl rfl (by rw [hz2]; omega) (by omega) ?_) | (with_reducible show wpList _ _ _ _ _ _; refine wpList_copy_nothing (o := ⟨some 18, _, _, _, _, _⟩) rfl _ _ 32 32 rfl 54 Try.underlying32 info32s _ _ _ _ _ _ rfl rfl (by simp [HN.out]) ?_))
    go_ret2
    have hnil : ws = [] := List.eq_nil_of_length_eq_zero HN.out
    refine ⟨w.heap.size + 1, w.heap.size, rfl, ⟨Cel.new1 _ _ _ _, ?_, hl, Nat.le_refl _, HB.out⟩, ((Below.refl _ _).alloc (Nat.le_refl _) _).alloc (by simp) _, by omega, by omega, by simp⟩
    refine ((Cel.new w _ _).alloc _).to ?_
    subst hnil
    simp [madeCells, wds]
  · have HN := Lib.hid hn
    have HB := Lib.hid hbd
    obtain ⟨ad, rfl, hcell⟩ := hat (by omega)
    have HC := Lib.hid hcell
    clear hat hbd hcell
    go_enter Try.func41, Try.ntmps41
    go_wp2_with (first | (at_make; refine wpList_make_row _ rfl _ _ 32 rfl 54 i0 (.int .u32 0) Try.underlying32 hi hz0 hz1 rfl .i64 .i64 ws.length rfl rfl (by rw [hz2]; omega) (by omega) ?_) | (with_reducible show wpList _ _ _ _ _ _; refine wpList_copy_own (o := ⟨some 18, _, _, _, _, _⟩) rfl _ _ 32 32 rfl 54 Try.underlying32 info32s w.heap.size 0 ws.length ws.length ad ws.length c rfl rfl (madeCells #[.int .u32 0] ws.length) 54 (by exact row_under w _ _ _) (ws.map (Value.int .u32)) (by simp) (by intro j u hj; exact World.Extends.cell_of (((World.Extends.refl w).alloc _).alloc _) (HC.out j u hj)) (by simp [size_madeCells]) (by simp [Value.oneCell']) ?_))
    go_ret2
    refine ⟨w.heap.size + 1, w.heap.size, rfl, ⟨(Cel.new1 _ _ _ _).farRow (by simp) _, ?_, hl, Nat.le_refl _, HB.out⟩, below_setRow (((Below.refl _ _).alloc (Nat.le_refl _) _).alloc (by simp) _) (Nat.le_refl _) _, by omega, by omega, by simp [World.setRow]⟩
    refine (((Cel.new w _ _).alloc _).setRow _).to ?_
    unfold wds
    rw [List.append_nil]
    congr 1
    simp [size_madeCells]

/-- A machine at its start. -/
def st0 (ws : List Int) (start : Int) (inp : ByteArray) : M.St :=
  ⟨List.replicate 16 0, 0, false, false, false, false, start, ws, inp, 0, [], 0, 0⟩

theorem wf_st0 (ws : List Int) (start : Int) (inp : ByteArray) (h0 : 0 ≤ start) (h1 : start < 1073741824) (hi : inp.size ≤ 4096) : Wf (st0 ws start inp) := by
  refine ⟨rfl, ?_, by simp [st0], ⟨h0, h1⟩, hi, ⟨by simp [st0], by simp [st0]⟩, by simp [st0]⟩
  intro i
  unfold M.at_ st0
  rw [List.getD_eq_getElem?_getD, List.getElem?_replicate]
  split <;> simp

set_option maxHeartbeats 1000000 in
set_option maxRecDepth 100000 in
theorem cpunew_any (w : World) (sp : Option Addr) (c : Nat) (ws : List Int) (v : Value) (start : Int) (inp : ByteArray) (h : Src w v sp c ws) (hl : ws.length ≤ 65536) (hi : inp.size ≤ 4096) (h0 : 0 ≤ start) (h1 : start ≤ ws.length) :
    Calls Try.prog 18 #[v, .int .i64 start, .string inp] w (fun e w' => ∃ g gm gw, e = .returned (.tuple #[.pointer (some ⟨g, 0, none⟩), .int .i64 0]) ∧
      Mach w' g gm gw ws.length [] (.slice none 0 0) (st0 ws start inp) ∧ Below w.heap.size w w' ∧ w.heap.size ≤ g ∧ w.heap.size ≤ gm ∧ w.heap.size ≤ gw) := by
  have hnew := memnew_any w sp c ws v h hl
  obtain ⟨rfl, hat, hbd⟩ := h
  have HN := Lib.hid hnew
  clear hnew hat hbd
  have n2 : ¬ (4096 : Int) < (inp.size : Int) := by omega
  have n3 : ¬ start < 0 := by omega
  have n4 : ¬ (ws.length : Int) < start := by omega
  go_enter Try.func18, Try.ntmps18
  go_wp2_with (go_at_call 41; refine HN.out.mono ?_; rintro e w1 ⟨gm, gw, rfl, hM, hB, hg1, hg2, hg3⟩)
  go_ret2
  exact ⟨w1.heap.size, gm, gw, rfl, ⟨(Cel.new w1 _ _).to rfl, hM.fr ((Fr.refl (fun _ => False) w1).alloc _) id id, ⟨rfl, .inl ⟨rfl, rfl⟩⟩⟩, hB.trans ((Below.refl _ _).alloc hB.size _), hB.size, hg1, hg2⟩

end Go.Proofs.Ytmlmjkojhfjjlaa
