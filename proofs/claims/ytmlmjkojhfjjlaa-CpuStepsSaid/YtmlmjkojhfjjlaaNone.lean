/- CpuNone: the walk. -/
import Derived.Test.YtmlmjkojhfjjlaaWake
namespace Go.Proofs.Ytmlmjkojhfjjlaa
set_option linter.unusedVariables false
set_option linter.unusedSimpArgs false
open Go.RowKit

set_option maxHeartbeats 1000000 in
set_option maxRecDepth 100000 in
theorem run_nil (k : Int) (w : World) : Calls Try.prog 19 #[.pointer none, .int .i64 k] w (RetB (.tuple #[.agg #[.int .i64 0, .int .i64 0, .string ⟨#[]⟩, .int .i64 0, .int .i64 0], .int .i64 1]) w) := by
  go_enter Try.func19, Try.ntmps19
  go_wp2
  refine bodyPost_ret (res_cell_tmp rfl rfl (Cel.new w _ _) Try.underlying28 rfl (by kernel_rfl) rfl) rfl ⟨rfl, ?_⟩
  exact (Below.refl _ _).alloc (Nat.le_refl _) _

set_option maxHeartbeats 1000000 in
set_option maxRecDepth 100000 in
theorem reg_nil (k : Int) (w : World) : Calls Try.prog 28 #[.pointer none, .int .i64 k] w (Ret (.int .u32 0) w) := by
  go_enter Try.func28, Try.ntmps28
  go_wp2
  go_ret
  exact ⟨rfl, rfl⟩

set_option maxHeartbeats 1000000 in
set_option maxRecDepth 100000 in
theorem pc_nil (w : World) : Calls Try.prog 20 #[.pointer none] w (Ret (.int .i64 0) w) := by
  go_enter Try.func20, Try.ntmps20
  go_wp2
  go_ret
  exact ⟨rfl, rfl⟩

set_option maxHeartbeats 1000000 in
set_option maxRecDepth 100000 in
theorem mem_nil (w : World) : Calls Try.prog 29 #[.pointer none] w (Ret (.pointer none) w) := by
  go_enter Try.func29, Try.ntmps29
  go_wp2
  go_ret
  exact ⟨rfl, rfl⟩

/-- The empty machine's start. -/
def es0 : M.St := st0 [] 0 ⟨#[]⟩
theorem none1 : ocV (M.runs 1 es0) (M.steps 1 es0) = .agg #[.int .i64 5, .int .i64 0, .string ⟨#[]⟩, .int .i64 1, .int .i64 0] := by kernel_rfl
theorem src_nil (w : World) : Src w (.slice none 0 0) none 0 [] := ⟨rfl, fun h => by simp at h, fun i => by simp [M.at_]⟩

theorem none_keep {w1 w2 w3 : World} {cs : Array Value} {g gw : Nat} (hB : Below (w1.alloc (.cells cs 28)).heap.size (w1.alloc (.cells cs 28)) w2) (k1 : (w1.alloc (.cells cs 28)).heap.size ≤ g) (k3 : (w1.alloc (.cells cs 28)).heap.size ≤ gw) (hF : Fr (foot g gw (.slice none 0 0)) w2 w3) :
    Cel w3 w1.heap.size 28 cs := by
  have hs : (w1.alloc (.cells cs 28)).heap.size = w1.heap.size + 1 := by simp
  refine hF.cel ((Cel.new w1 _ _).below hB (by omega)) ?_
  rintro (e | e | e)
  · omega
  · omega
  · simp [Value.ownBlock] at e

theorem none_frame {w w1 w2 w3 : World} {o : Obj} {g gw : Nat} (h1 : Below w.heap.size w w1) (hB : Below (w1.alloc o).heap.size (w1.alloc o) w2) (k1 : (w1.alloc o).heap.size ≤ g) (k3 : (w1.alloc o).heap.size ≤ gw) (hF : Fr (foot g gw (.slice none 0 0)) w2 w3) :
    Below w.heap.size w w3 := by
  have hs : (w1.alloc o).heap.size = w1.heap.size + 1 := by simp
  have s1 := h1.size
  have F2 : Fr (fun k => w.heap.size ≤ k) w w2 := (((Fr.refl _ w).trans' (Fr.of_below (S := fun _ => False) h1) (fun _ h => h.elim)).alloc _).trans' (Fr.of_below (S := fun _ => False) hB) (fun _ h => h.elim)
  refine (F2.trans (hF.mono ?_)).below (Nat.le_refl _) (fun _ h => h)
  rintro k (rfl | rfl | h)
  · omega
  · omega
  · simp [Value.ownBlock] at h

set_option maxHeartbeats 4000000 in
set_option maxRecDepth 100000 in
theorem none_any (k : Int) (inp : ByteArray) (w : World) : Calls Try.prog 10 #[.int .i64 k, .string inp] w (RetB (.bool true) w) := by
  go_enter Try.func10, Try.ntmps10
  go_wp2_with (first
    | (go_at_call 18; refine (cpunew_any _ none 0 [] _ 0 ⟨#[]⟩ (src_nil _) (by decide) (by decide) (by decide) (by decide)).mono ?_; rintro e w2 ⟨g, gm, gw, rfl, hM, hB2, k1, k2, k3⟩)
    | (go_at_call 19; refine (run_any _ g gm gw _ _ _ es0 1 (by decide) hM (wf_st0 _ _ _ (by decide) (by decide) (by decide))).mono ?_; rintro e w3 ⟨⟨he, ov3, hM3, hF3, hA3⟩, hw3⟩; rw [none1] at he; subst he; have hO := none_keep hB2 k1 k3 hF3; have oc := hO.cell; have of := hO.frozen; have ol := hO.lt)
    | (go_at_call 19; refine (run_nil _ _).mono ?_; rintro e w1 ⟨rfl, hB1⟩)
    | (go_at_call 28; refine (reg_nil _ _).mono ?_; rintro e w' ⟨rfl, rfl⟩)
    | (go_at_call 20; refine (pc_nil _).mono ?_; rintro e w' ⟨rfl, rfl⟩)
    | (go_at_call 29; refine (mem_nil _).mono ?_; rintro e w' ⟨rfl, rfl⟩)
    | (go_at_call 15; refine (wakes_any _).mono ?_; rintro e w5 ⟨rfl, hB5⟩)
    | fail)
  go_ret
  refine ⟨ret_b rfl, ?_⟩
  have hw := none_frame hB1 hB2 k1 k3 hF3
  exact (hw.alloc hw.size _).trans (hB5.mono (by have := hw.size; simp; omega))

end Go.Proofs.Ytmlmjkojhfjjlaa
