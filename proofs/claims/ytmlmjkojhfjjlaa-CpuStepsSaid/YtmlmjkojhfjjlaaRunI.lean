/- run.Run: an image is run. -/
import Derived.Test.YtmlmjkojhfjjlaaNewE
import Derived.Test.YtmlmjkojhfjjlaaRun
namespace Go.Proofs.Ytmlmjkojhfjjlaa
set_option linter.unusedVariables false
set_option linter.unusedSimpArgs false
open Go.RowKit

theorem Src.up {w w' : World} {v : Value} {sp : Option Addr} {c : Nat} {ws : List Int} (h : Src w v sp c ws) (hx : w.Extends w') : Src w' v sp c ws :=
  ⟨h.v, fun hl => let ⟨ad, e, hc⟩ := h.at_ hl; ⟨ad, e, fun j u hj => World.Extends.cell_of hx (hc j u hj)⟩, h.bd⟩

theorem oc_keep {W w2 w3 : World} {B : Nat} {cs : Array Value} {g gw : Nat} (hC : Cel W B 28 cs) (hB : Below W.heap.size W w2) (k1 : W.heap.size ≤ g) (k3 : W.heap.size ≤ gw) (hF : Fr (foot g gw (.slice none 0 0)) w2 w3) : Cel w3 B 28 cs := by
  have hl := hC.lt
  refine hF.cel (hC.below hB hl) ?_
  rintro (e | e | e)
  · omega
  · omega
  · simp [Value.ownBlock] at e

theorem oc_frame {w W w2 w3 : World} {g gw : Nat} (h0 : Below w.heap.size w W) (hB : Below W.heap.size W w2) (k1 : W.heap.size ≤ g) (k3 : W.heap.size ≤ gw) (hF : Fr (foot g gw (.slice none 0 0)) w2 w3) : Below w.heap.size w w3 := by
  have s0 := h0.size
  have F2 : Fr (fun k => w.heap.size ≤ k) w w2 := ((Fr.refl _ w).trans' (Fr.of_below (S := fun _ => False) h0) (fun _ h => h.elim)).trans' (Fr.of_below (S := fun _ => False) hB) (fun _ h => h.elim)
  refine (F2.trans (hF.mono ?_)).below (Nat.le_refl _) (fun _ h => h)
  rintro k (rfl | rfl | h)
  · omega
  · omega
  · simp [Value.ownBlock] at h

set_option maxHeartbeats 2000000 in
set_option maxRecDepth 100000 in
theorem rrun_ok (w : World) (sp : Option Addr) (c : Nat) (ws : List Int) (v mv : Value) (start : Int) (inp : ByteArray) (k : Nat) (h : Src w v sp c ws) (hk : k ≤ 4194304) (hl : ws.length ≤ 65536) (hi : inp.size ≤ 4096) (h0 : 0 ≤ start) (h1 : start ≤ ws.length) :
    Calls Try.prog 24 #[.agg #[v, .int .i64 start, mv], .string inp, .int .i64 (k : Int)] w (RetB (.tuple #[ocV (M.runs k (st0 ws start inp)) (M.steps k (st0 ws start inp)), .int .i64 0]) w) := by
  go_enter Try.func24, Try.ntmps24
  go_wp2_with (first
    | (go_at_call 18; refine (cpunew_any _ sp c ws v start inp (h.up (((World.Extends.refl w).alloc _).alloc _)) hl hi h0 h1).mono ?_; rintro e w2 ⟨g, gm, gw, rfl, hM, hB2, k1, k2, k3⟩)
    | (go_at_call 19; refine (run_any _ g gm gw _ _ _ (st0 ws start inp) k hk hM (wf_st0 _ _ _ h0 (by omega) hi)).mono ?_; rintro e w3 ⟨⟨he, ov3, hM3, hF3, hA3⟩, hw3⟩; simp only [ocV] at he; generalize hx : (if (M.runs k (st0 ws start inp)).en = 0 then (3 : Int) else (M.runs k (st0 ws start inp)).en) = x at he; subst he; have HX := Lib.hid hx; clear hx; have hO := oc_keep (Cel.new1 w _ _ _) hB2 k1 k3 hF3; have o0 := hO.cell 0; have o1 := hO.cell 1; have o2 := hO.cell 2; have o3 := hO.cell 3; have o4 := hO.cell 4; have of := hO.frozen)
    | fail)
  refine bodyPost_ret (res_cell_tmp rfl rfl (((((hO.set 0 _).set 1 _).set 2 _).set 3 _).set 4 _) Try.underlying28 rfl (by kernel_rfl) rfl) rfl ⟨?_, ?_⟩
  · unfold ocV
    rw [HX.out]
    rfl
  · have hf := oc_frame (((Below.refl _ w).alloc (Nat.le_refl _) _).alloc (by simp) _) hB2 k1 k3 hF3
    repeat (first | (with_reducible exact hf) | (with_reducible refine Below.setCell ?_ (by simp <;> omega) _))

set_option maxHeartbeats 2000000 in
set_option maxRecDepth 100000 in
theorem rrun_err (w : World) (sp : Option Addr) (c : Nat) (ws : List Int) (v mv : Value) (start : Int) (inp : ByteArray) (k : Int) (h : Src w v sp c ws) (he : newE ws.length start inp.size ≠ 0) :
    Calls Try.prog 24 #[.agg #[v, .int .i64 start, mv], .string inp, .int .i64 k] w (RetB (.tuple #[.agg #[.int .i64 0, .int .i64 0, .string ⟨#[]⟩, .int .i64 0, .int .i64 0], .int .i64 (newE ws.length start inp.size)]) w) := by
  have hc := fun w2 (hx : w.Extends w2) => cpunew_err w2 sp c ws v start inp (h.up hx) he
  have hne : (newE ws.length start inp.size != 0) = true := by simpa using he
  clear he h
  generalize newE ws.length start inp.size = E at *
  go_enter Try.func24, Try.ntmps24
  go_wp2_with (first
    | (go_at_call 18; refine (hc _ (((World.Extends.refl w).alloc _).alloc _)).mono ?_; rintro e w2 ⟨rfl, hB2⟩; have hO := (Cel.new1 w _ #[.int .i64 0, .int .i64 0, .string ⟨#[]⟩, .int .i64 0, .int .i64 0] 28).below hB2 (by simp); have o0 := hO.cell 0; have o1 := hO.cell 1; have o2 := hO.cell 2; have o3 := hO.cell 3; have o4 := hO.cell 4; have of := hO.frozen; have HB2 := Lib.hid hB2; clear hB2)
    | fail)
  refine bodyPost_ret (res_cell_tmp rfl rfl (((((hO.set 0 _).set 1 _).set 2 _).set 3 _).set 4 _) Try.underlying28 rfl (by kernel_rfl) rfl) rfl ⟨rfl, ?_⟩
  have hf := (((Below.refl _ w).alloc (Nat.le_refl _) (.cells #[v, .int .i64 start, mv] 45)).alloc (by simp) (.cells #[.int .i64 0, .int .i64 0, .string ⟨#[]⟩, .int .i64 0, .int .i64 0] 28)).trans (HB2.out.mono (by simp; omega))
  repeat (first | (with_reducible exact hf) | (with_reducible refine Below.setCell ?_ (by simp <;> omega) _))

set_option maxHeartbeats 2000000 in
set_option maxRecDepth 100000 in
theorem rrun_bad (w : World) (sp : Option Addr) (c : Nat) (ws : List Int) (v mv : Value) (start : Int) (inp : ByteArray) (k : Int) (h : Src w v sp c ws) (he : newE ws.length start inp.size = 0) (hk : k < 0 ∨ 4194304 < k) :
    Calls Try.prog 24 #[.agg #[v, .int .i64 start, mv], .string inp, .int .i64 k] w (RetB (.tuple #[.agg #[.int .i64 0, .int .i64 0, .string ⟨#[]⟩, .int .i64 0, .int .i64 0], .int .i64 1]) w) := by
  obtain ⟨hl, hi, h0, h1⟩ := newE_ok he
  have HH := Lib.hid (And.intro h (And.intro hl (And.intro hi (And.intro h0 (And.intro h1 hk)))))
  clear h hl hi h0 h1 hk he
  go_enter Try.func24, Try.ntmps24
  go_wp2_with (first
    | (go_at_call 18; refine (cpunew_any _ sp c ws v start inp (HH.out.1.up (((World.Extends.refl w).alloc _).alloc _)) HH.out.2.1 HH.out.2.2.1 HH.out.2.2.2.1 HH.out.2.2.2.2.1).mono ?_; rintro e w2 ⟨g, gm, gw, rfl, hM, hB2, k1, k2, k3⟩; have HM := Lib.hid hM; have HB2 := Lib.hid hB2; clear hM hB2)
    | (go_at_call 19; refine (run_bad _ g k HH.out.2.2.2.2.2).mono ?_; rintro e w3 ⟨rfl, hB3⟩; have hO := ((Cel.new1 w _ #[.int .i64 0, .int .i64 0, .string ⟨#[]⟩, .int .i64 0, .int .i64 0] 28).below HB2.out (by simp)).below hB3 (by have := HB2.out.size; simp at this; omega); have o0 := hO.cell 0; have o1 := hO.cell 1; have o2 := hO.cell 2; have o3 := hO.cell 3; have o4 := hO.cell 4; have of := hO.frozen; have HB3 := Lib.hid hB3; clear hB3)
    | fail)
  refine bodyPost_ret (res_cell_tmp rfl rfl (((((hO.set 0 _).set 1 _).set 2 _).set 3 _).set 4 _) Try.underlying28 rfl (by kernel_rfl) rfl) rfl ⟨rfl, ?_⟩
  have hs := HB2.out.size
  have hf := ((((Below.refl _ w).alloc (Nat.le_refl _) (.cells #[v, .int .i64 start, mv] 45)).alloc (by simp) (.cells #[.int .i64 0, .int .i64 0, .string ⟨#[]⟩, .int .i64 0, .int .i64 0] 28)).trans (HB2.out.mono (by simp; omega))).trans (HB3.out.mono (by simp at hs; omega))
  repeat (first | (with_reducible exact hf) | (with_reducible refine Below.setCell ?_ (by simp <;> omega) _))

end Go.Proofs.Ytmlmjkojhfjjlaa
