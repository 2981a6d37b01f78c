/- How arguments open: words, pairs, images; and that they read behind the call as they read before. -/
import Derived.Test.YtmlmjkojhfjjlaaRows
import Derived.Test.YtmlmjkojhfjjlaaNew
import Derived.WalkKit
import Derived.ProofKit
import Derived.OpenShut
import Derived.ShutString
import Derived.ChangeOld
import Derived.ChangeStays
import Derived.ChangeSlices
import Derived.Below
import Derived.SizedLaws
import Derived.Lib.SmallJoins
namespace Go.Proofs.Ytmlmjkojhfjjlaa
set_option linter.unusedVariables false
set_option linter.unusedSimpArgs false
open Go.ChangeShapes Go.WideShapes Go.ChangeAt Go.RowKit Go.Joins

theorem own_knob : ownKnob Try.prog.godebug = none := by kernel_rfl
theorem laid_out : laidOutB Try.prog = true := by kernel_rfl
theorem maps_rowed : mapsRowed Try.prog = true := by kernel_rfl
theorem slices_full : ((List.range Try.prog.types.size).all fun t => match Try.prog.underlying t with | some (.slice e) => decide (0 < Try.prog.cellsOf e) | _ => true) = true := by kernel_rfl

theorem wf64 {n : Int} (h : (Lit.int .i64 n).wf = true) : -9223372036854775808 ≤ n ∧ n < 9223372036854775808 := by
  have e1 : IntKind.i64.min = -9223372036854775808 := by decide
  have e2 : IntKind.i64.max = 9223372036854775807 := by decide
  simp only [Lit.wf, Bool.and_eq_true, decide_eq_true_eq, e1, e2] at h
  omega
theorem wf32 {n : Int} (h : (Lit.int .u32 n).wf = true) : 0 ≤ n ∧ n < 4294967296 := by
  have e1 : IntKind.u32.min = 0 := by decide
  have e2 : IntKind.u32.max = 4294967295 := by decide
  simp only [Lit.wf, Bool.and_eq_true, decide_eq_true_eq, e1, e2] at h
  omega

section
variable {H : Type} {enc : TypeId × Value → H} {W W' : World} {sp : Nat → Bool}

theorem full_of (h : ((List.range Try.prog.types.size).all fun t => match Try.prog.underlying t with | some (.slice e) => decide (0 < Try.prog.cellsOf e) | _ => true) = true) {t e : TypeId} (hl : t < Try.prog.types.size)
    (ht : Try.prog.underlying t = some (.slice e)) : 0 < Try.prog.cellsOf e := by
  have := List.all_eq_true.1 h t (List.mem_range.2 hl)
  rw [ht] at this
  simpa using this

theorem args_stay (hb : Below W.heap.size W W') : ∀ {ts : List TypeId} {vs : List Value} {ds : List (DataW H)} {ps : List MemPlace}, (∀ t ∈ ts, t < Try.prog.types.size) →
    DataW.TrodAll enc Try.prog W 0 (fun _ => true) true ts vs ds ps → (∀ p ∈ ps, sp p.block = true) → DataW.TrodAll enc Try.prog W' 0 sp true ts vs ds ps
  | [], [], [], _, _, h, _ => h
  | t :: _, _ :: _, _ :: _, _, hT, ⟨p, q, ⟨n, h1⟩, h2, e⟩, hs =>
    ⟨p, q, ⟨n, DataW.trod_stays (kids_rows laid_out maps_rowed) (fun {t e} hl ht => full_of slices_full hl ht) (fun h => by cases h) (hT t (List.mem_cons.2 (.inl rfl))) h1
      (fun x hx => hb.same (DataW.trod_lt _ _ _ _ h1 x hx)) (fun x hx => hs x (by rw [e]; exact List.mem_append_left _ hx))⟩,
      args_stay hb (fun t ht => hT t (List.mem_cons.2 (.inr ht))) h2 (fun x hx => hs x (by rw [e]; exact List.mem_append_right _ hx)), e⟩

set_option maxRecDepth 100000 in
/-- A slice of words, as it is read. -/
theorem open_words_in {v : Value} {fuel : Nat} {x : DataW H × List MemPlace} (hf : DataW.trod enc Try.prog W 0 (fun _ => true) true fuel 32 [v] = some x) :
    ∃ a c ws, Src W v a c ws := by
  rcases open_ints Try.underlying32 Try.underlying54 (by kernel_rfl) hf with ⟨hcs, _⟩ | ⟨a, len, cap, zs, hcs, _, hle, hm, hl, _, hc, hw⟩
  · simp only [List.cons.injEq, and_true] at hcs
    subst hcs
    exact ⟨none, 0, [], rfl, fun h => by simp at h, fun i => by simp [M.at_]⟩
  · simp only [List.cons.injEq, and_true] at hcs
    subst hcs
    simp only [if_true] at hl
    have hn : (zs.take len).length = len := by rw [List.length_take]; omega
    refine ⟨some a, cap, zs.take len, by rw [hn], fun _ => ⟨a, rfl, fun j u hj => ?_⟩, fun i => ?_⟩
    · rw [List.getElem?_map] at hj
      obtain ⟨x, hx, rfl⟩ := Option.map_eq_some_iff.1 hj
      have hjn : j < len := by have := (List.getElem?_eq_some_iff.1 hx).1; rw [hn] at this; exact this
      rw [List.getElem?_take, if_pos hjn] at hx
      rw [hc j (by omega), List.getD_eq_getElem?_getD, hx]
      rfl
    · unfold M.at_
      rw [List.getD_eq_getElem?_getD, List.getElem?_take]
      split
      · cases hz : zs[i.toNat]? with
        | none => simp
        | some x =>
          have hx := hw x (List.mem_of_getElem? hz)
          simpa using wf32 hx
      · simp
set_option maxRecDepth 100000 in
theorem open_words {v : Value} {d : DataW H} {p : List MemPlace} {b0 : Nat} (hv : Value.okWide Try.prog W .any b0 32 v) (h : DataW.Trod enc Try.prog W 0 (fun _ => true) true 32 v d p) :
    ∃ a c ws, Src W v a c ws := by
  obtain ⟨A, n, c, rfl⟩ := okWide_slice Try.underlying32 hv
  obtain ⟨fuel, hf⟩ := h
  exact open_words_in hf

set_option maxRecDepth 100000 in
/-- Two numbers that came in. -/
theorem open_pair {v : Value} {d : DataW H} {p : List MemPlace} {b0 : Nat} (hv : Value.okWide Try.prog W .any b0 33 v) (h : DataW.Trod enc Try.prog W 0 (fun _ => true) true 33 v d p) :
    ∃ a b : Int, v = .agg #[.int .i64 a, .int .i64 b] ∧ (-9223372036854775808 ≤ a ∧ a < 9223372036854775808) ∧ (-9223372036854775808 ≤ b ∧ b < 9223372036854775808) := by
  have hu : Try.prog.underlying 33 = some (.array 2 3) := Try.underlying33
  have hC : Try.prog.cellsOf 33 = 2 := by kernel_rfl
  have hC1 : Try.prog.cellsOf 3 = 1 := by kernel_rfl
  simp only [Value.okWide, hu] at hv
  obtain ⟨cs, rfl, h2, _⟩ := hv
  obtain ⟨l⟩ := cs
  match l, h2.trans hC with
  | [c0, c1], _ =>
    obtain ⟨fuel, hf⟩ := h
    cases fuel with
    | zero => simp [DataW.trod] at hf
    | succ n =>
      unfold DataW.trod at hf
      rw [hu] at hf
      have r2 : List.range 2 = [0, 1] := rfl
      simp [r2, hC1, Value.cells] at hf
      obtain ⟨_, hf⟩ := hf
      cases h0 : DataW.trod enc Try.prog W 0 (fun _ => true) true n 3 [c0] with
      | none => simp [h0] at hf
      | some y0 =>
        cases h1 : DataW.trod enc Try.prog W 0 (fun _ => true) true n 3 [c1] with
        | none => simp [h0, h1] at hf
        | some y1 =>
          obtain ⟨a, ea, _, wa⟩ := DataW.trod_int Try.underlying3 h0
          obtain ⟨b, eb, _, wb⟩ := DataW.trod_int Try.underlying3 h1
          injection ea with ea
          injection eb with eb
          subst ea eb
          exact ⟨a, b, rfl, wf64 wa, wf64 wb⟩

end

end Go.Proofs.Ytmlmjkojhfjjlaa
