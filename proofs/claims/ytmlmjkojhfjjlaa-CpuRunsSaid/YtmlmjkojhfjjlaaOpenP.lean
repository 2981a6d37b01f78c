/- How a Play opens. -/
import Derived.Test.YtmlmjkojhfjjlaaOpen
import Derived.Test.YtmlmjkojhfjjlaaImg
namespace Go.Proofs.Ytmlmjkojhfjjlaa
set_option linter.unusedVariables false
set_option linter.unusedSimpArgs false
open Go.ChangeShapes Go.WideShapes Go.ChangeAt Go.RowKit Go.Joins Go.Deep

section
variable {H : Type} {enc : TypeId × Value → H} {W W' : World} {sp : Nat → Bool}

set_option maxRecDepth 100000 in
theorem open_nums_in {v : Value} {fuel : Nat} {x : DataW H × List MemPlace} (hf : DataW.trod enc Try.prog W 0 (fun _ => true) true fuel 63 [v] = some x) :
    ∃ a c ws, Nums W v a c ws := by
  rcases open_ints Try.underlying63 Try.underlying3 (by kernel_rfl) hf with ⟨hcs, _⟩ | ⟨a, len, cap, zs, hcs, _, hle, hm, hl, _, hc, hw⟩
  · simp only [List.cons.injEq, and_true] at hcs
    subst hcs
    exact ⟨none, 0, [], rfl, fun h => by simp at h, by simp⟩
  · simp only [List.cons.injEq, and_true] at hcs
    subst hcs
    simp only [if_true] at hl
    have hn : (zs.take len).length = len := by rw [List.length_take]; omega
    refine ⟨some a, cap, zs.take len, by rw [hn], fun _ => ⟨a, rfl, fun j u hj => ?_⟩, fun x hx => wf64 (hw x (List.mem_of_mem_take hx))⟩
    rw [List.getElem?_map] at hj
    obtain ⟨x, hx, rfl⟩ := Option.map_eq_some_iff.1 hj
    have hjn : j < len := by have := (List.getElem?_eq_some_iff.1 hx).1; rw [hn] at this; exact this
    rw [List.getElem?_take, if_pos hjn] at hx
    rw [hc j (by omega), List.getD_eq_getElem?_getD, hx]
    rfl

set_option maxRecDepth 100000 in
/-- A Play that came in, as it is read. -/
theorem open_play {b0 : Nat} {v : Value} {d : DataW H} {p : List MemPlace} (hv : Value.okWide Try.prog W .any b0 65 v) (h : DataW.Trod enc Try.prog W 0 (fun _ => true) true 65 v d p) :
    ∃ (a : Int) (s : ByteArray) (fv : Value) (sp : Option Addr) (c : Nat) (fs : List Int), v = .agg #[.int .i64 a, .string s, fv] ∧ Nums W fv sp c fs := by
  obtain ⟨v0, v1, v2, y0, y1, y2, n, rfl, _, _, h0, h1, h2⟩ := open_agg3 Try.underlying65 (by kernel_rfl) (by kernel_rfl) hv h
  obtain ⟨a, ea, _, wa⟩ := DataW.trod_int Try.underlying3 h0
  injection ea with ea
  subst ea
  obtain ⟨s, es, _, ws⟩ := DataW.trod_string Try.underlying9 h1
  injection es with es
  subst es
  obtain ⟨sp, c, fs, hS⟩ := open_nums_in h2
  exact ⟨a, s, v2, sp, c, fs, rfl, hS⟩

end
end Go.Proofs.Ytmlmjkojhfjjlaa
