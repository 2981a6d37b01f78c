/- How slices of numbers and of bytes open. -/
import Derived.Test.YtdafkdjgclpolaaOpen
import Derived.Test.YtdafkdjgclpolaaImgW
namespace Go.Proofs.Ytdafkdjgclpolaa
set_option linter.unusedVariables false
set_option linter.unusedSimpArgs false
open Go.ChangeShapes Go.WideShapes Go.ChangeAt Go.RowKit Go.Joins Go.Deep

theorem wf8 {n : Int} (h : (Lit.int .u8 n).wf = true) : 0 ≤ n ∧ n < 256 := by
  have e1 : IntKind.u8.min = 0 := by decide
  have e2 : IntKind.u8.max = 255 := by decide
  simp only [Lit.wf, Bool.and_eq_true, decide_eq_true_eq, e1, e2] at h
  omega

section
variable {H : Type} {enc : TypeId × Value → H} {W W' : World} {sp : Nat → Bool}

set_option maxRecDepth 100000 in
/-- A slice that came in, as it is read. -/
theorem open_nums {b0 : Nat} {v : Value} {d : DataW H} {p : List MemPlace} (hv : Value.okWide Try.prog W .any b0 22 v) (h : DataW.Trod enc Try.prog W 0 (fun _ => true) true 22 v d p) :
    ∃ a c ws, Nums W v a c ws := by
  obtain ⟨A, n, c, rfl⟩ := okWide_slice Try.underlying22 hv
  obtain ⟨fuel, hf⟩ := h
  rcases open_ints Try.underlying22 Try.underlying3 (by kernel_rfl) hf with ⟨hcs, _⟩ | ⟨a, len, cap, zs, hcs, _, hle, hm, hl, _, hc, hw⟩
  · simp only [Value.cells, List.cons.injEq, and_true] at hcs
    injection hcs with h1 h2 h3
    subst h1 h2 h3
    exact ⟨none, 0, [], rfl, fun h => by simp at h, by simp⟩
  · simp only [Value.cells, List.cons.injEq, and_true] at hcs
    injection hcs with h1 h2 h3
    subst h1 h2 h3
    simp only [if_true] at hl
    have hn : (zs.take n).length = n := by rw [List.length_take]; omega
    refine ⟨some a, c, zs.take n, by rw [hn], fun _ => ⟨a, rfl, fun j u hj => ?_⟩, fun x hx => wf64 (hw x (List.mem_of_mem_take hx))⟩
    rw [List.getElem?_map] at hj
    obtain ⟨x, hx, rfl⟩ := Option.map_eq_some_iff.1 hj
    have hjn : j < n := by have := (List.getElem?_eq_some_iff.1 hx).1; rw [hn] at this; exact this
    rw [List.getElem?_take, if_pos hjn] at hx
    rw [hc j (by omega), List.getD_eq_getElem?_getD, hx]
    rfl


end
end Go.Proofs.Ytdafkdjgclpolaa
