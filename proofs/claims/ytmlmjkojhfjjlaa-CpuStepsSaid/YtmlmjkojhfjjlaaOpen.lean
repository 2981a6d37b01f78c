/- How arguments open: words, pairs, images; and that they read behind the call as they read before. -/
import Derived.Test.YtmlmjkojhfjjlaaRows
import Derived.Test.YtmlmjkojhfjjlaaNew
import Derived.WalkKit
import Derived.ProofKit
import Derived.OpenShut
import Derived.ShutString
import Derived.ChangeOld
import Derived.ChangeStays
import Derived.ChangeSlices
import Derived.Below
import Derived.SizedLaws
import Derived.Lib.SmallJoins
import Derived.Deep.Slices
import Derived.Deep.Fields
namespace Go.Proofs.Ytmlmjkojhfjjlaa
set_option linter.unusedVariables false
set_option linter.unusedSimpArgs false
open Go.ChangeShapes Go.WideShapes Go.ChangeAt Go.RowKit Go.Joins Go.Deep

theorem own_knob : ownKnob Try.prog.godebug = none := by kernel_rfl
theorem laid_out : laidOutB Try.prog = true := by kernel_rfl
theorem maps_rowed : mapsRowed Try.prog = true := by kernel_rfl
theorem slices_full : ((List.range Try.prog.types.size).all fun t => match Try.prog.underlying t with | some (.slice e) => decide (0 < Try.prog.cellsOf e) | _ => true) = true := by kernel_rfl

theorem wf64 {n : Int} (h : (Lit.int .i64 n).wf = true) : -9223372036854775808 ≤ n ∧ n < 9223372036854775808 := by
  have e1 : IntKind.i64.min = -9223372036854775808 := by decide
  have e2 : IntKind.i64.max = 9223372036854775807 := by decide
  simp only [Lit.wf, Bool.and_eq_true, decide_eq_true_eq, e1, e2] at h
  omega
theorem wf32 {n : Int} (h : (Lit.int .u32 n).wf = true) : 0 ≤ n ∧ n < 4294967296 := by
  have e1 : IntKind.u32.min = 0 := by decide
  have e2 : IntKind.u32.max = 4294967295 := by decide
  simp only [Lit.wf, Bool.and_eq_true, decide_eq_true_eq, e1, e2] at h
  omega

section
variable {H : Type} {enc : TypeId × Value → H} {W W' : World} {sp : Nat → Bool}

theorem full_of (h : ((List.range Try.prog.types.size).all fun t => match Try.prog.underlying t with | some (.slice e) => decide (0 < Try.prog.cellsOf e) | _ => true) = true) {t e : TypeId} (hl : t < Try.prog.types.size)
    (ht : Try.prog.underlying t = some (.slice e)) : 0 < Try.prog.cellsOf e := by
  have := List.all_eq_true.1 h t (List.mem_range.2 hl)
  rw [ht] at this
  simpa using this

theorem args_stay (hb : Below W.heap.size W W') : ∀ {ts : List TypeId} {vs : List Value} {ds : List (DataW H)} {ps : List MemPlace}, (∀ t ∈ ts, t < Try.prog.types.size) →
    DataW.TrodAll enc Try.prog W 0 (fun _ => true) true ts vs ds ps → (∀ p ∈ ps, sp p.block = true) → DataW.TrodAll enc Try.prog W' 0 sp true ts vs ds ps
  | [], [], [], _, _, h, _ => h
  | t :: _, _ :: _, _ :: _, _, hT, ⟨p, q, ⟨n, h1⟩, h2, e⟩, hs =>
    ⟨p, q, ⟨n, DataW.trod_stays (kids_rows laid_out maps_rowed) (fun {t e} hl ht => full_of slices_full hl ht) (fun h => by cases h) (hT t (List.mem_cons.2 (.inl rfl))) h1
      (fun x hx => hb.same (DataW.trod_lt _ _ _ _ h1 x hx)) (fun x hx => hs x (by rw [e]; exact List.mem_append_left _ hx))⟩,
      args_stay hb (fun t ht => hT t (List.mem_cons.2 (.inr ht))) h2 (fun x hx => hs x (by rw [e]; exact List.mem_append_right _ hx)), e⟩

set_option maxRecDepth 100000 in
/-- A slice of words, as it is read. -/
theorem open_words_in {v : Value} {fuel : Nat} {x : DataW H × List MemPlace} (hf : DataW.trod enc Try.prog W 0 (fun _ => true) true fuel 32 [v] = some x) :
    ∃ a c ws, Src W v a c ws := by
  rcases open_ints Try.underlying32 Try.underlying54 (by kernel_rfl) hf with ⟨hcs, _⟩ | ⟨a, len, cap, zs, hcs, _, hle, hm, hl, _, hc, hw⟩
  · simp only [List.cons.injEq, and_true] at hcs
    subst hcs
    exact ⟨none, 0, [], rfl, fun h => by simp at h, fun i => by simp [M.at_]⟩
  · simp only [List.cons.injEq, and_true] at hcs
    subst hcs
    simp only [if_true] at hl
    have hn : (zs.take len).length = len := by rw [List.length_take]; omega
    refine ⟨some a, cap, zs.take len, by rw [hn], fun _ => ⟨a, rfl, fun j u hj => ?_⟩, fun i => ?_⟩
    · rw [List.getElem?_map] at hj
      obtain ⟨x, hx, rfl⟩ := Option.map_eq_some_iff.1 hj
      have hjn : j < len := by have := (List.getElem?_eq_some_iff.1 hx).1; rw [hn] at this; exact this
      rw [List.getElem?_take, if_pos hjn] at hx
      rw [hc j (by omega), List.getD_eq_getElem?_getD, hx]
      rfl
    · unfold M.at_
      rw [List.getD_eq_getElem?_getD, List.getElem?_take]
      split
      · cases hz : zs[i.toNat]? with
        | none => simp
        | some x =>
          have hx := hw x (List.mem_of_getElem? hz)
          simpa using wf32 hx
      · simp
set_option maxRecDepth 100000 in
theorem open_words {v : Value} {d : DataW H} {p : List MemPlace} {b0 : Nat} (hv : Value.okWide Try.prog W .any b0 32 v) (h : DataW.Trod enc Try.prog W 0 (fun _ => true) true 32 v d p) :
    ∃ a c ws, Src W v a c ws := by
  obtain ⟨A, n, c, rfl⟩ := okWide_slice Try.underlying32 hv
  obtain ⟨fuel, hf⟩ := h
  exact open_words_in hf

set_option maxRecDepth 100000 in
/-- Two numbers that came in. -/
theorem open_pair {v : Value} {d : DataW H} {p : List MemPlace} {b0 : Nat} (hv : Value.okWide Try.prog W .any b0 33 v) (h : DataW.Trod enc Try.prog W 0 (fun _ => true) true 33 v d p) :
    ∃ a b : Int, v = .agg #[.int .i64 a, .int .i64 b] ∧ (-9223372036854775808 ≤ a ∧ a < 9223372036854775808) ∧ (-9223372036854775808 ≤ b ∧ b < 9223372036854775808) := by
  have hu : Try.prog.underlying 33 = some (.array 2 3) := Try.underlying33
  have hC : Try.prog.cellsOf 33 = 2 := by kernel_rfl
  have hC1 : Try.prog.cellsOf 3 = 1 := by kernel_rfl
  simp only [Value.okWide, hu] at hv
  obtain ⟨cs, rfl, h2, _⟩ := hv
  obtain ⟨l⟩ := cs
  match l, h2.trans hC with
  | [c0, c1], _ =>
    obtain ⟨fuel, hf⟩ := h
    cases fuel with
    | zero => simp [DataW.trod] at hf
    | succ n =>
      unfold DataW.trod at hf
      rw [hu] at hf
      have r2 : List.range 2 = [0, 1] := rfl
      simp [r2, hC1, Value.cells] at hf
      obtain ⟨_, hf⟩ := hf
      cases h0 : DataW.trod enc Try.prog W 0 (fun _ => true) true n 3 [c0] with
      | none => simp [h0] at hf
      | some y0 =>
        cases h1 : DataW.trod enc Try.prog W 0 (fun _ => true) true n 3 [c1] with
        | none => simp [h0, h1] at hf
        | some y1 =>
          obtain ⟨a, ea, _, wa⟩ := DataW.trod_int Try.underlying3 h0
          obtain ⟨b, eb, _, wb⟩ := DataW.trod_int Try.underlying3 h1
          injection ea with ea
          injection eb with eb
          subst ea eb
          exact ⟨a, b, rfl, wf64 wa, wf64 wb⟩

/-- A field of one cell that is a number, in a slice of structs that came in. -/
theorem open_field {t e tI : TypeId} {fs : Array Field} {fuel : Nat} {cs : List Value} {x : DataW H × List MemPlace} (ht : Try.prog.underlying t = some (.slice e)) (he : Try.prog.underlying e = some (.struct fs))
    (hone : oneCellFields Try.prog fs = true) (hC : Try.prog.cellsOf e = fs.size) (h : DataW.trod enc Try.prog W 0 (fun _ => true) true fuel t cs = some x) (hI : Try.prog.underlying tI = some (.int .i64)) :
    (cs = [.slice none 0 0]) ∨ ∃ (a : Addr) (len cap : Nat), cs = [.slice (some a) len cap] ∧ len ≤ cap ∧ cap ≤ maxLen ∧
      ∀ (j : Nat) (f : Field), fs[j]? = some f → f.type = tI → ∃ N : Nat → Int, ∀ i, i < len → W.cell? (a.add (i * fs.size + j)) = some (.int .i64 (N i)) ∧ -9223372036854775808 ≤ N i ∧ N i < 9223372036854775808 := by
  rcases Go.Deep.open_slice ht h with h0 | ⟨a, len, cap, m, n, D, Pl, hcs, hb, hl, hm, hmm, hx, hi⟩
  · exact .inl h0.1
  · refine .inr ⟨a, len, cap, hcs, hl, hm, fun j f hj hf0 => ?_⟩
    have key : ∀ i, i < len → ∃ k : Int, W.cell? (a.add (i * fs.size + j)) = some (.int .i64 k) ∧ -9223372036854775808 ≤ k ∧ k < 9223372036854775808 := by
      intro i him
      obtain ⟨cs', hc, ht'⟩ := hi i (by rw [hmm]; simp; omega)
      rw [hC] at hc
      obtain ⟨ys, n', hn', hy, hlen, hyl, hf⟩ := DataW.trod_struct he ht'
      obtain ⟨_, hcl, hat⟩ := World.cells?_some hc
      obtain ⟨ho, hk⟩ := hone_of hone j f hj
      have hjl : j < fs.size := (Array.getElem?_eq_some_iff.1 hj).1
      have hcell := hat j hjl
      have hv : cs'[j]? = some (cs'[j]'(by omega)) := List.getElem?_eq_getElem (by omega)
      have h1 := hf j f hj
      rw [ho, hk] at h1
      have hone' : (cs'.drop j).take 1 = [cs'[j]'(by omega)] := by
        rw [List.drop_eq_getElem_cons (by omega)]
        rfl
      rw [hone'] at h1
      obtain ⟨y, hy1⟩ : ∃ y, ys[j]? = some y := ⟨ys[j]'(by omega), List.getElem?_eq_getElem (by omega)⟩
      rw [hy1, hf0] at h1
      obtain ⟨k, ek, _, wk⟩ := DataW.trod_int hI h1
      injection ek with ek
      rw [hv, ek] at hcell
      exact ⟨k, by rw [← Go.Deep.add_add]; exact hcell, wf64 wk⟩
    refine ⟨fun i => if h : i < len then (key i h).choose else 0, fun i hi => ?_⟩
    simp only [dif_pos hi]
    exact (key i hi).choose_spec

/-- The modules of an image: where their descriptors begin (D) and where their code begins (C). -/
structure Mods (w : World) (mp : Option Addr) (m : Nat) (D C : Nat → Int) : Prop where
  at_ : ∀ i, i < m → ∃ a, mp = some a ∧ w.cell? (a.add (i * 6 + 2)) = some (.int .i64 (D i)) ∧ w.cell? (a.add (i * 6 + 5)) = some (.int .i64 (C i))
  bd : m ≤ maxLen

set_option maxRecDepth 100000 in
/-- An image that came in. -/
theorem open_image {b0 : Nat} {v : Value} {d : DataW H} {p : List MemPlace} (hv : Value.okWide Try.prog W .any b0 45 v) (h : DataW.Trod enc Try.prog W 0 (fun _ => true) true 45 v d p) :
    ∃ vw a mp m mc sp c ws D C, v = .agg #[vw, .int .i64 a, .slice mp m mc] ∧ Src W vw sp c ws ∧ (-9223372036854775808 ≤ a ∧ a < 9223372036854775808) ∧ Mods W mp m D C := by
  obtain ⟨v0, v1, v2, y0, y1, y2, n, rfl, _, _, h0, h1, h2⟩ := open_agg3 Try.underlying45 (by kernel_rfl) (by kernel_rfl) hv h
  obtain ⟨sp, c, ws, hS⟩ := open_words_in h0
  obtain ⟨a, ea, _, wa⟩ := DataW.trod_int Try.underlying3 h1
  injection ea with ea
  subst ea
  rcases open_field (tI := 3) Try.underlying43 Try.underlying91 (by kernel_rfl) (by kernel_rfl) h2 Try.underlying3 with hcs | ⟨ad, len, cap, hcs, hl, hm, hf⟩
  · injection hcs with hcs
    subst hcs
    exact ⟨v0, a, none, 0, 0, sp, c, ws, fun _ => 0, fun _ => 0, rfl, hS, wf64 wa, ⟨fun i hi => by omega, by unfold maxLen; omega⟩⟩
  · injection hcs with hcs
    subst hcs
    obtain ⟨D, hD⟩ := hf 2 _ rfl rfl
    obtain ⟨C, hC⟩ := hf 5 _ rfl rfl
    exact ⟨v0, a, some ad, len, cap, sp, c, ws, D, C, rfl, hS, wf64 wa, ⟨fun i hi => ⟨ad, rfl, (hD i hi).1, (hC i hi).1⟩, by omega⟩⟩

end

end Go.Proofs.Ytmlmjkojhfjjlaa
