/- Words for memory: a block that is known whole; a frame (what is not let go is as it was); how a struct is told as a result. -/
import Derived.Test.YtmlmjkojhfjjlaaProg
import Derived.WalkKit
import Derived.WalkSpells
import Derived.WalkLawsBesides
import Derived.Deep.QuietTactic
import Derived.BigQuiet
import Derived.KernelRfl
import Derived.Lib.Hide
import Derived.Deep.Draws
namespace Go.Proofs.Ytmlmjkojhfjjlaa
set_option linter.unusedVariables false
set_option linter.unusedSimpArgs false
open Go.RowKit

/-- Block g is just these cells; none is frozen. -/
def Cel (w : World) (g : Nat) (t : TypeId) (cs : Array Value) : Prop := w.heap[g]? = some (.cells cs t (0, 0))

section
variable {w w' : World} {g : Nat} {t : TypeId} {cs : Array Value}
theorem Cel.lt (h : Cel w g t cs) : g < w.heap.size := (Array.getElem?_eq_some_iff.1 h).1
theorem Cel.cell (h : Cel w g t cs) (i : Nat) : w.cell? ⟨g, i, none⟩ = cs[i]? := cell_of_row w g i cs t (0, 0) h
theorem Cel.frozen (h : Cel w g t cs) (i : Nat) : w.frozen? ⟨g, i, none⟩ = false := frozen_of_row w g i cs t h
theorem Cel.new (w : World) (t : TypeId) (cs : Array Value) : Cel (w.alloc (.cells cs t)) w.heap.size t cs := heap_alloc_new w _
theorem Cel.drew (h : Cel w g t cs) : Cel w.drew g t cs := h
theorem Cel.drewN (h : Cel w g t cs) (n : Nat) : Cel (w.drewN n) g t cs := h
theorem Cel.alloc (h : Cel w g t cs) (o : Obj) : Cel (w.alloc o) g t cs := (Below.heap_alloc w o g h.lt).trans h
theorem Cel.set (h : Cel w g t cs) (i : Nat) (u : Value) : Cel (w.setCell ⟨g, i, none⟩ u) g t (cs.setIfInBounds i u) := heap_setCell_same w g i cs t u h
theorem Cel.far (h : Cel w g t cs) {p : Addr} (hp : g ≠ p.block) (u : Value) : Cel (w.setCell p u) g t cs := (Below.heap_setCell w p u g hp).trans h
theorem Cel.below {B : Nat} (h : Cel w g t cs) (hb : Below B w w') (hg : g < B) : Cel w' g t cs := (hb.block g hg).trans h
theorem Cel.to (h : Cel w g t cs) {cs' : Array Value} (e : cs = cs') : Cel w g t cs' := e ▸ h
end

/-- What was there and is not let go is as it was; the streams are as they were. -/
structure Fr (S : Nat → Prop) (w w' : World) : Prop where
  os : w'.os = w.os
  tape : w'.tape = w.tape
  output : w'.output = w.output
  size : w.heap.size ≤ w'.heap.size
  block : ∀ k, k < w.heap.size → ¬ S k → w'.heap[k]? = w.heap[k]?

section
variable {S T : Nat → Prop} {a b c w w' : World}
theorem Fr.refl (S : Nat → Prop) (w : World) : Fr S w w := ⟨rfl, rfl, rfl, Nat.le_refl _, fun _ _ _ => rfl⟩
theorem Fr.trans (h : Fr S a b) (k : Fr S b c) : Fr S a c :=
  ⟨k.os.trans h.os, k.tape.trans h.tape, k.output.trans h.output, Nat.le_trans h.size k.size, fun i hi hn => (k.block i (Nat.lt_of_lt_of_le hi h.size) hn).trans (h.block i hi hn)⟩
/-- Another set behind it: what is new may be let go as well. -/
theorem Fr.trans' (h : Fr S a b) (k : Fr T b c) (hT : ∀ i, T i → S i ∨ a.heap.size ≤ i) : Fr S a c :=
  ⟨k.os.trans h.os, k.tape.trans h.tape, k.output.trans h.output, Nat.le_trans h.size k.size, fun i hi hn =>
    (k.block i (Nat.lt_of_lt_of_le hi h.size) (fun ht => (hT i ht).elim hn (fun hle => by omega))).trans (h.block i hi hn)⟩
theorem Fr.mono (h : Fr S a b) (hT : ∀ i, S i → T i) : Fr T a b := ⟨h.os, h.tape, h.output, h.size, fun i hi hn => h.block i hi (fun hs => hn (hT i hs))⟩
theorem Fr.drew (h : Fr S a b) : Fr S a b.drew := ⟨h.os, h.tape, h.output, h.size, h.block⟩
theorem Fr.drewN (h : Fr S a b) (n : Nat) : Fr S a (b.drewN n) := ⟨h.os, h.tape, h.output, h.size, h.block⟩
theorem Fr.alloc (h : Fr S a b) (o : Obj) : Fr S a (b.alloc o) :=
  h.trans ⟨rfl, rfl, rfl, by simp, fun k hk _ => Below.heap_alloc _ _ _ hk⟩
theorem Fr.setCell (h : Fr S a b) {p : Addr} (hp : S p.block ∨ a.heap.size ≤ p.block) (u : Value) : Fr S a (b.setCell p u) :=
  ⟨h.os, h.tape, h.output, by simpa [World.setCell] using h.size, fun k hk hn => (Below.heap_setCell _ _ _ _ (by
    rintro rfl
    rcases hp with hp | hp
    · exact hn hp
    · omega)).trans (h.block k hk hn)⟩
theorem Fr.of_below (h : Below a.heap.size a b) : Fr S a b := ⟨h.os, h.tape, h.output, h.size, fun k hk _ => h.block k hk⟩
theorem Fr.below (h : Fr S a b) {B : Nat} (hB : B ≤ a.heap.size) (hS : ∀ i, S i → B ≤ i) : Below B a b :=
  ⟨h.os, h.tape, h.output, h.size, fun k hk => h.block k (by omega) (fun hs => by have := hS k hs; omega)⟩
theorem Fr.cel {g : Nat} {t : TypeId} {cs : Array Value} (h : Fr S a b) (hc : Cel a g t cs) (hg : ¬ S g) : Cel b g t cs := (h.block g hc.lt hg).trans hc
end

/-- What stands ahead of a draw. -/
theorem below_undrewN {B : Nat} {a w : World} {n : Nat} (h : Below B (a.drewN n) w) : Below B a w := ⟨h.os, h.tape, h.output, h.size, h.block⟩
theorem below_undrew {B : Nat} {a w : World} (h : Below B a.drew w) : Below B a w := ⟨h.os, h.tape, h.output, h.size, h.block⟩
theorem below_drewN {B : Nat} {a w : World} (h : Below B a w) (n : Nat) : Below B a (w.drewN n) := ⟨h.os, h.tape, h.output, h.size, h.block⟩

theorem bcell {W w1 : World} (hb : Below W.heap.size W w1) : (∀ b o, b < W.heap.size → w1.cell? ⟨b, o, none⟩ = W.cell? ⟨b, o, none⟩) ∧ (∀ b o, b < W.heap.size → w1.frozen? ⟨b, o, none⟩ = W.frozen? ⟨b, o, none⟩) :=
  ⟨fun b o h => hb.cell (p := ⟨b, o, none⟩) h, fun b o h => hb.frozen (p := ⟨b, o, none⟩) h⟩

/-- A struct out of its block, as a result beside another one. -/
theorem res_cell_tmp {P : Program} {fn : Func} {p u : Tmp} {ty t : TypeId} {g : Nat} {cs : Array Value} {w : World} {d : TypeDesc} {tmps : Array Value} (h : fn.results = #[.cell p ty, .tmp u])
    (hp : tmps.getD p undef = .pointer (some ⟨g, 0, none⟩)) (hg : Cel w g t cs) (hu : P.underlying ty = some d) (hd : (match d with | .struct _ | .array _ _ => true | _ => false) = true)
    (hi : (P.info? ty).map (·.size) = some cs.size) {v : Value} (hv : v = .tuple #[.agg cs, tmps.getD u undef]) : (results fn tmps).run P w = .ok v w := by
  subst hv
  have hp' : tmps[p]?.getD undef = .pointer (some ⟨g, 0, none⟩) := by simpa using hp
  rw [results_cell_tmp h]
  simp [hp', asAddr, run_loadVar_row w g t ty cs (0, 0) d hg hu hd hi]

/-- A fact on the world in which a call is made. -/
theorem calls_with {P : Program} {f : FuncId} {args : Array Value} {W : World} {Q : Ending → World → Prop} (X : World → Prop) (hX : X W) (h : X W → Calls P f args W Q) : Calls P f args W Q := h hX

/-- The call returns v, and leaves the world as it was. -/
def Ret (v : Value) (w : World) (e : Ending) (w' : World) : Prop := e = .returned v ∧ w = w'
/-- The call returns v; it may have drawn. -/
def RetD (v : Value) (w : World) (e : Ending) (w' : World) : Prop := e = .returned v ∧ ∃ n, w' = w.drewN n
/-- The call returns v; what was there is as it was. -/
def RetB (v : Value) (w : World) (e : Ending) (w' : World) : Prop := e = .returned v ∧ Below w.heap.size w w'

end Go.Proofs.Ytmlmjkojhfjjlaa
