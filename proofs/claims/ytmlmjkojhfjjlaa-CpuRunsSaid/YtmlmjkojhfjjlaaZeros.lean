/- append(words, make([]uint32, 8)...) onto a row of the call's own. -/
import Derived.Test.YtmlmjkojhfjjlaaTwo
import Derived.Lib.AppendZerosOnto
import Derived.Laws.IdiomCopy
import Derived.Maps.AppendAt
namespace Go.Proofs.Ytmlmjkojhfjjlaa
set_option linter.unusedVariables false
set_option linter.unusedSimpArgs false
open Go.RowKit

theorem zeros8 : Builtin.zeroCells (Value.int .u32 0).cells 8 = (List.replicate 8 (Value.int .u32 0)).toArray := by kernel_rfl

theorem run_zeros_room {P : Program} (w : World) (t tn ty e : TypeId) (i : TypeInfo) (ht : P.underlying t = some (.slice e)) (htn : P.underlying tn = some (.int .i64)) (hi : P.info? e = some i) (hz : i.zero = some (.int .u32 0)) (hs : i.size = 1) (hb : i.bytes = 4)
    (g n cap : Nat) (cur : Array Value) (hg : w.heap[g]? = some (.cells cur e (0, 0))) (hcs : cur.size = cap) (hroom : n + 8 ≤ cap) :
    (Builtin.append_ #[t, tn] ty #[.slice (some ⟨g, 0, none⟩) n cap, .int .i64 8]).run P w = .ok (.slice (some ⟨g, 0, none⟩) (n + 8) cap) (w.setCells g n (List.replicate 8 (.int .u32 0))) := by
  have hw : IntKind.i64.wrap (8 : Int) = 8 := by decide
  have hadd : (⟨g, 0, none⟩ : Addr).add n = ⟨g, n, none⟩ := by unfold Addr.add; split <;> simp_all
  obtain ⟨Z, hZ⟩ : ∃ Z : List Value, Z = List.replicate 8 (.int .u32 0) := ⟨_, rfl⟩
  have hZl : Z.length = 8 := by rw [hZ]; rfl
  have h8 : (Builtin.zeroCells (Value.int IntKind.u32 0).cells 8).toList = Z := by rw [hZ, zeros8]
  have hst := run_storeCells_cells (P := P) g n Z 0 w (fun j hj => by rw [cell_of_row w g _ cur e (0, 0) hg]; simp; omega) (fun j _ => Cel.frozen (w := w) (g := g) (t := e) (cs := cur) hg _) (by rw [hZ]; simp [Value.oneCell'])
  simp only [Nat.add_zero] at hst
  rw [← hZ]
  clear hZ
  simp [Builtin.append_, run_underlying ht, run_underlying htn, sizeOf, typeInfo, zeroValue, hi, hz, hs, hb, asInt, asIntOf, hw, hroom, hadd, h8, hst]

theorem below_cells {B : Nat} {a : World} (g : Nat) (hg : B ≤ g) : ∀ (vs : List Value) (o : Nat) (w : World), Below B a w → Below B a (w.setCells g o vs)
  | [], _, _, h => h
  | v :: r, o, w, h => below_cells g hg r (o + 1) _ (h.setCell hg v)

theorem run_zeros_grow {P : Program} (w : World) (t tn ty e : TypeId) (i : TypeInfo) (ht : P.underlying t = some (.slice e)) (htn : P.underlying tn = some (.int .i64)) (hi : P.info? e = some i) (hz : i.zero = some (.int .u32 0)) (hs : i.size = 1) (hb : i.bytes = 4)
    (g n cap : Nat) (xs : List Value) (hxl : xs.length = n) (hx : ∀ j u, xs[j]? = some u → w.cell? ((⟨g, 0, none⟩ : Addr).add j) = some u) (hroom : ¬ n + 8 ≤ cap) (hn : n ≤ 1000) :
    ∃ c' rest, (Builtin.append_ #[t, tn] ty #[.slice (some ⟨g, 0, none⟩) n cap, .int .i64 8]).run P w = .ok (.slice (some ⟨w.heap.size, 0, none⟩) (n + 8) c')
      (w.drew.alloc (.cells (xs.toArray ++ (List.replicate 8 (Value.int .u32 0)).toArray ++ rest) e)) := by
  have hfit := growslice_fits (need := n + 8) (old := cap) (bytes := i.bytes) (by omega) (by rw [hb]; omega)
  have h := Lib.run_append_grow_zeros (P := P) w t tn ty e i (.int .u32 0) .i64 .i64 ht htn hi hz (some ⟨g, 0, none⟩) n cap xs
    (run_firstCells_some (P := P) w.drew i.size n _ n cap xs (by rw [hs, Nat.mul_one]; exact hxl) (by simpa using hx)) 8 (by decide) (by rw [hs]; decide) (by omega) (by omega) (by rw [hb]; decide) hfit
  rw [zeros8] at h
  exact ⟨_, _, h⟩

set_option maxRecDepth 100000 in
theorem run_zeros8 (w : World) (ty : TypeId) (base n : Nat) (v : Value) (xs : List Int) (hown : w.ownsRow base U32T 1 v n (xs.map (Value.int .u32))) (hn0 : 0 < n) (hn : n ≤ 1000) (hbd : ∀ i, 0 ≤ M.at_ xs i ∧ M.at_ xs i < 4294967296) (hB : base ≤ w.heap.size) :
    ∃ v' w', (Builtin.append_ #[32, 3] ty #[v, .int .i64 8]).run Try.prog w = .ok v' w' ∧ (∃ sp c, Src w' v' sp c (xs ++ List.replicate 8 0)) ∧ Below base w w' := by
  obtain ⟨i0, hi, hz0, hz1, hz2⟩ := info_parts info32
  have hxl : xs.length = n := by have := hown.1; simpa using this
  have hbd8 : ∀ i, 0 ≤ M.at_ (xs ++ List.replicate 8 0) i ∧ M.at_ (xs ++ List.replicate 8 0) i < 4294967296 := by
    intro i
    have := hbd i
    unfold M.at_ at this ⊢
    rw [List.getD_eq_getElem?_getD, List.getElem?_append]
    split
    · rw [List.getD_eq_getElem?_getD] at this; exact this
    · rw [List.getElem?_replicate]; split <;> simp
  rcases hown.2 with ⟨_, h0⟩ | ⟨g, cap, cur, rfl, hbg, hgg, hnc, hcm, hcs, htk⟩
  · omega
  · have hcells : ∀ j u, (xs.map (Value.int .u32))[j]? = some u → w.cell? ((⟨g, 0, none⟩ : Addr).add j) = some u := hown.cells (g := g) rfl
    by_cases hroom : n + 8 ≤ cap
    · refine ⟨_, _, run_zeros_room w _ _ ty _ i0 Try.underlying32 Try.underlying3 hi hz0 hz1 hz2 g n cap cur hgg (by simpa using hcs) hroom, ⟨some ⟨g, 0, none⟩, cap, by simp [hxl], fun _ => ⟨_, rfl, ?_⟩, hbd8⟩, below_cells g hbg _ _ _ (Below.refl _ _)⟩
      intro j u hj
      have hplain : (⟨g, 0, none⟩ : Addr).add j = ⟨g, j, none⟩ := by unfold Addr.add; split <;> simp_all
      rw [List.map_append, List.getElem?_append] at hj
      rw [hplain]
      split at hj
      · rename_i hlt
        have hlt' : j < n := by simpa [hxl] using hlt
        rw [World.cell?_setCells_out g _ n w ⟨g, j, none⟩ (fun _ _ => .inl hlt')]
        have := hcells j u hj
        rwa [hplain] at this
      · rename_i hge
        have hge' : n ≤ j := by simpa [hxl] using hge
        have hl8 : j - n < 8 := by
          have := (List.getElem?_eq_some_iff.1 hj).1
          simp [hxl] at this
          omega
        have h1 := World.cell?_setCells_in g (List.replicate 8 (Value.int .u32 0)) n w (fun k hk => by rw [cell_of_row w g _ cur U32T (0, 0) hgg]; simp at hk ⊢; omega) (j - n) (by simpa using hl8)
        have e : n + (j - n) = j := by omega
        rw [e] at h1
        rw [h1]
        rw [← hj]
        simp [hxl, hl8]
    · obtain ⟨c', rest, hrun⟩ := run_zeros_grow w 32 3 ty U32T i0 Try.underlying32 Try.underlying3 hi hz0 hz1 hz2 g n cap (xs.map (Value.int .u32)) (by simpa using hxl) hcells hroom hn
      refine ⟨_, _, hrun, ⟨some ⟨w.heap.size, 0, none⟩, c', by simp [hxl], fun _ => ⟨_, rfl, ?_⟩, hbd8⟩, ((Below.refl _ _).drew).alloc hB _⟩
      intro j u hj
      have hplain : (⟨w.heap.size, 0, none⟩ : Addr).add j = ⟨w.heap.size, j, none⟩ := by unfold Addr.add; split <;> simp_all
      have hC := Cel.new w.drew U32T ((xs.map (Value.int .u32)).toArray ++ (List.replicate 8 (Value.int .u32 0)).toArray ++ rest)
      rw [hplain]
      have h1 := hC.cell j
      rw [show w.drew.heap.size = w.heap.size from rfl] at h1
      rw [h1]
      have hjl : j < ((xs.map (Value.int .u32)).toArray ++ (List.replicate 8 (Value.int .u32 0)).toArray).size := by
        have := (List.getElem?_eq_some_iff.1 hj).1
        simpa using this
      rw [Array.getElem?_append_left hjl, ← hj]
      rw [List.append_toArray, List.getElem?_toArray, List.map_append]
      simp

theorem wpList_zeros8 {ops : Array Oper} {rest : List Oper} {o : Oper} {a : Act} {w : World} {Q : Exit → Act → World → Prop} (hgd : o.guard = none) (s : Operand) (c8 : Operand)
    (ho : o.op = .call { callee := .builtin .append, args := #[s, c8], argTypes := #[32, 3] }) (base n : Nat) (v : Value) (xs : List Int)
    (hs : a.eval s = v) (h8 : a.eval c8 = .int .i64 8) (hown : w.ownsRow base U32T 1 v n (xs.map (Value.int .u32))) (hn0 : 0 < n) (hn : n ≤ 1000) (hbd : ∀ i, 0 ≤ M.at_ xs i ∧ M.at_ xs i < 4294967296) (hB : base ≤ w.heap.size)
    (h : ∀ v' w' sp c, Src w' v' sp c (xs ++ List.replicate 8 0) → Below base w w' → wpList Try.prog ops Q rest (a.put o.dst v') w') : wpList Try.prog ops Q (o :: rest) a w :=
  wpList_plain hgd fun _ hK => by
    obtain ⟨v', w', hrun, ⟨sp, c, h2⟩, h3⟩ := run_zeros8 w o.type base n v xs hown hn0 hn hbd hB
    unfold Oper.wp execOp
    simp only [ho, resolve, invoke, builtin, Sem.run_bind, Sem.run_pure, Result.andThen_ok, List.map_toArray, List.map_cons, List.map_nil, hs, h8, hrun]
    exact hK _ _ (h v' w' sp c h2 h3)

end Go.Proofs.Ytmlmjkojhfjjlaa
