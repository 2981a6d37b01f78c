/- ImageRuns: the walk. -/
import Derived.Test.YtmlmjkojhfjjlaaRunsI
import Derived.Test.YtmlmjkojhfjjlaaImgW
import Derived.Laws.CopyOwn
namespace Go.Proofs.Ytmlmjkojhfjjlaa
set_option linter.unusedVariables false
set_option linter.unusedSimpArgs false
open Go.RowKit

/-- A slice of bytes, as it lies. -/
structure BytesIn (w : World) (v : Value) (sp : Option Addr) (c : Nat) (ms : List Int) : Prop where
  v : v = .slice sp ms.length c
  at_ : 0 < ms.length → ∃ ad, sp = some ad ∧ ∀ j u, (ms.map (Value.int .u8))[j]? = some u → w.cell? (ad.add j) = some u
  bd : ∀ x ∈ ms, 0 ≤ x ∧ x < 256
theorem BytesIn.below {w w' : World} {v : Value} {sp : Option Addr} {c : Nat} {es : List Int} (h : BytesIn w v sp c es) (hb : Below w.heap.size w w') : BytesIn w' v sp c es :=
  ⟨h.v, fun hl => let ⟨ad, e, hc⟩ := h.at_ hl; ⟨ad, e, fun j u hj => (hb.cell (World.block_lt_of_cell? w _ (hc j u hj))).trans (hc j u hj)⟩, h.bd⟩
theorem BytesIn.at_k {w : World} {v : Value} {sp : Option Addr} {c : Nat} {es : List Int} (h : BytesIn w v sp c es) (k : Nat) (hk : k < es.length) (e : Int) (he : es[k] = e) : ∃ ad, sp = some ad ∧ w.cell? (ad.add k) = some (.int .u8 e) ∧ 0 ≤ e ∧ e < 256 := by
  obtain ⟨ad, e1, hc⟩ := h.at_ (by omega)
  subst he
  exact ⟨ad, e1, hc k _ (by simp [hk]), h.bd _ (List.getElem_mem hk)⟩

/-- A memory that is filled from p on. -/
def fill (p size : Nat) (l : List Int) : List Int := List.replicate p 0 ++ l ++ List.replicate (size - p - l.length) 0
theorem fill_len {p size : Nat} {l : List Int} (h : p + l.length ≤ size) : (fill p size l).length = size := by simp [fill]; omega
theorem fill_set {p size : Nat} {l : List Int} (h : p + l.length < size) (x : Int) : (fill p size l).set (p + l.length) x = fill p size (l ++ [x]) := by
  unfold fill
  have hl : (List.replicate p (0 : Int) ++ l).length = p + l.length := by simp
  rw [List.set_append_right _ _ (by omega), hl, Nat.sub_self]
  obtain ⟨m, hm⟩ : ∃ m, size - p - l.length = m + 1 := ⟨size - p - l.length - 1, by omega⟩
  have hm2 : size - p - (l ++ [x]).length = m := by simp; omega
  rw [hm, hm2, List.replicate_succ, List.set_cons_zero]
  simp

/-- The entries' places. -/
def esOf (p i : Nat) : List Int := (List.range i).map fun j => ((p + 5 * j : Nat) : Int)
theorem esOf_len (p i : Nat) : (esOf p i).length = i := by simp [esOf]
theorem esOf_next (p i : Nat) : esOf p (i + 1) = esOf p i ++ [((p + 5 * i : Nat) : Int)] := by simp [esOf, List.range_succ]
theorem esOf_at (p n i : Nat) (hi : i < n) : (esOf p n)[i]? = some ((p + 5 * i : Nat) : Int) := by simp [esOf, hi]

/-- The code of the first marks. -/
def codes (l : List Int) : List M.I := l.flatMap M.codeI
theorem codes_len (l : List Int) : (codes l).length = 5 * l.length := by
  induction l with
  | nil => rfl
  | cons x l ih => simp only [codes, List.flatMap_cons, List.length_append, List.length_cons] at ih ⊢; rw [ih]; simp [M.codeI]; omega
theorem codes_next (ms : List Int) (i : Nat) (hi : i < ms.length) (m : Int) (hm : ms[i] = m) : codes (ms.take (i + 1)) = codes (ms.take i) ++ M.codeI m := by
  rw [List.take_succ_eq_append_getElem hi, hm]
  simp [codes]

/-- Behind i marks. -/
def OutAt (w : World) (p size : Nat) (ms : List Int) (i : Nat) (v6 : Value) (wr : World) : Prop :=
  Below w.heap.size w wr ∧ w.heap.size + 1 ≤ wr.heap.size ∧ Cel wr w.heap.size U32T (wds (fill p size (encs (codes (ms.take i)))) []) ∧ wr.ownsRow (w.heap.size + 1) I64T 1 v6 i ((esOf p i).map (Value.int .i64))
/-- Behind i marks and k instructions. -/
def InAt (w : World) (p size : Nat) (ms : List Int) (i : Nat) (m : Int) (gc k : Nat) (v6 : Value) (wr : World) : Prop :=
  Below w.heap.size w wr ∧ w.heap.size + 1 ≤ gc ∧ Ins wr gc (M.codeI m) ∧ Cel wr w.heap.size U32T (wds (fill p size (encs (codes (ms.take i) ++ (M.codeI m).take k))) []) ∧ wr.ownsRow (w.heap.size + 1) I64T 1 v6 (i + 1) ((esOf p (i + 1)).map (Value.int .i64))

theorem Ins.fr {S : Nat → Prop} {w w' : World} {g : Nat} {is : List M.I} (h : Ins w g is) (hF : Fr S w w') (hS : ¬ S g) : Ins w' g is :=
  ⟨fun k j hk hj => (World.cell?_of_block (a := ⟨g, k * 8 + j, none⟩) (hF.block g h.lt hS)).trans (h.at_ k j hk hj), Nat.lt_of_lt_of_le h.lt hF.size⟩

theorem encs_append (a b : List M.I) : encs (a ++ b) = encs a ++ encs b := by simp [encs]
theorem encs_len (a : List M.I) : (encs a).length = a.length := by simp [encs]

theorem made_rep (n : Nat) : madeCells #[Value.int .u32 0] n = (List.replicate n (Value.int .u32 0)).toArray := by
  apply Array.ext'
  unfold madeCells
  apply List.ext_getElem
  · simp
  · intro i h1 h2
    simp
    rw [Nat.mod_one]
    rfl

theorem out_start (w : World) (p size : Nat) (ms : List Int) (hp : p ≤ size) : OutAt w p size ms 0 (.slice none 0 0) (w.alloc (.cells (madeCells #[.int .u32 0] size) U32T)) := by
  refine ⟨(Below.refl _ w).alloc (Nat.le_refl _) _, by simp, (Cel.new w U32T _).to ?_, ⟨rfl, .inl ⟨rfl, rfl⟩⟩⟩
  rw [made_rep]
  unfold wds fill codes encs
  simp only [List.take_zero, List.flatMap_nil, List.map_nil, List.append_nil, List.length_nil, Nat.sub_zero, List.map_append, List.map_replicate]
  rw [List.replicate_append_replicate]
  congr 2
  omega

theorem in_start {w wr w2 : World} {p size : Nat} {ms : List Int} {i g c : Nat} {m : Int} {v6 : Value} {o : Obj} (h : OutAt w p size ms i v6 wr) (hg : (wr.alloc o).grownBy w2 v6.ownBlock)
    (hown2 : w2.ownsRow (w.heap.size + 1) I64T 1 (.slice (some ⟨g, 0, none⟩) (i + 1) c) (i + 1) ((esOf p i).map (Value.int .i64) ++ [.int .i64 ((p + 5 * i : Nat) : Int)])) :
    InAt w p size ms i m w2.heap.size 0 (.slice (some ⟨g, 0, none⟩) (i + 1) c) (w2.alloc (.cells (rowC (M.codeI m)).toArray IT)) := by
  obtain ⟨hB, hs, hC, hown⟩ := h
  have hob : ∀ k, v6.ownBlock = some k → w.heap.size + 1 ≤ k := fun k hk => own_base hown hk
  have hB2 : Below w.heap.size w w2 := (hB.alloc hB.size o).grown hg (by have := hB.size; simp; omega) (fun j hj => by have := hob j hj; omega)
  have hs2 := hg.size
  simp at hs2
  have hC2 : Cel w2 w.heap.size U32T _ := grown_cel hg (hC.alloc o) (fun e => by have := hob _ e; omega)
  refine ⟨hB2.alloc hB2.size _, by omega, Ins.of_cel (Cel.new w2 IT _), ?_, ?_⟩
  · rw [List.take_zero, List.append_nil]
    exact hC2.alloc _
  · rw [esOf_next, List.map_append]
    exact hown2.alloc _

theorem in_next {w wr w1 : World} {p size : Nat} {ms : List Int} {i gc k : Nat} {m : Int} {v6 : Value} {x : M.I} (h : InAt w p size ms i m gc k v6 wr) (hi : i ≤ ms.length) (hk : k < 5) (hx : (M.codeI m)[k]? = some x) (hb1 : Below wr.heap.size wr w1) (hsz : p + 5 * i + k < size) :
    InAt w p size ms i m gc (k + 1) v6 (w1.setCell ⟨w.heap.size, p + 5 * i + k, none⟩ (.int .u32 (M.encI x))) := by
  obtain ⟨hB, hgc, hI, hC, hown⟩ := h
  have hob : ∀ k, v6.ownBlock = some k → w.heap.size + 1 ≤ k := fun k hk => own_base hown hk
  have hF : Fr (fun j => j = w.heap.size) wr (w1.setCell ⟨w.heap.size, p + 5 * i + k, none⟩ (.int .u32 (M.encI x))) := (Fr.of_below (S := fun j => j = w.heap.size) hb1).setCell (p := ⟨w.heap.size, p + 5 * i + k, none⟩) (.inl rfl) _
  have hC1 := hC.below hb1 hC.lt
  have hl : (encs (codes (ms.take i) ++ (M.codeI m).take k)).length = 5 * i + k := by
    rw [encs_len, List.length_append, codes_len, List.length_take, List.length_take]
    have : (M.codeI m).length = 5 := rfl
    omega
  refine ⟨(hB.trans (hb1.mono hB.size)).setCell (Nat.le_refl _) _, hgc, hI.fr hF (by omega), ?_, own_fr hown hF (fun j hj e => by have := hob j hj; omega)⟩
  refine (hC1.set _ _).to ?_
  rw [wds_set _ (by rw [fill_len (by rw [hl]; omega)]; omega)]
  congr 1
  have e1 : p + 5 * i + k = p + (encs (codes (ms.take i) ++ (M.codeI m).take k)).length := by rw [hl]; omega
  rw [e1, fill_set (by rw [hl]; omega)]
  congr 1
  obtain ⟨hkl, hkx⟩ := List.getElem?_eq_some_iff.1 hx
  rw [List.take_succ_eq_append_getElem hkl, hkx, ← List.append_assoc, encs_append (_ ++ _)]
  rfl

theorem out_next {w wr : World} {p size : Nat} {ms : List Int} {i gc : Nat} {m : Int} {v6 : Value} (h : InAt w p size ms i m gc 5 v6 wr) (hi : i < ms.length) (hm : ms[i] = m) : OutAt w p size ms (i + 1) v6 wr := by
  obtain ⟨hB, hgc, hI, hC, hown⟩ := h
  refine ⟨hB, by have := hI.lt; omega, ?_, hown⟩
  rw [codes_next ms i hi m hm]
  exact hC

theorem fillB {p size : Nat} {l : List Int} (h : ∀ x ∈ l, 0 ≤ x ∧ x < 4294967296) : ∀ x ∈ fill p size l, 0 ≤ x ∧ x < 4294967296 := by
  intro x hx
  unfold fill at hx
  rw [List.mem_append, List.mem_append] at hx
  rcases hx with (hx | hx) | hx
  · rw [(List.mem_replicate.1 hx).2]; decide
  · exact h x hx
  · rw [(List.mem_replicate.1 hx).2]; decide

theorem codes_at : ∀ (ms : List Int) (i k : Nat) (hi : i < ms.length) (x : M.I), (M.codeI ms[i])[k]? = some x → (codes ms)[5 * i + k]? = some x
  | [], i, k, hi, x, _ => by simp at hi
  | m :: ms, 0, k, hi, x, h => by
    have hk : k < 5 := by have := (List.getElem?_eq_some_iff.1 h).1; exact this
    show (M.codeI m ++ codes ms)[5 * 0 + k]? = some x
    rw [List.getElem?_append_left (by show 5 * 0 + k < 5; omega), Nat.mul_zero, Nat.zero_add]
    exact h
  | m :: ms, i + 1, k, hi, x, h => by
    show (M.codeI m ++ codes ms)[5 * (i + 1) + k]? = some x
    rw [List.getElem?_append_right (by show 5 ≤ 5 * (i + 1) + k; omega)]
    have := codes_at ms i k (by simpa using hi) x (by simpa using h)
    rw [← this]
    congr 1
    show 5 * (i + 1) + k - 5 = _
    omega

/-- The memory behind the copy. -/
def memW (p sz : Nat) (ms : List Int) : List Int := bootW (sz : Int) (esOf p ms.length) ++ (fill p sz (encs (codes ms))).drop p
theorem bootW_len (size : Int) (es : List Int) : (bootW size es).length = 13 + es.length := by
  unfold bootW bootI
  rw [List.length_append, encs_len, List.length_append, List.length_append, jumpsI_len, List.length_replicate]
  show 8 + (2 + es.length + 3) = _
  omega
theorem fill_drop (p sz : Nat) (l : List Int) : (fill p sz l).drop p = l ++ List.replicate (sz - p - l.length) 0 := by
  unfold fill
  rw [List.append_assoc, List.drop_append_of_le_length (by simp), List.drop_of_length_le (by simp), List.nil_append]
theorem memW_len {p sz : Nat} {ms : List Int} (hp : p = 13 + ms.length) (h : p + 5 * ms.length ≤ sz) : (memW p sz ms).length = sz := by
  unfold memW
  rw [List.length_append, bootW_len, esOf_len, List.length_drop, fill_len (by rw [encs_len, codes_len]; exact h)]
  omega
theorem at_some {l : List Int} {k : Nat} {v : Int} (h : l[k]? = some v) : M.at_ l (k : Int) = v := by
  unfold M.at_
  rw [List.getD_eq_getElem?_getD, Int.toNat_natCast, h]
  rfl
theorem memW_boot {p sz : Nat} {ms : List Int} (hp : p = 13 + ms.length) (k : Nat) (x : M.I) (h : (bootI (sz : Int) (esOf p ms.length))[k]? = some x) : M.at_ (memW p sz ms) (8 + (k : Int)) = M.encI x := by
  have hk := (List.getElem?_eq_some_iff.1 h).1
  have := at_some (l := memW p sz ms) (k := 8 + k) (v := M.encI x) (by
    unfold memW bootW
    rw [List.getElem?_append_left (by rw [List.length_append, encs_len, List.length_replicate]; omega), List.getElem?_append_right (by simp), List.length_replicate]
    unfold encs
    rw [show 8 + k - 8 = k by omega, List.getElem?_map, h]
    rfl)
  rw [← this]
  congr 1
theorem memW_code {p sz : Nat} {ms : List Int} (hp : p = 13 + ms.length) (i : Nat) (hi : i < (esOf p ms.length).length) (hi' : i < ms.length) (k : Nat) (x : M.I) (h : (M.codeI ms[i])[k]? = some x) : M.at_ (memW p sz ms) ((esOf p ms.length)[i] + k) = M.encI x := by
  have he : (esOf p ms.length)[i] = ((p + 5 * i : Nat) : Int) := by
    have := esOf_at p ms.length i hi'
    rw [List.getElem?_eq_getElem hi] at this
    injection this
  have hc := codes_at ms i k hi' x h
  have hcl := (List.getElem?_eq_some_iff.1 hc).1
  rw [he]
  have := at_some (l := memW p sz ms) (k := p + 5 * i + k) (v := M.encI x) (by
    unfold memW
    have hbl : (bootW (sz : Int) (esOf p ms.length)).length = p := by rw [bootW_len, esOf_len]; omega
    rw [List.getElem?_append_right (by rw [hbl]; omega), hbl, fill_drop, show p + 5 * i + k - p = 5 * i + k by omega, List.getElem?_append_left (by rw [encs_len]; exact hcl)]
    unfold encs
    rw [List.getElem?_map, hc]
    rfl)
  rw [← this]
  congr 1
theorem es_ok {p sz : Nat} {ms : List Int} (h0 : 256 ≤ sz) (h1 : sz ≤ 3000) (h2 : ms.length ≤ 16) (hp : p = 13 + ms.length) : bootOk (sz : Int) (esOf p ms.length) = true := by
  unfold bootOk
  rw [Bool.and_eq_true]
  refine ⟨decide_eq_true ⟨by omega, by omega, by rw [esOf_len]; exact h2⟩, ?_⟩
  rw [List.all_eq_true]
  intro e he
  simp only [esOf, List.mem_map, List.mem_range] at he
  obtain ⟨j, hj, rfl⟩ := he
  exact decide_eq_true ⟨by omega, by omega⟩
theorem es_at {p n i : Nat} (hi : i < (esOf p n).length) : (esOf p n)[i] = ((p + 5 * i : Nat) : Int) := by
  have := esOf_at p n i (by simpa [esOf_len] using hi)
  rw [List.getElem?_eq_getElem hi] at this
  injection this
theorem codes_good {ms : List Int} (h : ∀ x ∈ ms, 0 ≤ x ∧ x < 256) : ∀ x ∈ codes ms, M.goodI x = true := by
  intro x hx
  simp only [codes, List.mem_flatMap] at hx
  obtain ⟨m, hm, hx⟩ := hx
  exact M.code_good m (h m hm).1 (h m hm).2 x hx
theorem encs_mem_bd {is : List M.I} (h : ∀ x ∈ is, M.goodI x = true) : ∀ v ∈ encs is, 0 ≤ v ∧ v < 4294967296 := by
  intro v hv
  simp only [encs, List.mem_map] at hv
  obtain ⟨x, hx, rfl⟩ := hv
  exact M.enc_bd (of_decide_eq_true (h x hx))
theorem at_bd {l : List Int} (h : ∀ v ∈ l, 0 ≤ v ∧ v < 4294967296) (i : Int) : 0 ≤ M.at_ l i ∧ M.at_ l i < 4294967296 := by
  unfold M.at_
  rw [List.getD_eq_getElem?_getD]
  cases hx : l[i.toNat]? with
  | none => simp
  | some x => exact h x (List.mem_of_getElem? hx)
theorem memW_bd {p sz : Nat} {ms : List Int} (h0 : 256 ≤ sz) (h1 : sz ≤ 3000) (h2 : ms.length ≤ 16) (hp : p = 13 + ms.length) (hm : ∀ x ∈ ms, 0 ≤ x ∧ x < 256) (i : Int) : 0 ≤ M.at_ (memW p sz ms) i ∧ M.at_ (memW p sz ms) i < 4294967296 := by
  refine at_bd (fun v hv => ?_) i
  unfold memW at hv
  rw [List.mem_append] at hv
  rcases hv with hv | hv
  · unfold bootW at hv
    rw [List.mem_append] at hv
    rcases hv with hv | hv
    · rw [(List.mem_replicate.1 hv).2]; decide
    · exact encs_mem_bd (boot_good _ _ (es_ok h0 h1 h2 hp)) v hv
  · exact fillB (encs_mem_bd (codes_good hm)) v (List.mem_of_mem_drop hv)
/-- What the run comes to. -/
theorem memW_run {p sz : Nat} {ms : List Int} (h0 : 256 ≤ sz) (h1 : sz ≤ 3000) (h2 : ms.length ≤ 16) (hp : p = 13 + ms.length) (hm : ∀ x ∈ ms, 0 ≤ x ∧ x < 256) (inp : ByteArray) :
    let s := M.runs 1000 (st0 (memW p sz ms) 8 inp)
    s.en = 1 ∧ s.tr = 0 ∧ s.out = ms ∧ s.rd = 0 ∧ M.at_ s.r 14 = 4 * (sz : Int) ∧ M.steps 1000 (st0 (memW p sz ms) 8 inp) = 5 + 6 * ms.length :=
  M.image_run (W := memW p sz ms) (es := esOf p ms.length) (marks := ms) (sz : Int) (by omega) (by omega) h2 (esOf_len _ _)
    (fun i hi => by rw [es_at hi, memW_len hp (by omega)]; rw [esOf_len] at hi; omega) hm (by rw [memW_len hp (by omega)]; omega) (memW_boot hp) (memW_code hp) inp

theorem Cel.row {w : World} {g : Nat} {t : TypeId} {cs : Array Value} (h : Cel w g t cs) : w.heap[g]? = some (.cells cs t (0, 0)) := h
theorem copied_src {w w1 : World} {p sz : Nat} {ms W : List Int} (hC : Cel w1 w.heap.size U32T (wds (fill p sz (encs (codes ms))) [])) (hW : memW p sz ms = W) (hb : (bootW (sz : Int) (esOf p ms.length)).length = p) (hl : W.length = sz) (hbd : ∀ i, 0 ≤ M.at_ W i ∧ M.at_ W i < 4294967296) :
    Src (w1.setRow w.heap.size ((bootW (sz : Int) (esOf p ms.length)).map (Value.int .u32) ++ List.drop (bootW (sz : Int) (esOf p ms.length)).length (wds (fill p sz (encs (codes ms))) []).toList).toArray) (.slice (some ⟨w.heap.size, 0, none⟩) sz sz) (some ⟨w.heap.size, 0, none⟩) sz W := by
  have hC2 := hC.setRow ((bootW (sz : Int) (esOf p ms.length)).map (Value.int .u32) ++ List.drop (bootW (sz : Int) (esOf p ms.length)).length (wds (fill p sz (encs (codes ms))) []).toList).toArray
  refine ⟨by rw [hl], fun _ => ⟨_, rfl, fun j u hj => ?_⟩, hbd⟩
  have hplain : (⟨w.heap.size, 0, none⟩ : Addr).add j = ⟨w.heap.size, j, none⟩ := by unfold Addr.add; split <;> simp_all
  rw [hplain, hC2.cell, List.getElem?_toArray, ← hj, ← hW]
  congr 1
  unfold memW wds
  simp only [List.append_nil, hb, List.map_append, List.map_drop]

theorem conv_empty {P : Program} (w : World) (src dst e : TypeId) (hs : P.underlying src = some (.slice e)) (he : P.underlying e = some (.int .u8)) (hd : P.underlying dst = some .string) (ad : Addr) (cap : Nat) :
    (convert src dst (.slice (some ad) 0 cap)).run P w = .ok (.string ByteArray.empty) w := by
  have hl : (loadCells ad 0).run P w = .ok (([] : List Int).map (Value.int .u8)).toArray w := run_loadCells_list (P := P) w ad [] (fun j v hj => by simp at hj)
  rw [run_convert_bytes_string w src dst e _ 0 cap hs he hd, run_bytesToString w _ 0 cap [] hl]
  rfl
set_option maxRecDepth 100000 in
theorem conv_marks {w : World} {sp : Option Addr} {c : Nat} {ms : List Int} (h : BytesIn w (.slice sp ms.length c) sp c ms) : (convert 75 9 (.slice sp ms.length c)).run Try.prog w = .ok (.string (strOfNums ms)) w := by
  rcases sp with _ | ad
  · have h0 : ms.length = 0 := by
      rcases Nat.eq_zero_or_pos ms.length with e | e
      · exact e
      · obtain ⟨ad, e, _⟩ := h.at_ e
        cases e
    have hnil : ms = [] := List.eq_nil_of_length_eq_zero h0
    subst hnil
    exact run_convert_bytes_nil w 75 _ Try.underlying75 Try.underlying5 _ _ 9 Try.underlying9
  · rcases Nat.eq_zero_or_pos ms.length with h0 | h0
    · have hnil : ms = [] := List.eq_nil_of_length_eq_zero h0
      subst hnil
      exact conv_empty w 75 9 5 Try.underlying75 Try.underlying5 Try.underlying9 ad c
    · obtain ⟨ad', e, hc⟩ := h.at_ h0
      injection e with e
      subst e
      obtain ⟨bb, off, spot⟩ := ad
      have hs : spot = none := by
        have h1 := hc 0 (.int .u8 ms[0]) (by simp [h0])
        rw [show (⟨bb, off, spot⟩ : Addr).add 0 = ⟨bb, off, spot⟩ by simp [Addr.add]] at h1
        unfold World.cell? at h1
        cases spot with
        | none => rfl
        | some s => split at h1 <;> simp at h1
      subst hs
      refine run_convert_bytes_arg w 75 _ Try.underlying75 Try.underlying5 bb off _ _ ms rfl (fun i hi => ?_) 9 Try.underlying9
      have := hc i (.int .u8 (ms.getD i 0)) (by simp [hi])
      rw [show (⟨bb, off, none⟩ : Addr).add i = ⟨bb, off + i, none⟩ by unfold Addr.add; split <;> simp_all] at this
      exact this

set_option maxHeartbeats 8000000 in
set_option maxRecDepth 100000 in
theorem iruns_walk (w : World) (sp : Option Addr) (c : Nat) (ms : List Int) (sz p : Nat) (hM : BytesIn w (.slice sp ms.length c) sp c ms) (h0 : 256 ≤ sz) (h1 : sz ≤ 3000) (h2 : ms.length ≤ 16) (hp : p = 13 + ms.length) :
    Calls Try.prog 14 #[.int .i64 (sz : Int), .slice sp ms.length c] w (RetB (.bool true) w) := by
  obtain ⟨i0, hi0, hz0, hz1, hz2⟩ := info_parts info32
  obtain ⟨j0, hj0, hy0, hy1, hy2⟩ := info_parts info64
  have HM := Lib.hid hM
  have hpl : p ≤ 29 := by omega
  have HF := Lib.hid (show firstW (ms.length : Int) = (p : Int) by unfold firstW; rw [if_neg (by omega)]; omega)
  have HP := Lib.hid hp
  clear hM hp
  go_enter Try.func14, Try.ntmps14
  go_wp2_with (first
    | (go_at_call 37; refine (first_any _ _).mono ?_; rw [HF.out]; rintro e w' ⟨rfl, rfl⟩)
    | (at_make; refine wpList_make_row _ rfl _ _ 32 rfl 54 i0 (.int .u32 0) Try.underlying32 hi0 hz0 hz1 rfl .i64 .i64 sz rfl rfl (by rw [hz2]; omega) (by omega) ?_)
    | fail)
  have HS := Lib.hid (out_start w p sz ms (by omega))
  go_loopw [6, 8, 9, 10, 11, 12, 13] (fun v a i _ _ _ _ wr => ∃ k q : Nat, k ≤ ms.length ∧ i = .int .i64 (k : Int) ∧ a = .int .i64 (q : Int) ∧ q ≤ p + 5 * k ∧ p + 5 * k ≤ q ∧ Hid (OutAt w p sz ms k v wr)) (fun _ _ i _ _ _ _ _ => ms.length - (intOf i).toNat)
  · exact ⟨0, p, Nat.zero_le _, rfl, rfl, by omega, by omega, HS.out⟩
  obtain ⟨k, q, hk, rfl, rfl, hq1, hq2, hO⟩ := hrel
  clear HS
  by_cases hlt : k < ms.length
  · obtain ⟨m, hm⟩ : ∃ m, ms[k] = m := ⟨_, rfl⟩
    obtain ⟨ad, rfl, hcm, hm0, hm1⟩ := (HM.out.below hO.out.1).at_k k hlt m hm
    have HE := Lib.hid hm
    have hs0 := hO.out.1.size
    have hs1 := hO.out.2.1
    clear hm
    go_wp2_with (first
      | (at_builtin; refine wpList_append_lies _ (by rfl) _ _ _ (by rfl) (w.heap.size + 1) I64T j0 _ 1 8 Try.underlying63 hj0 hy0 hy1 hy2 rfl (by omega) _ k _ (by rfl) (hO.out.2.2.2.alloc _) ⟨wr.heap.size, 0, none⟩ 1 1 [.int .i64 (q : Int)] (by rfl) rfl (World.news_of_block (heap_alloc_new wr _)) (by simp [Value.oneCell']) (by omega) (by unfold maxLen; omega) (by omega) (by simp; omega) (wr.heap.size + 1) (by simp) ?_; intro g4 c4 w4 hown4 hgrow hat hlt4; have hown5 := hown4; rw [show q = p + 5 * k by omega] at hown5; have HI := Lib.hid (in_start (m := m) hO.out hgrow hown5); have hB4 := (hO.out.1.alloc hO.out.1.size (.cells #[.int .i64 (q : Int)] I64T)).grown hgrow (by simp; omega) (fun j hj => Nat.le_trans (Nat.le_succ _) (own_base hO.out.2.2.2 hj)); obtain ⟨ad4, had4, hcm4, _, _⟩ := (HM.out.below hB4).at_k k hlt m HE.out; injection had4 with had4; subst had4; clear hown4 hown5 hgrow hat hlt4 hB4)
      | fail)
    obtain ⟨wo, hwo⟩ : ∃ wo : World, wo = wr := ⟨_, rfl⟩
    clear hcm hs0 hs1 hO
    go_loopw [8, 11, 12, 13] (fun a i _ _ wx => ∃ l q : Nat, l ≤ 5 ∧ i = .int .i64 (l : Int) ∧ a = .int .i64 (q : Int) ∧ q ≤ p + 5 * k + l ∧ p + 5 * k + l ≤ q ∧ Hid (InAt w p sz ms k m w4.heap.size l (.slice (some ⟨g4, 0, none⟩) (k + 1) c4) wx)) (fun _ i _ _ _ => 5 - (intOf i).toNat)
    · exact ⟨0, q, by omega, rfl, rfl, by omega, by omega, HI.out⟩
    obtain ⟨l, q2, hl, rfl, rfl, hq3, hq4, hJ⟩ := hrel
    clear HI
    by_cases hl5 : l < 5
    · obtain ⟨x, hx⟩ : ∃ x, (M.codeI m)[l]'(show l < 5 from hl5) = x := ⟨_, rfl⟩
      obtain ⟨e0, e1, e2, e3, e4, e5, e6, e7⟩ := hJ.out.2.2.1.cells l hl5 x hx
      have HX := Lib.hid (show (M.codeI m)[l]? = some x by rw [← hx]; exact List.getElem?_eq_getElem _)
      have HG := Lib.hid (show M.Good x.f x.u x.v x.a x.b x.c x.op x.im from of_decide_eq_true (hx ▸ M.good_at (M.code_good m hm0 hm1) l hl5))
      have hgt := hJ.out.2.2.1.lt
      have hq5 : q2 < sz := by omega
      clear hx
      go_wp2_with (first
        | (go_at_call 38; refine (penc_yes _ _ _ _ _ _ _ _ _ HG.out).mono ?_; rintro e w5 ⟨rfl, hb5⟩; have HN5 := Lib.hid (in_next hJ.out hk hl5 HX.out hb5 (by omega)); have hC5 := hJ.out.2.2.2.1.below hb5 hJ.out.2.2.2.1.lt; have cC := hC5.cell q2; rw [wds_at q2 (by rw [fill_len (by rw [encs_len, List.length_append, codes_len, List.length_take, List.length_take]; have : (M.codeI m).length = 5 := rfl; omega)]; omega)] at cC; have cF := hC5.frozen q2; clear hb5 hC5)
        | fail)
      have HN6 := HN5.out
      rw [show p + 5 * k + l = q2 by omega] at HN6
      have HN7 := Lib.hid HN6
      clear HN6 HN5
      go_roundw
      case rel => exact ⟨l + 1, q2 + 1, by omega, by go_num, by go_num, by omega, by omega, HN7.out⟩
      case measure => simp [intOf]; omega
    · obtain rfl : l = 5 := by omega
      have HO2 := Lib.hid (out_next hJ.out hlt HE.out)
      go_wp2
      go_roundw
      case rel => exact ⟨k + 1, q2, by omega, by go_num, rfl, by omega, by omega, HO2.out⟩
      case measure => simp [intOf]; omega
  · obtain rfl : k = ms.length := by omega
    have hent : wr.ownsRow (w.heap.size + 1) I64T 1 u6 (esOf p ms.length).length ((esOf p ms.length).map (Value.int .i64)) := by rw [esOf_len]; exact hO.out.2.2.2
    obtain ⟨sp6, c6, hN6⟩ := nums_own hent (fun e he => by simp only [esOf, List.mem_map, List.mem_range] at he; obtain ⟨j, hj, rfl⟩ := he; omega)
    have HN6 := Lib.hid hN6
    have hfull : Cel wr w.heap.size U32T (wds (fill p sz (encs (codes ms))) []) := by have := hO.out.2.2.1; rwa [List.take_length] at this
    have HFull := Lib.hid hfull
    have hs0 := hO.out.1.size
    have hs1 := hO.out.2.1
    obtain ⟨W, hW⟩ : ∃ W, memW p sz ms = W := ⟨_, rfl⟩
    obtain ⟨s2, hs2⟩ : ∃ s2, M.runs 1000 (st0 W 8 ⟨#[]⟩) = s2 := ⟨_, rfl⟩
    obtain ⟨ns, hns⟩ : ∃ ns, M.steps 1000 (st0 W 8 ⟨#[]⟩) = ns := ⟨_, rfl⟩
    have hrun := memW_run (sz := sz) h0 h1 h2 HP.out HM.out.bd ⟨#[]⟩
    rw [hW] at hrun
    obtain ⟨v1, v2, v3, v4, v5, v6⟩ := hrun
    have HV := Lib.hid (show ocV (M.runs 1000 (st0 W 8 ⟨#[]⟩)) (M.steps 1000 (st0 W 8 ⟨#[]⟩)) = .agg #[.int .i64 1, .int .i64 0, .string (strOfNums ms), .int .i64 (ns : Int), .int .i64 0] by unfold ocV; rw [v1, v2, v3, v4, hns]; rfl)
    have H14 := Lib.hid (show M.at_ s2.r 14 = 4 * (sz : Int) by rw [← hs2]; exact v5)
    have hn1 : ((ns : Int) == 5 + 6 * (ms.length : Int)) = true := by rw [← hns, v6]; simp
    have HS2 := Lib.hid hs2
    have HW := Lib.hid hW
    have HWl := Lib.hid (show W.length = sz by rw [← hW]; exact memW_len HP.out (by omega))
    have HWb := Lib.hid (show ∀ i, 0 ≤ M.at_ W i ∧ M.at_ W i < 4294967296 by rw [← hW]; exact memW_bd h0 h1 h2 HP.out HM.out.bd)
    have HOk := Lib.hid (es_ok (sz := sz) h0 h1 h2 HP.out)
    have HL := Lib.hid (show 13 + (esOf p ms.length).length = p by rw [esOf_len]; exact HP.out.symm)
    have HNe := Lib.hid (show newE W.length 8 (ByteArray.mk #[]).size = 0 by rw [HWl.out]; unfold newE; rw [if_neg (by omega), if_neg (by decide), if_neg (by omega)])
    clear hs2 hns hW v1 v2 v3 v4 v5 v6 hent hN6 hfull
    go_wp2_with (first
      | (go_at_call 39; refine (boot_any _ _ _ (esOf p ms.length) _ (sz : Int) HN6.out).mono ?_; rintro e w1 ⟨hB, hr⟩; obtain ⟨gb, cb, rfl, hgb, hob⟩ : ∃ g c, e = .returned (.tuple #[.slice (some ⟨g, 0, none⟩) p c, .int .i64 0]) ∧ wr.heap.size ≤ g ∧ w1.ownsRow wr.heap.size U32T 1 (.slice (some ⟨g, 0, none⟩) p c) p ((bootW (sz : Int) (esOf p ms.length)).map (Value.int .u32)) := (by rcases hr with ⟨_, g, c, k1, k2, k3⟩ | ⟨k1, _⟩; rw [HL.out] at k1 k3; exact ⟨g, c, k1, k2, k3⟩; rw [HOk.out] at k1; cases k1); have HOb := Lib.hid hob; have HC1 := Lib.hid (HFull.out.below hB HFull.out.lt); have HB1 := Lib.hid (hO.out.1.trans (hB.mono hs0)); clear hB hr hgb hob)
      | (with_reducible show wpList _ _ _ _ _ _; refine wpList_copy_own (o := ⟨some 102, _, _, _, _, _⟩) rfl _ _ 32 32 rfl 54 Try.underlying32 info32s w.heap.size 0 sz sz ⟨gb, 0, none⟩ p cb rfl rfl (wds (fill p sz (encs (codes ms))) []) U32T HC1.out.row ((bootW (sz : Int) (esOf p ms.length)).map (Value.int .u32)) (by rw [List.length_map, bootW_len, HL.out]; exact (Nat.min_eq_left (by omega)).symm) (HOb.out.cells (g := gb) rfl) (by rw [List.length_map, bootW_len, HL.out]; unfold wds; simp only [List.append_nil, List.size_toArray, List.length_map]; rw [fill_len (by rw [encs_len, codes_len]; omega)]; omega) (by simp [Value.oneCell']) ?_; have HX := Lib.hid (copied_src HC1.out HW.out (by rw [bootW_len]; exact HL.out) HWl.out HWb.out); have HB2 := Lib.hid (below_setRow HB1.out (Nat.le_refl w.heap.size) ((bootW (sz : Int) (esOf p ms.length)).map (Value.int .u32) ++ List.drop (bootW (sz : Int) (esOf p ms.length)).length (wds (fill p sz (encs (codes ms))) []).toList).toArray))
      | (go_at_call 18; refine (own_new _ (some ⟨w.heap.size, 0, none⟩) sz W _ 8 ⟨#[]⟩ HX.out HNe.out).mono ?_; rintro e w3 ⟨gg, gm, gw, rfl, M3, hb3⟩; have HM3 := Lib.hid (M3.mono HB2.out.size); have HB3 := Lib.hid (HB2.out.trans (hb3.mono HB2.out.size)); clear M3 hb3)
      | (go_at_call 19; refine (own_run _ w.heap.size gg gm gw _ _ _ 1000 (by decide) HM3.out HB3.out.size).mono ?_; rintro e w4 ⟨he, ov4, M4, hF4, hk4⟩; rw [HV.out] at he; subst he; rw [HS2.out] at M4; have HB4 := Lib.hid ((below_fr HB3.out hF4 HB3.out.size HM3.out.lo).alloc (Nat.le_trans HB3.out.size hF4.size) (.cells #[.int .i64 1, .int .i64 0, .string (strOfNums ms), .int .i64 (ns : Int), .int .i64 0] 28)); have HM4 := Lib.hid (M4.alloc (.cells #[.int .i64 1, .int .i64 0, .string (strOfNums ms), .int .i64 (ns : Int), .int .i64 0] 28)); have O5 := Cel.new w4 28 #[.int .i64 1, .int .i64 0, .string (strOfNums ms), .int .i64 (ns : Int), .int .i64 0]; have o0 := O5.cell 0; have o2 := O5.cell 2; have o3 := O5.cell 3; have hcv := conv_marks (HM.out.below HB4.out); clear M4 hF4 hk4 O5)
      | (go_at_call 28; refine (reg_is _ _ _ _ _ _ _ _ 14 _ HM4.out (by decide) (by decide) H14.out).mono ?_; rintro e w' ⟨rfl, rfl⟩)
      | (go_at_call 36; refine (wakesI_any _).mono ?_; rintro e w5 ⟨rfl, hB5⟩)
      | fail)
    go_ret
    exact ⟨ret_b (by first | rfl | simp), HB4.out.trans (hB5.mono HB4.out.size)⟩

set_option maxHeartbeats 4000000 in
set_option maxRecDepth 100000 in
theorem iruns_early (w : World) (sp : Option Addr) (n c : Nat) (size : Int) (h : size < 256 ∨ 256 ≤ size ∧ (3000 < size ∨ size ≤ 3000 ∧ 16 < n)) :
    Calls Try.prog 14 #[.int .i64 size, .slice sp n c] w (RetB (.bool true) w) := by
  rcases h with h | ⟨h0, h | ⟨h1, h⟩⟩
  all_goals
    go_enter Try.func14, Try.ntmps14
    go_wp2_with (first
      | (go_at_call 36; refine (wakesI_any _).mono ?_; rintro e w5 ⟨rfl, hB5⟩)
      | fail)
    go_ret
    exact ⟨ret_b (by first | rfl | simp), hB5⟩

theorem iruns_any (w : World) (sp : Option Addr) (c : Nat) (ms : List Int) (v : Value) (size : Int) (hM : BytesIn w v sp c ms) : Calls Try.prog 14 #[.int .i64 size, v] w (RetB (.bool true) w) := by
  obtain rfl := hM.v
  by_cases h : size < 256 ∨ 256 ≤ size ∧ (3000 < size ∨ size ≤ 3000 ∧ 16 < ms.length)
  · exact iruns_early w sp _ c size h
  · obtain ⟨sz, rfl⟩ := Int.eq_ofNat_of_zero_le (show 0 ≤ size by omega)
    exact iruns_walk w sp c ms sz _ hM (by omega) (by omega) (by omega) rfl

end Go.Proofs.Ytmlmjkojhfjjlaa
