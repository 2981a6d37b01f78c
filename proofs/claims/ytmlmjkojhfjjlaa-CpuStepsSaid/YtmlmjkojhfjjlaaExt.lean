/- Plain laws: what a run puts out and reads only grows; one step at a known instruction. No program in sight. -/
import Derived.Test.YtmlmjkojhfjjlaaPlain
import Derived.Laws.BytesArg
namespace Go.Proofs.Ytmlmjkojhfjjlaa
set_option linter.unusedVariables false
set_option linter.unusedSimpArgs false
namespace M

/-- What was put out and read only grows. -/
def Ext (s t : St) : Prop := (∃ u, t.out = s.out ++ u) ∧ s.rd ≤ t.rd
theorem Ext.same {s t : St} (h1 : t.out = s.out) (h2 : t.rd = s.rd) : Ext s t := ⟨⟨[], by rw [h1, List.append_nil]⟩, by rw [h2]; exact Int.le_refl _⟩
theorem Ext.trans {s t r : St} (h : Ext s t) (k : Ext t r) : Ext s r := by
  obtain ⟨⟨u, hu⟩, h2⟩ := h
  obtain ⟨⟨v, hv⟩, k2⟩ := k
  exact ⟨⟨u ++ v, by rw [hv, hu, List.append_assoc]⟩, Int.le_trans h2 k2⟩
theorem ext_loads (s : St) (p a : Int) (small : Bool) : Ext s (loads s p a small) := by
  unfold loads
  split
  · split
    · exact ⟨⟨[], (List.append_nil _).symm⟩, by show s.rd ≤ s.rd + 1; omega⟩
    · exact .same rfl rfl
  split
  · split <;> exact .same rfl rfl
  split
  · split <;> exact .same rfl rfl
  · split <;> exact .same rfl rfl
theorem ext_stores (s : St) (p v : Int) (small : Bool) : Ext s (stores s p v small) := by
  unfold stores
  split
  · split
    · exact .same rfl rfl
    · exact ⟨⟨_, rfl⟩, Int.le_refl _⟩
  split
  · exact .same rfl rfl
  split
  · exact .same rfl rfl
  split
  · split <;> exact .same rfl rfl
  · split <;> exact .same rfl rfl
theorem ext_moves (s : St) (x : I) : Ext s (moves s x) := by
  unfold moves
  split
  · exact ext_stores _ _ _ _
  · exact ext_loads _ _ _ _
theorem ext_jumps (s : St) (x : I) : Ext s (jumps s x) := by
  unfold jumps
  split <;> exact .same rfl rfl
theorem ext_reckons (s : St) (x : I) : Ext s (reckons s x) := by
  unfold reckons
  split
  · exact .same rfl rfl
  split <;> exact .same rfl rfl
theorem ext_step (s : St) : Ext s (step s) := by
  unfold step
  split
  · split
    · show Ext s (if _ then _ else if _ then _ else _)
      have h : Ext s { s with pc := s.pc + 1 } := .same rfl rfl
      split
      · exact h.trans (ext_moves _ _)
      split
      · exact h.trans (ext_jumps _ _)
      · exact h.trans (ext_reckons _ _)
    · exact .same rfl rfl
  · exact .same rfl rfl
theorem ext_runs : ∀ (k : Nat) (s : St), Ext s (runs k s)
  | 0, s => .same rfl rfl
  | k + 1, s => by
    unfold runs
    split
    · exact (ext_step s).trans (ext_runs k _)
    · exact .same rfl rfl

theorem en_loads (s : St) (p a : Int) (small : Bool) (h : s.en ≠ 3) : (loads s p a small).en ≠ 3 := by
  unfold loads
  split
  · split <;> exact h
  split
  · split <;> exact h
  split
  · split
    · exact h
    · show (5 : Int) ≠ 3
      decide
  · split
    · exact h
    · show (5 : Int) ≠ 3
      decide
theorem en_stores (s : St) (p v : Int) (small : Bool) (h : s.en ≠ 3) : (stores s p v small).en ≠ 3 := by
  unfold stores
  split
  · split
    · show (6 : Int) ≠ 3
      decide
    · exact h
  split
  · show (2 : Int) ≠ 3
    decide
  split
  · show (1 : Int) ≠ 3
    decide
  split
  · split
    · exact h
    · show (5 : Int) ≠ 3
      decide
  · split
    · exact h
    · show (5 : Int) ≠ 3
      decide
theorem en_step (s : St) (h : s.en ≠ 3) : (step s).en ≠ 3 := by
  unfold step
  split
  · split
    · show (if _ then _ else if _ then _ else _ : St).en ≠ 3
      split
      · unfold moves
        split
        · exact en_stores _ _ _ _ h
        · exact en_loads _ _ _ _ h
      split
      · unfold jumps
        split <;> exact h
      · unfold reckons
        split
        · exact h
        split <;> exact h
    · show (4 : Int) ≠ 3
      decide
  · show (5 : Int) ≠ 3
    decide
theorem en_runs : ∀ (k : Nat) (s : St), s.en ≠ 3 → (runs k s).en ≠ 3
  | 0, s, h => h
  | k + 1, s, h => by
    unfold runs
    split
    · exact en_runs k _ (en_step s h)
    · exact h

/-- With more fuel. -/
theorem runs_more (a b : Nat) (h : a ≤ b) (s : St) : runs b s = runs (b - a) (runs a s) ∧ steps b s = steps a s + steps (b - a) (runs a s) := by
  have e : b = a + (b - a) := by omega
  have := runs_add a (b - a) s
  rw [← e] at this
  exact this

/-- An instruction, done. -/
def exec (t : St) (x : I) : St := if x.f = 2 then moves t x else if x.f = 3 then jumps t x else reckons t x

theorem ext20_self (im : Int) (h0 : -524288 ≤ im) (h1 : im < 524288) (y : Int) (hy : y % 1048576 = im % 1048576) : ext20 y = im := by
  unfold ext20
  split <;> omega
theorem ext24_self (im : Int) (h0 : -8388608 ≤ im) (h1 : im < 8388608) (y : Int) (hy : y % 16777216 = im % 16777216) : ext24 y = im := by
  unfold ext24
  split <;> omega

theorem dec_u (b : Bool) (x y : Int) (h : x / 536870912 % 2 = bit b 1) : decide (x / 536870912 % 2 = 1) = b := by
  cases b <;> simp [bit] at h <;> simp [h]
theorem dec_v (b : Bool) (x y : Int) (h : x / 268435456 % 2 = bit b 1) : decide (x / 268435456 % 2 = 1) = b := by
  cases b <;> simp [bit] at h <;> simp [h]

theorem fields_enc {f : Int} {u v : Bool} {a b c op im : Int} (h : Good f u v a b c op im) : fields (enc f u v a b c op im) = ⟨f, u, v, a, b, c, op, im⟩ := by
  obtain ⟨⟨ha, ha', hb, hb', hc, hc', ho, ho'⟩, hk⟩ := h
  have eu : bit u 536870912 = bit u 1 * 536870912 := by cases u <;> rfl
  have ev : bit v 268435456 = bit v 1 * 268435456 := by cases v <;> rfl
  have bu : 0 ≤ bit u 1 ∧ bit u 1 ≤ 1 := by cases u <;> decide
  have bv : 0 ≤ bit v 1 ∧ bit v 1 ≤ 1 := by cases v <;> decide
  rcases hk with ⟨rfl, _, _, rfl⟩ | ⟨rfl, _, rfl, h0, h1⟩ | ⟨rfl, rfl, rfl, h0, h1⟩ | ⟨rfl, rfl, rfl, ⟨rfl, rfl, h0, h1⟩ | ⟨rfl, rfl⟩⟩
  · obtain ⟨W, hW⟩ : ∃ W, W = enc 0 u v a b c op 0 := ⟨_, rfl⟩
    rw [← hW]
    have e : W = bit u 1 * 536870912 + bit v 1 * 268435456 + a * 16777216 + b * 1048576 + op * 65536 + c := by rw [hW]; unfold enc; rw [eu, ev]; simp <;> omega
    have f1 := dec_u u W 0 (by omega)
    have f2 := dec_v v W 0 (by omega)
    have f0 : W / 1073741824 = 0 := by omega
    unfold fields
    simp only [f1, f2, f0]
    simp
    omega
  · obtain ⟨W, hW⟩ : ∃ W, W = enc 1 u v a b 0 op im := ⟨_, rfl⟩
    rw [← hW]
    have e : W = 1073741824 + bit u 1 * 536870912 + bit v 1 * 268435456 + a * 16777216 + b * 1048576 + op * 65536 + im := by rw [hW]; unfold enc; rw [eu, ev]; simp <;> omega
    have f1 := dec_u u W 0 (by omega)
    have f2 := dec_v v W 0 (by omega)
    have f0 : W / 1073741824 = 1 := by omega
    unfold fields
    simp only [f1, f2, f0]
    simp
    omega
  · obtain ⟨W, hW⟩ : ∃ W, W = enc 2 u v a b 0 0 im := ⟨_, rfl⟩
    rw [← hW]
    have e : W = 2147483648 + bit u 1 * 536870912 + bit v 1 * 268435456 + a * 16777216 + b * 1048576 + im % 1048576 := by rw [hW]; unfold enc; rw [eu, ev]; simp <;> omega
    have f1 := dec_u u W 0 (by omega)
    have f2 := dec_v v W 0 (by omega)
    have f0 : W / 1073741824 = 2 := by omega
    have f3 := ext20_self im h0 h1 W (by omega)
    unfold fields
    simp only [f1, f2, f0, f3]
    simp
    omega
  · obtain ⟨W, hW⟩ : ∃ W, W = enc 3 true v a 0 0 0 im := ⟨_, rfl⟩
    rw [← hW]
    have e : W = 3221225472 + 536870912 + bit v 1 * 268435456 + a * 16777216 + im % 16777216 := by rw [hW]; unfold enc; rw [ev]; simp [bit] <;> omega
    have f1 := dec_u true W 0 (by show _ = 1; omega)
    have f2 := dec_v v W 0 (by omega)
    have f0 : W / 1073741824 = 3 := by omega
    have f3 := ext24_self im h0 h1 W (by omega)
    unfold fields
    simp only [f1, f2, f0, f3]
    simp
    omega
  · obtain ⟨W, hW⟩ : ∃ W, W = enc 3 false v a 0 c 0 0 := ⟨_, rfl⟩
    rw [← hW]
    have e : W = 3221225472 + bit v 1 * 268435456 + a * 16777216 + c := by rw [hW]; unfold enc; rw [ev]; simp [bit] <;> omega
    have f1 := dec_u false W 0 (by show _ = 0; omega)
    have f2 := dec_v v W 0 (by omega)
    have f0 : W / 1073741824 = 3 := by omega
    unfold fields
    simp only [f1, f2, f0]
    simp
    omega

theorem enc_bd {f : Int} {u v : Bool} {a b c op im : Int} (h : Good f u v a b c op im) : 0 ≤ enc f u v a b c op im ∧ enc f u v a b c op im < 4294967296 := by
  obtain ⟨⟨ha, ha', hb, hb', hc, hc', ho, ho'⟩, hk⟩ := h
  have bu : bit u 536870912 = 0 ∨ bit u 536870912 = 536870912 := by cases u <;> decide
  have bv : bit v 268435456 = 0 ∨ bit v 268435456 = 268435456 := by cases v <;> decide
  unfold enc
  rcases hk with ⟨rfl, _, _, rfl⟩ | ⟨rfl, _, rfl, h0, h1⟩ | ⟨rfl, rfl, rfl, h0, h1⟩ | ⟨rfl, rfl, rfl, ⟨rfl, rfl, h0, h1⟩ | ⟨rfl, rfl⟩⟩
  · simp <;> omega
  · simp <;> omega
  · simp <;> omega
  · simp <;> omega
  · simp <;> omega

set_option maxRecDepth 10000 in
theorem decOk_enc {x : I} (h : goodI x = true) : decOk (encI x) = true ∧ fields (encI x) = x := by
  have hG : Good x.f x.u x.v x.a x.b x.c x.op x.im := of_decide_eq_true h
  have hf : fields (encI x) = x := fields_enc hG
  refine ⟨?_, hf⟩
  unfold decOk
  rw [hf, h, Bool.true_and]
  show (encI x == encI x) = true
  rw [beq_iff_eq]

/-- A step at a known instruction. -/
theorem step_at {s : St} (x : I) (hp : s.pc < s.mem.length) (hw : at_ s.mem s.pc = encI x) (hg : goodI x = true) : step s = exec { s with pc := s.pc + 1 } x := by
  obtain ⟨h1, h2⟩ := decOk_enc hg
  unfold step
  rw [if_pos hp, hw, if_pos h1, h2]
  rfl

end M

theorem strOf_append (a b : List Int) : (strOfNums (a ++ b)).data = (strOfNums a).data ++ (strOfNums b).data := by
  simp [strOfNums]
theorem strOf_begins (a b : List Int) : (strOfNums (a ++ b)).extract 0 (strOfNums a).size = strOfNums a := by
  apply ByteArray.ext
  rw [ByteArray.data_extract, strOf_append]
  show ((strOfNums a).data ++ (strOfNums b).data).extract 0 (strOfNums a).data.size = (strOfNums a).data
  generalize (strOfNums a).data = x
  generalize (strOfNums b).data = y
  simp

end Go.Proofs.Ytmlmjkojhfjjlaa
