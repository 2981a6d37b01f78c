/- A step keeps what a state is like. No program in sight. -/
import Derived.Test.YtmlmjkojhfjjlaaMoves
import Derived.Test.YtmlmjkojhfjjlaaReckA
import Derived.Test.YtmlmjkojhfjjlaaReckB
namespace Go.Proofs.Ytmlmjkojhfjjlaa
set_option linter.unusedVariables false
set_option linter.unusedSimpArgs false
open Go.RowKit

theorem u32_bd (x : Int) : 0 ≤ IntKind.u32.wrap x ∧ IntKind.u32.wrap x < 4294967296 := by rw [IntKind.wrap_u32]; omega
theorem bitsx_bd (o : BinOp) (x y : Int) : 0 ≤ bits o .u32 x y ∧ bits o .u32 x y < 4294967296 := u32_bd _
/-- A word. -/
def Bd (x : Int) : Prop := 0 ≤ x ∧ x < 4294967296

theorem rot_bd (b P Q : Int) (hb : 0 ≤ b) (hP : 1 ≤ P) (hQ : 1 ≤ Q) (h : b < P * Q) : 0 ≤ b / P + b % P * Q ∧ b / P + b % P * Q < P * Q := by
  have h1 := Int.emod_nonneg b (show P ≠ 0 by omega)
  have h2 := Int.emod_lt_of_pos b (show 0 < P by omega)
  have h3 : b / P < Q := Int.ediv_lt_of_lt_mul (by omega) (by rw [Int.mul_comm]; exact h)
  have h4 : 0 ≤ b / P := Int.ediv_nonneg hb (by omega)
  have h5 : b % P * Q ≤ (P - 1) * Q := Int.mul_le_mul_of_nonneg_right (by omega) (by omega)
  have h6 : 0 ≤ b % P * Q := Int.mul_nonneg h1 (by omega)
  have h7 : (P - 1) * Q = P * Q - Q := by rw [Int.sub_mul, Int.one_mul]
  omega

theorem pow_mul32 (k : Int) (h0 : 0 ≤ k) (h1 : k < 32) : (2 : Int) ^ k.toNat * 2 ^ (32 - k).toNat = 4294967296 ∧ 1 ≤ (2 : Int) ^ k.toNat ∧ 1 ≤ (2 : Int) ^ (32 - k).toNat := by
  refine ⟨?_, pow_ge1 _, pow_ge1 _⟩
  rw [← Int.pow_add]
  have : k.toNat + (32 - k).toNat = 32 := by omega
  rw [this]; rfl

theorem shr_bd (b : Int) (k : Nat) (h : 0 ≤ b ∧ b < 4294967296) : 0 ≤ b / 2 ^ k ∧ b / 2 ^ k < 4294967296 := by
  have hp := pow_ge1 k
  exact ⟨Int.ediv_nonneg h.1 (by omega), Int.lt_of_le_of_lt (Int.ediv_le_self _ h.1) h.2⟩

theorem bd_ite {p : Prop} [Decidable p] {a b : Int} (ha : Bd a) (hb : Bd b) : Bd (if p then a else b) := by split <;> assumption

theorem aluR_bd (op : Int) (u : Bool) (b n h : Int) (fc : Bool) (hb : 0 ≤ b ∧ b < 4294967296) (hn : 0 ≤ n ∧ n < 4294967296) (hh : 0 ≤ h ∧ h < 4294967296) :
    0 ≤ M.aluR op u b n h fc ∧ M.aluR op u b n h fc < 4294967296 := by
  show Bd _
  unfold M.aluR
  repeat' (first | (with_reducible exact hh) | (with_reducible exact hn) | refine bd_ite ?_ ?_)
  all_goals first
    | assumption
    | exact bitsx_bd _ _ _
    | exact ⟨Int.emod_nonneg _ (by decide), Int.emod_lt_of_pos _ (by decide)⟩
    | (constructor <;> decide)
    | skip
  obtain ⟨h1, h2, h3⟩ := pow_mul32 (n % 32) (by omega) (by omega)
  have := rot_bd b _ _ hb.1 h2 h3 (by rw [h1]; exact hb.2)
  rw [h1] at this
  exact this

theorem aluH_bd (op : Int) (u : Bool) (b n h : Int) (hb : 0 ≤ b ∧ b < 4294967296) (hn : 0 ≤ n ∧ n < 4294967296) (hh : 0 ≤ h ∧ h < 4294967296) :
    0 ≤ M.aluH op u b n h ∧ M.aluH op u b n h < 4294967296 := by
  show Bd _
  unfold M.aluH
  repeat' split
  all_goals first
    | assumption
    | exact ⟨Int.emod_nonneg _ (by decide), Int.emod_lt_of_pos _ (by decide)⟩
    | skip
  · refine ⟨Int.ediv_nonneg (Int.mul_nonneg hb.1 hn.1) (by decide), Int.ediv_lt_of_lt_mul (by decide) ?_⟩
    have h1 : b * n ≤ b * 4294967296 := Int.mul_le_mul_of_nonneg_left (by omega) hb.1
    have h2 : b * 4294967296 ≤ 4294967295 * 4294967296 := Int.mul_le_mul_of_nonneg_right (by omega) (by decide)
    omega
  · rename_i hs
    refine ⟨Int.emod_nonneg _ (by omega), Int.lt_of_lt_of_le (Int.emod_lt_of_pos _ hs) ?_⟩
    unfold M.sg; split <;> omega

theorem bd_put {l : List Int} (h : ∀ i, 0 ≤ M.at_ l i ∧ M.at_ l i < 4294967296) (k v : Int) (hv : 0 ≤ v ∧ v < 4294967296) (i : Int) : 0 ≤ M.at_ (M.put_ l k v) i ∧ M.at_ (M.put_ l k v) i < 4294967296 := by
  have := h i
  unfold M.at_ M.put_ at *
  rw [List.getD_eq_getElem?_getD] at *
  rw [List.getElem?_set]
  split
  · split
    · simpa using hv
    · simp
  · exact this

theorem Wf.sets {s : M.St} (h : Wf s) (a v : Int) (hv : 0 ≤ v ∧ v < 4294967296) : Wf (M.sets s a v) :=
  ⟨put_len h.rl _ _, bd_put h.rb a v hv, h.hb, h.pc, h.il, h.rd, h.ol⟩
theorem Wf.ending {s : M.St} (h : Wf s) (n : Int) : Wf { s with en := n } := ⟨h.rl, h.rb, h.hb, h.pc, h.il, h.rd, h.ol⟩

theorem packed_bd (a b c d : Bool) : 0 ≤ M.packed a b c d ∧ M.packed a b c d < 4294967296 := by
  cases a <;> cases b <;> cases c <;> cases d <;> decide

theorem Wf.moves {s : M.St} (h : Wf s) (hm : ∀ i, 0 ≤ M.at_ s.mem i ∧ M.at_ s.mem i < 4294967296) (x : M.I) : Wf (M.moves s x) := by
  unfold M.moves
  split
  · unfold M.stores
    repeat' split
    all_goals first
      | exact h.ending _
      | exact ⟨h.rl, h.rb, h.hb, h.pc, h.il, h.rd, h.ol⟩
      | skip
    rename_i hn
    exact ⟨h.rl, h.rb, h.hb, h.pc, h.il, h.rd, by have := h.ol; simp; omega⟩
  · unfold M.loads
    repeat' split
    · rename_i hr
      have hr' := h.rd
      exact Wf.sets (s := { s with rd := s.rd + 1 }) ⟨h.rl, h.rb, h.hb, h.pc, h.il, ⟨by show 0 ≤ s.rd + 1; omega, by show s.rd + 1 ≤ (s.inp.size : Int); omega⟩, h.ol⟩ _ _ (inAt_bd s)
    · exact h.sets _ _ ⟨by decide, by decide⟩
    · exact h.sets _ _ ⟨by decide, by decide⟩
    · exact h.sets _ _ ⟨by decide, by decide⟩
    · refine h.sets _ _ ?_
      unfold M.byteAt
      omega
    · exact h.ending _
    · exact h.sets _ _ (hm _)
    · exact h.ending _

theorem Wf.jumps {s : M.St} (h : Wf s) (x : M.I) : Wf (M.jumps s x) := by
  unfold M.jumps
  split
  · have hp := h.pc
    have hc := h.rb x.c
    have e0 : 0 ≤ (if x.u = true then (s.pc + x.im) % 1073741824 else M.at_ s.r x.c / 4) ∧ (if x.u = true then (s.pc + x.im) % 1073741824 else M.at_ s.r x.c / 4) < 1073741824 := by
      split <;> omega
    refine ⟨?_, ?_, h.hb, e0, h.il, h.rd, h.ol⟩
    · show (if x.v = true then M.put_ s.r 15 _ else s.r).length = 16
      split
      · exact put_len h.rl _ _
      · exact h.rl
    · intro i
      show 0 ≤ M.at_ (if x.v = true then M.put_ s.r 15 (s.pc * 4 % 4294967296) else s.r) i ∧ M.at_ (if x.v = true then M.put_ s.r 15 (s.pc * 4 % 4294967296) else s.r) i < 4294967296
      split
      · exact bd_put h.rb _ _ (by omega) i
      · exact h.rb i
  · exact h

theorem Wf.reckons {s : M.St} (h : Wf s) (x : M.I) (hi : x.f = 1 → 0 ≤ x.im ∧ x.im < 65536) : Wf (M.reckons s x) := by
  unfold M.reckons
  split
  · rename_i hx
    have := hi hx.2.2
    exact h.sets _ _ (by omega)
  split
  · exact h.sets _ _ (packed_bd _ _ _ _)
  have hn : 0 ≤ M.second s x ∧ M.second s x < 4294967296 := by
    unfold M.second
    split
    · rename_i hx
      have := hi hx
      split <;> omega
    · exact h.rb _
  exact ⟨put_len h.rl _ _, bd_put h.rb _ _ (aluR_bd _ _ _ _ _ _ (h.rb _) hn h.hb), aluH_bd _ _ _ _ _ (h.rb _) hn h.hb, h.pc, h.il, h.rd, h.ol⟩

theorem ok_good {W : Int} (h : M.decOk W = true) : M.Good (M.fields W).f (M.fields W).u (M.fields W).v (M.fields W).a (M.fields W).b (M.fields W).c (M.fields W).op (M.fields W).im := by
  unfold M.decOk M.goodI at h
  rw [Bool.and_eq_true] at h
  exact of_decide_eq_true h.1

theorem good_im {f : Int} {u v : Bool} {a b c op im : Int} (h : M.Good f u v a b c op im) (hf : f = 1) : 0 ≤ im ∧ im < 65536 := by
  obtain ⟨_, h | h | h | h⟩ := h
  · omega
  · exact ⟨h.2.2.2.1, h.2.2.2.2⟩
  · omega
  · omega

theorem Wf.pc1 {s : M.St} (h : Wf s) (hm : s.mem.length ≤ 65536) (hp : s.pc < s.mem.length) : Wf { s with pc := s.pc + 1 } :=
  ⟨h.rl, h.rb, h.hb, ⟨by have := h.pc; show 0 ≤ s.pc + 1; omega, by show s.pc + 1 < _; omega⟩, h.il, h.rd, h.ol⟩

theorem Wf.step {s : M.St} (h : Wf s) (hl : s.mem.length ≤ 65536) (hm : ∀ i, 0 ≤ M.at_ s.mem i ∧ M.at_ s.mem i < 4294967296) : Wf (M.step s) := by
  unfold M.step
  split
  · rename_i hp
    split
    · rename_i hd
      have ht := h.pc1 hl hp
      show Wf (if (M.fields (M.at_ s.mem s.pc)).f = 2 then _ else if (M.fields (M.at_ s.mem s.pc)).f = 3 then _ else _)
      split
      · exact ht.moves hm _
      split
      · exact ht.jumps _
      · exact ht.reckons _ (good_im (ok_good hd))
    · exact h.ending _
  · exact h.ending _

end Go.Proofs.Ytmlmjkojhfjjlaa
