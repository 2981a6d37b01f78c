/- Plain laws of the machine's runs. No program in sight. -/
import Derived.Test.YtmlmjkojhfjjlaaState
namespace Go.Proofs.Ytmlmjkojhfjjlaa
set_option linter.unusedVariables false
set_option linter.unusedSimpArgs false
namespace M

theorem runs_ended (k : Nat) (s : St) (h : s.en ≠ 0) : runs k s = s ∧ steps k s = 0 := by
  cases k with
  | zero => exact ⟨rfl, rfl⟩
  | succ k => exact ⟨by unfold runs; rw [if_neg h], by unfold steps; rw [if_neg h]⟩

theorem runs_add : ∀ (a b : Nat) (s : St), runs (a + b) s = runs b (runs a s) ∧ steps (a + b) s = steps a s + steps b (runs a s)
  | 0, b, s => by
    rw [Nat.zero_add]
    exact ⟨rfl, by show _ = 0 + _; rw [Nat.zero_add]; rfl⟩
  | a + 1, b, s => by
    have e : a + 1 + b = (a + b) + 1 := by omega
    rw [e]
    by_cases h : s.en = 0
    · have ih := runs_add a b (step s)
      have r1 : runs (a + 1) s = runs a (step s) := by conv => lhs; unfold runs
                                                       rw [if_pos h]
      have r2 : steps (a + 1) s = steps a (step s) + 1 := by conv => lhs; unfold steps
                                                             rw [if_pos h]
      have r3 : runs (a + b + 1) s = runs (a + b) (step s) := by conv => lhs; unfold runs
                                                                 rw [if_pos h]
      have r4 : steps (a + b + 1) s = steps (a + b) (step s) + 1 := by conv => lhs; unfold steps
                                                                       rw [if_pos h]
      rw [r1, r2, r3, r4]
      exact ⟨ih.1, by rw [ih.2]; omega⟩
    · have h1 := runs_ended (a + b + 1) s h
      have h2 := runs_ended (a + 1) s h
      have h3 := runs_ended b s h
      rw [h2.1, h2.2, h1.1, h1.2, h3.1, h3.2]
      exact ⟨rfl, rfl⟩

theorem steps_le : ∀ (k : Nat) (s : St), steps k s ≤ k
  | 0, s => Nat.le_refl _
  | k + 1, s => by
    unfold steps
    split
    · have := steps_le k (step s); omega
    · omega

/-- Where a run came to no end, it took all its steps. -/
theorem steps_all : ∀ (k : Nat) (s : St), (runs k s).en = 0 → steps k s = k
  | 0, s, _ => rfl
  | k + 1, s, h => by
    unfold runs at h
    unfold steps
    split at h
    · rename_i h0
      rw [if_pos h0, steps_all k _ h]
    · rename_i h0
      exact absurd h h0

end M
end Go.Proofs.Ytmlmjkojhfjjlaa
