/- Contracts of the document's Good where there is no instruction, and of its Decode. -/
import Derived.Test.YtmlmjkojhfjjlaaRefS
import Derived.Test.YtmlmjkojhfjjlaaRefG
namespace Go.Proofs.Ytmlmjkojhfjjlaa
set_option linter.unusedVariables false
set_option linter.unusedSimpArgs false
open Go.RowKit

set_option maxHeartbeats 1000000 in
set_option maxRecDepth 100000 in
theorem rgood_op (f : Int) (u v : Bool) (a b c op im : Int) (w : World) (ha : 0 ≤ a) (ha' : a < 16) (hb : 0 ≤ b) (hb' : b < 16) (hc : 0 ≤ c) (hc' : c < 16) (ho : 11 < op) :
    Calls Try.prog 49 #[iv f u v a b c op im] w (RetB (.bool false) w) := by
  have a0 : decide (0 ≤ a ∧ a ≤ 15) = true := decide_eq_true (by omega)
  have b0 : decide (0 ≤ b ∧ b ≤ 15) = true := decide_eq_true (by omega)
  have c0 : decide (0 ≤ c ∧ c ≤ 15) = true := decide_eq_true (by omega)
  have o0 : decide (0 ≤ op ∧ op ≤ 11) = false := decide_eq_false (by omega)
  go_enter Try.func49, Try.ntmps49
  go_wp2_with (first | (go_at_call 66; refine (rin_any _ _ _ _).mono ?_; rintro e w' ⟨rfl, rfl⟩))
  all_goals
    go_ret
    exact ⟨ret_b (by first | rfl | (simp <;> omega)), (Below.refl _ _).alloc (Nat.le_refl _) _⟩

set_option maxHeartbeats 1000000 in
set_option maxRecDepth 100000 in
theorem rgood_u (f : Int) (v : Bool) (a b c op im : Int) (w : World) (hf : f = 0 ∨ f = 1) (ha : 0 ≤ a) (ha' : a < 16) (hb : 0 ≤ b) (hb' : b < 16) (hc : 0 ≤ c) (hc' : c < 16) (ho : 0 ≤ op) (ho' : op ≤ 11) (hn : ¬ (op = 0 ∨ 8 ≤ op ∧ op ≤ 10)) :
    Calls Try.prog 49 #[iv f true v a b c op im] w (RetB (.bool false) w) := by
  have a0 : decide (0 ≤ a ∧ a ≤ 15) = true := decide_eq_true (by omega)
  have b0 : decide (0 ≤ b ∧ b ≤ 15) = true := decide_eq_true (by omega)
  have c0 : decide (0 ≤ c ∧ c ≤ 15) = true := decide_eq_true (by omega)
  have o0 : decide (0 ≤ op ∧ op ≤ 11) = true := decide_eq_true (by omega)
  have e0 : (op == 0) = false := beq_false_of_ne (by omega)
  have e8 : (op == 8) = false := beq_false_of_ne (by omega)
  have e9 : (op == 9) = false := beq_false_of_ne (by omega)
  have e10 : (op == 10) = false := beq_false_of_ne (by omega)
  rcases hf with rfl | rfl
  all_goals
    go_enter Try.func49, Try.ntmps49
    go_wp2_with (first | (go_at_call 66; refine (rin_any _ _ _ _).mono ?_; rintro e w' ⟨rfl, rfl⟩))
    all_goals
      go_ret
      exact ⟨ret_b (by first | rfl | (simp <;> omega)), (Below.refl _ _).alloc (Nat.le_refl _) _⟩

set_option maxHeartbeats 1000000 in
set_option maxRecDepth 100000 in
theorem rgood_v (u : Bool) (a b c op im : Int) (w : World) (ha : 0 ≤ a) (ha' : a < 16) (hb : 0 ≤ b) (hb' : b < 16) (hc : 0 ≤ c) (hc' : c < 16) (ho : 0 ≤ op) (ho' : op ≤ 11) (hn : ¬ (op = 0 ∧ u = true)) :
    Calls Try.prog 49 #[iv 0 u true a b c op im] w (RetB (.bool false) w) := by
  cases u
  · have a0 : decide (0 ≤ a ∧ a ≤ 15) = true := decide_eq_true (by omega)
    have b0 : decide (0 ≤ b ∧ b ≤ 15) = true := decide_eq_true (by omega)
    have c0 : decide (0 ≤ c ∧ c ≤ 15) = true := decide_eq_true (by omega)
    have o0 : decide (0 ≤ op ∧ op ≤ 11) = true := decide_eq_true (by omega)
    clear hn
    go_enter Try.func49, Try.ntmps49
    go_wp2_with (first | (go_at_call 66; refine (rin_any _ _ _ _).mono ?_; rintro e w' ⟨rfl, rfl⟩))
    all_goals
      go_ret
      exact ⟨ret_b (by first | rfl | (simp <;> omega)), (Below.refl _ _).alloc (Nat.le_refl _) _⟩
  · by_cases h8 : 8 ≤ op ∧ op ≤ 10
    · have a0 : decide (0 ≤ a ∧ a ≤ 15) = true := decide_eq_true (by omega)
      have b0 : decide (0 ≤ b ∧ b ≤ 15) = true := decide_eq_true (by omega)
      have c0 : decide (0 ≤ c ∧ c ≤ 15) = true := decide_eq_true (by omega)
      have o0 : decide (0 ≤ op ∧ op ≤ 11) = true := decide_eq_true (by omega)
      have e0 : (op == 0) = false := beq_false_of_ne (by omega)
      clear hn
      go_enter Try.func49, Try.ntmps49
      go_wp2_with (first | (go_at_call 66; refine (rin_any _ _ _ _).mono ?_; rintro e w' ⟨rfl, rfl⟩))
      all_goals
        go_ret
        exact ⟨ret_b (by first | rfl | (simp <;> omega)), (Below.refl _ _).alloc (Nat.le_refl _) _⟩
    · exact rgood_u 0 true a b c op im w (.inl rfl) ha ha' hb hb' hc hc' ho ho' (by intro h; rcases h with h | h; exact hn ⟨h, rfl⟩; exact h8 h)

/-- What the fields of a word are like, whether it is an instruction or not. -/
def Wide (f : Int) (u v : Bool) (a b c op im : Int) : Prop :=
  0 ≤ f ∧ f ≤ 3 ∧ 0 ≤ a ∧ a < 16 ∧ 0 ≤ b ∧ b < 16 ∧ 0 ≤ c ∧ c < 16 ∧ 0 ≤ op ∧ op < 16 ∧ (f = 0 → im = 0) ∧ (f = 1 → c = 0 ∧ 0 ≤ im ∧ im < 65536) ∧ (f = 2 → c = 0 ∧ op = 0 ∧ -524288 ≤ im ∧ im < 524288) ∧
    (f = 3 → b = 0 ∧ op = 0 ∧ (u = true → c = 0 ∧ -8388608 ≤ im ∧ im < 8388608) ∧ (u = false → im = 0))

theorem wide_fields (W : Int) (h0 : 0 ≤ W) (h1 : W < 4294967296) : Wide (M.fields W).f (M.fields W).u (M.fields W).v (M.fields W).a (M.fields W).b (M.fields W).c (M.fields W).op (M.fields W).im := by
  unfold Wide M.fields M.ext20 M.ext24
  dsimp only
  generalize decide (W / 536870912 % 2 = 1) = u
  refine ⟨by omega, by omega, by omega, by omega, ?_, ?_, ?_, ?_, ?_, ?_, ?_, ?_, ?_, ?_⟩
  · split <;> omega
  · split <;> omega
  · split; omega; split <;> omega
  · split; omega; split <;> omega
  · split <;> omega
  · split <;> omega
  · intro h
    rw [if_neg (by omega), if_neg (by omega), if_neg (by omega)]
  · intro h
    rw [if_neg (by omega), if_neg (by omega), if_pos h]
    omega
  · intro h
    rw [if_neg (by omega), if_neg (by omega), if_neg (by omega), if_neg (by omega), if_pos h]
    refine ⟨rfl, rfl, ?_, ?_⟩ <;> split <;> omega
  · intro h
    refine ⟨by rw [if_pos h], by rw [if_neg (by omega)], ?_, ?_⟩
    · rintro rfl
      refine ⟨by rw [if_neg (by omega), if_neg (by simp)], ?_, ?_⟩ <;> rw [if_neg (by omega), if_neg (by omega), if_pos ⟨h, rfl⟩] <;> split <;> omega
    · rintro rfl
      rw [if_neg (by omega), if_neg (by omega), if_neg (by simp)]

/-- Where the fields of a word are no instruction, the document's Good says so. -/
theorem rgood_no (f : Int) (u v : Bool) (a b c op im : Int) (w : World) (hW : Wide f u v a b c op im) (hg : ¬ M.Good f u v a b c op im) :
    Calls Try.prog 49 #[iv f u v a b c op im] w (RetB (.bool false) w) := by
  obtain ⟨f0, f1, ha, ha', hb, hb', hc, hc', ho, ho', k0, k1, k2, k3⟩ := hW
  by_cases h11 : 11 < op
  · exact rgood_op f u v a b c op im w ha ha' hb hb' hc hc' h11
  · by_cases h2 : f = 2
    · obtain ⟨e1, e2, e3, e4⟩ := k2 h2
      exact absurd ⟨⟨ha, ha', hb, hb', hc, hc', ho, by omega⟩, .inr (.inr (.inl ⟨h2, e1, e2, e3, e4⟩))⟩ hg
    · by_cases h3 : f = 3
      · obtain ⟨e1, e2, e3, e4⟩ := k3 h3
        refine absurd ⟨⟨ha, ha', hb, hb', hc, hc', ho, by omega⟩, .inr (.inr (.inr ⟨h3, e1, e2, ?_⟩))⟩ hg
        cases u
        · exact .inr ⟨rfl, e4 rfl⟩
        · exact .inl ⟨rfl, e3 rfl⟩
      · by_cases hu : u = true ∧ ¬ (op = 0 ∨ 8 ≤ op ∧ op ≤ 10)
        · obtain ⟨rfl, hu⟩ := hu
          exact rgood_u f v a b c op im w (by omega) ha ha' hb hb' hc hc' ho (by omega) hu
        · have hu' : u = true → op = 0 ∨ 8 ≤ op ∧ op ≤ 10 := fun h => Classical.not_not.1 fun h' => hu ⟨h, h'⟩
          by_cases h1 : f = 1
          · obtain ⟨e1, e2, e3⟩ := k1 h1
            exact absurd ⟨⟨ha, ha', hb, hb', hc, hc', ho, by omega⟩, .inr (.inl ⟨h1, hu', e1, e2, e3⟩)⟩ hg
          · obtain rfl : f = 0 := by omega
            by_cases hv : v = true ∧ ¬ (op = 0 ∧ u = true)
            · obtain ⟨rfl, hv⟩ := hv
              exact rgood_v u a b c op im w ha ha' hb hb' hc hc' ho (by omega) hv
            · exact absurd ⟨⟨ha, ha', hb, hb', hc, hc', ho, by omega⟩, .inl ⟨rfl, hu', fun h => Classical.not_not.1 fun h' => hv ⟨h, h'⟩, k0 rfl⟩⟩ hg

set_option maxHeartbeats 1000000 in
set_option maxRecDepth 100000 in
theorem renc_no (f : Int) (u v : Bool) (a b c op im : Int) (w : World) (hW : Wide f u v a b c op im) (hg : ¬ M.Good f u v a b c op im) :
    Calls Try.prog 35 #[iv f u v a b c op im] w (RetB (.tuple #[.int .u32 0, .int .i64 20]) w) := by
  have hG := Lib.hid (fun w0 => rgood_no f u v a b c op im w0 hW hg)
  clear hW hg
  go_enter Try.func35, Try.ntmps35
  go_wp2_with (first
    | (go_at_call 49; refine (hG.out _).mono ?_; rintro e w' ⟨rfl, hB⟩)
    | fail)
  go_ret2
  exact ⟨rfl, ((Below.refl _ w).alloc (Nat.le_refl _) _).trans (hB.mono (by simp))⟩

set_option maxHeartbeats 1000000 in
set_option maxRecDepth 100000 in
theorem rpart_any (x lo n : Int) (w : World) (hx : 0 ≤ x) (hx' : x < 4294967296) (h0 : 0 ≤ lo) (h1 : 1 ≤ n) (h2 : lo ≤ 31) (h3 : n ≤ 32 - lo) :
    Calls Try.prog 82 #[.int .u32 x, .int .i64 lo, .int .i64 n] w (RetD (.int .i64 (M.get x lo n)) w) := by
  have hb : 0 ≤ M.get x lo n ∧ M.get x lo n < 4294967296 := by
    obtain ⟨l, rfl⟩ := Int.eq_ofNat_of_zero_le h0
    obtain ⟨m, rfl⟩ := Int.eq_ofNat_of_zero_le (show 0 ≤ n by omega)
    have q0 := pow_ge1 m
    have q1 := pow_le32 m (by omega)
    show 0 ≤ x / 2 ^ l % 2 ^ m ∧ x / 2 ^ l % 2 ^ m < 4294967296
    have g0 := Int.emod_nonneg (x / 2 ^ l) (show (2 : Int) ^ m ≠ 0 by omega)
    have g1 := Int.emod_lt_of_pos (x / 2 ^ l) (show 0 < (2 : Int) ^ m by omega)
    omega
  have HG := Lib.hid (fun w0 => rget_any x lo n w0 hx hx' h0 h1 h2 h3)
  generalize M.get x lo n = G at *
  go_enter Try.func82, Try.ntmps82
  go_wp2_with (first
    | (go_at_call 69; refine (HG.out _).mono ?_; rintro e w' ⟨rfl, q, rfl⟩)
    | fail)
  go_ret
  exact ⟨ret_i rfl, q, rfl⟩

end Go.Proofs.Ytmlmjkojhfjjlaa
