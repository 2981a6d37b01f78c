/- The document's Good and Encode at whatever fields: where there is no instruction, both say so. -/
import Derived.Test.YtmlmjkojhfjjlaaRefD
namespace Go.Proofs.Ytmlmjkojhfjjlaa
set_option linter.unusedVariables false
set_option linter.unusedSimpArgs false
open Go.RowKit

set_option maxHeartbeats 2000000 in
set_option maxRecDepth 100000 in
theorem rgood_rng (f : Int) (u v : Bool) (a b c op im : Int) (w : World)
    (h : decide (0 ≤ a ∧ a ≤ 15) = false ∨ (decide (0 ≤ a ∧ a ≤ 15) = true ∧ (decide (0 ≤ b ∧ b ≤ 15) = false ∨ (decide (0 ≤ b ∧ b ≤ 15) = true ∧ (decide (0 ≤ c ∧ c ≤ 15) = false ∨ (decide (0 ≤ c ∧ c ≤ 15) = true ∧ decide (0 ≤ op ∧ op ≤ 11) = false)))))) :
    Calls Try.prog 49 #[iv f u v a b c op im] w (RetB (.bool false) w) := by
  rcases h with a0 | ⟨a0, b0 | ⟨b0, c0 | ⟨c0, o0⟩⟩⟩
  all_goals
    go_enter Try.func49, Try.ntmps49
    go_wp2_with (first | (go_at_call 66; refine (rin_any _ _ _ _).mono ?_; rintro e w' ⟨rfl, rfl⟩))
    all_goals
      go_ret
      exact ⟨ret_b (by first | rfl | (simp <;> omega)), (Below.refl _ _).alloc (Nat.le_refl _) _⟩

set_option maxHeartbeats 4000000 in
set_option maxRecDepth 100000 in
theorem rgood_f (f : Int) (u v : Bool) (a b c op im : Int) (w : World) (a0 : decide (0 ≤ a ∧ a ≤ 15) = true) (b0 : decide (0 ≤ b ∧ b ≤ 15) = true) (c0 : decide (0 ≤ c ∧ c ≤ 15) = true) (o0 : decide (0 ≤ op ∧ op ≤ 11) = true)
    (h0 : (f == 0) = false) (h1 : (f == 1) = false) (h2 : (f == 2) = false) (h3 : (f == 3) = false) :
    Calls Try.prog 49 #[iv f u v a b c op im] w (RetB (.bool false) w) := by
  cases u
  all_goals
    go_enter Try.func49, Try.ntmps49
    go_wp2_with (first | (go_at_call 66; refine (rin_any _ _ _ _).mono ?_; rintro e w' ⟨rfl, rfl⟩))
    all_goals
      go_ret
      exact ⟨ret_b (by first | rfl | (simp <;> omega)), (Below.refl _ _).alloc (Nat.le_refl _) _⟩

set_option maxHeartbeats 4000000 in
set_option maxRecDepth 100000 in
theorem rgood_0 (u v : Bool) (a b c op im : Int) (w : World) (a0 : decide (0 ≤ a ∧ a ≤ 15) = true) (b0 : decide (0 ≤ b ∧ b ≤ 15) = true) (c0 : decide (0 ≤ c ∧ c ≤ 15) = true) (o0 : decide (0 ≤ op ∧ op ≤ 11) = true)
    (h0 : (im == 0) = false) :
    Calls Try.prog 49 #[iv 0 u v a b c op im] w (RetB (.bool false) w) := by
  cases u <;> cases v
  all_goals
    go_enter Try.func49, Try.ntmps49
    go_wp2_with (first | (go_at_call 66; refine (rin_any _ _ _ _).mono ?_; rintro e w' ⟨rfl, rfl⟩))
    all_goals
      go_ret
      exact ⟨ret_b (by first | rfl | simp_all | (simp <;> omega)), (Below.refl _ _).alloc (Nat.le_refl _) _⟩

set_option maxHeartbeats 4000000 in
set_option maxRecDepth 100000 in
theorem rgood_1 (u v : Bool) (a b c op im : Int) (w : World) (a0 : decide (0 ≤ a ∧ a ≤ 15) = true) (b0 : decide (0 ≤ b ∧ b ≤ 15) = true) (c0 : decide (0 ≤ c ∧ c ≤ 15) = true) (o0 : decide (0 ≤ op ∧ op ≤ 11) = true)
    (h0 : (c == 0) = false ∨ (c == 0) = true ∧ decide (0 ≤ im ∧ im ≤ 65535) = false) :
    Calls Try.prog 49 #[iv 1 u v a b c op im] w (RetB (.bool false) w) := by
  rcases h0 with h0 | ⟨h0, h1⟩ <;> cases u
  all_goals
    go_enter Try.func49, Try.ntmps49
    go_wp2_with (first | (go_at_call 66; refine (rin_any _ _ _ _).mono ?_; rintro e w' ⟨rfl, rfl⟩))
    all_goals
      go_ret
      exact ⟨ret_b (by first | rfl | simp_all | (simp <;> omega)), (Below.refl _ _).alloc (Nat.le_refl _) _⟩

set_option maxHeartbeats 4000000 in
set_option maxRecDepth 100000 in
theorem rgood_2 (u v : Bool) (a b c op im : Int) (w : World) (a0 : decide (0 ≤ a ∧ a ≤ 15) = true) (b0 : decide (0 ≤ b ∧ b ≤ 15) = true) (c0 : decide (0 ≤ c ∧ c ≤ 15) = true) (o0 : decide (0 ≤ op ∧ op ≤ 11) = true)
    (h0 : (c == 0) = false ∨ (c == 0) = true ∧ ((op == 0) = false ∨ (op == 0) = true ∧ M.fits im 20 = false)) :
    Calls Try.prog 49 #[iv 2 u v a b c op im] w (RetB (.bool false) w) := by
  rcases h0 with h0 | ⟨h0, h1 | ⟨h1, h2⟩⟩ <;> cases u
  all_goals
    go_enter Try.func49, Try.ntmps49
    go_wp2_with (first | (go_at_call 66; refine (rin_any _ _ _ _).mono ?_; rintro e w' ⟨rfl, rfl⟩) | (go_at_call 67; refine (rfits_any _ _ _ (by decide) (by decide)).mono ?_; rintro e w' ⟨rfl, rfl⟩))
    all_goals
      go_ret
      exact ⟨ret_b (by first | rfl | simp_all | (simp <;> omega)), (Below.refl _ _).alloc (Nat.le_refl _) _⟩

set_option maxHeartbeats 4000000 in
set_option maxRecDepth 100000 in
theorem rgood_3 (u v : Bool) (a b c op im : Int) (w : World) (a0 : decide (0 ≤ a ∧ a ≤ 15) = true) (b0 : decide (0 ≤ b ∧ b ≤ 15) = true) (c0 : decide (0 ≤ c ∧ c ≤ 15) = true) (o0 : decide (0 ≤ op ∧ op ≤ 11) = true)
    (h0 : (b == 0) = false ∨ (b == 0) = true ∧ ((op == 0) = false ∨ (op == 0) = true ∧ (u = true ∧ ((c == 0) = false ∨ (c == 0) = true ∧ M.fits im 24 = false) ∨ u = false ∧ (im == 0) = false))) :
    Calls Try.prog 49 #[iv 3 u v a b c op im] w (RetB (.bool false) w) := by
  rcases h0 with h0 | ⟨h0, h1 | ⟨h1, ⟨rfl, h2 | ⟨h2, h3⟩⟩ | ⟨rfl, h2⟩⟩⟩
  rotate_right 3
  all_goals try cases u
  all_goals
    go_enter Try.func49, Try.ntmps49
    go_wp2_with (first | (go_at_call 66; refine (rin_any _ _ _ _).mono ?_; rintro e w' ⟨rfl, rfl⟩) | (go_at_call 67; refine (rfits_any _ _ _ (by decide) (by decide)).mono ?_; rintro e w' ⟨rfl, rfl⟩))
    all_goals
      go_ret
      exact ⟨ret_b (by first | rfl | simp_all | (simp <;> omega)), (Below.refl _ _).alloc (Nat.le_refl _) _⟩

theorem fits20_no {im : Int} (h : ¬ (-524288 ≤ im ∧ im < 524288)) : M.fits im 20 = false := by
  unfold M.fits
  have e : (2 : Int) ^ ((20 : Int) - 1).toNat = 524288 := by decide
  rw [e]; exact decide_eq_false h
theorem fits24_no {im : Int} (h : ¬ (-8388608 ≤ im ∧ im < 8388608)) : M.fits im 24 = false := by
  unfold M.fits
  have e : (2 : Int) ^ ((24 : Int) - 1).toNat = 8388608 := by decide
  rw [e]; exact decide_eq_false h

/-- Where there is no instruction the document's Good says so. -/
theorem rgood_any_no (f : Int) (u v : Bool) (a b c op im : Int) (w : World) (hg : ¬ M.Good f u v a b c op im) :
    Calls Try.prog 49 #[iv f u v a b c op im] w (RetB (.bool false) w) := by
  by_cases ha : 0 ≤ a ∧ a ≤ 15
  · by_cases hb : 0 ≤ b ∧ b ≤ 15
    · by_cases hc : 0 ≤ c ∧ c ≤ 15
      · by_cases ho : 0 ≤ op ∧ op ≤ 11
        · have a0 := decide_eq_true ha
          have b0 := decide_eq_true hb
          have c0 := decide_eq_true hc
          have o0 := decide_eq_true ho
          have hgood : (f = 0 ∧ (u = true → op = 0 ∨ 8 ≤ op ∧ op ≤ 10) ∧ (v = true → op = 0 ∧ u = true) ∧ im = 0) ∨ (f = 1 ∧ (u = true → op = 0 ∨ 8 ≤ op ∧ op ≤ 10) ∧ c = 0 ∧ 0 ≤ im ∧ im < 65536) ∨ (f = 2 ∧ c = 0 ∧ op = 0 ∧ -524288 ≤ im ∧ im < 524288) ∨
              (f = 3 ∧ b = 0 ∧ op = 0 ∧ (u = true ∧ c = 0 ∧ -8388608 ≤ im ∧ im < 8388608 ∨ u = false ∧ im = 0)) → False := fun h => hg ⟨⟨ha.1, by omega, hb.1, by omega, hc.1, by omega, ho.1, ho.2⟩, h⟩
          by_cases f0 : f = 0
          · subst f0
            by_cases hi : im = 0
            · by_cases hu : u = true → op = 0 ∨ 8 ≤ op ∧ op ≤ 10
              · by_cases hv : v = true → op = 0 ∧ u = true
                · exact (hgood (.inl ⟨rfl, hu, hv, hi⟩)).elim
                · obtain ⟨rfl, hv⟩ := Classical.not_imp.1 hv
                  exact rgood_v u a b c op im w ha.1 (by omega) hb.1 (by omega) hc.1 (by omega) ho.1 ho.2 (fun h => hv fun _ => h)
              · obtain ⟨rfl, hu⟩ := Classical.not_imp.1 hu
                exact rgood_u 0 v a b c op im w (.inl rfl) ha.1 (by omega) hb.1 (by omega) hc.1 (by omega) ho.1 ho.2 (fun h => hu fun _ => h)
            · exact rgood_0 u v a b c op im w a0 b0 c0 o0 (by simpa using hi)
          · by_cases f1 : f = 1
            · subst f1
              by_cases hu : u = true → op = 0 ∨ 8 ≤ op ∧ op ≤ 10
              · refine rgood_1 u v a b c op im w a0 b0 c0 o0 ?_
                by_cases hc0 : c = 0
                · exact .inr ⟨by simpa using hc0, decide_eq_false fun hi => hgood (.inr (.inl ⟨rfl, hu, hc0, hi.1, by omega⟩))⟩
                · exact .inl (by simpa using hc0)
              · obtain ⟨rfl, hu⟩ := Classical.not_imp.1 hu
                exact rgood_u 1 v a b c op im w (.inr rfl) ha.1 (by omega) hb.1 (by omega) hc.1 (by omega) ho.1 ho.2 (fun h => hu fun _ => h)
            · by_cases f2 : f = 2
              · subst f2
                refine rgood_2 u v a b c op im w a0 b0 c0 o0 ?_
                by_cases hc0 : c = 0
                · refine .inr ⟨by simpa using hc0, ?_⟩
                  by_cases ho0 : op = 0
                  · exact .inr ⟨by simpa using ho0, fits20_no fun hi => hgood (.inr (.inr (.inl ⟨rfl, hc0, ho0, hi.1, hi.2⟩)))⟩
                  · exact .inl (by simpa using ho0)
                · exact .inl (by simpa using hc0)
              · by_cases f3 : f = 3
                · subst f3
                  refine rgood_3 u v a b c op im w a0 b0 c0 o0 ?_
                  by_cases hb0 : b = 0
                  · refine .inr ⟨by simpa using hb0, ?_⟩
                    by_cases ho0 : op = 0
                    · refine .inr ⟨by simpa using ho0, ?_⟩
                      cases u
                      · exact .inr ⟨rfl, by simpa using fun hi => hgood (.inr (.inr (.inr ⟨rfl, hb0, ho0, .inr ⟨rfl, hi⟩⟩)))⟩
                      · refine .inl ⟨rfl, ?_⟩
                        by_cases hc0 : c = 0
                        · exact .inr ⟨by simpa using hc0, fits24_no fun hi => hgood (.inr (.inr (.inr ⟨rfl, hb0, ho0, .inl ⟨rfl, hc0, hi.1, hi.2⟩⟩)))⟩
                        · exact .inl (by simpa using hc0)
                    · exact .inl (by simpa using ho0)
                  · exact .inl (by simpa using hb0)
                · exact rgood_f f u v a b c op im w a0 b0 c0 o0 (by simpa using f0) (by simpa using f1) (by simpa using f2) (by simpa using f3)
        · exact rgood_rng f u v a b c op im w (.inr ⟨decide_eq_true ha, .inr ⟨decide_eq_true hb, .inr ⟨decide_eq_true hc, decide_eq_false ho⟩⟩⟩)
      · exact rgood_rng f u v a b c op im w (.inr ⟨decide_eq_true ha, .inr ⟨decide_eq_true hb, .inl (decide_eq_false hc)⟩⟩)
    · exact rgood_rng f u v a b c op im w (.inr ⟨decide_eq_true ha, .inl (decide_eq_false hb)⟩)
  · exact rgood_rng f u v a b c op im w (.inl (decide_eq_false ha))

set_option maxHeartbeats 1000000 in
set_option maxRecDepth 100000 in
theorem renc_any_no (f : Int) (u v : Bool) (a b c op im : Int) (w : World) (hg : ¬ M.Good f u v a b c op im) :
    Calls Try.prog 35 #[iv f u v a b c op im] w (RetB (.tuple #[.int .u32 0, .int .i64 20]) w) := by
  have hG := Lib.hid (fun w0 => rgood_any_no f u v a b c op im w0 hg)
  clear hg
  go_enter Try.func35, Try.ntmps35
  go_wp2_with (first
    | (go_at_call 49; refine (hG.out _).mono ?_; rintro e w' ⟨rfl, hB⟩)
    | fail)
  go_ret2
  exact ⟨rfl, ((Below.refl _ w).alloc (Nat.le_refl _) _).trans (hB.mono (by simp))⟩

end Go.Proofs.Ytmlmjkojhfjjlaa
