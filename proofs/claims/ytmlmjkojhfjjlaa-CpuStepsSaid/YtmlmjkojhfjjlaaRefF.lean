/- The document's Encode of instructions that there are. -/
import Derived.Test.YtmlmjkojhfjjlaaRefE
namespace Go.Proofs.Ytmlmjkojhfjjlaa
set_option linter.unusedVariables false
set_option linter.unusedSimpArgs false
open Go.RowKit

theorem putM_bd (x lo n v : Int) : 0 ≤ putM x lo n v ∧ putM x lo n v < 4294967296 := by unfold putM; omega

theorem put_30 (v : Int) (h0 : 0 ≤ v) (h1 : v < 4) : putM 0 30 2 v = v * 1073741824 := by
  have e1 : (2 : Int) ^ (30 : Int).toNat = 1073741824 := by decide
  have e2 : (2 : Int) ^ (2 : Int).toNat = 4 := by decide
  unfold putM
  rw [e1, e2]
  omega
theorem put_29_1 (x v : Int) (hx : x % 1073741824 = 0) (hx0 : 0 ≤ x) (hx1 : x < 4294967296) (h0 : 0 ≤ v) (h1 : v < 2) : putM x 29 1 v = x + v * 536870912 := by
  have e1 : (2 : Int) ^ (29 : Int).toNat = 536870912 := by decide
  have e2 : (2 : Int) ^ (1 : Int).toNat = 2 := by decide
  unfold putM
  rw [e1, e2]
  omega
theorem put_28_1 (x v : Int) (hx : x % 536870912 = 0) (hx0 : 0 ≤ x) (hx1 : x < 4294967296) (h0 : 0 ≤ v) (h1 : v < 2) : putM x 28 1 v = x + v * 268435456 := by
  have e1 : (2 : Int) ^ (28 : Int).toNat = 268435456 := by decide
  have e2 : (2 : Int) ^ (1 : Int).toNat = 2 := by decide
  unfold putM
  rw [e1, e2]
  omega
theorem put_24_4 (x v : Int) (hx : x % 268435456 = 0) (hx0 : 0 ≤ x) (hx1 : x < 4294967296) (h0 : 0 ≤ v) (h1 : v < 16) : putM x 24 4 v = x + v * 16777216 := by
  have e1 : (2 : Int) ^ (24 : Int).toNat = 16777216 := by decide
  have e2 : (2 : Int) ^ (4 : Int).toNat = 16 := by decide
  unfold putM
  rw [e1, e2]
  omega
theorem put_20_4 (x v : Int) (hx : x % 16777216 = 0) (hx0 : 0 ≤ x) (hx1 : x < 4294967296) (h0 : 0 ≤ v) (h1 : v < 16) : putM x 20 4 v = x + v * 1048576 := by
  have e1 : (2 : Int) ^ (20 : Int).toNat = 1048576 := by decide
  have e2 : (2 : Int) ^ (4 : Int).toNat = 16 := by decide
  unfold putM
  rw [e1, e2]
  omega
theorem put_16_4 (x v : Int) (hx : x % 1048576 = 0) (hx0 : 0 ≤ x) (hx1 : x < 4294967296) (h0 : 0 ≤ v) (h1 : v < 16) : putM x 16 4 v = x + v * 65536 := by
  have e1 : (2 : Int) ^ (16 : Int).toNat = 65536 := by decide
  have e2 : (2 : Int) ^ (4 : Int).toNat = 16 := by decide
  unfold putM
  rw [e1, e2]
  omega
theorem put_0_4 (x v : Int) (hx : x % 16 = 0) (hx0 : 0 ≤ x) (hx1 : x < 4294967296) (h0 : 0 ≤ v) (h1 : v < 16) : putM x 0 4 v = x + v * 1 := by
  have e1 : (2 : Int) ^ (0 : Int).toNat = 1 := by decide
  have e2 : (2 : Int) ^ (4 : Int).toNat = 16 := by decide
  unfold putM
  rw [e1, e2]
  omega
theorem put_0_16 (x v : Int) (hx : x % 65536 = 0) (hx0 : 0 ≤ x) (hx1 : x < 4294967296) (h0 : 0 ≤ v) (h1 : v < 65536) : putM x 0 16 v = x + v * 1 := by
  have e1 : (2 : Int) ^ (0 : Int).toNat = 1 := by decide
  have e2 : (2 : Int) ^ (16 : Int).toNat = 65536 := by decide
  unfold putM
  rw [e1, e2]
  omega
theorem put_0_20 (x v : Int) (hx : x % 1048576 = 0) (hx0 : 0 ≤ x) (hx1 : x < 4294967296) (h0 : 0 ≤ v) (h1 : v < 1048576) : putM x 0 20 v = x + v * 1 := by
  have e1 : (2 : Int) ^ (0 : Int).toNat = 1 := by decide
  have e2 : (2 : Int) ^ (20 : Int).toNat = 1048576 := by decide
  unfold putM
  rw [e1, e2]
  omega
theorem put_0_24 (x v : Int) (hx : x % 16777216 = 0) (hx0 : 0 ≤ x) (hx1 : x < 4294967296) (h0 : 0 ≤ v) (h1 : v < 16777216) : putM x 0 24 v = x + v * 1 := by
  have e1 : (2 : Int) ^ (0 : Int).toNat = 1 := by decide
  have e2 : (2 : Int) ^ (24 : Int).toNat = 16777216 := by decide
  unfold putM
  rw [e1, e2]
  omega

set_option maxHeartbeats 1000000 in
set_option maxRecDepth 100000 in
theorem rbit_any (b : Bool) (w : World) : Calls Try.prog 51 #[.bool b] w (Ret (.int .u32 (M.bit b 1)) w) := by
  cases b
  all_goals
    go_enter Try.func51, Try.ntmps51
    go_wp2
    go_ret
    exact ⟨rfl, rfl⟩

theorem put_m20 (x v : Int) (hx : x % 1048576 = 0) (hx0 : 0 ≤ x) (hx1 : x < 4294967296) : putM x 0 20 (v % 4294967296) = x + v % 1048576 := by
  have e1 : (2 : Int) ^ (0 : Int).toNat = 1 := by decide
  have e2 : (2 : Int) ^ (20 : Int).toNat = 1048576 := by decide
  unfold putM
  rw [e1, e2]
  omega
theorem put_m24 (x v : Int) (hx : x % 16777216 = 0) (hx0 : 0 ≤ x) (hx1 : x < 4294967296) : putM x 0 24 (v % 4294967296) = x + v % 16777216 := by
  have e1 : (2 : Int) ^ (0 : Int).toNat = 1 := by decide
  have e2 : (2 : Int) ^ (24 : Int).toNat = 16777216 := by decide
  unfold putM
  rw [e1, e2]
  omega


set_option maxHeartbeats 1000000 in
set_option maxRecDepth 100000 in
theorem renc1 (u v : Bool) (a b op im : Int) (w : World) (hG : M.Good 1 u v a b 0 op im) :
    Calls Try.prog 35 #[iv 1 u v a b 0 op im] w (RetB (.tuple #[.int .u32 (M.enc 1 u v a b 0 op im), .int .i64 0]) w) := by
  have hgood := fun w0 => rgood1 u v a b op im w0 hG
  obtain ⟨⟨ha, ha', hb, hb', hc, hc', ho, ho'⟩, hk⟩ := hG
  cases u <;> cases v
  all_goals try simp at hk
  all_goals
    go_enter Try.func35, Try.ntmps35
    go_wp2_with (first | (go_at_call 49; refine (hgood _).mono ?_; rintro e w1 ⟨rfl, hb1⟩; obtain ⟨hcc, hff⟩ := bcell hb1) | (go_at_call 51; refine (rbit_any _ _).mono ?_; rintro e w' ⟨rfl, rfl⟩) | (go_at_call 52; refine (rword_any _ _ (by omega) (by omega)).mono ?_; rintro e w' ⟨rfl, rfl⟩) | (go_at_call 50; refine (rput_any _ _ _ _ _ (by first | with_reducible exact (putM_bd _ _ _ _).1 | decide) (by first | with_reducible exact (putM_bd _ _ _ _).2 | decide) (by first | omega | decide) (by first | omega | decide) (by decide) (by decide) (by decide) (by decide)).mono ?_; rintro e w' ⟨rfl, nd, rfl⟩))
    go_ret2
    refine ⟨ret_ii ?_ rfl, ?_⟩
    · simp only [M.bit, M.enc, if_true, if_false, Bool.false_eq_true]
      clear hcc hff
      first
        | (rw [put_30, put_29_1, put_28_1, put_24_4, put_20_4, put_16_4, put_0_16] <;> (first | omega | decide))
    · repeat (first | (with_reducible exact Below.refl _ _) | (with_reducible apply below_drewN) | (with_reducible refine Below.alloc ?_ (by simp <;> omega) _) | (with_reducible refine Below.trans ?_ (hb1.mono (by simp <;> omega))))


set_option maxHeartbeats 1000000 in
set_option maxRecDepth 100000 in
theorem renc2 (u v : Bool) (a b im : Int) (w : World) (hG : M.Good 2 u v a b 0 0 im) :
    Calls Try.prog 35 #[iv 2 u v a b 0 0 im] w (RetB (.tuple #[.int .u32 (M.enc 2 u v a b 0 0 im), .int .i64 0]) w) := by
  have hgood := fun w0 => rgood2 u v a b im w0 hG
  obtain ⟨⟨ha, ha', hb, hb', hc, hc', ho, ho'⟩, hk⟩ := hG
  cases u <;> cases v
  all_goals try simp at hk
  all_goals
    go_enter Try.func35, Try.ntmps35
    go_wp2_with (first | (go_at_call 49; refine (hgood _).mono ?_; rintro e w1 ⟨rfl, hb1⟩; obtain ⟨hcc, hff⟩ := bcell hb1) | (go_at_call 51; refine (rbit_any _ _).mono ?_; rintro e w' ⟨rfl, rfl⟩) | (go_at_call 52; refine (rword_any _ _ (by omega) (by omega)).mono ?_; rintro e w' ⟨rfl, rfl⟩) | (go_at_call 50; refine (rput_any _ _ _ _ _ (by first | with_reducible exact (putM_bd _ _ _ _).1 | decide) (by first | with_reducible exact (putM_bd _ _ _ _).2 | decide) (by first | omega | decide) (by first | omega | decide) (by decide) (by decide) (by decide) (by decide)).mono ?_; rintro e w' ⟨rfl, nd, rfl⟩))
    go_ret2
    refine ⟨ret_ii ?_ rfl, ?_⟩
    · simp only [M.bit, M.enc, if_true, if_false, Bool.false_eq_true]
      clear hcc hff
      first
        | (rw [put_30, put_29_1, put_28_1, put_24_4, put_20_4, put_m20] <;> (first | omega | decide))
    · repeat (first | (with_reducible exact Below.refl _ _) | (with_reducible apply below_drewN) | (with_reducible refine Below.alloc ?_ (by simp <;> omega) _) | (with_reducible refine Below.trans ?_ (hb1.mono (by simp <;> omega))))



end Go.Proofs.Ytmlmjkojhfjjlaa
