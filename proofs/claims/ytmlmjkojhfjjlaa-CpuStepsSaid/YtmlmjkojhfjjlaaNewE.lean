/- Where no machine is made; run.Run. -/
import Derived.Test.YtmlmjkojhfjjlaaNew

namespace Go.Proofs.Ytmlmjkojhfjjlaa
set_option linter.unusedVariables false
set_option linter.unusedSimpArgs false
open Go.RowKit

set_option maxHeartbeats 1000000 in
set_option maxRecDepth 100000 in
theorem memnew_big (w : World) (sp : Option Addr) (n c : Nat) (hn : 65536 < n) :
    Calls Try.prog 41 #[.slice sp n c] w (Ret (.tuple #[.pointer none, .int .i64 3]) w) := by
  have n1 : (65536 : Int) < (n : Int) := by omega
  go_enter Try.func41, Try.ntmps41
  go_wp2
  go_ret2
  exact ⟨rfl, rfl⟩

/-- The error of cpu.New. -/
def newE (n : Nat) (start : Int) (m : Nat) : Int := if 65536 < n then 3 else if 4096 < m then 2 else if start < 0 ∨ (n : Int) < start then 1 else 0

set_option maxHeartbeats 1000000 in
set_option maxRecDepth 100000 in
theorem cpunew_big (w : World) (sp : Option Addr) (n c : Nat) (start : Int) (inp : ByteArray) (hn : 65536 < n) :
    Calls Try.prog 18 #[.slice sp n c, .int .i64 start, .string inp] w (RetB (.tuple #[.pointer none, .int .i64 3]) w) := by
  go_enter Try.func18, Try.ntmps18
  go_wp2_with (go_at_call 41; refine (memnew_big _ sp n c hn).mono ?_; rintro e w1 ⟨rfl, rfl⟩)
  go_ret2
  exact ⟨rfl, Below.refl _ _⟩

set_option maxHeartbeats 1000000 in
set_option maxRecDepth 100000 in
theorem cpunew_in (w : World) (sp : Option Addr) (c : Nat) (ws : List Int) (v : Value) (start : Int) (inp : ByteArray) (h : Src w v sp c ws) (hl : ws.length ≤ 65536) (hi : 4096 < inp.size) :
    Calls Try.prog 18 #[v, .int .i64 start, .string inp] w (RetB (.tuple #[.pointer none, .int .i64 2]) w) := by
  have hnew := memnew_any w sp c ws v h hl
  obtain ⟨rfl, hat, hbd⟩ := h
  have HN := Lib.hid hnew
  clear hnew hat hbd
  have n2 : (4096 : Int) < (inp.size : Int) := by omega
  go_enter Try.func18, Try.ntmps18
  go_wp2_with (go_at_call 41; refine HN.out.mono ?_; rintro e w1 ⟨gm, gw, rfl, hM, hB, hg1, hg2, hg3⟩)
  go_ret2
  exact ⟨rfl, hB⟩

set_option maxHeartbeats 1000000 in
set_option maxRecDepth 100000 in
theorem cpunew_at (w : World) (sp : Option Addr) (c : Nat) (ws : List Int) (v : Value) (start : Int) (inp : ByteArray) (h : Src w v sp c ws) (hl : ws.length ≤ 65536) (hi : inp.size ≤ 4096) (hs : start < 0 ∨ (ws.length : Int) < start) :
    Calls Try.prog 18 #[v, .int .i64 start, .string inp] w (RetB (.tuple #[.pointer none, .int .i64 1]) w) := by
  have hnew := memnew_any w sp c ws v h hl
  obtain ⟨rfl, hat, hbd⟩ := h
  have HN := Lib.hid hnew
  clear hnew hat hbd
  have n2 : ¬ (4096 : Int) < (inp.size : Int) := by omega
  by_cases h0 : start < 0
  · clear hs
    go_enter Try.func18, Try.ntmps18
    go_wp2_with (go_at_call 41; refine HN.out.mono ?_; rintro e w1 ⟨gm, gw, rfl, hM, hB, hg1, hg2, hg3⟩)
    go_ret2
    exact ⟨rfl, hB⟩
  · have h1 : (ws.length : Int) < start := by omega
    clear hs
    go_enter Try.func18, Try.ntmps18
    go_wp2_with (go_at_call 41; refine HN.out.mono ?_; rintro e w1 ⟨gm, gw, rfl, hM, hB, hg1, hg2, hg3⟩)
    go_ret2
    exact ⟨rfl, hB⟩

theorem cpunew_err (w : World) (sp : Option Addr) (c : Nat) (ws : List Int) (v : Value) (start : Int) (inp : ByteArray) (h : Src w v sp c ws) (he : newE ws.length start inp.size ≠ 0) :
    Calls Try.prog 18 #[v, .int .i64 start, .string inp] w (RetB (.tuple #[.pointer none, .int .i64 (newE ws.length start inp.size)]) w) := by
  unfold newE at he ⊢
  split
  · rename_i hn
    rw [h.v]
    exact cpunew_big w sp _ c start inp hn
  · rename_i hn
    rw [if_neg hn] at he
    split
    · rename_i hi
      exact cpunew_in w sp c ws v start inp h (by omega) hi
    · rename_i hi
      rw [if_neg hi] at he
      split
      · rename_i hs
        exact cpunew_at w sp c ws v start inp h (by omega) (by omega) hs
      · rename_i hs
        rw [if_neg hs] at he
        exact absurd rfl he

theorem newE_ok {n : Nat} {start : Int} {m : Nat} (h : newE n start m = 0) : n ≤ 65536 ∧ m ≤ 4096 ∧ 0 ≤ start ∧ start ≤ n := by
  unfold newE at h
  split at h
  · simp at h
  split at h
  · simp at h
  split at h
  · simp at h
  omega

/-- Run at a fuel out of range. -/
theorem run_bad (w : World) (g : Nat) (k : Int) (hk : k < 0 ∨ 4194304 < k) :
    Calls Try.prog 19 #[.pointer (some ⟨g, 0, none⟩), .int .i64 k] w (RetB (.tuple #[.agg #[.int .i64 0, .int .i64 0, .string ⟨#[]⟩, .int .i64 0, .int .i64 0], .int .i64 1]) w) := by
  by_cases h0 : k < 0
  · clear hk
    go_enter Try.func19, Try.ntmps19
    go_wp2
    exact bodyPost_ret (res_cell_tmp rfl rfl (Cel.new w _ _) Try.underlying28 rfl (by kernel_rfl) rfl) rfl ⟨rfl, (Below.refl _ _).alloc (Nat.le_refl _) _⟩
  · have h1 : 4194304 < k := by omega
    clear hk
    go_enter Try.func19, Try.ntmps19
    go_wp2
    exact bodyPost_ret (res_cell_tmp rfl rfl (Cel.new w _ _) Try.underlying28 rfl (by kernel_rfl) rfl) rfl ⟨rfl, (Below.refl _ _).alloc (Nat.le_refl _) _⟩

end Go.Proofs.Ytmlmjkojhfjjlaa
