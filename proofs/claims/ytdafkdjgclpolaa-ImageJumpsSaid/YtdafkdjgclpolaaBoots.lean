/- ImageBoots: the walk. -/
import Derived.Test.YtdafkdjgclpolaaRBoot
namespace Go.Proofs.Ytdafkdjgclpolaa
set_option linter.unusedVariables false
set_option linter.unusedSimpArgs false
open Go.RowKit

theorem rboot_any (w : World) (sp : Option Addr) (c : Nat) (es : List Int) (v : Value) (size : Int) (hN : Nums w v sp c es) : Calls Try.prog 9 #[.int .i64 size, v] w (RetRBoot size es w) := by
  obtain rfl := hN.v
  by_cases h : 256 ≤ size ∧ size ≤ 65536 ∧ es.length ≤ 16
  · exact rboot_walk w sp c es size hN h.1 h.2.1 h.2.2
  · refine (rboot_no w sp es.length c size h).mono ?_
    rintro e w' ⟨rfl, rfl⟩
    refine ⟨Below.refl _ _, .inr ⟨?_, rfl⟩⟩
    unfold bootOk
    rw [decide_eq_false h, Bool.false_and]

/-- What both answer: the same words, or the same error. -/
theorem boot_both {size : Int} {es : List Int} {w w' : World} {e : Ending} (h : RetBoot size es w e w') : ∃ v ws E, e = .returned (.tuple #[v, .int .i64 E]) ∧ wordsAt w' v ws ∧ Below w.heap.size w w' ∧ ws = (if bootOk size es = true then bootW size es else []) ∧ E = (if bootOk size es = true then 0 else 1) := by
  obtain ⟨hB, ⟨hOk, g, c, rfl, hg, ho⟩ | ⟨hOk, rfl⟩⟩ := h
  · refine ⟨_, _, _, rfl, ?_, hB, by rw [if_pos hOk], by rw [if_pos hOk]⟩
    exact words_own ho (by unfold bootW; rw [List.length_append, List.length_replicate]; unfold encs; rw [List.length_map, bootI_len]; omega)
  · exact ⟨_, _, _, rfl, words_nil w', hB, by rw [hOk]; rfl, by rw [hOk]; rfl⟩
theorem rboot_both {size : Int} {es : List Int} {w w' : World} {e : Ending} (h : RetRBoot size es w e w') : ∃ v ws E, e = .returned (.tuple #[v, .int .i64 E]) ∧ wordsAt w' v ws ∧ Below w.heap.size w w' ∧ ws = (if bootOk size es = true then bootW size es else []) ∧ E = (if bootOk size es = true then 0 else 1) := by
  obtain ⟨hB, ⟨hOk, v, n, rfl, hn, ho⟩ | ⟨hOk, rfl⟩⟩ := h
  · exact ⟨_, _, _, rfl, words_own ho hn, hB, by rw [if_pos hOk], by rw [if_pos hOk]⟩
  · exact ⟨_, _, _, rfl, words_nil w', hB, by rw [hOk]; rfl, by rw [hOk]; rfl⟩

theorem wordsAt.below {w w' : World} {v : Value} {ws : List Int} (h : wordsAt w v ws) (hb : Below w.heap.size w w') : wordsAt w' v ws := by
  obtain ⟨sp, c, e, hc⟩ := h
  exact ⟨sp, c, e, fun k hk => let ⟨ad, e1, h1⟩ := hc k hk; ⟨ad, e1, (hb.cell (World.block_lt_of_cell? w _ h1)).trans h1⟩⟩
theorem wordsAt.drewN {w : World} {v : Value} {ws : List Int} (h : wordsAt w v ws) (n : Nat) : wordsAt (w.drewN n) v ws := h

theorem boots_len {size : Int} {es : List Int} {ws : List Int} (h : ws = (if bootOk size es = true then bootW size es else [])) : ws.length ≤ 1000000 := by
  rw [h]
  split
  · rename_i hOk
    unfold bootOk at hOk
    rw [Bool.and_eq_true] at hOk
    obtain ⟨h0, h1, h2⟩ := of_decide_eq_true hOk.1
    unfold bootW
    rw [List.length_append, List.length_replicate]
    unfold encs
    rw [List.length_map, bootI_len]
    omega
  · simp

set_option maxHeartbeats 4000000 in
set_option maxRecDepth 100000 in
theorem boots_early (w : World) (sp : Option Addr) (n c : Nat) (size m : Int) (h : 1000 < n) : Calls Try.prog 3 #[.int .i64 size, .slice sp n c, .int .i64 m] w (RetB (.bool true) w) := by
  go_enter Try.func3, Try.ntmps3
  go_wp2_with (first
    | (go_at_call 7; refine (wakesI_any _).mono ?_; rintro e w5 ⟨rfl, hB5⟩)
    | fail)
  go_ret
  exact ⟨ret_b (by first | rfl | simp), hB5⟩

set_option maxHeartbeats 4000000 in
set_option maxRecDepth 100000 in
theorem boots_walk (w : World) (sp : Option Addr) (c : Nat) (es : List Int) (size m : Int) (hN : Nums w (.slice sp es.length c) sp c es) (hn : es.length ≤ 1000) :
    Calls Try.prog 3 #[.int .i64 size, .slice sp es.length c, .int .i64 m] w (RetB (.bool true) w) := by
  have HN := Lib.hid hN
  clear hN
  go_enter Try.func3, Try.ntmps3
  go_wp2_with (first
    | (at_builtin; refine wpList_copy_nums rfl _ _ rfl w.heap.size _ _ _ es rfl rfl rfl (Cel.new w _ _) (HN.out.below ((Below.refl _ w).alloc (Nat.le_refl _) _)) (by omega) ?_; intro v1 w1 hown1 hb1; have hN1 := nums_own hown1 HN.out.bd; have B1 := Lib.hid (((Below.refl _ w).alloc (Nat.le_refl _) (.cells #[] I64T)).trans hb1); clear hb1 hown1; obtain ⟨sp1, c1, hN1⟩ := hN1; have HN1 := Lib.hid hN1; clear hN1)
    | (go_at_call 8; refine (boot_any _ sp1 c1 es _ size HN1.out).mono ?_; rintro e w2 hr; obtain ⟨v2, W2, E2, rfl, hw2, hB2, hW2, hE2⟩ := boot_both hr; have HW2 := Lib.hid hw2; have HB2 := Lib.hid (B1.out.trans (hB2.mono B1.out.size)); have HN2 := Lib.hid (HN1.out.below hB2); have HQ2 := Lib.hid (And.intro hW2 hE2); clear hr hw2 hB2 hW2 hE2)
    | (go_at_call 9; refine (rboot_any _ sp c es _ size (HN.out.below HB2.out)).mono ?_; rintro e w3 hr; obtain ⟨v3, W3, E3, rfl, hw3, hB3, hW3, hE3⟩ := rboot_both hr; obtain rfl : W3 = W2 := hW3.trans HQ2.out.1.symm; obtain rfl : E3 = E2 := hE3.trans HQ2.out.2.symm; have HW3 := Lib.hid hw3; have HB3 := Lib.hid (HB2.out.trans (hB3.mono HB2.out.size)); have HN3 := Lib.hid (HN2.out.below hB3); have HWB := Lib.hid (HW2.out.below hB3); clear hr hw3 hB3 hW3 hE3)
    | (go_at_call 10; refine (words_same _ _ _ W3 HWB.out HW3.out (boots_len HQ2.out.1)).mono ?_; rintro e w4 ⟨rfl, q4, rfl⟩)
    | (go_at_call 11; refine (nums_same _ _ _ es (nums_of (HN3.out.below (below_drewN (Below.refl _ w3) q4))) (nums_of (HN.out.below (below_drewN HB3.out q4))) (by omega)).mono ?_; rintro e w5 ⟨rfl, q5, rfl⟩)
    | (go_at_call 12; refine (first_any _ _).mono ?_; rintro e w' ⟨rfl, rfl⟩)
    | (go_at_call 13; refine (rfirst_any _ _).mono ?_; rintro e w' ⟨rfl, rfl⟩)
    | (go_at_call 7; refine (wakesI_any _).mono ?_; rintro e w6 ⟨rfl, hB6⟩)
    | fail)
  go_ret
  exact ⟨ret_b (by first | rfl | simp), (below_drewN HB3.out (q4 + q5)).trans (hB6.mono (by have := HB3.out.size; simp; omega))⟩

theorem boots_any (w : World) (sp : Option Addr) (c : Nat) (es : List Int) (v : Value) (size m : Int) (hN : Nums w v sp c es) : Calls Try.prog 3 #[.int .i64 size, v, .int .i64 m] w (RetB (.bool true) w) := by
  obtain rfl := hN.v
  by_cases h : 1000 < es.length
  · exact boots_early w sp _ c size m h
  · exact boots_walk w sp c es size m hN (by omega)

end Go.Proofs.Ytdafkdjgclpolaa
