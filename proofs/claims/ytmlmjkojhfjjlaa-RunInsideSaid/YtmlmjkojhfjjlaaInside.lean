/- RunInside: run.Inside and the document's: the walks. -/
import Derived.Test.YtmlmjkojhfjjlaaFuel
import Derived.Test.YtmlmjkojhfjjlaaOpen
import Derived.LoopTactic
namespace Go.Proofs.Ytmlmjkojhfjjlaa
set_option linter.unusedVariables false
set_option linter.unusedSimpArgs false
open Go.RowKit

/-- Where module i's code ends. -/
def endOf (ws : List Int) (m : Nat) (D : Nat → Int) (i : Nat) : Int := if i + 1 < m then D (i + 1) else if 4 < ws.length then M.at_ ws 4 / 4 else 0
def hitB (ws : List Int) (m : Nat) (D C : Nat → Int) (p : Int) (i : Nat) : Bool := decide (C i ≤ p ∧ p < endOf ws m D i)
/-- Is a place in the code of one of modules k.. ? -/
def anyB (ws : List Int) (m : Nat) (D C : Nat → Int) (p : Int) (k : Nat) : Bool := (List.range (m - k)).any fun j => hitB ws m D C p (k + j)
def firstB (m : Nat) (D : Nat → Int) (p : Int) : Bool := decide (0 < m ∧ 8 ≤ p ∧ p < D 0)
def insB (ws : List Int) (m : Nat) (D C : Nat → Int) (p : Int) : Bool := firstB m D p || anyB ws m D C p 0

theorem anyB_end (ws : List Int) (m : Nat) (D C : Nat → Int) (p : Int) : anyB ws m D C p m = false := by simp [anyB]
theorem anyB_step (ws : List Int) (m : Nat) (D C : Nat → Int) (p : Int) (k : Nat) (h : k < m) : anyB ws m D C p k = (hitB ws m D C p k || anyB ws m D C p (k + 1)) := by
  unfold anyB
  have e : m - k = (m - (k + 1)) + 1 := by omega
  rw [e, List.range_succ_eq_map]
  simp only [List.any_cons, List.any_map, Nat.add_zero, Function.comp_def]
  congr 1
  congr 1
  funext j
  congr 1
  omega

theorem Mods.below {w w' : World} {mp : Option Addr} {m : Nat} {D C : Nat → Int} (h : Mods w mp m D C) (hb : Below w.heap.size w w') : Mods w' mp m D C :=
  ⟨fun i hi => let ⟨a, e, h1, h2⟩ := h.at_ i hi; ⟨a, e, (hb.cell (World.block_lt_of_cell? w _ h1)).trans h1, (hb.cell (World.block_lt_of_cell? w _ h2)).trans h2⟩, h.bd⟩

theorem Src.at4 {w : World} {v : Value} {sp : Option Addr} {c : Nat} {ws : List Int} (h : Src w v sp c ws) (hl : 4 < ws.length) : ∃ a, sp = some a ∧ w.cell? ⟨a.block, a.off + 4, none⟩ = some (.int .u32 (M.at_ ws 4)) := by
  obtain ⟨a, e, hc⟩ := h.at_ (by omega)
  have e4 : (⟨a.block, a.off + 4, none⟩ : Addr) = a.add 4 := by simp [Addr.add]
  refine ⟨a, e, e4 ▸ hc 4 _ ?_⟩
  rw [List.getElem?_map]
  unfold M.at_
  rw [List.getD_eq_getElem?_getD]
  have : (4 : Int).toNat = 4 := rfl
  rw [this, List.getElem?_eq_getElem hl]
  rfl

theorem fld_addr (a : Addr) (n j : Nat) (hj : 0 < j) : (⟨(a.add n).block, (a.add n).off + j, none⟩ : Addr) = a.add (n + j) := by
  unfold Addr.add
  by_cases hn : n = 0
  · subst hn
    simp [show ¬ j = 0 by omega]
  · simp [hn, Nat.add_assoc]

/-- The modules' fields, as the walk asks for them. -/
theorem Mods.fld {w : World} {mp : Option Addr} {m : Nat} {D C : Nat → Int} (h : Mods w mp m D C) (i : Nat) (hi : i < m) : ∃ a, mp = some a ∧ w.cell? ⟨(a.add (i * 6)).block, (a.add (i * 6)).off + 2, none⟩ = some (.int .i64 (D i)) ∧
    w.cell? ⟨(a.add (i * 6)).block, (a.add (i * 6)).off + 5, none⟩ = some (.int .i64 (C i)) := by
  obtain ⟨a, e, h1, h2⟩ := h.at_ i hi
  exact ⟨a, e, by rw [fld_addr a _ 2 (by decide)]; exact h1, by rw [fld_addr a _ 5 (by decide)]; exact h2⟩
theorem Mods.fld0 {w : World} {mp : Option Addr} {m : Nat} {D C : Nat → Int} (h : Mods w mp m D C) (hi : 0 < m) : ∃ a, mp = some a ∧ w.cell? ⟨a.block, a.off + 2, none⟩ = some (.int .i64 (D 0)) := by
  obtain ⟨a, e, h1, h2⟩ := h.fld 0 hi
  refine ⟨a, e, ?_⟩
  have : a.add (0 * 6) = a := by simp [Addr.add]
  rw [this] at h1
  exact h1

theorem hit_yes {ws : List Int} {m : Nat} {D C : Nat → Int} {p : Int} {i : Nat} (h1 : C i ≤ p) (h2 : p < endOf ws m D i) : hitB ws m D C p i = true := decide_eq_true ⟨h1, h2⟩
theorem hit_no {ws : List Int} {m : Nat} {D C : Nat → Int} {p : Int} {i : Nat} (h : ¬ (C i ≤ p ∧ p < endOf ws m D i)) : hitB ws m D C p i = false := decide_eq_false h
theorem ins_hit {ws : List Int} {m : Nat} {D C : Nat → Int} {p : Int} {k : Nat} (hA : anyB ws m D C p 0 = (hitB ws m D C p k || anyB ws m D C p (k + 1))) (h : hitB ws m D C p k = true) : true = insB ws m D C p := by
  unfold insB
  rw [hA, h]
  simp
theorem any_miss {ws : List Int} {m : Nat} {D C : Nat → Int} {p : Int} {k : Nat} (hA : anyB ws m D C p 0 = (hitB ws m D C p k || anyB ws m D C p (k + 1))) (h : hitB ws m D C p k = false) : anyB ws m D C p 0 = anyB ws m D C p (k + 1) := by
  rw [hA, h, Bool.false_or]
theorem endOf_more {ws : List Int} {m : Nat} {D : Nat → Int} {i : Nat} (h : i + 1 < m) : endOf ws m D i = D (i + 1) := if_pos h
theorem endOf_word {ws : List Int} {m : Nat} {D : Nat → Int} {i : Nat} (h : ¬ i + 1 < m) (h2 : 4 < ws.length) : endOf ws m D i = M.at_ ws 4 / 4 := by unfold endOf; rw [if_neg h, if_pos h2]
theorem endOf_none {ws : List Int} {m : Nat} {D : Nat → Int} {i : Nat} (h : ¬ i + 1 < m) (h2 : ¬ 4 < ws.length) : endOf ws m D i = 0 := by unfold endOf; rw [if_neg h, if_neg h2]

set_option maxHeartbeats 2000000 in
set_option maxRecDepth 100000 in
theorem rinside_any (w : World) (sp mp : Option Addr) (c m mc : Nat) (ws : List Int) (start p : Int) (D C : Nat → Int) (h : Src w (.slice sp ws.length c) sp c ws) (hM : Mods w mp m D C) (hl : ws.length ≤ 1000000) (hm : m ≤ 1000000) :
    Calls Try.prog 31 #[.agg #[.slice sp ws.length c, .int .i64 start, .slice mp m mc], .int .i64 p] w (RetB (.bool (insB ws m D C p)) w) := by
  have B0 : Below w.heap.size w (w.alloc (.cells #[.slice sp ws.length c, .int .i64 start, .slice mp m mc] 45)) := (Below.refl _ w).alloc (Nat.le_refl _) _
  have hM1 := hM.below B0
  have hS1 := h.below B0
  have HM := Lib.hid hM1
  have HS := Lib.hid hS1
  clear B0 hM1 hS1 h hM
  go_enter Try.func31, Try.ntmps31
  go_wp2
  go_loop [5, 6] (fun i e => ∃ k : Nat, k ≤ m ∧ i = .int .i64 (k : Int) ∧ Hid (anyB ws m D C p 0 = anyB ws m D C p k)) (fun i _ => m - (intOf i).toNat)
  case atStart => exact ⟨0, Nat.zero_le _, rfl, rfl⟩
  case round =>
    obtain ⟨k, hk, rfl, hA⟩ := hrel
    by_cases hlt : k < m
    · have HK := Lib.hid (hA.out.trans (anyB_step ws m D C p k hlt))
      clear hA
      obtain ⟨a, rfl, hd, hc⟩ := HM.out.fld k hlt
      by_cases hlt2 : k + 1 < m
      · obtain ⟨a', ha', hd2, hc2⟩ := HM.out.fld (k + 1) hlt2
        injection ha' with ha'
        subst ha'
        by_cases hc1 : C k ≤ p
        · by_cases hp : p < D (k + 1)
          · have HH := Lib.hid (ins_hit HK.out (hit_yes hc1 (by rw [endOf_more hlt2]; exact hp)))
            clear HK
            go_wp2
            go_ret
            exact ⟨ret_b HH.out, (Below.refl _ _).alloc (Nat.le_refl _) _⟩
          · have HH := Lib.hid (any_miss HK.out (hit_no (by rw [endOf_more hlt2]; exact fun h => hp h.2)))
            clear HK
            go_wp2
            go_round
            case rel => exact ⟨k + 1, by omega, by go_num, HH⟩
            case measure => simp [intOf]; omega
        · have HH := Lib.hid (any_miss HK.out (hit_no (fun h => hc1 h.1)))
          clear HK
          go_wp2
          go_round
          case rel => exact ⟨k + 1, by omega, by go_num, HH⟩
          case measure => simp [intOf]; omega
      · by_cases h4 : 4 < ws.length
        · obtain ⟨aw, rfl, hw4⟩ := HS.out.at4 h4
          obtain ⟨hb4, hb5⟩ := HS.out.bd 4
          by_cases hc1 : C k ≤ p
          · by_cases hp : p < M.at_ ws 4 / 4
            · have HH := Lib.hid (ins_hit HK.out (hit_yes hc1 (by rw [endOf_word hlt2 h4]; exact hp)))
              clear HK
              go_wp2
              go_ret
              exact ⟨ret_b HH.out, (Below.refl _ _).alloc (Nat.le_refl _) _⟩
            · have HH := Lib.hid (any_miss HK.out (hit_no (by rw [endOf_word hlt2 h4]; exact fun h => hp h.2)))
              clear HK
              go_wp2
              go_round
              case rel => exact ⟨k + 1, by omega, by go_num, HH⟩
              case measure => simp [intOf]; omega
          · have HH := Lib.hid (any_miss HK.out (hit_no (fun h => hc1 h.1)))
            clear HK
            go_wp2
            go_round
            case rel => exact ⟨k + 1, by omega, by go_num, HH⟩
            case measure => simp [intOf]; omega
        · by_cases hc1 : C k ≤ p
          · by_cases hp : p < 0
            · have HH := Lib.hid (ins_hit HK.out (hit_yes hc1 (by rw [endOf_none hlt2 h4]; exact hp)))
              clear HK
              go_wp2
              go_ret
              exact ⟨ret_b HH.out, (Below.refl _ _).alloc (Nat.le_refl _) _⟩
            · have HH := Lib.hid (any_miss HK.out (hit_no (by rw [endOf_none hlt2 h4]; exact fun h => hp h.2)))
              clear HK
              go_wp2
              go_round
              case rel => exact ⟨k + 1, by omega, by go_num, HH⟩
              case measure => simp [intOf]; omega
          · have HH := Lib.hid (any_miss HK.out (hit_no (fun h => hc1 h.1)))
            clear HK
            go_wp2
            go_round
            case rel => exact ⟨k + 1, by omega, by go_num, HH⟩
            case measure => simp [intOf]; omega
    · obtain rfl : k = m := by omega
      have HH := Lib.hid (show insB ws k D C p = firstB k D p by unfold insB; rw [hA.out, anyB_end, Bool.or_false])
      clear hA
      by_cases h0 : 0 < k
      · obtain ⟨a, rfl, hd0⟩ := HM.out.fld0 h0
        by_cases h8 : 8 ≤ p
        all_goals by_cases hp : p < D 0
        all_goals
          go_wp2
          go_ret
          exact ⟨ret_b (by rw [HH.out]; unfold firstB; simp [h0, h8, hp]), (Below.refl _ _).alloc (Nat.le_refl _) _⟩
      · go_wp2
        go_ret
        exact ⟨ret_b (by rw [HH.out]; unfold firstB; simp [h0]), (Below.refl _ _).alloc (Nat.le_refl _) _⟩

theorem first_no {m : Nat} {D : Nat → Int} {p : Int} (h : ¬ (8 ≤ p ∧ p < D 0)) : firstB m D p = false := decide_eq_false (fun x => h x.2)
theorem ins_first {ws : List Int} {m : Nat} {D C : Nat → Int} {p : Int} (h0 : 0 < m) (h1 : 8 ≤ p) (h2 : p < D 0) : true = insB ws m D C p := by
  unfold insB
  rw [show firstB m D p = true from decide_eq_true ⟨h0, h1, h2⟩, Bool.true_or]

set_option maxHeartbeats 4000000 in
set_option maxRecDepth 100000 in
theorem runinside_any (w : World) (sp mp : Option Addr) (c m mc : Nat) (ws : List Int) (start p : Int) (D C : Nat → Int) (h : Src w (.slice sp ws.length c) sp c ws) (hM : Mods w mp m D C) (hl : ws.length ≤ 1000000) (hm : m ≤ 1000000) :
    Calls Try.prog 30 #[.agg #[.slice sp ws.length c, .int .i64 start, .slice mp m mc], .int .i64 p] w (RetB (.bool (insB ws m D C p)) w) := by
  have B0 : Below w.heap.size w (w.alloc (.cells #[.slice sp ws.length c, .int .i64 start, .slice mp m mc] 45)) := (Below.refl _ w).alloc (Nat.le_refl _) _
  have hM1 := hM.below B0
  have hS1 := h.below B0
  have HM := Lib.hid hM1
  have HS := Lib.hid hS1
  clear B0 hM1 hS1 h hM
  go_enter Try.func30, Try.ntmps30
  go_wp2
  go_step3
  go_wp2
  go_step3
  go_wp2
  go_loop [11, 5, 6, 7] (fun i ok _ _ => ∃ k : Nat, k ≤ m ∧ i = .int .i64 (k : Int) ∧ ok = .bool false ∧ Hid (anyB ws m D C p 0 = anyB ws m D C p k) ∧ Hid (0 < k → firstB m D p = false)) (fun i _ _ _ => m - (intOf i).toNat)
  case atStart => exact ⟨0, Nat.zero_le _, rfl, rfl, rfl, fun h => by omega⟩
  case round =>
    obtain ⟨k, hk, rfl, rfl, hA, hF⟩ := hrel
    by_cases hlt : k < m
    · have HK := Lib.hid (hA.out.trans (anyB_step ws m D C p k hlt))
      clear hA
      obtain ⟨a, rfl, hd, hc⟩ := HM.out.fld k hlt
      by_cases hk0 : k = 0
      · have K0 := Lib.hid hk0
        have ek : ((k : Int) == 0) = true := by simp [hk0]
        clear hk0
        obtain ⟨a', ha', hd0⟩ := HM.out.fld0 (Nat.lt_of_le_of_lt (Nat.zero_le _) hlt)
        injection ha' with ha'
        subst ha'
        have hm0 : 0 < m := by omega
        by_cases h8 : 8 ≤ p
        · by_cases hp0 : p < D 0
          · have HH := Lib.hid (ins_first (ws := ws) (C := C) hm0 h8 hp0)
            clear HK
            first
              | (exfalso; omega)
              | (go_wp2; go_ret; exact ⟨ret_b HH.out, (Below.refl _ _).alloc (Nat.le_refl _) _⟩)
          · have HF1 : Hid (0 < k + 1 → firstB m D p = false) := fun _ => first_no (fun h => hp0 h.2)
            by_cases hlt2 : k + 1 < m
            · obtain ⟨a', ha', hd2, hc2⟩ := HM.out.fld (k + 1) hlt2
              injection ha' with ha'
              subst ha'
              by_cases hc1 : C k ≤ p
              · by_cases hp : p < D (k + 1)
                · have HH := Lib.hid (ins_hit HK.out (hit_yes hc1 (by rw [endOf_more hlt2]; exact hp)))
                  clear HK
                  first
                    | (exfalso; omega)
                    | (go_wp2; go_ret; exact ⟨ret_b HH.out, (Below.refl _ _).alloc (Nat.le_refl _) _⟩)
                · have HH := Lib.hid (any_miss HK.out (hit_no (by rw [endOf_more hlt2]; exact fun h => hp h.2)))
                  clear HK
                  go_wp2
                  go_round
                  case rel => exact ⟨k + 1, by omega, by go_num, rfl, HH, HF1⟩
                  case measure => simp [intOf]; omega
              · have HH := Lib.hid (any_miss HK.out (hit_no (fun h => hc1 h.1)))
                clear HK
                go_wp2
                go_round
                case rel => exact ⟨k + 1, by omega, by go_num, rfl, HH, HF1⟩
                case measure => simp [intOf]; omega
            · by_cases h4 : 4 < ws.length
              · obtain ⟨aw, rfl, hw4⟩ := HS.out.at4 h4
                obtain ⟨hb4, hb5⟩ := HS.out.bd 4
                by_cases hc1 : C k ≤ p
                · by_cases hp : p < M.at_ ws 4 / 4
                  · have HH := Lib.hid (ins_hit HK.out (hit_yes hc1 (by rw [endOf_word hlt2 h4]; exact hp)))
                    clear HK
                    first
                      | (exfalso; omega)
                      | (go_wp2; go_ret; exact ⟨ret_b HH.out, (Below.refl _ _).alloc (Nat.le_refl _) _⟩)
                  · have HH := Lib.hid (any_miss HK.out (hit_no (by rw [endOf_word hlt2 h4]; exact fun h => hp h.2)))
                    clear HK
                    go_wp2
                    go_round
                    case rel => exact ⟨k + 1, by omega, by go_num, rfl, HH, HF1⟩
                    case measure => simp [intOf]; omega
                · have HH := Lib.hid (any_miss HK.out (hit_no (fun h => hc1 h.1)))
                  clear HK
                  go_wp2
                  go_round
                  case rel => exact ⟨k + 1, by omega, by go_num, rfl, HH, HF1⟩
                  case measure => simp [intOf]; omega
              · skip
                by_cases hc1 : C k ≤ p
                · by_cases hp : p < 0
                  · have HH := Lib.hid (ins_hit HK.out (hit_yes hc1 (by rw [endOf_none hlt2 h4]; exact hp)))
                    clear HK
                    first
                      | (exfalso; omega)
                      | (go_wp2; go_ret; exact ⟨ret_b HH.out, (Below.refl _ _).alloc (Nat.le_refl _) _⟩)
                  · have HH := Lib.hid (any_miss HK.out (hit_no (by rw [endOf_none hlt2 h4]; exact fun h => hp h.2)))
                    clear HK
                    go_wp2
                    go_round
                    case rel => exact ⟨k + 1, by omega, by go_num, rfl, HH, HF1⟩
                    case measure => simp [intOf]; omega
                · have HH := Lib.hid (any_miss HK.out (hit_no (fun h => hc1 h.1)))
                  clear HK
                  go_wp2
                  go_round
                  case rel => exact ⟨k + 1, by omega, by go_num, rfl, HH, HF1⟩
                  case measure => simp [intOf]; omega
        · have HF1 : Hid (0 < k + 1 → firstB m D p = false) := fun _ => first_no (fun h => h8 h.1)
          have hd8 : decide (8 ≤ p) = false := decide_eq_false h8
          by_cases hlt2 : k + 1 < m
          · obtain ⟨a', ha', hd2, hc2⟩ := HM.out.fld (k + 1) hlt2
            injection ha' with ha'
            subst ha'
            by_cases hc1 : C k ≤ p
            · by_cases hp : p < D (k + 1)
              · have HH := Lib.hid (ins_hit HK.out (hit_yes hc1 (by rw [endOf_more hlt2]; exact hp)))
                clear HK
                first
                  | (exfalso; omega)
                  | (go_wp2; go_ret; exact ⟨ret_b HH.out, (Below.refl _ _).alloc (Nat.le_refl _) _⟩)
              · have HH := Lib.hid (any_miss HK.out (hit_no (by rw [endOf_more hlt2]; exact fun h => hp h.2)))
                clear HK
                go_wp2
                go_round
                case rel => exact ⟨k + 1, by omega, by go_num, rfl, HH, HF1⟩
                case measure => simp [intOf]; omega
            · have HH := Lib.hid (any_miss HK.out (hit_no (fun h => hc1 h.1)))
              clear HK
              go_wp2
              go_round
              case rel => exact ⟨k + 1, by omega, by go_num, rfl, HH, HF1⟩
              case measure => simp [intOf]; omega
          · by_cases h4 : 4 < ws.length
            · obtain ⟨aw, rfl, hw4⟩ := HS.out.at4 h4
              obtain ⟨hb4, hb5⟩ := HS.out.bd 4
              by_cases hc1 : C k ≤ p
              · by_cases hp : p < M.at_ ws 4 / 4
                · have HH := Lib.hid (ins_hit HK.out (hit_yes hc1 (by rw [endOf_word hlt2 h4]; exact hp)))
                  clear HK
                  first
                    | (exfalso; omega)
                    | (go_wp2; go_ret; exact ⟨ret_b HH.out, (Below.refl _ _).alloc (Nat.le_refl _) _⟩)
                · have HH := Lib.hid (any_miss HK.out (hit_no (by rw [endOf_word hlt2 h4]; exact fun h => hp h.2)))
                  clear HK
                  go_wp2
                  go_round
                  case rel => exact ⟨k + 1, by omega, by go_num, rfl, HH, HF1⟩
                  case measure => simp [intOf]; omega
              · have HH := Lib.hid (any_miss HK.out (hit_no (fun h => hc1 h.1)))
                clear HK
                go_wp2
                go_round
                case rel => exact ⟨k + 1, by omega, by go_num, rfl, HH, HF1⟩
                case measure => simp [intOf]; omega
            · skip
              by_cases hc1 : C k ≤ p
              · by_cases hp : p < 0
                · have HH := Lib.hid (ins_hit HK.out (hit_yes hc1 (by rw [endOf_none hlt2 h4]; exact hp)))
                  clear HK
                  first
                    | (exfalso; omega)
                    | (go_wp2; go_ret; exact ⟨ret_b HH.out, (Below.refl _ _).alloc (Nat.le_refl _) _⟩)
                · have HH := Lib.hid (any_miss HK.out (hit_no (by rw [endOf_none hlt2 h4]; exact fun h => hp h.2)))
                  clear HK
                  go_wp2
                  go_round
                  case rel => exact ⟨k + 1, by omega, by go_num, rfl, HH, HF1⟩
                  case measure => simp [intOf]; omega
              · have HH := Lib.hid (any_miss HK.out (hit_no (fun h => hc1 h.1)))
                clear HK
                go_wp2
                go_round
                case rel => exact ⟨k + 1, by omega, by go_num, rfl, HH, HF1⟩
                case measure => simp [intOf]; omega
      · have HF1 : Hid (0 < k + 1 → firstB m D p = false) := fun _ => hF.out (by omega)
        have ek : ((k : Int) == 0) = false := by simpa using hk0
        clear hk0
        by_cases hlt2 : k + 1 < m
        · obtain ⟨a', ha', hd2, hc2⟩ := HM.out.fld (k + 1) hlt2
          injection ha' with ha'
          subst ha'
          by_cases hc1 : C k ≤ p
          · by_cases hp : p < D (k + 1)
            · have HH := Lib.hid (ins_hit HK.out (hit_yes hc1 (by rw [endOf_more hlt2]; exact hp)))
              clear HK
              first
                | (exfalso; omega)
                | (go_wp2; go_ret; exact ⟨ret_b HH.out, (Below.refl _ _).alloc (Nat.le_refl _) _⟩)
            · have HH := Lib.hid (any_miss HK.out (hit_no (by rw [endOf_more hlt2]; exact fun h => hp h.2)))
              clear HK
              go_wp2
              go_round
              case rel => exact ⟨k + 1, by omega, by go_num, rfl, HH, HF1⟩
              case measure => simp [intOf]; omega
          · have HH := Lib.hid (any_miss HK.out (hit_no (fun h => hc1 h.1)))
            clear HK
            go_wp2
            go_round
            case rel => exact ⟨k + 1, by omega, by go_num, rfl, HH, HF1⟩
            case measure => simp [intOf]; omega
        · by_cases h4 : 4 < ws.length
          · obtain ⟨aw, rfl, hw4⟩ := HS.out.at4 h4
            obtain ⟨hb4, hb5⟩ := HS.out.bd 4
            by_cases hc1 : C k ≤ p
            · by_cases hp : p < M.at_ ws 4 / 4
              · have HH := Lib.hid (ins_hit HK.out (hit_yes hc1 (by rw [endOf_word hlt2 h4]; exact hp)))
                clear HK
                first
                  | (exfalso; omega)
                  | (go_wp2; go_ret; exact ⟨ret_b HH.out, (Below.refl _ _).alloc (Nat.le_refl _) _⟩)
              · have HH := Lib.hid (any_miss HK.out (hit_no (by rw [endOf_word hlt2 h4]; exact fun h => hp h.2)))
                clear HK
                go_wp2
                go_round
                case rel => exact ⟨k + 1, by omega, by go_num, rfl, HH, HF1⟩
                case measure => simp [intOf]; omega
            · have HH := Lib.hid (any_miss HK.out (hit_no (fun h => hc1 h.1)))
              clear HK
              go_wp2
              go_round
              case rel => exact ⟨k + 1, by omega, by go_num, rfl, HH, HF1⟩
              case measure => simp [intOf]; omega
          · skip
            by_cases hc1 : C k ≤ p
            · by_cases hp : p < 0
              · have HH := Lib.hid (ins_hit HK.out (hit_yes hc1 (by rw [endOf_none hlt2 h4]; exact hp)))
                clear HK
                first
                  | (exfalso; omega)
                  | (go_wp2; go_ret; exact ⟨ret_b HH.out, (Below.refl _ _).alloc (Nat.le_refl _) _⟩)
              · have HH := Lib.hid (any_miss HK.out (hit_no (by rw [endOf_none hlt2 h4]; exact fun h => hp h.2)))
                clear HK
                go_wp2
                go_round
                case rel => exact ⟨k + 1, by omega, by go_num, rfl, HH, HF1⟩
                case measure => simp [intOf]; omega
            · have HH := Lib.hid (any_miss HK.out (hit_no (fun h => hc1 h.1)))
              clear HK
              go_wp2
              go_round
              case rel => exact ⟨k + 1, by omega, by go_num, rfl, HH, HF1⟩
              case measure => simp [intOf]; omega
    · obtain rfl : k = m := by omega
      have HH := Lib.hid (show false = insB ws k D C p by
        unfold insB
        rw [hA.out, anyB_end, Bool.or_false]
        by_cases h0 : 0 < k
        · rw [hF.out h0]
        · symm
          exact decide_eq_false (fun x => h0 x.1))
      clear hA hF
      first
        | (exfalso; omega)
        | (go_wp2; go_ret; exact ⟨ret_b HH.out, (Below.refl _ _).alloc (Nat.le_refl _) _⟩)

end Go.Proofs.Ytmlmjkojhfjjlaa
