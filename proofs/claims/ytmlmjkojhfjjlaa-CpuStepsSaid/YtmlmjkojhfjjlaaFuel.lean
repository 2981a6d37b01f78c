/- RunFuel: the walk; run.Run in all its cases; Same; the law's own 'large'. -/
import Derived.Test.YtmlmjkojhfjjlaaWakeR
import Derived.Test.YtmlmjkojhfjjlaaPieces
namespace Go.Proofs.Ytmlmjkojhfjjlaa
set_option linter.unusedVariables false
set_option linter.unusedSimpArgs false
open Go.RowKit

/-- What run.Run answers. -/
def RR (ws : List Int) (start : Int) (inp : ByteArray) (kv : Int) (O : Value) (E : Int) : Prop :=
  (newE ws.length start inp.size = 0 ∧ ∃ k : Nat, kv = (k : Int) ∧ k ≤ 4194304 ∧ O = ocV (M.runs k (st0 ws start inp)) (M.steps k (st0 ws start inp)) ∧ E = 0) ∨
  (newE ws.length start inp.size ≠ 0 ∧ O = .agg #[.int .i64 0, .int .i64 0, .string ⟨#[]⟩, .int .i64 0, .int .i64 0] ∧ E = newE ws.length start inp.size) ∨
  (newE ws.length start inp.size = 0 ∧ (kv < 0 ∨ 4194304 < kv) ∧ O = .agg #[.int .i64 0, .int .i64 0, .string ⟨#[]⟩, .int .i64 0, .int .i64 0] ∧ E = 1)

theorem rrun_all (w : World) (sp : Option Addr) (c : Nat) (ws : List Int) (v mv : Value) (start : Int) (inp : ByteArray) (kv : Int) (O : Value) (E : Int) (h : Src w v sp c ws) (hR : RR ws start inp kv O E) :
    Calls Try.prog 24 #[.agg #[v, .int .i64 start, mv], .string inp, .int .i64 kv] w (RetB (.tuple #[O, .int .i64 E]) w) := by
  rcases hR with ⟨hN, k, rfl, hk, rfl, rfl⟩ | ⟨hN, rfl, rfl⟩ | ⟨hN, hk, rfl, rfl⟩
  · obtain ⟨hl, hi, h0, h1⟩ := newE_ok hN
    exact rrun_ok w sp c ws v mv start inp k h hk hl hi h0 h1
  · exact rrun_err w sp c ws v mv start inp kv h hN
  · exact rrun_bad w sp c ws v mv start inp kv h hN hk

set_option maxHeartbeats 1000000 in
set_option maxRecDepth 100000 in
theorem same_yes (w : World) (e1 t1 n1 r1 e2 t2 n2 r2 : Int) (S1 S2 : ByteArray) (h1 : e1 = e2) (h2 : t1 = t2) (h3 : S1 = S2) (h4 : n1 = n2) (h5 : r1 = r2) :
    Calls Try.prog 26 #[.agg #[.int .i64 e1, .int .i64 t1, .string S1, .int .i64 n1, .int .i64 r1], .agg #[.int .i64 e2, .int .i64 t2, .string S2, .int .i64 n2, .int .i64 r2]] w (RetB (.bool true) w) := by
  subst h1 h2 h3 h4 h5
  go_enter Try.func26, Try.ntmps26
  go_wp2
  go_ret
  exact ⟨ret_b (by first | rfl | simp), ((Below.refl _ _).alloc (Nat.le_refl _) _).alloc (by simp) _⟩

/-- Are they too many to be gone through? -/
def lgR (n m : Nat) : Bool := decide ((4096 < n ∧ n ≤ 65536) ∨ 70000 < n ∨ 100 < m)

set_option maxHeartbeats 1000000 in
set_option maxRecDepth 100000 in
theorem large27_any (w : World) (sp mp : Option Addr) (n c m mc : Nat) (start : Int) : Calls Try.prog 22 #[.agg #[.slice sp n c, .int .i64 start, .slice mp m mc]] w (RetB (.bool (lgR n m)) w) := by
  have e : lgR n m = decide ((4096 < n ∧ n ≤ 65536) ∨ 70000 < n ∨ 100 < m) := rfl
  have E := Lib.hid e
  clear e
  go_enter Try.func22, Try.ntmps22
  go_wp2
  all_goals
    go_ret
    refine ⟨ret_b ?_, (Below.refl _ _).alloc (Nat.le_refl _) _⟩
    rw [E.out]
    first | rfl | (rw [Bool.eq_iff_iff]; simp <;> omega)

set_option maxHeartbeats 4000000 in
set_option maxRecDepth 100000 in
theorem fuel_early (w : World) (sp mp : Option Addr) (c n m mc : Nat) (start : Int) (inp : ByteArray) (a b : Int) (h : lgR n m = true ∨ lgR n m = false ∧ (4000 < inp.size ∨ inp.size ≤ 4000 ∧ (a < 0 ∨ 0 ≤ a ∧ (b < a ∨ a ≤ b ∧ 6000 < b)))) :
    Calls Try.prog 7 #[.agg #[.slice sp n c, .int .i64 start, .slice mp m mc], .string inp, .agg #[.int .i64 a, .int .i64 b]] w (RetB (.bool true) w) := by
  have B0 := Lib.hid (show Below w.heap.size w ((w.alloc (.cells #[.slice sp n c, .int .i64 start, .slice mp m mc] 45)).alloc (.cells #[.int .i64 a, .int .i64 b] 33)).drew from (((Below.refl _ w).alloc (Nat.le_refl _) _).alloc (by simp) _).drew)
  rcases h with h | ⟨hlg, h | ⟨hi, h | ⟨h0, h | ⟨h1, h⟩⟩⟩⟩
  all_goals
    go_enter Try.func7, Try.ntmps7
    go_wp2
    go_region
    go_wp2_with (first
      | (go_at_call 22; refine (large27_any _ _ _ _ _ _ _ _).mono ?_; rintro e w1 ⟨rfl, hb1⟩; have B1 := Lib.hid (B0.out.trans (hb1.mono B0.out.size)); clear hb1)
      | (go_at_call 23; refine (wakesR_any _).mono ?_; rintro e w5 ⟨rfl, hB5⟩)
      | fail)
    go_ret
    exact ⟨ret_b (by first | rfl | simp), B1.out.trans (hB5.mono B1.out.size)⟩

set_option maxHeartbeats 4000000 in
set_option maxRecDepth 100000 in
theorem fuel_walk (w : World) (sp mp : Option Addr) (c m mc : Nat) (ws : List Int) (start : Int) (inp : ByteArray) (a b : Int) (E e1 t1 n1 r1 e2 t2 n2 r2 : Int) (S1 S2 : ByteArray)
    (h : Src w (.slice sp ws.length c) sp c ws) (hlg : lgR ws.length m = false) (hi : inp.size ≤ 4000) (ha : 0 ≤ a) (hb : a ≤ b) (hb' : b ≤ 6000)
    (hR1 : RR ws start inp a (.agg #[.int .i64 e1, .int .i64 t1, .string S1, .int .i64 n1, .int .i64 r1]) E) (hR2 : RR ws start inp b (.agg #[.int .i64 e2, .int .i64 t2, .string S2, .int .i64 n2, .int .i64 r2]) E)
    (hE : ((E != 0) = true ∧ (e1 == 0) = true) ∨ ((E != 0) = false ∧ (E == 0) = true ∧ (e1 != 3) = true ∧ e1 = e2 ∧ t1 = t2 ∧ S1 = S2 ∧ n1 = n2 ∧ r1 = r2) ∨
      ((E != 0) = false ∧ (e1 != 3) = false ∧ (n1 == a) = true ∧ a ≤ n2 ∧ n2 ≤ b ∧ S1.size ≤ S2.size ∧ S2.extract 0 S1.size = S1 ∧ r1 ≤ r2)) :
    Calls Try.prog 7 #[.agg #[.slice sp ws.length c, .int .i64 start, .slice mp m mc], .string inp, .agg #[.int .i64 a, .int .i64 b]] w (RetB (.bool true) w) := by
  have B0 := Lib.hid (show Below w.heap.size w ((w.alloc (.cells #[.slice sp ws.length c, .int .i64 start, .slice mp m mc] 45)).alloc (.cells #[.int .i64 a, .int .i64 b] 33)).drew from (((Below.refl _ w).alloc (Nat.le_refl _) _).alloc (by simp) _).drew)
  have I0 := ((Cel.new w 45 #[.slice sp ws.length c, .int .i64 start, .slice mp m mc]).alloc (.cells #[.int .i64 a, .int .i64 b] 33)).drew
  have HI := Lib.hid I0
  have HW := Lib.hid h
  have HR1 := Lib.hid hR1
  have HR2 := Lib.hid hR2
  clear I0 h hR1 hR2
  rcases hE with ⟨hE1, hE2⟩ | ⟨hE1, hE2, hE3, hE4⟩ | ⟨hE1, hE2, hE3, hE4, hE5, hE6, hE7, hE8⟩
  rotate_left
  have HQ := Lib.hid hE4
  clear hE4
  rotate_left
  have HQ := Lib.hid hE7
  clear hE7
  rotate_left
  all_goals
    go_enter Try.func7, Try.ntmps7
    go_wp2
    go_region
    go_wp2_with (first
      | (go_at_call 22; refine (large27_any _ _ _ _ _ _ _ _).mono ?_; rintro e w1 ⟨rfl, hb1⟩; have B1 := Lib.hid (B0.out.trans (hb1.mono B0.out.size)); have I1 := HI.out.below hb1 HI.out.lt; have i10 := I1.cell 0; have i11 := I1.cell 1; have i12 := I1.cell 2; have HI1 := Lib.hid I1; clear hb1 I1)
      | (go_at_call 24; have tok := HB2; refine (rrun_all _ sp c ws _ _ start inp b _ E (HW.out.below (HB2.out.alloc HB2.out.size _)) HR2.out).mono ?_; rintro e w3 ⟨rfl, hb3⟩; have HB3 := Lib.hid ((HB2.out.alloc HB2.out.size (.cells #[.int .i64 e1, .int .i64 t1, .string S1, .int .i64 n1, .int .i64 r1] 28)).trans (hb3.mono (by have := HB2.out.size; simp; omega))); have P1 := (HP.out.below hb3 HP.out.lt).alloc (.cells #[.int .i64 e2, .int .i64 t2, .string S2, .int .i64 n2, .int .i64 r2] 28); have P2 := Cel.new w3 28 #[.int .i64 e2, .int .i64 t2, .string S2, .int .i64 n2, .int .i64 r2]; have x10 := P1.cell 0; have x11 := P1.cell 1; have x12 := P1.cell 2; have x13 := P1.cell 3; have x14 := P1.cell 4; have x20 := P2.cell 0; have x21 := P2.cell 1; have x22 := P2.cell 2; have x23 := P2.cell 3; have x24 := P2.cell 4; clear hb3 P1 P2 i20 i21 i22)
      | (go_at_call 24; refine (rrun_all _ sp c ws _ _ start inp a _ E (HW.out.below B1.out) HR1.out).mono ?_; rintro e w2 ⟨rfl, hb2⟩; have HB2 := Lib.hid (B1.out.trans (hb2.mono B1.out.size)); have I2 := (HI1.out.below hb2 HI1.out.lt).alloc (.cells #[.int .i64 e1, .int .i64 t1, .string S1, .int .i64 n1, .int .i64 r1] 28); have i20 := I2.cell 0; have i21 := I2.cell 1; have i22 := I2.cell 2; have HP := Lib.hid (Cel.new w2 28 #[.int .i64 e1, .int .i64 t1, .string S1, .int .i64 n1, .int .i64 r1]); clear hb2 I2 i10 i11 i12)
      | (go_at_call 26; refine (same_yes _ _ _ _ _ _ _ _ _ _ _ HQ.out.1 HQ.out.2.1 HQ.out.2.2.1 HQ.out.2.2.2.1 HQ.out.2.2.2.2).mono ?_; rintro e w4 ⟨rfl, hb4⟩; have HB4 := Lib.hid ((HB3.out.alloc HB3.out.size (.cells #[.int .i64 e2, .int .i64 t2, .string S2, .int .i64 n2, .int .i64 r2] 28)).trans (hb4.mono (by have := HB3.out.size; simp; omega))); clear hb4)
      | (go_at_call 21; refine (begins_yes _ _ _ hE6 HQ.out).mono ?_; rintro e w' ⟨rfl, rfl⟩)
      | (go_at_call 23; refine (wakesR_any _).mono ?_; rintro e w5 ⟨rfl, hB5⟩)
      | fail)
    go_ret
    refine ⟨ret_b (by first | rfl | simp), ?_⟩
    first
      | exact HB4.out.trans (hB5.mono HB4.out.size)
      | exact (HB3.out.alloc HB3.out.size _).trans (hB5.mono (by have := HB3.out.size; simp; omega))


theorem lgR_no {n m : Nat} (h : lgR n m = false) : n ≤ 70000 := by
  have := of_decide_eq_false h
  omega

theorem fuel_any (w : World) (sp mp : Option Addr) (c m mc : Nat) (ws : List Int) (v : Value) (start : Int) (inp : ByteArray) (a b : Int) (h : Src w v sp c ws) :
    Calls Try.prog 7 #[.agg #[v, .int .i64 start, .slice mp m mc], .string inp, .agg #[.int .i64 a, .int .i64 b]] w (RetB (.bool true) w) := by
  obtain rfl := h.v
  by_cases hE : lgR ws.length m = true ∨ lgR ws.length m = false ∧ (4000 < inp.size ∨ inp.size ≤ 4000 ∧ (a < 0 ∨ 0 ≤ a ∧ (b < a ∨ a ≤ b ∧ 6000 < b)))
  · exact fuel_early w sp mp c ws.length m mc start inp a b hE
  · have hlg : lgR ws.length m = false := by cases hx : lgR ws.length m with | true => exact absurd (.inl hx) hE | false => rfl
    simp only [hlg, Bool.false_eq_true, false_or, true_and] at hE
    obtain ⟨a, rfl⟩ := Int.eq_ofNat_of_zero_le (show 0 ≤ a by omega)
    obtain ⟨b, rfl⟩ := Int.eq_ofNat_of_zero_le (show 0 ≤ b by omega)
    by_cases hN : newE ws.length start inp.size = 0
    · obtain ⟨hr, hst⟩ := M.runs_more a b (by omega) (st0 ws start inp)
      have hx := M.ext_runs (b - a) (M.runs a (st0 ws start inp))
      have hle := M.steps_le b (st0 ws start inp)
      have h3 : (M.runs a (st0 ws start inp)).en ≠ 3 := M.en_runs a _ (by show (0 : Int) ≠ 3; decide)
      refine fuel_walk w sp mp c m mc ws start inp a b 0 _ _ _ _ _ _ _ _ _ _ h hlg (by omega) (by omega) (by omega) (by omega) (.inl ⟨hN, a, rfl, by omega, rfl, rfl⟩) (.inl ⟨hN, b, rfl, by omega, rfl, rfl⟩) (.inr ?_)
      rcases end_ne (M.runs a (st0 ws start inp)) with he | ⟨h0, he⟩
      · have h0 : (M.runs a (st0 ws start inp)).en = 0 := by
          by_cases h0 : (M.runs a (st0 ws start inp)).en = 0
          · exact h0
          · rw [if_neg h0] at he
            simp at he
            exact absurd he h3
        have hall := M.steps_all a _ h0
        obtain ⟨⟨u, hu⟩, hrd⟩ := hx
        refine .inr ⟨by decide, he, by rw [hall]; simp, by omega, by omega, ?_, ?_, ?_⟩
        · rw [hr, hu, strOfNums_size, strOfNums_size, List.length_append]; omega
        · rw [hr, hu]; exact strOf_begins _ _
        · rw [hr]; exact hrd
      · obtain ⟨e1, e2⟩ := M.runs_ended (b - a) _ h0
        refine .inl ⟨by decide, by decide, he, ?_⟩
        rw [hr, hst, e1, e2]
        exact ⟨rfl, rfl, rfl, rfl, rfl⟩
    · refine fuel_walk w sp mp c m mc ws start inp a b (newE ws.length start inp.size) _ _ _ _ _ _ _ _ _ _ h hlg (by omega) (by omega) (by omega) (by omega) (.inr (.inl ⟨hN, rfl, rfl⟩)) (.inr (.inl ⟨hN, rfl, rfl⟩)) (.inl ⟨by simpa using hN, by decide⟩)

end Go.Proofs.Ytmlmjkojhfjjlaa
