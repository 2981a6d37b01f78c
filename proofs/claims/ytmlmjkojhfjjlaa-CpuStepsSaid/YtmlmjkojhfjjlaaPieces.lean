/- CpuPieces: the walk. -/
import Derived.Test.YtmlmjkojhfjjlaaTwo
import Derived.RegionTactic
namespace Go.Proofs.Ytmlmjkojhfjjlaa
set_option linter.unusedVariables false
set_option linter.unusedSimpArgs false
open Go.RowKit

theorem wpList_copy_words {ops : Array Oper} {rest : List Oper} {o : Oper} {a : Act} {w : World} {Q : Exit → Act → World → Prop} (hgd : o.guard = none) (s x : Operand)
    (ho : o.op = .call { callee := .builtin .append, args := #[s, x], argTypes := #[32, 32] }) (g n c : Nat) (sp : Option Addr) (ws : List Int)
    (hs : a.eval s = .slice (some ⟨g, 0, none⟩) 0 0) (hx : a.eval x = .slice sp n c) (hn : n = ws.length) (hg : Cel w g U32T #[]) (hr : Src w (.slice sp n c) sp c ws) (hl : ws.length ≤ 1000000)
    (h : ∀ v' w', w'.ownsRow g U32T 1 v' ws.length (ws.map (Value.int .u32)) → Below g w w' → wpList Try.prog ops Q rest (a.put o.dst v') w') : wpList Try.prog ops Q (o :: rest) a w :=
  wpList_plain hgd fun _ hK => by
    obtain ⟨v', w', hrun, h2, h3⟩ := run_copy_words w o.type g n c sp ws hn hg hr hl
    unfold Oper.wp execOp
    simp only [ho, resolve, invoke, builtin, Sem.run_bind, Sem.run_pure, Result.andThen_ok, List.map_toArray, List.map_cons, List.map_nil, hs, hx, hrun]
    exact hK _ _ (h v' w' h2 h3)

/-- Are they too many to be gone through? -/
def lgB (n : Nat) : Bool := decide ((3000 < n ∧ n ≤ 65536) ∨ 70000 < n)

set_option maxHeartbeats 1000000 in
set_option maxRecDepth 100000 in
theorem large5_any (w : World) (sp : Option Addr) (n c : Nat) : Calls Try.prog 17 #[.slice sp n c] w (Ret (.bool (lgB n)) w) := by
  have e : lgB n = decide ((3000 < n ∧ n ≤ 65536) ∨ 70000 < n) := rfl
  have E := Lib.hid e
  clear e
  go_enter Try.func17, Try.ntmps17
  go_wp2
  all_goals
    go_ret
    refine ⟨ret_b ?_, rfl⟩
    rw [E.out]
    first | rfl | (rw [Bool.eq_iff_iff]; simp <;> omega)

set_option maxRecDepth 100000 in
/-- One text begins with another one. -/
theorem begins_yes (w : World) (s t : ByteArray) (h1 : t.size ≤ s.size) (h2 : s.extract 0 t.size = t) : Calls Try.prog 21 #[.string s, .string t] w (Ret (.bool true) w) := by
  have h3 : (t.size : Int) ≤ (s.size : Int) := by omega
  have H := Lib.hid h2
  clear h2
  go_enter Try.func21, Try.ntmps21
  go_wp2
  go_ret
  exact ⟨ret_b (by rw [H.out]; simp), rfl⟩

theorem Src.below {w w' : World} {v : Value} {sp : Option Addr} {c : Nat} {ws : List Int} (h : Src w v sp c ws) (hb : Below w.heap.size w w') : Src w' v sp c ws :=
  ⟨h.v, fun hl => let ⟨ad, e, hc⟩ := h.at_ hl; ⟨ad, e, fun j u hj => (hb.cell (World.block_lt_of_cell? w _ (hc j u hj))).trans (hc j u hj)⟩, h.bd⟩

set_option maxHeartbeats 1000000 in
set_option maxRecDepth 100000 in
theorem pieces_early (w : World) (sp : Option Addr) (c n : Nat) (inp : ByteArray) (a b : Int) (h : lgB n = true ∨ lgB n = false ∧ (4000 < inp.size ∨ inp.size ≤ 4000 ∧ (a < 0 ∨ 0 ≤ a ∧ (b < 0 ∨ 0 ≤ b ∧ (20000 < a ∨ a ≤ 20000 ∧ 20000 < b))))) :
    Calls Try.prog 4 #[.slice sp n c, .string inp, .agg #[.int .i64 a, .int .i64 b]] w (RetB (.bool true) w) := by
  rcases h with h | ⟨hlg, h | ⟨hi, h | ⟨h0, h | ⟨h1, h | ⟨h2, h⟩⟩⟩⟩⟩
  all_goals
    go_enter Try.func4, Try.ntmps4
    go_wp2
    go_region
    go_wp2_with (first
      | (go_at_call 17; refine (large5_any _ _ _ _).mono ?_; rintro e w' ⟨rfl, rfl⟩)
      | (go_at_call 15; refine (wakes_any _).mono ?_; rintro e w5 ⟨rfl, hB5⟩)
      | fail)
    go_ret
    exact ⟨ret_b (by first | rfl | simp), ((Below.refl _ _).alloc (Nat.le_refl _) _).drew.trans (hB5.mono (by simp))⟩


set_option maxHeartbeats 4000000 in
set_option maxRecDepth 100000 in
theorem pieces_walk (w : World) (sp : Option Addr) (c : Nat) (ws : List Int) (inp : ByteArray) (a b : Nat) (s1 s2 : M.St) (E1 T1 R1 E2 T2 R2 : Int) (S1 S2 : ByteArray) (n1 n2 : Nat)
    (h : Src w (.slice sp ws.length c) sp c ws) (hlg : lgB ws.length = false) (hi : inp.size ≤ 4000) (ha : a ≤ 20000) (hb : b ≤ 20000) (hN : newE ws.length 0 inp.size = 0) (hn1 : n1 ≤ a) (hn2 : n2 ≤ b)
    (hs1 : M.runs a (st0 ws 0 inp) = s1) (hs2 : M.runs b s1 = s2) (hs3 : M.runs (a + b) (st0 ws 0 inp) = s2)
    (hv1 : ocV (M.runs a (st0 ws 0 inp)) (M.steps a (st0 ws 0 inp)) = .agg #[.int .i64 E1, .int .i64 T1, .string S1, .int .i64 (n1 : Int), .int .i64 R1])
    (hv2 : ocV (M.runs b s1) (M.steps b s1) = .agg #[.int .i64 E2, .int .i64 T2, .string S2, .int .i64 (n2 : Int), .int .i64 R2])
    (hv3 : ocV (M.runs (a + b) (st0 ws 0 inp)) (M.steps (a + b) (st0 ws 0 inp)) = .agg #[.int .i64 E2, .int .i64 T2, .string S2, .int .i64 ((n1 : Int) + (n2 : Int)), .int .i64 R2])
    (hE : (E1 != 3) = false ∨ (E1 != 3) = true ∧ (E2 != E1) = false ∧ ((n2 : Int) != 0) = false ∧ (S2.toList != S1.toList) = false ∧ (S2.toList == S1.toList) = true)
    (hx1 : S1.size ≤ S2.size) (hx2 : S2.extract 0 S1.size = S1) :
    Calls Try.prog 4 #[.slice sp ws.length c, .string inp, .agg #[.int .i64 (a : Int), .int .i64 (b : Int)]] w (RetB (.bool true) w) := by
  have HN := Lib.hid hN
  have HS1 := Lib.hid hs1
  have HS2 := Lib.hid hs2
  have HS3 := Lib.hid hs3
  have HV1 := Lib.hid hv1
  have HV2 := Lib.hid hv2
  have HV3 := Lib.hid hv3
  have HX2 := Lib.hid hx2
  have HW := Lib.hid h
  have hl : ws.length ≤ 65536 := (newE_ok hN).1
  clear hN hs1 hs2 hs3 hv1 hv2 hv3 hx2 h
  rcases hE with hE | ⟨hE, hE2, hE3, hE4, hE5⟩
  all_goals
    go_enter Try.func4, Try.ntmps4
    go_wp2
    go_region
    have B0 := Lib.hid (show Below w.heap.size w ((w.alloc (.cells #[.int .i64 (a : Int), .int .i64 (b : Int)] 33)).alloc (.cells #[] U32T)).drew from (((Below.refl _ w).alloc (Nat.le_refl _) _).alloc (by simp) _).drew)
    go_wp2_with (first
      | (go_at_call 17; refine (large5_any _ _ _ _).mono ?_; rintro e w' ⟨rfl, rfl⟩)
      | (at_builtin; refine wpList_copy_words rfl _ _ rfl w2.heap.size _ _ _ ws rfl rfl rfl (Cel.new w2 _ _) (HW.out.below ((B2.out.alloc B2.out.size _))) (by omega) ?_; intro v3 w3 hown3 hb3; have hS3 := src_own hown3 HW.out.bd; have hB3 := Lib.hid (((Below.refl _ w2).alloc (Nat.le_refl _) _).trans hb3); have M3 := M2.below hB3.out; clear hb3 hown3; obtain ⟨sp3, c3, hS3⟩ := hS3; have HS3' := Lib.hid hS3; clear hS3)
      | (at_builtin; refine wpList_copy_words rfl _ _ rfl (w.heap.size + 1) _ _ _ ws rfl rfl rfl (by have := Cel.new1 w (.cells #[.int .i64 (a : Int), .int .i64 (b : Int)] 33) #[] U32T; exact this.drew) (HW.out.below B0.out) (by omega) ?_; intro v1 w1 hown1 hb1; have hS1 := src_own hown1 HW.out.bd; have B1 := Lib.hid (B0.out.trans (hb1.mono (by omega))); clear hb1 hown1; obtain ⟨sp1, c1, hS1⟩ := hS1; have HS1' := Lib.hid hS1; clear hS1)
      | (go_at_call 18; refine (own_new _ sp3 c3 ws _ 0 inp HS3'.out HN.out).mono ?_; rintro e w4 ⟨g2, gm2, gw2, rfl, N4, hB4⟩; have D4 := Lib.hid (show Duo w w4 g1 gm1 gw1 ws.length (.slice none 0 0) (st0 ws 0 inp) g2 gm2 gw2 ws.length (.slice none 0 0) (st0 ws 0 inp) from ⟨M3.below hB4, N4.mono (Nat.le_trans B2.out.size hB3.out.size), fun k h1 h2 => by have := M3.lt h1; have := N4.lo k h2; omega, (B2.out.trans (hB3.out.mono B2.out.size)).trans (hB4.mono (Nat.le_trans B2.out.size hB3.out.size))⟩); clear hB4 M3 M2 N4)
      | (go_at_call 18; refine (own_new _ sp1 c1 ws _ 0 inp HS1'.out HN.out).mono ?_; rintro e w2 ⟨g1, gm1, gw1, rfl, M1, hB2⟩; have B2 := Lib.hid (B1.out.trans (hB2.mono B1.out.size)); have M2 := M1.mono B1.out.size; clear hB2 M1)
      | (go_at_call 19; refine (duo_run _ (a + b) (by omega) (by omega) D6.out.swap).mono ?_; rintro e w7 ⟨he, ov7, hD7, hF7⟩; rw [HV3.out] at he; subst he; rw [HS3.out] at hD7; have D7 := Lib.hid (hD7.swap.alloc (.cells #[.int .i64 E2, .int .i64 T2, .string S2, .int .i64 ((n1 : Int) + (n2 : Int)), .int .i64 R2] 28)); have P1 := (D6.out.n.keeps hF7 O1).alloc (.cells #[.int .i64 E2, .int .i64 T2, .string S2, .int .i64 ((n1 : Int) + (n2 : Int)), .int .i64 R2] 28); have P2 := (D6.out.n.keeps hF7 O2).alloc (.cells #[.int .i64 E2, .int .i64 T2, .string S2, .int .i64 ((n1 : Int) + (n2 : Int)), .int .i64 R2] 28); have P3 := Cel.new w7 28 #[.int .i64 E2, .int .i64 T2, .string S2, .int .i64 ((n1 : Int) + (n2 : Int)), .int .i64 R2]; have x10 := P1.cell 0; have x12 := P1.cell 2; have x13 := P1.cell 3; have x20 := P2.cell 0; have x21 := P2.cell 1; have x22 := P2.cell 2; have x23 := P2.cell 3; have x24 := P2.cell 4; have x30 := P3.cell 0; have x31 := P3.cell 1; have x32 := P3.cell 2; have x33 := P3.cell 3; have x34 := P3.cell 4; clear hD7 hF7 O1 O2 P1 P2 P3)
      | (go_at_call 19; refine (duo_run _ b rfl (by omega) D5.out).mono ?_; rintro e w6 ⟨he, ov6, hD6, hF6⟩; rw [HV2.out] at he; subst he; rw [HS2.out] at hD6; have D6 := Lib.hid (hD6.alloc (.cells #[.int .i64 E2, .int .i64 T2, .string S2, .int .i64 (n2 : Int), .int .i64 R2] 28)); have O1 := (D5.out.m.keeps hF6 O0).alloc (.cells #[.int .i64 E2, .int .i64 T2, .string S2, .int .i64 (n2 : Int), .int .i64 R2] 28); have O2 := Cel.new w6 28 #[.int .i64 E2, .int .i64 T2, .string S2, .int .i64 (n2 : Int), .int .i64 R2]; clear hD6 hF6 O0)
      | (go_at_call 19; refine (duo_run _ a rfl (by omega) D4.out).mono ?_; rintro e w5 ⟨he, ov5, hD5, hF5⟩; rw [HV1.out] at he; subst he; rw [HS1.out] at hD5; have D5 := Lib.hid (hD5.alloc (.cells #[.int .i64 E1, .int .i64 T1, .string S1, .int .i64 (n1 : Int), .int .i64 R1] 28)); have O0 := Cel.new w5 28 #[.int .i64 E1, .int .i64 T1, .string S1, .int .i64 (n1 : Int), .int .i64 R1]; clear hD5 hF5)
      | (go_at_call 20; first | (refine (pc_any _ _ _ _ _ _ _ _ D7.out.m).mono ?_; rintro e w' ⟨rfl, rfl⟩) | (refine (pc_any _ _ _ _ _ _ _ _ D7.out.n).mono ?_; rintro e w' ⟨rfl, rfl⟩))
      | (go_at_call 21; refine (begins_yes _ _ _ hx1 HX2.out).mono ?_; rintro e w' ⟨rfl, rfl⟩)
      | (go_at_call 15; refine (wakes_any _).mono ?_; rintro e w8 ⟨rfl, hB8⟩)
      | fail)
    go_ret
    exact ⟨ret_b (by first | rfl | simp), D7.out.b.trans (hB8.mono D7.out.b.size)⟩


set_option maxHeartbeats 4000000 in
set_option maxRecDepth 100000 in
theorem pieces_big (w : World) (sp : Option Addr) (c : Nat) (ws : List Int) (inp : ByteArray) (a b : Int) (h : Src w (.slice sp ws.length c) sp c ws) (hlg : lgB ws.length = false) (hi : inp.size ≤ 4000) (ha0 : 0 ≤ a) (hb0 : 0 ≤ b) (ha : a ≤ 20000) (hb : b ≤ 20000) (hN : newE ws.length 0 inp.size = 3) (hl : ws.length ≤ 70000) :
    Calls Try.prog 4 #[.slice sp ws.length c, .string inp, .agg #[.int .i64 a, .int .i64 b]] w (RetB (.bool true) w) := by
  have HN := Lib.hid hN
  have HW := Lib.hid h
  clear hN h
  have B0 := Lib.hid (show Below w.heap.size w ((w.alloc (.cells #[.int .i64 a, .int .i64 b] 33)).alloc (.cells #[] U32T)).drew from (((Below.refl _ w).alloc (Nat.le_refl _) _).alloc (by simp) _).drew)
  go_enter Try.func4, Try.ntmps4
  go_wp2
  go_region
  go_wp2_with (first
    | (go_at_call 17; refine (large5_any _ _ _ _).mono ?_; rintro e w' ⟨rfl, rfl⟩)
    | (at_builtin; refine wpList_copy_words rfl _ _ rfl w2.heap.size _ _ _ ws rfl rfl rfl (Cel.new w2 _ _) (HW.out.below ((B2.out.alloc B2.out.size _))) (by omega) ?_; intro v3 w3 hown3 hb3; have hS3 := src_own hown3 HW.out.bd; have B3 := Lib.hid (B2.out.trans ((((Below.refl _ w2).alloc (Nat.le_refl _) _).trans hb3).mono B2.out.size)); clear hb3 hown3; obtain ⟨sp3, c3, hS3⟩ := hS3; have HS3' := Lib.hid hS3; clear hS3)
    | (at_builtin; refine wpList_copy_words rfl _ _ rfl (w.heap.size + 1) _ _ _ ws rfl rfl rfl (by have := Cel.new1 w (.cells #[.int .i64 a, .int .i64 b] 33) #[] U32T; exact this.drew) (HW.out.below B0.out) (by omega) ?_; intro v1 w1 hown1 hb1; have hS1 := src_own hown1 HW.out.bd; have B1 := Lib.hid (B0.out.trans (hb1.mono (by omega))); clear hb1 hown1; obtain ⟨sp1, c1, hS1⟩ := hS1; have HS1' := Lib.hid hS1; clear hS1)
    | (go_at_call 18; refine (cpunew_err _ sp3 c3 ws _ 0 inp HS3'.out (by rw [HN.out]; decide)).mono ?_; rw [HN.out]; rintro e w4 ⟨rfl, hB4⟩; have B4 := Lib.hid (B3.out.trans (hB4.mono B3.out.size)); clear hB4)
    | (go_at_call 18; refine (cpunew_err _ sp1 c1 ws _ 0 inp HS1'.out (by rw [HN.out]; decide)).mono ?_; rw [HN.out]; rintro e w2 ⟨rfl, hB2⟩; have B2 := Lib.hid (B1.out.trans (hB2.mono B1.out.size)); clear hB2)
    | (go_at_call 15; refine (wakes_any _).mono ?_; rintro e w8 ⟨rfl, hB8⟩)
    | fail)
  go_ret
  exact ⟨ret_b (by first | rfl | simp), B4.out.trans (hB8.mono B4.out.size)⟩

theorem lgB_no {n : Nat} (h : lgB n = false) : n ≤ 3000 ∨ 65536 < n ∧ n ≤ 70000 := by
  have := of_decide_eq_false h
  omega

/-- Where an outcome ends. -/
theorem end_ne (s : M.St) : ((if s.en = 0 then (3 : Int) else s.en) != 3) = false ∨ s.en ≠ 0 ∧ ((if s.en = 0 then (3 : Int) else s.en) != 3) = true := by
  by_cases h : s.en = 0
  · exact .inl (by simp [h])
  · by_cases h3 : s.en = 3
    · exact .inl (by simp [h3])
    · exact .inr ⟨h, by simp [h, h3]⟩

theorem pieces_any (w : World) (sp : Option Addr) (c : Nat) (ws : List Int) (v : Value) (inp : ByteArray) (a b : Int) (h : Src w v sp c ws) :
    Calls Try.prog 4 #[v, .string inp, .agg #[.int .i64 a, .int .i64 b]] w (RetB (.bool true) w) := by
  obtain rfl := h.v
  by_cases hE : lgB ws.length = true ∨ lgB ws.length = false ∧ (4000 < inp.size ∨ inp.size ≤ 4000 ∧ (a < 0 ∨ 0 ≤ a ∧ (b < 0 ∨ 0 ≤ b ∧ (20000 < a ∨ a ≤ 20000 ∧ 20000 < b))))
  · exact pieces_early w sp c ws.length inp a b hE
  · have hlg : lgB ws.length = false := by cases hx : lgB ws.length with | true => exact absurd (.inl hx) hE | false => rfl
    simp only [hlg, Bool.false_eq_true, false_or, true_and] at hE
    obtain ⟨a, rfl⟩ := Int.eq_ofNat_of_zero_le (show 0 ≤ a by omega)
    obtain ⟨b, rfl⟩ := Int.eq_ofNat_of_zero_le (show 0 ≤ b by omega)
    rcases lgB_no hlg with hl | ⟨hl, hl'⟩
    · have hN : newE ws.length 0 inp.size = 0 := by
        unfold newE
        rw [if_neg (by omega), if_neg (by omega), if_neg (by omega)]
      obtain ⟨hr, hst⟩ := M.runs_add a b (st0 ws 0 inp)
      have hx := (M.ext_runs b (M.runs a (st0 ws 0 inp))).1
      obtain ⟨u, hu⟩ := hx
      refine pieces_walk w sp c ws inp a b (M.runs a (st0 ws 0 inp)) (M.runs b (M.runs a (st0 ws 0 inp))) _ _ _ _ _ _ _ _ (M.steps a (st0 ws 0 inp)) (M.steps b (M.runs a (st0 ws 0 inp))) h hlg (by omega) (by omega) (by omega) hN (M.steps_le _ _) (M.steps_le _ _) rfl rfl hr rfl rfl
        (by rw [hr, hst]; unfold ocV; rw [Int.natCast_add]) ?_ ?_ ?_
      · rcases end_ne (M.runs a (st0 ws 0 inp)) with he | ⟨h0, he⟩
        · exact .inl he
        · obtain ⟨e1, e2⟩ := M.runs_ended b _ h0
          rw [e1, e2]
          exact .inr ⟨he, by simp, by simp, by simp, by simp⟩
      · rw [hu, strOfNums_size, strOfNums_size, List.length_append]; omega
      · rw [hu]; exact strOf_begins _ _
    · have hN : newE ws.length 0 inp.size = 3 := by
        unfold newE
        rw [if_pos (by omega)]
      exact pieces_big w sp c ws inp a b h hlg (by omega) (by omega) (by omega) (by omega) (by omega) hN hl'

end Go.Proofs.Ytmlmjkojhfjjlaa
