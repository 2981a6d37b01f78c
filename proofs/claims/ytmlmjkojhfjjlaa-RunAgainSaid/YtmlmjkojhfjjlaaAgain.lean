/- RunAgain: the walk. -/
import Derived.Test.YtmlmjkojhfjjlaaFuel
import Derived.Deep.RegionHeld3
namespace Go.Proofs.Ytmlmjkojhfjjlaa
set_option linter.unusedVariables false
set_option linter.unusedSimpArgs false
open Go.RowKit

theorem step_copy_words {ops : Array Oper} {o : Oper} {a : Act} {w : World} {K : Act → World → Prop} {Q : Exit → Act → World → Prop} {X : Prop} (hgd : o.guard = none) (s x : Operand)
    (ho : o.op = .call { callee := .builtin .append, args := #[s, x], argTypes := #[32, 32] }) (g n c : Nat) (sp : Option Addr) (ws : List Int)
    (hs : a.eval s = .slice (some ⟨g, 0, none⟩) 0 0) (hx : a.eval x = .slice sp n c) (hn : n = ws.length) (hg : Cel w g U32T #[]) (hr : Src w (.slice sp n c) sp c ws) (hl : ws.length ≤ 1000000)
    (h : ∀ v' w', w'.ownsRow g U32T 1 v' ws.length (ws.map (Value.int .u32)) → Below g w w' → K (a.put o.dst v') w') : if Region.wanted o (yielded ops a.tmps) = true then Oper.wp Try.prog o a w K Q else X := by
  have hw : Region.wanted o (yielded ops a.tmps) = true := by simp [Region.wanted, hgd]
  rw [if_pos hw]
  obtain ⟨v', w', hrun, h2, h3⟩ := run_copy_words w o.type g n c sp ws hn hg hr hl
  unfold Oper.wp execOp
  simp only [ho, resolve, invoke, builtin, Sem.run_bind, Sem.run_pure, Result.andThen_ok, List.map_toArray, List.map_cons, List.map_nil, hs, hx, hrun]
  exact h v' w' h2 h3

set_option maxHeartbeats 4000000 in
set_option maxRecDepth 100000 in
theorem again_early (w : World) (sp mp : Option Addr) (c n m mc : Nat) (start : Int) (inp : ByteArray) (a b : Int) (h : lgR n m = true ∨ lgR n m = false ∧ (4000 < inp.size ∨ inp.size ≤ 4000 ∧ (a < 0 ∨ 0 ≤ a ∧ (b < 0 ∨ 0 ≤ b ∧ (3000 < a ∨ a ≤ 3000 ∧ 3000 < b))))) :
    Calls Try.prog 6 #[.agg #[.slice sp n c, .int .i64 start, .slice mp m mc], .string inp, .agg #[.int .i64 a, .int .i64 b]] w (RetB (.bool true) w) := by
  have B0 := Lib.hid (show Below w.heap.size w ((w.alloc (.cells #[.slice sp n c, .int .i64 start, .slice mp m mc] 45)).alloc (.cells #[.int .i64 a, .int .i64 b] 33)).drew from (((Below.refl _ w).alloc (Nat.le_refl _) _).alloc (by simp) _).drew)
  rcases h with h | ⟨hlg, h | ⟨hi, h | ⟨h0, h | ⟨h1, h | ⟨h2, h⟩⟩⟩⟩⟩
  all_goals
    go_enter Try.func6, Try.ntmps6
    go_wp2
    go_region
    go_wp2_with (first
      | (go_at_call 22; refine (large27_any _ _ _ _ _ _ _ _).mono ?_; rintro e w1 ⟨rfl, hb1⟩; have B1 := Lib.hid (B0.out.trans (hb1.mono B0.out.size)); clear hb1)
      | (go_at_call 23; refine (wakesR_any _).mono ?_; rintro e w5 ⟨rfl, hB5⟩)
      | fail)
    go_ret
    exact ⟨ret_b (by first | rfl | simp), B1.out.trans (hB5.mono B1.out.size)⟩

set_option maxHeartbeats 4000000 in
set_option maxRecDepth 100000 in
theorem again_err (w : World) (sp mp : Option Addr) (c m mc : Nat) (ws : List Int) (start : Int) (inp : ByteArray) (a b : Nat) (E : Int)
    (h : Src w (.slice sp ws.length c) sp c ws) (hlg : lgR ws.length m = false) (hl : ws.length ≤ 70000) (hi : inp.size ≤ 4000) (ha : a ≤ 3000) (hb : b ≤ 3000)
    (hR : RR ws start inp ((a : Int) + (b : Int)) (.agg #[.int .i64 0, .int .i64 0, .string ⟨#[]⟩, .int .i64 0, .int .i64 0]) E) (hN : newE ws.length start inp.size = E) (hE : (E != 0) = true) (hE0 : E ≠ 0) :
    Calls Try.prog 6 #[.agg #[.slice sp ws.length c, .int .i64 start, .slice mp m mc], .string inp, .agg #[.int .i64 (a : Int), .int .i64 (b : Int)]] w (RetB (.bool true) w) := by
  have HN := Lib.hid (And.intro hN hE0)
  clear hN hE0
  have B0 := Lib.hid (show Below w.heap.size w ((w.alloc (.cells #[.slice sp ws.length c, .int .i64 start, .slice mp m mc] 45)).alloc (.cells #[.int .i64 (a : Int), .int .i64 (b : Int)] 33)).drew from (((Below.refl _ w).alloc (Nat.le_refl _) _).alloc (by simp) _).drew)
  have I0 := ((Cel.new w 45 #[.slice sp ws.length c, .int .i64 start, .slice mp m mc]).alloc (.cells #[.int .i64 (a : Int), .int .i64 (b : Int)] 33)).drew
  have HI := Lib.hid I0
  have HW := Lib.hid h
  have HR := Lib.hid hR
  clear I0 h hR
  go_enter Try.func6, Try.ntmps6
  go_wp2
  go_region
  go_wp2_with (first
    | (go_at_call 22; refine (large27_any _ _ _ _ _ _ _ _).mono ?_; rintro e w1 ⟨rfl, hb1⟩; have B1 := Lib.hid (B0.out.trans (hb1.mono B0.out.size)); have I1 := HI.out.below hb1 HI.out.lt; have i10 := I1.cell 0; have i11 := I1.cell 1; have i12 := I1.cell 2; have HI1 := Lib.hid I1; clear hb1 I1)
    | (go_at_call 24; have tok := HB2; refine (rrun_all _ sp c ws _ _ start inp ((a : Int) + (b : Int)) _ E (HW.out.below (HB2.out.alloc HB2.out.size _)) HR.out).mono ?_; rintro e w3 ⟨rfl, hb3⟩; have HB3 := Lib.hid ((HB2.out.alloc HB2.out.size (.cells #[.int .i64 0, .int .i64 0, .string ⟨#[]⟩, .int .i64 0, .int .i64 0] 28)).trans (hb3.mono (by have := HB2.out.size; simp; omega))); have P1 := (HP.out.below hb3 HP.out.lt).alloc (.cells #[.int .i64 0, .int .i64 0, .string ⟨#[]⟩, .int .i64 0, .int .i64 0] 28); have P2 := Cel.new w3 28 #[.int .i64 0, .int .i64 0, .string ⟨#[]⟩, .int .i64 0, .int .i64 0]; have I3 := (HI2.out.below hb3 HI2.out.lt).alloc (.cells #[.int .i64 0, .int .i64 0, .string ⟨#[]⟩, .int .i64 0, .int .i64 0] 28); have x10 := P1.cell 0; have x11 := P1.cell 1; have x12 := P1.cell 2; have x13 := P1.cell 3; have x14 := P1.cell 4; have x20 := P2.cell 0; have x21 := P2.cell 1; have x22 := P2.cell 2; have x23 := P2.cell 3; have x24 := P2.cell 4; have HP1 := Lib.hid P1; have HP2 := Lib.hid P2; have HI3 := Lib.hid I3; clear hb3 P1 P2 I3 i20 i21 i22)
    | (go_at_call 24; refine (rrun_all _ sp c ws _ _ start inp ((a : Int) + (b : Int)) _ E (HW.out.below B1.out) HR.out).mono ?_; rintro e w2 ⟨rfl, hb2⟩; have HB2 := Lib.hid (B1.out.trans (hb2.mono B1.out.size)); have I2 := (HI1.out.below hb2 HI1.out.lt).alloc (.cells #[.int .i64 0, .int .i64 0, .string ⟨#[]⟩, .int .i64 0, .int .i64 0] 28); have i20 := I2.cell 0; have i21 := I2.cell 1; have i22 := I2.cell 2; have HP := Lib.hid (Cel.new w2 28 #[.int .i64 0, .int .i64 0, .string ⟨#[]⟩, .int .i64 0, .int .i64 0]); have HI2 := Lib.hid I2; clear hb2 I2 i10 i11 i12)
    | (go_at_call 26; refine (same_yes _ _ _ _ _ _ _ _ _ _ _ rfl rfl rfl rfl rfl).mono ?_; rintro e w4 ⟨rfl, hb4⟩; have HB4 := Lib.hid ((HB3.out.alloc HB3.out.size (.cells #[.int .i64 0, .int .i64 0, .string ⟨#[]⟩, .int .i64 0, .int .i64 0] 28)).trans (hb4.mono (by have := HB3.out.size; simp; omega))); have I4 := HI3.out.below hb4 HI3.out.lt; have P4 := Lib.hid (HP1.out.below hb4 HP1.out.lt); have i0 := I4.cell 0; have i1 := I4.cell 1; have lt4 := I4.lt; have HI4 := Lib.hid I4; have J4 := I4.alloc (.cells #[] U32T); have j0 := J4.cell 0; have j1 := J4.cell 1; clear hb4 I4 J4 x10 x11 x12 x13 x14 x20 x21 x22 x23 x24)
    | fail)
  go_region_held3 (fun w' => w'.cell? ⟨w.heap.size, 0, none⟩ = some (.slice sp ws.length c) ∧ w'.cell? ⟨w.heap.size, 1, none⟩ = some (.int .i64 start))
    (first | exact ⟨i0, i1⟩ | exact ⟨j0, j1⟩ | exact ⟨k0, k1⟩ | exact ⟨l0, l1⟩ | go_keep)
    (first
      | (refine step_copy_words rfl _ _ rfl w4.heap.size _ _ _ ws rfl rfl rfl (by exact (Cel.new w4 _ _).drew) (HW.out.below (HB4.out.alloc HB4.out.size _).drew) (by omega) ?_; intro v5 w5 hown5 hb5; have HI5 := Lib.hid ((HI4.out.alloc (.cells #[] U32T)).drew.below hb5 lt4); have k0 := HI5.out.cell 0; have k1 := HI5.out.cell 1; have HB5 := Lib.hid ((HB4.out.alloc HB4.out.size (.cells #[] U32T)).drew.trans (hb5.mono HB4.out.size)); have hS5 := src_own hown5 HW.out.bd; clear hb5 hown5; obtain ⟨sp5, c5, hS5⟩ := hS5; have HS5 := Lib.hid hS5; clear hS5)
      | (go_at_call 18; refine (cpunew_err _ sp5 c5 ws _ start inp HS5.out (by rw [HN.out.1]; exact HN.out.2)).mono ?_; rw [HN.out.1]; rintro e w6 ⟨rfl, hb6⟩; have HB6 := Lib.hid (HB5.out.trans (hb6.mono HB5.out.size)); have I6 := HI5.out.below hb6 HI5.out.lt; have l0 := I6.cell 0; have l1 := I6.cell 1; clear hb6 I6))
  go_wp2_with (first
    | (go_at_call 23; refine (wakesR_any _).mono ?_; rintro e w8 ⟨rfl, hB8⟩)
    | fail)
  go_ret
  exact ⟨ret_b (by first | rfl | simp), HB6.out.trans (hB8.mono HB6.out.size)⟩

set_option maxHeartbeats 4000000 in
set_option maxRecDepth 100000 in
theorem again_ok (w : World) (sp mp : Option Addr) (c m mc : Nat) (ws : List Int) (start : Int) (inp : ByteArray) (a b : Nat) (E : Int) (s1 : M.St) (e1 t1 r1 e2 t2 r2 : Int) (S1 S2 : ByteArray) (n1 n2 : Nat)
    (h : Src w (.slice sp ws.length c) sp c ws) (hlg : lgR ws.length m = false) (hl : ws.length ≤ 70000) (hi : inp.size ≤ 4000) (ha : a ≤ 3000) (hb : b ≤ 3000) (hn1 : n1 ≤ a) (hn2 : n2 ≤ b)
    (hR : RR ws start inp ((a : Int) + (b : Int)) (.agg #[.int .i64 e2, .int .i64 t2, .string S2, .int .i64 ((n1 : Int) + (n2 : Int)), .int .i64 r2]) E) (hN : newE ws.length start inp.size = 0) (hE : (E != 0) = false) (hE2 : (E == 0) = true)
    (hs1 : M.runs a (st0 ws start inp) = s1)
    (hv1 : ocV (M.runs a (st0 ws start inp)) (M.steps a (st0 ws start inp)) = .agg #[.int .i64 e1, .int .i64 t1, .string S1, .int .i64 (n1 : Int), .int .i64 r1]) (hv2 : ocV (M.runs b s1) (M.steps b s1) = .agg #[.int .i64 e2, .int .i64 t2, .string S2, .int .i64 (n2 : Int), .int .i64 r2]) :
    Calls Try.prog 6 #[.agg #[.slice sp ws.length c, .int .i64 start, .slice mp m mc], .string inp, .agg #[.int .i64 (a : Int), .int .i64 (b : Int)]] w (RetB (.bool true) w) := by
  have HN := Lib.hid hN
  have HS1 := Lib.hid hs1
  have HV1 := Lib.hid hv1
  have HV2 := Lib.hid hv2
  clear hN hs1 hv1 hv2
  have B0 := Lib.hid (show Below w.heap.size w ((w.alloc (.cells #[.slice sp ws.length c, .int .i64 start, .slice mp m mc] 45)).alloc (.cells #[.int .i64 (a : Int), .int .i64 (b : Int)] 33)).drew from (((Below.refl _ w).alloc (Nat.le_refl _) _).alloc (by simp) _).drew)
  have I0 := ((Cel.new w 45 #[.slice sp ws.length c, .int .i64 start, .slice mp m mc]).alloc (.cells #[.int .i64 (a : Int), .int .i64 (b : Int)] 33)).drew
  have HI := Lib.hid I0
  have HW := Lib.hid h
  have HR := Lib.hid hR
  clear I0 h hR
  go_enter Try.func6, Try.ntmps6
  go_wp2
  go_region
  go_wp2_with (first
    | (go_at_call 22; refine (large27_any _ _ _ _ _ _ _ _).mono ?_; rintro e w1 ⟨rfl, hb1⟩; have B1 := Lib.hid (B0.out.trans (hb1.mono B0.out.size)); have I1 := HI.out.below hb1 HI.out.lt; have i10 := I1.cell 0; have i11 := I1.cell 1; have i12 := I1.cell 2; have HI1 := Lib.hid I1; clear hb1 I1)
    | (go_at_call 24; have tok := HB2; refine (rrun_all _ sp c ws _ _ start inp ((a : Int) + (b : Int)) _ E (HW.out.below (HB2.out.alloc HB2.out.size _)) HR.out).mono ?_; rintro e w3 ⟨rfl, hb3⟩; have HB3 := Lib.hid ((HB2.out.alloc HB2.out.size (.cells #[.int .i64 e2, .int .i64 t2, .string S2, .int .i64 ((n1 : Int) + (n2 : Int)), .int .i64 r2] 28)).trans (hb3.mono (by have := HB2.out.size; simp; omega))); have P1 := (HP.out.below hb3 HP.out.lt).alloc (.cells #[.int .i64 e2, .int .i64 t2, .string S2, .int .i64 ((n1 : Int) + (n2 : Int)), .int .i64 r2] 28); have P2 := Cel.new w3 28 #[.int .i64 e2, .int .i64 t2, .string S2, .int .i64 ((n1 : Int) + (n2 : Int)), .int .i64 r2]; have I3 := (HI2.out.below hb3 HI2.out.lt).alloc (.cells #[.int .i64 e2, .int .i64 t2, .string S2, .int .i64 ((n1 : Int) + (n2 : Int)), .int .i64 r2] 28); have x10 := P1.cell 0; have x11 := P1.cell 1; have x12 := P1.cell 2; have x13 := P1.cell 3; have x14 := P1.cell 4; have x20 := P2.cell 0; have x21 := P2.cell 1; have x22 := P2.cell 2; have x23 := P2.cell 3; have x24 := P2.cell 4; have HP1 := Lib.hid P1; have HP2 := Lib.hid P2; have HI3 := Lib.hid I3; clear hb3 P1 P2 I3 i20 i21 i22)
    | (go_at_call 24; refine (rrun_all _ sp c ws _ _ start inp ((a : Int) + (b : Int)) _ E (HW.out.below B1.out) HR.out).mono ?_; rintro e w2 ⟨rfl, hb2⟩; have HB2 := Lib.hid (B1.out.trans (hb2.mono B1.out.size)); have I2 := (HI1.out.below hb2 HI1.out.lt).alloc (.cells #[.int .i64 e2, .int .i64 t2, .string S2, .int .i64 ((n1 : Int) + (n2 : Int)), .int .i64 r2] 28); have i20 := I2.cell 0; have i21 := I2.cell 1; have i22 := I2.cell 2; have HP := Lib.hid (Cel.new w2 28 #[.int .i64 e2, .int .i64 t2, .string S2, .int .i64 ((n1 : Int) + (n2 : Int)), .int .i64 r2]); have HI2 := Lib.hid I2; clear hb2 I2 i10 i11 i12)
    | (go_at_call 26; refine (same_yes _ _ _ _ _ _ _ _ _ _ _ rfl rfl rfl rfl rfl).mono ?_; rintro e w4 ⟨rfl, hb4⟩; have HB4 := Lib.hid ((HB3.out.alloc HB3.out.size (.cells #[.int .i64 e2, .int .i64 t2, .string S2, .int .i64 ((n1 : Int) + (n2 : Int)), .int .i64 r2] 28)).trans (hb4.mono (by have := HB3.out.size; simp; omega))); have I4 := HI3.out.below hb4 HI3.out.lt; have P4 := Lib.hid (HP1.out.below hb4 HP1.out.lt); have i0 := I4.cell 0; have i1 := I4.cell 1; have lt4 := I4.lt; have HI4 := Lib.hid I4; have J4 := I4.alloc (.cells #[] U32T); have j0 := J4.cell 0; have j1 := J4.cell 1; clear hb4 I4 J4 x10 x11 x12 x13 x14 x20 x21 x22 x23 x24)
    | fail)
  go_region_held3 (fun w' => w'.cell? ⟨w.heap.size, 0, none⟩ = some (.slice sp ws.length c) ∧ w'.cell? ⟨w.heap.size, 1, none⟩ = some (.int .i64 start))
    (first | exact ⟨i0, i1⟩ | exact ⟨j0, j1⟩ | exact ⟨k0, k1⟩ | exact ⟨l0, l1⟩ | go_keep)
    (first
      | (refine step_copy_words rfl _ _ rfl w4.heap.size _ _ _ ws rfl rfl rfl (by exact (Cel.new w4 _ _).drew) (HW.out.below (HB4.out.alloc HB4.out.size _).drew) (by omega) ?_; intro v5 w5 hown5 hb5; have hb5x := hb5; have HI5 := Lib.hid ((HI4.out.alloc (.cells #[] U32T)).drew.below hb5 lt4); have k0 := HI5.out.cell 0; have k1 := HI5.out.cell 1; have HB5 := Lib.hid ((HB4.out.alloc HB4.out.size (.cells #[] U32T)).drew.trans (hb5.mono HB4.out.size)); have hS5 := src_own hown5 HW.out.bd; clear hb5 hown5; obtain ⟨sp5, c5, hS5⟩ := hS5; have HS5 := Lib.hid hS5; have HP5 := Lib.hid ((P4.out.alloc (.cells #[] U32T)).drew.below (show Below w4.heap.size _ w5 from hb5x) P4.out.lt); clear hS5 hb5x)
      | (go_at_call 18; refine (own_new _ sp5 c5 ws _ start inp HS5.out HN.out).mono ?_; rintro e w6 ⟨g, gm, gw, rfl, M5, hb6⟩; have HB6 := Lib.hid (HB5.out.trans (hb6.mono HB5.out.size)); have I6 := HI5.out.below hb6 HI5.out.lt; have l0 := I6.cell 0; have l1 := I6.cell 1; have P6 := Lib.hid (HP5.out.below hb6 HP5.out.lt); have M6 := Lib.hid (M5.mono HB5.out.size); clear hb6 I6 M5))
  clear l0 l1
  go_wp2_with (first
    | (go_at_call 19; have tok := HB7; refine (own_run _ w.heap.size g gm gw ws.length ov7 s1 b (by omega) (M7.out.alloc (.cells #[.int .i64 e1, .int .i64 t1, .string S1, .int .i64 (n1 : Int), .int .i64 r1] 28)) (HB7.out.alloc HB7.out.size _).size).mono ?_; rintro e w8 ⟨he, ov8, M8, hF8, hk8⟩; rw [HV2.out] at he; subst he; have HB8 := Lib.hid (below_fr (HB7.out.alloc HB7.out.size (.cells #[.int .i64 e1, .int .i64 t1, .string S1, .int .i64 (n1 : Int), .int .i64 r1] 28)) hF8 (HB7.out.alloc HB7.out.size _).size (M7.out.alloc (.cells #[.int .i64 e1, .int .i64 t1, .string S1, .int .i64 (n1 : Int), .int .i64 r1] 28)).lo); have P8 := (((M7.out.alloc (.cells #[.int .i64 e1, .int .i64 t1, .string S1, .int .i64 (n1 : Int), .int .i64 r1] 28)).keeps hF8 (P7.out.alloc _))).alloc (.cells #[.int .i64 e2, .int .i64 t2, .string S2, .int .i64 (n2 : Int), .int .i64 r2] 28); have Q8 := ((M7.out.alloc (.cells #[.int .i64 e1, .int .i64 t1, .string S1, .int .i64 (n1 : Int), .int .i64 r1] 28)).keeps hF8 Q7.out).alloc (.cells #[.int .i64 e2, .int .i64 t2, .string S2, .int .i64 (n2 : Int), .int .i64 r2] 28); have R8 := Cel.new w8 28 #[.int .i64 e2, .int .i64 t2, .string S2, .int .i64 (n2 : Int), .int .i64 r2]; have x0 := P8.cell 0; have x2 := P8.cell 2; have x3 := P8.cell 3; have y3 := Q8.cell 3; have z0 := R8.cell 0; have z2 := R8.cell 2; have z3 := R8.cell 3; clear P8 Q8 R8 M8 hF8 hk8)
    | (go_at_call 19; refine (own_run _ w.heap.size g gm gw ws.length _ (st0 ws start inp) a (by omega) M6.out HB6.out.size).mono ?_; rintro e w7 ⟨he, ov7, hM7, hF7, hk7⟩; rw [HV1.out] at he; subst he; rw [HS1.out] at hM7; have M7 := Lib.hid hM7; have HB7 := Lib.hid (below_fr HB6.out hF7 HB6.out.size M6.out.lo); have P7 := Lib.hid (M6.out.keeps hF7 P6.out); have Q7 := Lib.hid (Cel.new w7 28 #[.int .i64 e1, .int .i64 t1, .string S1, .int .i64 (n1 : Int), .int .i64 r1]); clear hM7 hF7 hk7)
    | (go_at_call 23; refine (wakesR_any _).mono ?_; rintro e w9 ⟨rfl, hB9⟩)
    | fail)
  go_ret
  exact ⟨ret_b (by first | rfl | simp), (HB8.out.alloc HB8.out.size _).trans (hB9.mono (by have := HB8.out.size; simp; omega))⟩


theorem again_any (w : World) (sp mp : Option Addr) (c m mc : Nat) (ws : List Int) (v : Value) (start : Int) (inp : ByteArray) (a b : Int) (h : Src w v sp c ws) :
    Calls Try.prog 6 #[.agg #[v, .int .i64 start, .slice mp m mc], .string inp, .agg #[.int .i64 a, .int .i64 b]] w (RetB (.bool true) w) := by
  obtain rfl := h.v
  by_cases hE : lgR ws.length m = true ∨ lgR ws.length m = false ∧ (4000 < inp.size ∨ inp.size ≤ 4000 ∧ (a < 0 ∨ 0 ≤ a ∧ (b < 0 ∨ 0 ≤ b ∧ (3000 < a ∨ a ≤ 3000 ∧ 3000 < b))))
  · exact again_early w sp mp c ws.length m mc start inp a b hE
  · have hlg : lgR ws.length m = false := by cases hx : lgR ws.length m with | true => exact absurd (.inl hx) hE | false => rfl
    simp only [hlg, Bool.false_eq_true, false_or, true_and] at hE
    obtain ⟨a, rfl⟩ := Int.eq_ofNat_of_zero_le (show 0 ≤ a by omega)
    obtain ⟨b, rfl⟩ := Int.eq_ofNat_of_zero_le (show 0 ≤ b by omega)
    by_cases hN : newE ws.length start inp.size = 0
    · obtain ⟨hr, hst⟩ := M.runs_add a b (st0 ws start inp)
      refine again_ok w sp mp c m mc ws start inp a b 0 (M.runs a (st0 ws start inp)) _ _ _ _ _ _ _ _ (M.steps a (st0 ws start inp)) (M.steps b (M.runs a (st0 ws start inp))) h hlg (lgR_no hlg) (by omega) (by omega) (by omega) (M.steps_le _ _) (M.steps_le _ _)
        (.inl ⟨hN, a + b, by omega, by omega, ?_, rfl⟩) hN (by decide) (by decide) rfl rfl rfl
      rw [hr, hst]
      unfold ocV
      rw [Int.natCast_add]
    · exact again_err w sp mp c m mc ws start inp a b _ h hlg (lgR_no hlg) (by omega) (by omega) (by omega) (.inr (.inl ⟨hN, rfl, rfl⟩)) rfl (by simpa using hN) hN

end Go.Proofs.Ytmlmjkojhfjjlaa
