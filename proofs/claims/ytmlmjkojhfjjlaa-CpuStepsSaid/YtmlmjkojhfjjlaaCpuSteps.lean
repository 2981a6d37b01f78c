/- CpuSteps: the walk. -/
import Derived.Test.YtmlmjkojhfjjlaaDuetA
import Derived.Test.YtmlmjkojhfjjlaaRGood
namespace Go.Proofs.Ytmlmjkojhfjjlaa
set_option linter.unusedVariables false
set_option linter.unusedSimpArgs false
open Go.RowKit

set_option maxHeartbeats 2000000 in
set_option maxRecDepth 100000 in
theorem csteps_early (w : World) (sp : Option Addr) (n c : Nat) (inp : ByteArray) (f : Int) (u v : Bool) (a b cc op im : Int) (h : ¬ M.Good f u v a b cc op im ∨ M.Good f u v a b cc op im ∧ 4000 < inp.size) :
    Calls Try.prog 13 #[iv f u v a b cc op im, .slice sp n c, .string inp] w (RetB (.bool true) w) := by
  have B0 := Lib.hid (show Below w.heap.size w (w.alloc (.cells #[.int .i64 f, .bool u, .bool v, .int .i64 a, .int .i64 b, .int .i64 cc, .int .i64 op, .int .i64 im] 24)) from ((Below.refl _ w).alloc (Nat.le_refl _) _))
  rcases h with h | ⟨hg, h⟩
  · have HE := Lib.hid (fun w0 => renc_any_no f u v a b cc op im w0 h)
    clear h
    go_enter Try.func13, Try.ntmps13
    go_wp2_with (first
      | (go_at_call 35; refine (HE.out _).mono ?_; rintro e w1 ⟨rfl, hb1⟩; have HB1 := Lib.hid (B0.out.trans (hb1.mono B0.out.size)); clear hb1)
      | (go_at_call 15; refine (wakes_any _).mono ?_; rintro e w5 ⟨rfl, hB5⟩)
      | fail)
    go_ret
    exact ⟨ret_b (by first | rfl | simp), HB1.out.trans (hB5.mono HB1.out.size)⟩
  · have HE := Lib.hid (fun w0 => renc_yes f u v a b cc op im w0 hg)
    clear hg
    generalize M.enc f u v a b cc op im = W at *
    go_enter Try.func13, Try.ntmps13
    go_wp2_with (first
      | (go_at_call 35; refine (HE.out _).mono ?_; rintro e w1 ⟨rfl, hb1⟩; have HB1 := Lib.hid (B0.out.trans (hb1.mono B0.out.size)); clear hb1)
      | (go_at_call 15; refine (wakes_any _).mono ?_; rintro e w5 ⟨rfl, hB5⟩)
      | fail)
    go_ret
    exact ⟨ret_b (by first | rfl | simp), HB1.out.trans (hB5.mono HB1.out.size)⟩

/-- Words, appended one pair behind the other. -/
def CsAt (w : World) (k : Nat) (v : Value) (wr : World) : Prop := ∃ ws : List Int, ws.length = 2 * k ∧ (∀ x ∈ ws, 0 ≤ x ∧ x < 4294967296) ∧ wr.ownsRow w.heap.size U32T 1 v (2 * k) (ws.map (Value.int .u32)) ∧ Below w.heap.size w wr
theorem cs_next {w w3 w4 : World} {k : Nat} {v v4 : Value} {o : Obj} {ws : List Int} {X Y : Int} (hw : ws.length = 2 * k) (hb : ∀ x ∈ ws, 0 ≤ x ∧ x < 4294967296) (hX : 0 ≤ X ∧ X < 4294967296) (hY : 0 ≤ Y ∧ Y < 4294967296) (hown : w3.ownsRow w.heap.size U32T 1 v (2 * k) (ws.map (Value.int .u32)))
    (hB : Below w.heap.size w w3) (hg : (w3.alloc o).grownBy w4 v.ownBlock) (hown2 : w4.ownsRow w.heap.size U32T 1 v4 (2 * k + 2) (ws.map (Value.int .u32) ++ [.int .u32 X, .int .u32 Y])) : CsAt w (k + 1) v4 w4 := by
  refine ⟨ws ++ [X, Y], by simp [hw]; omega, ?_, by simpa [Nat.mul_add] using hown2, (hB.alloc hB.size o).grown hg (hB.alloc hB.size o).size (fun j hj => own_base hown hj)⟩
  intro x hx
  simp only [List.mem_append, List.mem_cons, List.not_mem_nil, or_false] at hx
  rcases hx with hx | rfl | rfl
  · exact hb x hx
  · exact hX
  · exact hY

theorem bd_of_mem {ws : List Int} (h : ∀ x ∈ ws, 0 ≤ x ∧ x < 4294967296) (i : Int) : 0 ≤ M.at_ ws i ∧ M.at_ ws i < 4294967296 := by
  unfold M.at_
  rw [List.getD_eq_getElem?_getD]
  cases hx : ws[i.toNat]? with
  | none => simp
  | some x => exact h x (List.mem_of_getElem? hx)

theorem cs_end {w w3 w4 : World} {v : Value} {b2 cp : Nat} {o : Obj} {ws : List Int} {W : Int} (hw : ws.length = 2 * 14) (hb : ∀ x ∈ ws, 0 ≤ x ∧ x < 4294967296) (hW : 0 ≤ W ∧ W < 4294967296) (hown : w3.ownsRow w.heap.size U32T 1 v (2 * 14) (ws.map (Value.int .u32)))
    (hB : Below w.heap.size w w3) (hg : (w3.alloc o).grownBy w4 v.ownBlock) (hown2 : w4.ownsRow w.heap.size U32T 1 (.slice (some ⟨b2, 0, none⟩) (2 * 14 + 5) cp) (2 * 14 + 5) (ws.map (Value.int .u32) ++ [.int .u32 W, .int .u32 W, .int .u32 0, .int .u32 0, .int .u32 7])) :
    ∃ WS : List Int, WS.length = 33 ∧ Src w4 (.slice (some ⟨b2, 0, none⟩) (2 * 14 + 5) cp) (some ⟨b2, 0, none⟩) cp WS ∧ Below w.heap.size w w4 := by
  have hl : (ws ++ [W, W, 0, 0, 7]).length = 33 := by simp [hw]
  refine ⟨ws ++ [W, W, 0, 0, 7], hl, ?_, (hB.alloc hB.size o).grown hg (hB.alloc hB.size o).size (fun j hj => own_base hown hj)⟩
  refine src_slice (base := w.heap.size) ?_ (bd_of_mem ?_)
  · rw [hl]
    simpa using hown2
  · intro x hx
    simp only [List.mem_append, List.mem_cons, List.not_mem_nil, or_false] at hx
    rcases hx with hx | rfl | rfl | rfl | rfl | rfl
    · exact hb x hx
    · exact hW
    · exact hW
    · decide
    · decide
    · decide
theorem newE_33 {ws : List Int} {n : Nat} (h : ws.length = 33) (hn : n ≤ 4000) : newE ws.length 0 n = 0 := by
  unfold newE
  rw [h, if_neg (by decide), if_neg (by omega), if_neg (by decide)]

theorem good_hi (k hi : Int) (h0 : 0 ≤ k) (h1 : k < 16) (h2 : 0 ≤ hi) (h3 : hi < 65536) : M.Good 1 true false k 0 0 0 hi := by unfold M.Good; refine ⟨by omega, .inr (.inl ⟨rfl, fun _ => .inl rfl, rfl, h2, h3⟩)⟩
theorem good_lo (k lo : Int) (h0 : 0 ≤ k) (h1 : k < 16) (h2 : 0 ≤ lo) (h3 : lo < 65536) : M.Good 1 false false k k 0 6 lo := by unfold M.Good; refine ⟨by omega, .inr (.inl ⟨rfl, fun h => by simp at h, rfl, h2, h3⟩)⟩

theorem and16 (x : Int) (h0 : 0 ≤ x) (h1 : x < 4294967296) : bits .and .u32 x 65535 = x % 65536 := u32_mask 16 (by decide) x h0 h1

set_option maxHeartbeats 4000000 in
set_option maxRecDepth 100000 in
theorem csteps_ok (w : World) (sp : Option Addr) (c : Nat) (rs : List Int) (inp : ByteArray) (f : Int) (u v : Bool) (a b cc op im : Int) (hg : M.Good f u v a b cc op im) (hi : inp.size ≤ 4000) (h : Src w (.slice sp rs.length c) sp c rs) :
    Calls Try.prog 13 #[iv f u v a b cc op im, .slice sp rs.length c, .string inp] w (RetB (.bool true) w) := by
  have hpre : Below w.heap.size w (w.alloc (.cells #[.int .i64 f, .bool u, .bool v, .int .i64 a, .int .i64 b, .int .i64 cc, .int .i64 op, .int .i64 im] 24)) := ((Below.refl _ w).alloc (Nat.le_refl _) _)
  have B0 := Lib.hid hpre
  have HE := Lib.hid (fun w0 => renc_yes f u v a b cc op im w0 hg)
  have HWb := Lib.hid (M.enc_bd hg)
  have HR := Lib.hid h
  obtain ⟨i0, hi0, hz0, hz1, hz2⟩ := info_parts info32
  clear hg h hpre
  generalize M.enc f u v a b cc op im = W at *
  go_enter Try.func13, Try.ntmps13
  go_wp2_with (first
    | (go_at_call 35; refine (HE.out _).mono ?_; rintro e w1 ⟨rfl, hb1⟩; have HB1 := Lib.hid (B0.out.trans (hb1.mono B0.out.size)); clear hb1)
    | fail)
  go_loopw [9, 10] (fun v i wr => ∃ k : Nat, k ≤ 14 ∧ i = .int .i64 (k : Int) ∧ CsAt w k v wr) (fun _ i _ => 14 - (intOf i).toNat)
  · exact ⟨0, Nat.zero_le _, rfl, [], rfl, by simp, ⟨rfl, .inl ⟨rfl, rfl⟩⟩, HB1.out⟩
  obtain ⟨k, hk, rfl, ws, hws, hwb, hown, hB⟩ := hrel
  have HO := Lib.hid hown
  have HBr := Lib.hid hB
  have HWS := Lib.hid (And.intro hws hwb)
  clear hown hB hws hwb
  by_cases hlt : k < 14
  · have hlt' : (k : Int) < 14 := by omega
    have hround : ∀ x : Int, 0 ≤ x → x < 4294967296 → ∃ X Y : Int, (0 ≤ X ∧ X < 4294967296) ∧ (0 ≤ Y ∧ Y < 4294967296) ∧ (∀ w0, Calls Try.prog 35 #[iv 1 true false (k : Int) 0 0 0 (x / 65536)] w0 (RetB (.tuple #[.int .u32 X, .int .i64 0]) w0)) ∧
        (∀ w0, Calls Try.prog 35 #[iv 1 false false (k : Int) (k : Int) 0 6 (x % 65536)] w0 (RetB (.tuple #[.int .u32 Y, .int .i64 0]) w0)) := fun x x0 x1 =>
      have g1 := good_hi (k : Int) (x / 65536) (by omega) (by omega) (by omega) (by omega)
      have g2 := good_lo (k : Int) (x % 65536) (by omega) (by omega) (by omega) (by omega)
      ⟨_, _, M.enc_bd g1, M.enc_bd g2, fun w0 => renc_yes _ _ _ _ _ _ _ _ w0 g1, fun w0 => renc_yes _ _ _ _ _ _ _ _ w0 g2⟩
    have HRD := Lib.hid hround
    clear hround
    by_cases hr : k < rs.length
    · obtain ⟨sp1, c1, hv1, hcell⟩ := wordsIn_src (HR.out.below HBr.out)
      obtain ⟨ad, rfl, hc⟩ := hcell k hr
      injection hv1 with e1 e2 e3
      subst e1
      obtain ⟨x, hx⟩ : ∃ x, rs[k] = x := ⟨_, rfl⟩
      have hxb : 0 ≤ x ∧ x < 4294967296 := by
        have := HR.out.bd (k : Int)
        unfold M.at_ at this
        rw [List.getD_eq_getElem?_getD, Int.toNat_natCast, List.getElem?_eq_getElem hr] at this
        rw [← hx]
        exact this
      rw [hx] at hc
      have x0 := hxb.1
      have x1 := hxb.2
      have hr' : (k : Int) < (rs.length : Int) := by omega
      clear hx hxb e2 e3
      obtain ⟨X, Y, hX, hY, hx1, hx2⟩ := HRD.out x x0 x1
      have HX := Lib.hid hx1
      have HY := Lib.hid hx2
      have HXY := Lib.hid (And.intro hX hY)
      have hm := and16 x x0 x1
      clear hx1 hx2 hX hY
      go_wp2_with (first
        | (go_at_call 35; have tok := HB2; (with_reducible refine (HY.out _).mono ?_); rintro e w3 ⟨rfl, hb3⟩; have HB3 := Lib.hid (HB2.out.trans (hb3.mono HB2.out.size)); have HO3 := Lib.hid (own_fr HO2.out (Fr.of_below (S := fun _ => False) hb3) (fun _ _ => id)); clear hb3)
        | (go_at_call 35; (with_reducible refine (HX.out _).mono ?_); rintro e w2 ⟨rfl, hb2⟩; have HB2 := Lib.hid (HBr.out.trans (hb2.mono HBr.out.size)); have HO2 := Lib.hid (own_fr HO.out (Fr.of_below (S := fun _ => False) hb2) (fun _ _ => id)); clear hb2)
        | (at_builtin; refine wpList_append_lies _ (by rfl) _ _ _ (by rfl) w.heap.size U32T i0 (.int .u32 0) 1 4 Try.underlying32 hi0 hz0 hz1 hz2 rfl (by omega) _ (2 * k) _ (by rfl) (HO3.out.alloc _) ⟨w3.heap.size, 0, none⟩ 2 2 [.int .u32 X, .int .u32 Y] (by rfl) rfl (World.news_of_block (heap_alloc_new w3 _)) (by simp [Value.oneCell']) (by omega) (by unfold maxLen; omega) (by omega) (by have := HB3.out.size; simp; omega) (w3.heap.size + 1) (by simp) ?_; intro b2 cp w4 hown2 hgrow hat hlt2)
        | fail)
      have hnx := cs_next HWS.out.1 HWS.out.2 HXY.out.1 HXY.out.2 HO3.out HB3.out hgrow hown2
      go_roundw
      case rel => exact ⟨k + 1, by omega, by go_num, hnx⟩
      case measure => simp [intOf]; omega
    · have hr' : ¬ (k : Int) < (rs.length : Int) := by omega
      have x0 : 0 ≤ (k : Int) * 4369 := by omega
      have x1 : (k : Int) * 4369 < 4294967296 := by omega
      obtain ⟨X, Y, hX, hY, hx1, hx2⟩ := HRD.out ((k : Int) * 4369) x0 x1
      have HX := Lib.hid hx1
      have HY := Lib.hid hx2
      have HXY := Lib.hid (And.intro hX hY)
      have hm := and16 ((k : Int) * 4369) x0 x1
      clear hx1 hx2 hX hY
      go_wp2_with (first
        | (go_at_call 35; have tok := HB2; (with_reducible refine (HY.out _).mono ?_); rintro e w3 ⟨rfl, hb3⟩; have HB3 := Lib.hid (HB2.out.trans (hb3.mono HB2.out.size)); have HO3 := Lib.hid (own_fr HO2.out (Fr.of_below (S := fun _ => False) hb3) (fun _ _ => id)); clear hb3)
        | (go_at_call 35; (with_reducible refine (HX.out _).mono ?_); rintro e w2 ⟨rfl, hb2⟩; have HB2 := Lib.hid (HBr.out.trans (hb2.mono HBr.out.size)); have HO2 := Lib.hid (own_fr HO.out (Fr.of_below (S := fun _ => False) hb2) (fun _ _ => id)); clear hb2)
        | (at_builtin; refine wpList_append_lies _ (by rfl) _ _ _ (by rfl) w.heap.size U32T i0 (.int .u32 0) 1 4 Try.underlying32 hi0 hz0 hz1 hz2 rfl (by omega) _ (2 * k) _ (by rfl) (HO3.out.alloc _) ⟨w3.heap.size, 0, none⟩ 2 2 [.int .u32 X, .int .u32 Y] (by rfl) rfl (World.news_of_block (heap_alloc_new w3 _)) (by simp [Value.oneCell']) (by omega) (by unfold maxLen; omega) (by omega) (by have := HB3.out.size; simp; omega) (w3.heap.size + 1) (by simp) ?_; intro b2 cp w4 hown2 hgrow hat hlt2)
        | fail)
      have hnx := cs_next HWS.out.1 HWS.out.2 HXY.out.1 HXY.out.2 HO3.out HB3.out hgrow hown2
      go_roundw
      case rel => exact ⟨k + 1, by omega, by go_num, hnx⟩
      case measure => simp [intOf]; omega
  · obtain rfl : k = 14 := by omega
    go_wp2_with (first
      | (at_builtin; refine wpList_append_lies _ (by rfl) _ _ _ (by rfl) w.heap.size U32T i0 (.int .u32 0) 1 4 Try.underlying32 hi0 hz0 hz1 hz2 rfl (by omega) _ (2 * 14) _ (by rfl) (HO.out.alloc _) ⟨wr.heap.size, 0, none⟩ 5 5 [.int .u32 W, .int .u32 W, .int .u32 0, .int .u32 0, .int .u32 7] (by rfl) rfl (World.news_of_block (heap_alloc_new wr _)) (by simp [Value.oneCell']) (by omega) (by unfold maxLen; omega) (by omega) (by have := HBr.out.size; simp; omega) (wr.heap.size + 1) (by simp) ?_; intro b2 cp w4 hown2 hgrow hat hlt2; obtain ⟨WS, hlen, hS4, hB4⟩ := cs_end HWS.out.1 HWS.out.2 HWb.out HO.out HBr.out hgrow hown2; have HS4 := Lib.hid hS4; have HB4 := Lib.hid hB4; have HLEN := Lib.hid hlen; clear hS4 hB4 hown2 hgrow hat hlt2 hlen)
      | (go_at_call 18; refine (own_new _ _ _ WS _ 0 inp HS4.out (newE_33 HLEN.out hi)).mono ?_; rintro e w5 ⟨g, gm, gw, rfl, hM5, hb5⟩; have HM5 := Lib.hid (hM5.mono HB4.out.size); have HS5 := Lib.hid (HS4.out.below hb5); have HB5 := Lib.hid (HB4.out.trans (hb5.mono HB4.out.size)); clear hb5 hM5)
      | (go_at_call 32; refine (rcpunew_any _ _ _ WS _ 0 inp HS5.out (by have := HLEN.out; omega) (by omega) (by decide) (by omega)).mono ?_; rintro e w6 ⟨g2, gm2, gw2, cap2, rest2, rfl, hD6, hb6, k1, k2, k3⟩; have HD6 := Lib.hid (cr_1 (duet_new HM5.out hD6 HB5.out hb6 k1 k2 k3)); clear hb6 hD6 k1 k2 k3)
      | fail)
    go_loopw [20] (fun i wr => ∃ k : Nat, k ≤ 3 ∧ i = .int .i64 (k : Int) ∧ CrAt w g gm gw WS.length g2 gm2 gw2 cap2 rest2 wr) (fun i _ => 3 - (intOf i).toNat)
    · exact ⟨0, Nat.zero_le _, rfl, HD6.out⟩
    obtain ⟨j, hj, rfl, ov, s, ov2, st, hD⟩ := hrel
    have HD := Lib.hid hD
    clear hD
    obtain ⟨e1, t1, S1, n1, r1, E1, s1, hO1⟩ := cro_some s 28
    obtain ⟨e2, t2, S2, n2, r2, E2, s2, hO2⟩ := cro_some s 1
    have HO1 := Lib.hid hO1
    have HO2 := Lib.hid hO2
    clear hO1 hO2
    have hjc : j = 0 ∨ j = 1 ∨ j = 2 ∨ j = 3 := by omega
    rcases hjc with rfl | rfl | rfl | rfl
    · have hE : (E1 == E1) = true := by simp
      go_wp2_with (first
        | (go_at_call 19; refine (duet_any1 HD.out HO1.out).mono ?_; rintro e' w5 ⟨rfl, ov5, hD5, hF5⟩; have HD5 := Lib.hid (hD5.alloc (.cells #[.int .i64 e1, .int .i64 t1, .string S1, .int .i64 n1, .int .i64 r1] 28)); clear hD5 hF5)
        | (go_at_call 33; refine (duet_any2 HD5.out HO1.out).mono ?_; rintro e' w6 ⟨rfl, ov6, st6, hD6, hF6⟩; have P1 := (hF6.cel (Cel.new w5 28 #[.int .i64 e1, .int .i64 t1, .string S1, .int .i64 n1, .int .i64 r1]) (HD5.out.n.not_cel (Cel.new w5 28 #[.int .i64 e1, .int .i64 t1, .string S1, .int .i64 n1, .int .i64 r1]))).alloc (.cells #[.int .i64 e1, .int .i64 t1, .string S1, .int .i64 n1, .int .i64 r1] 28); have P2 := Cel.new w6 28 #[.int .i64 e1, .int .i64 t1, .string S1, .int .i64 n1, .int .i64 r1]; have x10 := P1.cell 0; have x11 := P1.cell 1; have x12 := P1.cell 2; have x13 := P1.cell 3; have x14 := P1.cell 4; have x20 := P2.cell 0; have x21 := P2.cell 1; have x22 := P2.cell 2; have x23 := P2.cell 3; have x24 := P2.cell 4; have HD6 := Lib.hid (hD6.alloc (.cells #[.int .i64 e1, .int .i64 t1, .string S1, .int .i64 n1, .int .i64 r1] 28)); clear P1 P2 hD6 hF6)
        | (go_at_call 26; refine (same_yes _ _ _ _ _ _ _ _ _ _ _ rfl rfl rfl rfl rfl).mono ?_; rintro e' w7 ⟨rfl, hb7⟩; have HD7 := Lib.hid (HD6.out.below hb7); clear hb7; clear x10 x20 x11 x21 x12 x22 x13 x23 x14 x24)
        | (go_at_call 34; refine (same_ok HD7.out).mono ?_; rintro e' w8 ⟨rfl, hb8⟩; have HD8 := Lib.hid (HD7.out.below hb8); clear hb8)
        | fail)
      go_roundw
      case rel => exact ⟨0 + 1, by omega, by go_num, cr_1 HD8.out⟩
      case measure => simp [intOf]
    · have hE : (E2 == E2) = true := by simp
      go_wp2_with (first
        | (go_at_call 19; refine (duet_any1 HD.out HO2.out).mono ?_; rintro e' w5 ⟨rfl, ov5, hD5, hF5⟩; have HD5 := Lib.hid (hD5.alloc (.cells #[.int .i64 e2, .int .i64 t2, .string S2, .int .i64 n2, .int .i64 r2] 28)); clear hD5 hF5)
        | (go_at_call 33; refine (duet_any2 HD5.out HO2.out).mono ?_; rintro e' w6 ⟨rfl, ov6, st6, hD6, hF6⟩; have P1 := (hF6.cel (Cel.new w5 28 #[.int .i64 e2, .int .i64 t2, .string S2, .int .i64 n2, .int .i64 r2]) (HD5.out.n.not_cel (Cel.new w5 28 #[.int .i64 e2, .int .i64 t2, .string S2, .int .i64 n2, .int .i64 r2]))).alloc (.cells #[.int .i64 e2, .int .i64 t2, .string S2, .int .i64 n2, .int .i64 r2] 28); have P2 := Cel.new w6 28 #[.int .i64 e2, .int .i64 t2, .string S2, .int .i64 n2, .int .i64 r2]; have x10 := P1.cell 0; have x11 := P1.cell 1; have x12 := P1.cell 2; have x13 := P1.cell 3; have x14 := P1.cell 4; have x20 := P2.cell 0; have x21 := P2.cell 1; have x22 := P2.cell 2; have x23 := P2.cell 3; have x24 := P2.cell 4; have HD6 := Lib.hid (hD6.alloc (.cells #[.int .i64 e2, .int .i64 t2, .string S2, .int .i64 n2, .int .i64 r2] 28)); clear P1 P2 hD6 hF6)
        | (go_at_call 26; refine (same_yes _ _ _ _ _ _ _ _ _ _ _ rfl rfl rfl rfl rfl).mono ?_; rintro e' w7 ⟨rfl, hb7⟩; have HD7 := Lib.hid (HD6.out.below hb7); clear hb7; clear x10 x20 x11 x21 x12 x22 x13 x23 x14 x24)
        | (go_at_call 34; refine (same_ok HD7.out).mono ?_; rintro e' w8 ⟨rfl, hb8⟩; have HD8 := Lib.hid (HD7.out.below hb8); clear hb8)
        | fail)
      go_roundw
      case rel => exact ⟨1 + 1, by omega, by go_num, cr_1 HD8.out⟩
      case measure => simp [intOf]
    · have hE : (E2 == E2) = true := by simp
      go_wp2_with (first
        | (go_at_call 19; refine (duet_any1 HD.out HO2.out).mono ?_; rintro e' w5 ⟨rfl, ov5, hD5, hF5⟩; have HD5 := Lib.hid (hD5.alloc (.cells #[.int .i64 e2, .int .i64 t2, .string S2, .int .i64 n2, .int .i64 r2] 28)); clear hD5 hF5)
        | (go_at_call 33; refine (duet_any2 HD5.out HO2.out).mono ?_; rintro e' w6 ⟨rfl, ov6, st6, hD6, hF6⟩; have P1 := (hF6.cel (Cel.new w5 28 #[.int .i64 e2, .int .i64 t2, .string S2, .int .i64 n2, .int .i64 r2]) (HD5.out.n.not_cel (Cel.new w5 28 #[.int .i64 e2, .int .i64 t2, .string S2, .int .i64 n2, .int .i64 r2]))).alloc (.cells #[.int .i64 e2, .int .i64 t2, .string S2, .int .i64 n2, .int .i64 r2] 28); have P2 := Cel.new w6 28 #[.int .i64 e2, .int .i64 t2, .string S2, .int .i64 n2, .int .i64 r2]; have x10 := P1.cell 0; have x11 := P1.cell 1; have x12 := P1.cell 2; have x13 := P1.cell 3; have x14 := P1.cell 4; have x20 := P2.cell 0; have x21 := P2.cell 1; have x22 := P2.cell 2; have x23 := P2.cell 3; have x24 := P2.cell 4; have HD6 := Lib.hid (hD6.alloc (.cells #[.int .i64 e2, .int .i64 t2, .string S2, .int .i64 n2, .int .i64 r2] 28)); clear P1 P2 hD6 hF6)
        | (go_at_call 26; refine (same_yes _ _ _ _ _ _ _ _ _ _ _ rfl rfl rfl rfl rfl).mono ?_; rintro e' w7 ⟨rfl, hb7⟩; have HD7 := Lib.hid (HD6.out.below hb7); clear hb7; clear x10 x20 x11 x21 x12 x22 x13 x23 x14 x24)
        | (go_at_call 34; refine (same_ok HD7.out).mono ?_; rintro e' w8 ⟨rfl, hb8⟩; have HD8 := Lib.hid (HD7.out.below hb8); clear hb8)
        | fail)
      go_roundw
      case rel => exact ⟨2 + 1, by omega, by go_num, cr_1 HD8.out⟩
      case measure => simp [intOf]
    · go_wp2_with (first
        | (go_at_call 15; refine (wakes_any _).mono ?_; rintro e w9 ⟨rfl, hb9⟩)
        | fail)
      go_ret
      exact ⟨ret_b (by first | rfl | simp), HD.out.b.trans (hb9.mono HD.out.b.size)⟩

theorem csteps_any (w : World) (sp : Option Addr) (c : Nat) (rs : List Int) (v : Value) (inp : ByteArray) (f : Int) (u vv : Bool) (a b cc op im : Int) (h : Src w v sp c rs) :
    Calls Try.prog 13 #[iv f u vv a b cc op im, v, .string inp] w (RetB (.bool true) w) := by
  obtain rfl := h.v
  by_cases hg : M.Good f u vv a b cc op im
  · by_cases hi : 4000 < inp.size
    · exact csteps_early w sp rs.length c inp f u vv a b cc op im (.inr ⟨hg, hi⟩)
    · exact csteps_ok w sp c rs inp f u vv a b cc op im hg (by omega) h
  · exact csteps_early w sp rs.length c inp f u vv a b cc op im (.inl hg)

end Go.Proofs.Ytmlmjkojhfjjlaa
