/- CpuRuns: the walk. -/
import Derived.Test.YtmlmjkojhfjjlaaDuetA
import Derived.Test.YtmlmjkojhfjjlaaImg
namespace Go.Proofs.Ytmlmjkojhfjjlaa
set_option linter.unusedVariables false
set_option linter.unusedSimpArgs false
open Go.RowKit

theorem mb_none {g gm gw : Nat} {k B : Nat} (h1 : B ≤ g) (h2 : B ≤ gm) (h3 : B ≤ gw) (h : MB g gm gw (.slice none 0 0) k) : B ≤ k := by
  rcases h with rfl | rfl | rfl | h
  · exact h1
  · exact h2
  · exact h3
  · simp [Value.ownBlock] at h

/-- The two machines, newly made. -/
theorem duet_new {w0 w2 w3 : World} {g gm gw cap g2 gm2 gw2 cap2 : Nat} {rest2 : List Value} {s : M.St} {st : Int} (hM : Own w2 w0.heap.size g gm gw cap (.slice none 0 0) s) (hD : DMach w3 g2 gm2 gw2 cap2 rest2 (.slice none 0 0) st s)
    (hb2 : Below w0.heap.size w0 w2) (hb3 : Below w2.heap.size w2 w3) (k1 : w2.heap.size ≤ g2) (k2 : w2.heap.size ≤ gm2) (k3 : w2.heap.size ≤ gw2) : Duet w0 w3 g gm gw cap (.slice none 0 0) s g2 gm2 gw2 cap2 rest2 (.slice none 0 0) st s :=
  ⟨hM.below hb3, hD, hM.wf, fun k hk => Nat.le_trans hb2.size (mb_none k1 k2 k3 hk), fun k ha hb => by have h1 := hM.lt ha; have h2 := mb_none k1 k2 k3 hb; omega, hb2.trans (hb3.mono hb2.size)⟩

set_option maxHeartbeats 1000000 in
set_option maxRecDepth 100000 in
theorem rrun_nil (k : Int) (w : World) : Calls Try.prog 33 #[.pointer none, .int .i64 k] w (RetB (.tuple #[.agg #[.int .i64 0, .int .i64 0, .string ⟨#[]⟩, .int .i64 0, .int .i64 0], .int .i64 1]) w) := by
  go_enter Try.func33, Try.ntmps33
  go_wp2
  exact bodyPost_ret (res_cell_tmp rfl rfl (Cel.new w _ _) Try.underlying28 rfl (by kernel_rfl) rfl) rfl ⟨rfl, (Below.refl _ _).alloc (Nat.le_refl _) _⟩

abbrev PLAYT : TypeId := 65

set_option maxHeartbeats 2000000 in
set_option maxRecDepth 100000 in
theorem cruns_early (w : World) (sp fp : Option Addr) (n c fn fc : Nat) (start : Int) (inp : ByteArray) (h : lgB n = true ∨ lgB n = false ∧ 5000 < inp.size) :
    Calls Try.prog 12 #[.slice sp n c, .agg #[.int .i64 start, .string inp, .slice fp fn fc]] w (RetB (.bool true) w) := by
  have B0 := Lib.hid (show Below w.heap.size w (w.alloc (.cells #[.int .i64 start, .string inp, .slice fp fn fc] PLAYT)).drew from ((Below.refl _ w).alloc (Nat.le_refl _) _).drew)
  rcases h with h | ⟨hlg, h⟩
  all_goals
    go_enter Try.func12, Try.ntmps12
    go_wp2
    go_region
    go_wp2_with (first
      | (go_at_call 17; refine (large5_any _ _ _ _).mono ?_; rintro e w1 ⟨rfl, rfl⟩)
      | (go_at_call 15; refine (wakes_any _).mono ?_; rintro e w5 ⟨rfl, hB5⟩)
      | fail)
    go_ret
    exact ⟨ret_b (by first | rfl | simp), B0.out.trans (hB5.mono B0.out.size)⟩

/-- Where the rounds of CpuRuns stand. -/
def CrAt (w : World) (g gm gw cap g2 gm2 gw2 cap2 : Nat) (rest2 : List Value) (wr : World) : Prop := ∃ ov s ov2 st, Duet w wr g gm gw cap ov s g2 gm2 gw2 cap2 rest2 ov2 st s
/-- A fuel, made small. -/
def clampK (k : Int) : Int := if 20000 < k ∧ k ≤ 4194304 then 20000 else k

set_option maxHeartbeats 4000000 in
set_option maxRecDepth 100000 in
theorem cruns_bad (w : World) (sp fp : Option Addr) (c fc : Nat) (ws fs : List Int) (start : Int) (inp : ByteArray) (h : Src w (.slice sp ws.length c) sp c ws) (hf : Nums w (.slice fp fs.length fc) fp fc fs)
    (hlg : lgB ws.length = false) (hi : inp.size ≤ 5000) (hl : ws.length ≤ 70000) (hN : newE ws.length start inp.size ≠ 0) :
    Calls Try.prog 12 #[.slice sp ws.length c, .agg #[.int .i64 start, .string inp, .slice fp fs.length fc]] w (RetB (.bool true) w) := by
  have hpre : Below w.heap.size w (w.alloc (.cells #[.int .i64 start, .string inp, .slice fp fs.length fc] PLAYT)).drew := ((Below.refl _ w).alloc (Nat.le_refl _) _).drew
  have B0 := Lib.hid hpre
  have HW := Lib.hid h
  have HF := Lib.hid hf
  have HL := Lib.hid hl
  have HN := Lib.hid hN
  have hE0 : (newE ws.length start inp.size == newE ws.length start inp.size) = true := by simp
  clear h hf hl hN hpre
  go_enter Try.func12, Try.ntmps12
  go_wp2
  go_region
  have hC0 : Cel ((w.alloc (.cells #[.int .i64 start, .string inp, .slice fp fs.length fc] PLAYT)).drew.alloc (.cells #[] U32T)) (w.heap.size + 1) U32T #[] := by
    have := Cel.new (w.alloc (.cells #[.int .i64 start, .string inp, .slice fp fs.length fc] PLAYT)).drew U32T #[]
    have e : (w.alloc (.cells #[.int .i64 start, .string inp, .slice fp fs.length fc] PLAYT)).drew.heap.size = w.heap.size + 1 := World.size_alloc w _
    rw [e] at this
    exact this
  have HC0 := Lib.hid hC0
  clear hC0
  go_wp2_with (first
    | (go_at_call 17; refine (large5_any _ _ _ _).mono ?_; rintro e w1 ⟨rfl, rfl⟩)
    | (at_builtin; refine wpList_copy_words2 rfl _ _ rfl (w.heap.size + 1) _ _ _ ws rfl rfl rfl HC0.out (HW.out.below (B0.out.alloc B0.out.size _)) (by have := HL.out; omega) ?_; intro gc cc rst w1 hC hcap hgw hb; have HC := Lib.hid hC; have HB1 := Lib.hid ((B0.out.alloc B0.out.size (.cells #[] U32T)).trans (hb.mono (by omega))); clear hC hb)
    | (go_at_call 18; refine (cpunew_err _ _ _ ws _ start inp (src_cel HC.out HW.out.bd) HN.out).mono ?_; rintro e w2 ⟨rfl, hb2⟩; have HC2 := Lib.hid (HC.out.below hb2 HC.out.lt); have HB2 := Lib.hid (HB1.out.trans (hb2.mono HB1.out.size)); clear hb2)
    | (go_at_call 32; refine (rcpunew_err _ sp c ws _ start inp (HW.out.below HB2.out) HN.out).mono ?_; rintro e w3 ⟨rfl, hb3⟩; have HC3 := Lib.hid (HC2.out.below hb3 HC2.out.lt); have HB3 := Lib.hid (HB2.out.trans (hb3.mono HB2.out.size)); clear hb3)
    | (go_at_call 27; refine (rwords_same _ _ _ ws (wordsIn_cel HC3.out) (wordsIn_src (HW.out.below HB3.out)) (by have := HL.out; omega)).mono ?_; rintro e w4 ⟨rfl, nd, rfl⟩)
    | fail)
  have HB4 := Lib.hid (below_drewN HB3.out nd)
  generalize w3.drewN nd = W4 at *
  go_loopw [13] (fun i wr => ∃ k : Nat, k ≤ 5 ∧ i = .int .i64 (k : Int) ∧ Below w.heap.size w wr) (fun i _ => 5 - (intOf i).toNat)
  · exact ⟨0, Nat.zero_le _, rfl, HB4.out⟩
  obtain ⟨k, hk, rfl, hB⟩ := hrel
  have HBr := Lib.hid hB
  clear hB
  by_cases hgo : k < fs.length ∧ k < 5
  · obtain ⟨hlt, h5⟩ := hgo
    obtain ⟨x, hx⟩ : ∃ x, fs[k] = x := ⟨_, rfl⟩
    obtain ⟨ad, rfl, hc, x0, x1⟩ := (HF.out.below HBr.out).at_k k hlt x hx
    have hlt' : (k : Int) < (fs.length : Int) := by omega
    have h5' : (k : Int) < 5 := by omega
    clear hx
    have hcase : x ≤ 20000 ∨ (20000 < x ∧ x ≤ 4194304) ∨ (20000 < x ∧ 4194304 < x) := by omega
    rcases hcase with hx | ⟨hx, hx'⟩ | ⟨hx, hx'⟩
    all_goals
      go_wp2_with (first
        | (go_at_call 19; refine (run_nil _ _).mono ?_; rintro e w5 ⟨rfl, hb5⟩; have HB5 := Lib.hid (HBr.out.trans (hb5.mono HBr.out.size)); clear hb5)
        | (go_at_call 33; refine (rrun_nil _ _).mono ?_; rintro e w6 ⟨rfl, hb6⟩; have HB6 := Lib.hid ((HB5.out.alloc HB5.out.size (.cells #[.int .i64 0, .int .i64 0, .string ⟨#[]⟩, .int .i64 0, .int .i64 0] 28)).trans (hb6.mono (by have := HB5.out.size; simp; omega))); have P1 := ((Cel.new w5 28 #[.int .i64 0, .int .i64 0, .string ⟨#[]⟩, .int .i64 0, .int .i64 0]).below hb6 (by simp)).alloc (.cells #[.int .i64 0, .int .i64 0, .string ⟨#[]⟩, .int .i64 0, .int .i64 0] 28); have P2 := Cel.new w6 28 #[.int .i64 0, .int .i64 0, .string ⟨#[]⟩, .int .i64 0, .int .i64 0]; have x10 := P1.cell 0; have x11 := P1.cell 1; have x12 := P1.cell 2; have x13 := P1.cell 3; have x14 := P1.cell 4; have x20 := P2.cell 0; have x21 := P2.cell 1; have x22 := P2.cell 2; have x23 := P2.cell 3; have x24 := P2.cell 4; clear hb6 P1 P2)
        | (go_at_call 26; refine (same_yes _ _ _ _ _ _ _ _ _ _ _ rfl rfl rfl rfl rfl).mono ?_; rintro e w7 ⟨rfl, hb7⟩; have HB7 := Lib.hid ((HB6.out.alloc HB6.out.size (.cells #[.int .i64 0, .int .i64 0, .string ⟨#[]⟩, .int .i64 0, .int .i64 0] 28)).trans (hb7.mono (by have := HB6.out.size; simp; omega))); clear hb7 x10 x11 x12 x13 x14 x20 x21 x22 x23 x24)
        | fail)
      go_roundw
      case rel => exact ⟨k + 1, by omega, by go_num, HB7.out⟩
      case measure => simp [intOf]; omega
  · have hend : ¬ k < fs.length ∨ k < fs.length ∧ k = 5 := by omega
    clear hgo
    rcases hend with he | ⟨he, rfl⟩
    · have he' : ¬ (k : Int) < (fs.length : Int) := by omega
      clear he
      go_wp2_with (first
        | (go_at_call 15; refine (wakes_any _).mono ?_; rintro e w9 ⟨rfl, hb9⟩)
        | fail)
      go_ret
      exact ⟨ret_b (by first | rfl | simp), HBr.out.trans (hb9.mono HBr.out.size)⟩
    · have he' : (5 : Int) < (fs.length : Int) := by omega
      clear he
      go_wp2_with (first
        | (go_at_call 15; refine (wakes_any _).mono ?_; rintro e w9 ⟨rfl, hb9⟩)
        | fail)
      go_ret
      exact ⟨ret_b (by first | rfl | simp), HBr.out.trans (hb9.mono HBr.out.size)⟩

theorem cr_1 {w W : World} {g gm gw cap g2 gm2 gw2 cap2 : Nat} {rest2 : List Value} {ov s ov2 st} (h : Duet w W g gm gw cap ov s g2 gm2 gw2 cap2 rest2 ov2 st s) : CrAt w g gm gw cap g2 gm2 gw2 cap2 rest2 W := ⟨ov, s, ov2, st, h⟩

/-- What a Run at whatever fuel answers. -/
def CrO (s : M.St) (x : Int) (O : Value) (E : Int) (s' : M.St) : Prop :=
  (∃ k : Nat, x = (k : Int) ∧ k ≤ 4194304 ∧ O = ocV (M.runs k s) (M.steps k s) ∧ E = 0 ∧ s' = M.runs k s) ∨ ((x < 0 ∨ 4194304 < x) ∧ O = .agg #[.int .i64 0, .int .i64 0, .string ⟨#[]⟩, .int .i64 0, .int .i64 0] ∧ E = 1 ∧ s' = s)
theorem cro_some (s : M.St) (x : Int) : ∃ e t S n r E s', CrO s x (.agg #[.int .i64 e, .int .i64 t, .string S, .int .i64 n, .int .i64 r]) E s' := by
  by_cases hk : x < 0 ∨ 4194304 < x
  · exact ⟨0, 0, ⟨#[]⟩, 0, 0, 1, s, .inr ⟨hk, rfl, rfl, rfl⟩⟩
  · obtain ⟨k, rfl⟩ := Int.eq_ofNat_of_zero_le (show 0 ≤ x by omega)
    exact ⟨_, _, _, _, _, 0, _, .inl ⟨k, rfl, by omega, rfl, rfl, rfl⟩⟩

theorem duet_any1 {w0 w : World} {g gm gw cap g2 gm2 gw2 cap2 : Nat} {rest2 : List Value} {ov ov2 : Value} {s s2 s' : M.St} {st x E : Int} {O : Value} (h : Duet w0 w g gm gw cap ov s g2 gm2 gw2 cap2 rest2 ov2 st s2) (hO : CrO s x O E s') :
    Calls Try.prog 19 #[.pointer (some ⟨g, 0, none⟩), .int .i64 x] w (fun e w' => e = .returned (.tuple #[O, .int .i64 E]) ∧
      ∃ ov', Duet w0 w' g gm gw cap ov' s' g2 gm2 gw2 cap2 rest2 ov2 st s2 ∧ Fr (MB g gm gw ov) w w') := by
  rcases hO with ⟨k, hx, hk, rfl, rfl, rfl⟩ | ⟨hx, rfl, rfl, rfl⟩
  · exact duet_run1 x k hx hk h
  · refine (run_bad w g x hx).mono ?_
    rintro e w' ⟨he, hb⟩
    exact ⟨he, ov, h.below hb, Fr.of_below hb⟩
theorem duet_any2 {w0 w : World} {g gm gw cap g2 gm2 gw2 cap2 : Nat} {rest2 : List Value} {ov ov2 : Value} {s s2 s' : M.St} {st x E : Int} {O : Value} (h : Duet w0 w g gm gw cap ov s g2 gm2 gw2 cap2 rest2 ov2 st s2) (hO : CrO s2 x O E s') :
    Calls Try.prog 33 #[.pointer (some ⟨g2, 0, none⟩), .int .i64 x] w (fun e w' => e = .returned (.tuple #[O, .int .i64 E]) ∧
      ∃ ov' st', Duet w0 w' g gm gw cap ov s g2 gm2 gw2 cap2 rest2 ov' st' s' ∧ Fr (MB g2 gm2 gw2 ov2) w w') := by
  rcases hO with ⟨k, hx, hk, rfl, rfl, rfl⟩ | ⟨hx, rfl, rfl, rfl⟩
  · exact duet_run2 x k hx hk h
  · refine (rrunm_bad w g2 x hx).mono ?_
    rintro e w' ⟨he, hb⟩
    exact ⟨he, ov2, st, h.below hb, Fr.of_below hb⟩

set_option maxHeartbeats 4000000 in
set_option maxRecDepth 100000 in
theorem cruns_ok (w : World) (sp fp : Option Addr) (c fc : Nat) (ws fs : List Int) (start : Int) (inp : ByteArray) (h : Src w (.slice sp ws.length c) sp c ws) (hf : Nums w (.slice fp fs.length fc) fp fc fs)
    (hlg : lgB ws.length = false) (hi : inp.size ≤ 5000) (hl : ws.length ≤ 70000) (hN : newE ws.length start inp.size = 0) :
    Calls Try.prog 12 #[.slice sp ws.length c, .agg #[.int .i64 start, .string inp, .slice fp fs.length fc]] w (RetB (.bool true) w) := by
  have hpre : Below w.heap.size w (w.alloc (.cells #[.int .i64 start, .string inp, .slice fp fs.length fc] PLAYT)).drew := ((Below.refl _ w).alloc (Nat.le_refl _) _).drew
  have B0 := Lib.hid hpre
  have HW := Lib.hid h
  have HF := Lib.hid hf
  have HL := Lib.hid hl
  have HN := Lib.hid hN
  have HNN := Lib.hid (newE_ok hN)
  clear h hf hl hN hpre
  go_enter Try.func12, Try.ntmps12
  go_wp2
  go_region
  have hC0 : Cel ((w.alloc (.cells #[.int .i64 start, .string inp, .slice fp fs.length fc] PLAYT)).drew.alloc (.cells #[] U32T)) (w.heap.size + 1) U32T #[] := by
    have := Cel.new (w.alloc (.cells #[.int .i64 start, .string inp, .slice fp fs.length fc] PLAYT)).drew U32T #[]
    have e : (w.alloc (.cells #[.int .i64 start, .string inp, .slice fp fs.length fc] PLAYT)).drew.heap.size = w.heap.size + 1 := World.size_alloc w _
    rw [e] at this
    exact this
  have HC0 := Lib.hid hC0
  clear hC0
  go_wp2_with (first
    | (go_at_call 17; refine (large5_any _ _ _ _).mono ?_; rintro e w1 ⟨rfl, rfl⟩)
    | (at_builtin; refine wpList_copy_words2 rfl _ _ rfl (w.heap.size + 1) _ _ _ ws rfl rfl rfl HC0.out (HW.out.below (B0.out.alloc B0.out.size _)) (by have := HL.out; omega) ?_; intro gc cc rst w1 hC hcap hgw hb; have HC := Lib.hid hC; have HB1 := Lib.hid ((B0.out.alloc B0.out.size (.cells #[] U32T)).trans (hb.mono (by omega))); clear hC hb)
    | (go_at_call 18; refine (own_new _ _ _ ws _ start inp (src_cel HC.out HW.out.bd) HN.out).mono ?_; rintro e w2 ⟨g, gm, gw, rfl, hM2, hb2⟩; have HM2 := Lib.hid (hM2.mono HB1.out.size); have HC2 := Lib.hid (HC.out.below hb2 HC.out.lt); have HB2 := Lib.hid (HB1.out.trans (hb2.mono HB1.out.size)); clear hb2 hM2)
    | (go_at_call 32; refine (rcpunew_any _ sp c ws _ start inp (HW.out.below HB2.out) HNN.out.1 HNN.out.2.1 HNN.out.2.2.1 HNN.out.2.2.2).mono ?_; rintro e w3 ⟨g2, gm2, gw2, cap2, rest2, rfl, hD3, hb3, k1, k2, k3⟩; have HD3 := Lib.hid (duet_new HM2.out hD3 HB2.out hb3 k1 k2 k3); have HC3 := Lib.hid (HC2.out.below hb3 HC2.out.lt); clear hb3 hD3 k1 k2 k3)
    | (go_at_call 27; refine (rwords_same _ _ _ ws (wordsIn_cel HC3.out) (wordsIn_src (HW.out.below HD3.out.b)) (by have := HL.out; omega)).mono ?_; rintro e w4 ⟨rfl, nd, rfl⟩)
    | fail)
  have HB4 := Lib.hid (cr_1 (HD3.out.drewN nd))
  generalize w3.drewN nd = W4 at *
  go_loopw [13] (fun i wr => ∃ k : Nat, k ≤ 5 ∧ i = .int .i64 (k : Int) ∧ CrAt w g gm gw ws.length g2 gm2 gw2 cap2 rest2 wr) (fun i _ => 5 - (intOf i).toNat)
  · exact ⟨0, Nat.zero_le _, rfl, HB4.out⟩
  obtain ⟨k, hk, rfl, ov, s, ov2, st, hD⟩ := hrel
  have HD := Lib.hid hD
  clear hD
  by_cases hgo : k < fs.length ∧ k < 5
  · obtain ⟨hlt, h5⟩ := hgo
    obtain ⟨x, hx⟩ : ∃ x, fs[k] = x := ⟨_, rfl⟩
    obtain ⟨ad, rfl, hc, x0, x1⟩ := (HF.out.below HD.out.b).at_k k hlt x hx
    have hlt' : (k : Int) < (fs.length : Int) := by omega
    have h5' : (k : Int) < 5 := by omega
    clear hx
    have hcase : x ≤ 20000 ∨ (20000 < x ∧ x ≤ 4194304) ∨ (20000 < x ∧ 4194304 < x) := by omega
    obtain ⟨e1, t1, S1, n1, r1, E1, s1, hO1⟩ := cro_some s x
    obtain ⟨e2, t2, S2, n2, r2, E2, s2, hO2⟩ := cro_some s 20000
    have HO1 := Lib.hid hO1
    have HO2 := Lib.hid hO2
    clear hO1 hO2
    rcases hcase with hx | ⟨hx, hx'⟩ | ⟨hx, hx'⟩
    · have hE : (E1 == E1) = true := by simp
      go_wp2_with (first
        | (go_at_call 19; refine (duet_any1 HD.out HO1.out).mono ?_; rintro e' w5 ⟨rfl, ov5, hD5, hF5⟩; have HD5 := Lib.hid (hD5.alloc (.cells #[.int .i64 e1, .int .i64 t1, .string S1, .int .i64 n1, .int .i64 r1] 28)); clear hD5 hF5)
        | (go_at_call 33; refine (duet_any2 HD5.out HO1.out).mono ?_; rintro e' w6 ⟨rfl, ov6, st6, hD6, hF6⟩; have P1 := (hF6.cel (Cel.new w5 28 #[.int .i64 e1, .int .i64 t1, .string S1, .int .i64 n1, .int .i64 r1]) (HD5.out.n.not_cel (Cel.new w5 28 #[.int .i64 e1, .int .i64 t1, .string S1, .int .i64 n1, .int .i64 r1]))).alloc (.cells #[.int .i64 e1, .int .i64 t1, .string S1, .int .i64 n1, .int .i64 r1] 28); have P2 := Cel.new w6 28 #[.int .i64 e1, .int .i64 t1, .string S1, .int .i64 n1, .int .i64 r1]; have x10 := P1.cell 0; have x11 := P1.cell 1; have x12 := P1.cell 2; have x13 := P1.cell 3; have x14 := P1.cell 4; have x20 := P2.cell 0; have x21 := P2.cell 1; have x22 := P2.cell 2; have x23 := P2.cell 3; have x24 := P2.cell 4; have HD6 := Lib.hid (hD6.alloc (.cells #[.int .i64 e1, .int .i64 t1, .string S1, .int .i64 n1, .int .i64 r1] 28)); clear P1 P2 hD6 hF6)
        | (go_at_call 26; refine (same_yes _ _ _ _ _ _ _ _ _ _ _ rfl rfl rfl rfl rfl).mono ?_; rintro e' w7 ⟨rfl, hb7⟩; have HD7 := Lib.hid (HD6.out.below hb7); clear hb7; clear x10 x20 x11 x21 x12 x22 x13 x23 x14 x24)
        | fail)
      go_roundw
      case rel => exact ⟨k + 1, by omega, by go_num, cr_1 HD7.out⟩
      case measure => simp [intOf]; omega
    · have hE : (E2 == E2) = true := by simp
      go_wp2_with (first
        | (go_at_call 19; refine (duet_any1 HD.out HO2.out).mono ?_; rintro e' w5 ⟨rfl, ov5, hD5, hF5⟩; have HD5 := Lib.hid (hD5.alloc (.cells #[.int .i64 e2, .int .i64 t2, .string S2, .int .i64 n2, .int .i64 r2] 28)); clear hD5 hF5)
        | (go_at_call 33; refine (duet_any2 HD5.out HO2.out).mono ?_; rintro e' w6 ⟨rfl, ov6, st6, hD6, hF6⟩; have P1 := (hF6.cel (Cel.new w5 28 #[.int .i64 e2, .int .i64 t2, .string S2, .int .i64 n2, .int .i64 r2]) (HD5.out.n.not_cel (Cel.new w5 28 #[.int .i64 e2, .int .i64 t2, .string S2, .int .i64 n2, .int .i64 r2]))).alloc (.cells #[.int .i64 e2, .int .i64 t2, .string S2, .int .i64 n2, .int .i64 r2] 28); have P2 := Cel.new w6 28 #[.int .i64 e2, .int .i64 t2, .string S2, .int .i64 n2, .int .i64 r2]; have x10 := P1.cell 0; have x11 := P1.cell 1; have x12 := P1.cell 2; have x13 := P1.cell 3; have x14 := P1.cell 4; have x20 := P2.cell 0; have x21 := P2.cell 1; have x22 := P2.cell 2; have x23 := P2.cell 3; have x24 := P2.cell 4; have HD6 := Lib.hid (hD6.alloc (.cells #[.int .i64 e2, .int .i64 t2, .string S2, .int .i64 n2, .int .i64 r2] 28)); clear P1 P2 hD6 hF6)
        | (go_at_call 26; refine (same_yes _ _ _ _ _ _ _ _ _ _ _ rfl rfl rfl rfl rfl).mono ?_; rintro e' w7 ⟨rfl, hb7⟩; have HD7 := Lib.hid (HD6.out.below hb7); clear hb7; clear x10 x20 x11 x21 x12 x22 x13 x23 x14 x24)
        | fail)
      go_roundw
      case rel => exact ⟨k + 1, by omega, by go_num, cr_1 HD7.out⟩
      case measure => simp [intOf]; omega
    · have hE : (E1 == E1) = true := by simp
      go_wp2_with (first
        | (go_at_call 19; refine (duet_any1 HD.out HO1.out).mono ?_; rintro e' w5 ⟨rfl, ov5, hD5, hF5⟩; have HD5 := Lib.hid (hD5.alloc (.cells #[.int .i64 e1, .int .i64 t1, .string S1, .int .i64 n1, .int .i64 r1] 28)); clear hD5 hF5)
        | (go_at_call 33; refine (duet_any2 HD5.out HO1.out).mono ?_; rintro e' w6 ⟨rfl, ov6, st6, hD6, hF6⟩; have P1 := (hF6.cel (Cel.new w5 28 #[.int .i64 e1, .int .i64 t1, .string S1, .int .i64 n1, .int .i64 r1]) (HD5.out.n.not_cel (Cel.new w5 28 #[.int .i64 e1, .int .i64 t1, .string S1, .int .i64 n1, .int .i64 r1]))).alloc (.cells #[.int .i64 e1, .int .i64 t1, .string S1, .int .i64 n1, .int .i64 r1] 28); have P2 := Cel.new w6 28 #[.int .i64 e1, .int .i64 t1, .string S1, .int .i64 n1, .int .i64 r1]; have x10 := P1.cell 0; have x11 := P1.cell 1; have x12 := P1.cell 2; have x13 := P1.cell 3; have x14 := P1.cell 4; have x20 := P2.cell 0; have x21 := P2.cell 1; have x22 := P2.cell 2; have x23 := P2.cell 3; have x24 := P2.cell 4; have HD6 := Lib.hid (hD6.alloc (.cells #[.int .i64 e1, .int .i64 t1, .string S1, .int .i64 n1, .int .i64 r1] 28)); clear P1 P2 hD6 hF6)
        | (go_at_call 26; refine (same_yes _ _ _ _ _ _ _ _ _ _ _ rfl rfl rfl rfl rfl).mono ?_; rintro e' w7 ⟨rfl, hb7⟩; have HD7 := Lib.hid (HD6.out.below hb7); clear hb7; clear x10 x20 x11 x21 x12 x22 x13 x23 x14 x24)
        | fail)
      go_roundw
      case rel => exact ⟨k + 1, by omega, by go_num, cr_1 HD7.out⟩
      case measure => simp [intOf]; omega
  · have hend : ¬ k < fs.length ∨ k < fs.length ∧ k = 5 := by omega
    clear hgo
    rcases hend with he | ⟨he, rfl⟩
    · have he' : ¬ (k : Int) < (fs.length : Int) := by omega
      clear he
      go_wp2_with (first
        | (go_at_call 34; refine (same_ok HD.out).mono ?_; rintro e w8 ⟨rfl, hb8⟩; have HB8 := Lib.hid (HD.out.b.trans (hb8.mono HD.out.b.size)); clear hb8)
        | (go_at_call 15; refine (wakes_any _).mono ?_; rintro e w9 ⟨rfl, hb9⟩)
        | fail)
      go_ret
      exact ⟨ret_b (by first | rfl | simp), HB8.out.trans (hb9.mono HB8.out.size)⟩
    · have he' : (5 : Int) < (fs.length : Int) := by omega
      clear he
      go_wp2_with (first
        | (go_at_call 34; refine (same_ok HD.out).mono ?_; rintro e w8 ⟨rfl, hb8⟩; have HB8 := Lib.hid (HD.out.b.trans (hb8.mono HD.out.b.size)); clear hb8)
        | (go_at_call 15; refine (wakes_any _).mono ?_; rintro e w9 ⟨rfl, hb9⟩)
        | fail)
      go_ret
      exact ⟨ret_b (by first | rfl | simp), HB8.out.trans (hb9.mono HB8.out.size)⟩

theorem cruns_any (w : World) (sp fp : Option Addr) (c fc : Nat) (ws fs : List Int) (v fv : Value) (start : Int) (inp : ByteArray) (h : Src w v sp c ws) (hf : Nums w fv fp fc fs) :
    Calls Try.prog 12 #[v, .agg #[.int .i64 start, .string inp, fv]] w (RetB (.bool true) w) := by
  obtain rfl := h.v
  obtain rfl := hf.v
  by_cases hE : lgB ws.length = true ∨ lgB ws.length = false ∧ 5000 < inp.size
  · exact cruns_early w sp fp ws.length c fs.length fc start inp hE
  · have hlg : lgB ws.length = false := by cases hx : lgB ws.length with | true => exact absurd (.inl hx) hE | false => rfl
    simp only [hlg, Bool.false_eq_true, false_or, true_and] at hE
    by_cases hN : newE ws.length start inp.size = 0
    · exact cruns_ok w sp fp c fc ws fs start inp h hf hlg (by omega) (by have := lgB_no hlg; omega) hN
    · exact cruns_bad w sp fp c fc ws fs start inp h hf hlg (by omega) (by have := lgB_no hlg; omega) hN

end Go.Proofs.Ytmlmjkojhfjjlaa
