/- RunRuns: the walk. -/
import Derived.Test.YtmlmjkojhfjjlaaDocRun
import Derived.Test.YtmlmjkojhfjjlaaFuel

/- Runs: RunRuns: the walk; the document's run of an image; two lists of words that are the same. -/
namespace Go.Proofs.Ytmlmjkojhfjjlaa
set_option linter.unusedVariables false
set_option linter.unusedSimpArgs false
open Go.RowKit

/-- A slice that reads as a list of words. -/
def wordsIn (w : World) (v : Value) (ws : List Int) : Prop := ∃ sp c, v = .slice sp ws.length c ∧ ∀ k (hk : k < ws.length), ∃ ad, sp = some ad ∧ w.cell? (ad.add k) = some (.int .u32 ws[k])
theorem wordsIn_src {w : World} {v : Value} {sp : Option Addr} {c : Nat} {ws : List Int} (h : Src w v sp c ws) : wordsIn w v ws := by
  refine ⟨sp, c, h.v, fun k hk => ?_⟩
  obtain ⟨ad, e, hc⟩ := h.at_ (by omega)
  exact ⟨ad, e, hc k _ (by rw [List.getElem?_map, List.getElem?_eq_getElem hk]; rfl)⟩

set_option maxHeartbeats 4000000 in
set_option maxRecDepth 100000 in
theorem rwords_same (w : World) (v u : Value) (ws : List Int) (hv : wordsIn w v ws) (hu : wordsIn w u ws) (hl : ws.length ≤ 1000000) : Calls Try.prog 27 #[v, u] w (RetD (.bool true) w) := by
  obtain ⟨sp, c, rfl, h1⟩ := hv
  obtain ⟨sp2, c2, rfl, h2⟩ := hu
  have H1 := Lib.hid h1
  have H2 := Lib.hid h2
  clear h1 h2
  go_enter Try.func27, Try.ntmps27
  go_wp2
  go_loopw [5] (fun i wr => ∃ k q : Nat, k ≤ ws.length ∧ i = .int .i64 (k : Int) ∧ wr = w.drewN q) (fun i _ => ws.length - (intOf i).toNat)
  · exact ⟨0, 0, Nat.zero_le _, rfl, rfl⟩
  obtain ⟨k, q, hk, rfl, rfl⟩ := hrel
  by_cases hlt : k < ws.length
  · obtain ⟨ad, rfl, hc⟩ := H1.out k hlt
    obtain ⟨ad2, rfl, hc2⟩ := H2.out k hlt
    have hlt' : (k : Int) < (ws.length : Int) := by omega
    obtain ⟨x, hx⟩ : ∃ x, ws[k] = x := ⟨_, rfl⟩
    rw [hx] at hc hc2
    clear hx
    go_wp2
    go_quiet (fail)
    go_wp2
    go_roundw
    case rel => exact ⟨k + 1, _, by omega, by go_num, rfl⟩
    case measure => simp [intOf]; omega
  · go_wp2
    go_ret
    exact ⟨rfl, q, rfl⟩

theorem roc_frame {w W w2 w3 : World} {g gw : Nat} (h0 : Below w.heap.size w W) (hB : Below W.heap.size W w2) (k1 : W.heap.size ≤ g) (k3 : W.heap.size ≤ gw) (hF : Fr (foot g gw (.slice none 0 0)) w2 w3) : Below w.heap.size w w3 := oc_frame h0 hB k1 k3 hF

set_option maxHeartbeats 2000000 in
set_option maxRecDepth 100000 in
theorem ref27_ok (w : World) (sp : Option Addr) (c : Nat) (ws : List Int) (v mv : Value) (start : Int) (inp : ByteArray) (k : Nat) (h : Src w v sp c ws) (hk : k ≤ 4194304) (hl : ws.length ≤ 65536) (hi : inp.size ≤ 4096) (h0 : 0 ≤ start) (h1 : start ≤ ws.length) :
    Calls Try.prog 25 #[.agg #[v, .int .i64 start, mv], .string inp, .int .i64 (k : Int)] w (RetB (.tuple #[ocV (M.runs k (st0 ws start inp)) (M.steps k (st0 ws start inp)), .int .i64 0]) w) := by
  go_enter Try.func25, Try.ntmps25
  go_wp2_with (first
    | (go_at_call 32; refine (rcpunew_any _ sp c ws v start inp (h.up (((World.Extends.refl w).alloc _).alloc _)) hl hi h0 h1).mono ?_; rintro e w2 ⟨g, gm, gw, cap, rest, rfl, hM, hB2, k1, k2, k3⟩)
    | (go_at_call 33; refine (rrunm_any _ g gm gw cap rest _ _ (st0 ws start inp) k hk hM (wf_st0 _ _ _ h0 (by omega) hi)).mono ?_; rintro e w3 ⟨⟨he, ov3, hM3, hF3, hA3⟩, hw3⟩; simp only [ocV] at he; generalize hx : (if (M.runs k (st0 ws start inp)).en = 0 then (3 : Int) else (M.runs k (st0 ws start inp)).en) = x at he; subst he; have HX := Lib.hid hx; clear hx; have hO := oc_keep (Cel.new1 w _ _ _) hB2 k1 k3 hF3; have o0 := hO.cell 0; have o1 := hO.cell 1; have o2 := hO.cell 2; have o3 := hO.cell 3; have o4 := hO.cell 4; have of := hO.frozen)
    | fail)
  refine bodyPost_ret (res_cell_tmp rfl rfl (((((hO.set 0 _).set 1 _).set 2 _).set 3 _).set 4 _) Try.underlying28 rfl (by kernel_rfl) rfl) rfl ⟨?_, ?_⟩
  · unfold ocV
    rw [HX.out]
    rfl
  · have hf := oc_frame (((Below.refl _ w).alloc (Nat.le_refl _) _).alloc (by simp) _) hB2 k1 k3 hF3
    repeat (first | (with_reducible exact hf) | (with_reducible refine Below.setCell ?_ (by simp <;> omega) _))

set_option maxHeartbeats 2000000 in
set_option maxRecDepth 100000 in
theorem ref27_err (w : World) (sp : Option Addr) (c : Nat) (ws : List Int) (v mv : Value) (start : Int) (inp : ByteArray) (k : Int) (h : Src w v sp c ws) (he : newE ws.length start inp.size ≠ 0) :
    Calls Try.prog 25 #[.agg #[v, .int .i64 start, mv], .string inp, .int .i64 k] w (RetB (.tuple #[.agg #[.int .i64 0, .int .i64 0, .string ⟨#[]⟩, .int .i64 0, .int .i64 0], .int .i64 (newE ws.length start inp.size)]) w) := by
  have hc := fun w2 (hx : w.Extends w2) => rcpunew_err w2 sp c ws v start inp (h.up hx) he
  have hne : (newE ws.length start inp.size != 0) = true := by simpa using he
  clear he h
  generalize newE ws.length start inp.size = E at *
  go_enter Try.func25, Try.ntmps25
  go_wp2_with (first
    | (go_at_call 32; refine (hc _ (((World.Extends.refl w).alloc _).alloc _)).mono ?_; rintro e w2 ⟨rfl, hB2⟩; have hO := (Cel.new1 w _ #[.int .i64 0, .int .i64 0, .string ⟨#[]⟩, .int .i64 0, .int .i64 0] 28).below hB2 (by simp); have o0 := hO.cell 0; have o1 := hO.cell 1; have o2 := hO.cell 2; have o3 := hO.cell 3; have o4 := hO.cell 4; have of := hO.frozen; have HB2 := Lib.hid hB2; clear hB2)
    | fail)
  refine bodyPost_ret (res_cell_tmp rfl rfl (((((hO.set 0 _).set 1 _).set 2 _).set 3 _).set 4 _) Try.underlying28 rfl (by kernel_rfl) rfl) rfl ⟨rfl, ?_⟩
  have hf := (((Below.refl _ w).alloc (Nat.le_refl _) (.cells #[v, .int .i64 start, mv] 45)).alloc (by simp) (.cells #[.int .i64 0, .int .i64 0, .string ⟨#[]⟩, .int .i64 0, .int .i64 0] 28)).trans (HB2.out.mono (by simp; omega))
  repeat (first | (with_reducible exact hf) | (with_reducible refine Below.setCell ?_ (by simp <;> omega) _))

set_option maxHeartbeats 2000000 in
set_option maxRecDepth 100000 in
theorem ref27_bad (w : World) (sp : Option Addr) (c : Nat) (ws : List Int) (v mv : Value) (start : Int) (inp : ByteArray) (k : Int) (h : Src w v sp c ws) (he : newE ws.length start inp.size = 0) (hk : k < 0 ∨ 4194304 < k) :
    Calls Try.prog 25 #[.agg #[v, .int .i64 start, mv], .string inp, .int .i64 k] w (RetB (.tuple #[.agg #[.int .i64 0, .int .i64 0, .string ⟨#[]⟩, .int .i64 0, .int .i64 0], .int .i64 1]) w) := by
  obtain ⟨hl, hi, h0, h1⟩ := newE_ok he
  have HH := Lib.hid (And.intro h (And.intro hl (And.intro hi (And.intro h0 (And.intro h1 hk)))))
  clear h hl hi h0 h1 hk he
  go_enter Try.func25, Try.ntmps25
  go_wp2_with (first
    | (go_at_call 32; refine (rcpunew_any _ sp c ws v start inp (HH.out.1.up (((World.Extends.refl w).alloc _).alloc _)) HH.out.2.1 HH.out.2.2.1 HH.out.2.2.2.1 HH.out.2.2.2.2.1).mono ?_; rintro e w2 ⟨g, gm, gw, cap, rest, rfl, hM, hB2, k1, k2, k3⟩; have HM := Lib.hid hM; have HB2 := Lib.hid hB2; clear hM hB2)
    | (go_at_call 33; refine (rrunm_bad _ g k HH.out.2.2.2.2.2).mono ?_; rintro e w3 ⟨rfl, hB3⟩; have hO := ((Cel.new1 w _ #[.int .i64 0, .int .i64 0, .string ⟨#[]⟩, .int .i64 0, .int .i64 0] 28).below HB2.out (by simp)).below hB3 (by have := HB2.out.size; simp at this; omega); have o0 := hO.cell 0; have o1 := hO.cell 1; have o2 := hO.cell 2; have o3 := hO.cell 3; have o4 := hO.cell 4; have of := hO.frozen; have HB3 := Lib.hid hB3; clear hB3)
    | fail)
  refine bodyPost_ret (res_cell_tmp rfl rfl (((((hO.set 0 _).set 1 _).set 2 _).set 3 _).set 4 _) Try.underlying28 rfl (by kernel_rfl) rfl) rfl ⟨rfl, ?_⟩
  have hs := HB2.out.size
  have hf := ((((Below.refl _ w).alloc (Nat.le_refl _) (.cells #[v, .int .i64 start, mv] 45)).alloc (by simp) (.cells #[.int .i64 0, .int .i64 0, .string ⟨#[]⟩, .int .i64 0, .int .i64 0] 28)).trans (HB2.out.mono (by simp; omega))).trans (HB3.out.mono (by simp at hs; omega))
  repeat (first | (with_reducible exact hf) | (with_reducible refine Below.setCell ?_ (by simp <;> omega) _))

theorem ref27_all (w : World) (sp : Option Addr) (c : Nat) (ws : List Int) (v mv : Value) (start : Int) (inp : ByteArray) (kv : Int) (O : Value) (E : Int) (h : Src w v sp c ws) (hR : RR ws start inp kv O E) :
    Calls Try.prog 25 #[.agg #[v, .int .i64 start, mv], .string inp, .int .i64 kv] w (RetB (.tuple #[O, .int .i64 E]) w) := by
  rcases hR with ⟨hN, k, rfl, hk, rfl, rfl⟩ | ⟨hN, rfl, rfl⟩ | ⟨hN, hk, rfl, rfl⟩
  · obtain ⟨hl, hi, h0, h1⟩ := newE_ok hN
    exact ref27_ok w sp c ws v mv start inp k h hk hl hi h0 h1
  · exact ref27_err w sp c ws v mv start inp kv h hN
  · exact ref27_bad w sp c ws v mv start inp kv h hN hk

/-- Whatever is run answers some outcome. -/
theorem RR_some (ws : List Int) (start : Int) (inp : ByteArray) (kv : Int) : ∃ e1 t1 S1 n1 r1 E, RR ws start inp kv (.agg #[.int .i64 e1, .int .i64 t1, .string S1, .int .i64 n1, .int .i64 r1]) E := by
  by_cases hN : newE ws.length start inp.size = 0
  · by_cases hk : kv < 0 ∨ 4194304 < kv
    · exact ⟨0, 0, ⟨#[]⟩, 0, 0, 1, .inr (.inr ⟨hN, hk, rfl, rfl⟩)⟩
    · obtain ⟨k, rfl⟩ := Int.eq_ofNat_of_zero_le (show 0 ≤ kv by omega)
      exact ⟨_, _, _, _, _, 0, .inl ⟨hN, k, rfl, by omega, rfl, rfl⟩⟩
  · exact ⟨0, 0, ⟨#[]⟩, 0, 0, _, .inr (.inl ⟨hN, rfl, rfl⟩)⟩

set_option maxHeartbeats 4000000 in
set_option maxRecDepth 100000 in
theorem runs_early (w : World) (sp mp : Option Addr) (c n m mc : Nat) (start : Int) (inp : ByteArray) (kv : Int) (h : lgR n m = true ∨ lgR n m = false ∧ (5000 < inp.size ∨ inp.size ≤ 5000 ∧ 20000 < kv ∧ kv ≤ 4194304)) :
    Calls Try.prog 5 #[.agg #[.slice sp n c, .int .i64 start, .slice mp m mc], .string inp, .int .i64 kv] w (RetB (.bool true) w) := by
  have B0 := Lib.hid (show Below w.heap.size w (w.alloc (.cells #[.slice sp n c, .int .i64 start, .slice mp m mc] 45)) from ((Below.refl _ w).alloc (Nat.le_refl _) _))
  rcases h with h | ⟨hlg, h | ⟨hi, h, h'⟩⟩
  all_goals
    go_enter Try.func5, Try.ntmps5
    go_wp2_with (first
      | (go_at_call 22; refine (large27_any _ _ _ _ _ _ _ _).mono ?_; rintro e w1 ⟨rfl, hb1⟩; have B1 := Lib.hid (B0.out.trans (hb1.mono B0.out.size)); clear hb1)
      | (go_at_call 23; refine (wakesR_any _).mono ?_; rintro e w5 ⟨rfl, hB5⟩)
      | fail)
    go_ret
    exact ⟨ret_b (by first | rfl | simp), B1.out.trans (hB5.mono B1.out.size)⟩

end Go.Proofs.Ytmlmjkojhfjjlaa


/- RunsW: RunRuns: the walk of the main way. -/
namespace Go.Proofs.Ytmlmjkojhfjjlaa
set_option linter.unusedVariables false
set_option linter.unusedSimpArgs false
open Go.RowKit

abbrev IMGT : TypeId := 45

theorem src_slice {w : World} {base n c : Nat} {A : Option Addr} {ws : List Int} (h : w.ownsRow base U32T 1 (.slice A n c) ws.length (ws.map (Value.int .u32))) (hb : ∀ i, 0 ≤ M.at_ ws i ∧ M.at_ ws i < 4294967296) : Src w (.slice A n c) A c ws := by
  obtain ⟨sp, c', hS⟩ := src_own h hb
  have e := hS.v
  injection e with e1 e2 e3
  subst e1 e2 e3
  exact hS

set_option maxHeartbeats 4000000 in
set_option maxRecDepth 100000 in
theorem runs_walk (w : World) (sp mp : Option Addr) (c m mc : Nat) (ws : List Int) (start : Int) (inp : ByteArray) (kv : Int) (E e1 t1 n1 r1 : Int) (S1 : ByteArray)
    (h : Src w (.slice sp ws.length c) sp c ws) (hlg : lgR ws.length m = false) (hi : inp.size ≤ 5000) (hk : kv ≤ 20000 ∨ 20000 < kv ∧ 4194304 < kv)
    (hR : RR ws start inp kv (.agg #[.int .i64 e1, .int .i64 t1, .string S1, .int .i64 n1, .int .i64 r1]) E) (hl : ws.length ≤ 70000) :
    Calls Try.prog 5 #[.agg #[.slice sp ws.length c, .int .i64 start, .slice mp m mc], .string inp, .int .i64 kv] w (RetB (.bool true) w) := by
  have B0 := Lib.hid (show Below w.heap.size w (w.alloc (.cells #[.slice sp ws.length c, .int .i64 start, .slice mp m mc] IMGT)) from ((Below.refl _ w).alloc (Nat.le_refl _) _))
  have HI := Lib.hid (Cel.new w IMGT #[.slice sp ws.length c, .int .i64 start, .slice mp m mc])
  have HW := Lib.hid h
  have HR := Lib.hid hR
  have HL := Lib.hid hl
  clear h hR hl
  rcases hk with hk | ⟨hk, hk'⟩
  all_goals
    go_enter Try.func5, Try.ntmps5
    go_wp2_with (first
      | (go_at_call 22; refine (large27_any _ _ _ _ _ _ _ _).mono ?_; rintro e w1 ⟨rfl, hb1⟩; have HB1 := Lib.hid (B0.out.trans (hb1.mono B0.out.size)); have I1 := HI.out.below hb1 HI.out.lt; have i10 := I1.cell 0; have i11 := I1.cell 1; have i12 := I1.cell 2; have z1 := I1.lt; have HI1 := Lib.hid I1; clear hb1 I1)
      | (at_builtin; refine wpList_copy_words rfl _ _ rfl (w1.heap.size + 1) _ _ _ ws rfl rfl rfl (Cel.new1 w1 _ _ _) (HW.out.below ((HB1.out.alloc HB1.out.size _).alloc (by have := HB1.out.size; simp; omega) _)) (by have := HL.out; omega) ?_; intro v3 w3 hown3 hb3; obtain ⟨A3, c3, rfl⟩ := own_form hown3; have HB3 := Lib.hid (((HB1.out.alloc HB1.out.size (.cells #[.slice sp ws.length c, .int .i64 start, .slice mp m mc] IMGT)).alloc (by have := HB1.out.size; simp; omega) (.cells #[] U32T)).trans (hb3.mono (by have := HB1.out.size; omega))); have N3 := ((Cel.new w1 IMGT #[.slice sp ws.length c, .int .i64 start, .slice mp m mc]).alloc (.cells #[] U32T)).below hb3 (by omega); have I3 := ((HI1.out.alloc (.cells #[.slice sp ws.length c, .int .i64 start, .slice mp m mc] IMGT)).alloc (.cells #[] U32T)).below hb3 (by have := HI1.out.lt; omega); have n30 := N3.cell 0; have n31 := N3.cell 1; have n32 := N3.cell 2; have n3f := N3.frozen; have i30 := I3.cell 0; have i31 := I3.cell 1; have i32 := I3.cell 2; have hne := Nat.ne_of_lt z1; have hne' := hne.symm; have HS4 := Lib.hid (src_slice (own_fr hown3 (fr_set (Fr.refl (fun k => k = w1.heap.size) w3) 0 (.slice A3 ws.length c3)) (fun k hk e => own_cel_ne hown3 N3 (by decide) (by rw [hk, e]))) HW.out.bd); have N4 := N3.set 0 (.slice A3 ws.length c3); have I4 := I3.far (p := ⟨w1.heap.size, 0, none⟩) hne (.slice A3 ws.length c3); have HB4 := Lib.hid (HB3.out.setCell (p := ⟨w1.heap.size, 0, none⟩) HB1.out.size (.slice A3 ws.length c3)); have HN4 := Lib.hid N4; have HI4 := Lib.hid I4; clear hown3 hb3 N3 I3 N4 I4 i10 i11 i12)
      | (go_at_call 24; refine (rrun_all _ A3 c3 ws _ _ start inp kv _ E HS4.out HR.out).mono ?_; rintro e w5 ⟨rfl, hb5⟩; have HB5 := Lib.hid (HB4.out.trans (hb5.mono HB4.out.size)); have I5 := (HI4.out.below hb5 HI4.out.lt).alloc (.cells #[.int .i64 e1, .int .i64 t1, .string S1, .int .i64 n1, .int .i64 r1] 28); have N5 := HN4.out.below hb5 HN4.out.lt; have S5 := HS4.out.below hb5; have i50 := I5.cell 0; have i51 := I5.cell 1; have i52 := I5.cell 2; have HN5 := Lib.hid N5; have HI5 := Lib.hid I5; have HS5 := Lib.hid S5; clear hb5 N5 I5 S5 n30 n31 n32 n3f i30 i31 i32)
      | (go_at_call 25; refine (ref27_all _ sp c ws _ _ start inp kv _ E (HW.out.below (HB5.out.alloc HB5.out.size _)) HR.out).mono ?_; rintro e w6 ⟨rfl, hb6⟩; have HB6 := Lib.hid ((HB5.out.alloc HB5.out.size (.cells #[.int .i64 e1, .int .i64 t1, .string S1, .int .i64 n1, .int .i64 r1] 28)).trans (hb6.mono (by have := HB5.out.size; simp; omega))); have P1 := ((Cel.new w5 28 #[.int .i64 e1, .int .i64 t1, .string S1, .int .i64 n1, .int .i64 r1]).below hb6 (by simp)).alloc (.cells #[.int .i64 e1, .int .i64 t1, .string S1, .int .i64 n1, .int .i64 r1] 28); have P2 := Cel.new w6 28 #[.int .i64 e1, .int .i64 t1, .string S1, .int .i64 n1, .int .i64 r1]; have x10 := P1.cell 0; have x11 := P1.cell 1; have x12 := P1.cell 2; have x13 := P1.cell 3; have x14 := P1.cell 4; have x20 := P2.cell 0; have x21 := P2.cell 1; have x22 := P2.cell 2; have x23 := P2.cell 3; have x24 := P2.cell 4; have HI6 := Lib.hid (HI5.out.below hb6 HI5.out.lt); have HN6 := Lib.hid ((HN5.out.alloc (.cells #[.int .i64 e1, .int .i64 t1, .string S1, .int .i64 n1, .int .i64 r1] 28)).below hb6 (by have := HN5.out.lt; simp; omega)); have HS6 := Lib.hid ((HS5.out.below ((Below.refl _ w5).alloc (Nat.le_refl _) (.cells #[.int .i64 e1, .int .i64 t1, .string S1, .int .i64 n1, .int .i64 r1] 28))).below hb6); clear hb6 P1 P2 i50 i51 i52)
      | (go_at_call 26; refine (same_yes _ _ _ _ _ _ _ _ _ _ _ rfl rfl rfl rfl rfl).mono ?_; rintro e w7 ⟨rfl, hb7⟩; have HB7 := Lib.hid ((HB6.out.alloc HB6.out.size (.cells #[.int .i64 e1, .int .i64 t1, .string S1, .int .i64 n1, .int .i64 r1] 28)).trans (hb7.mono (by have := HB6.out.size; simp; omega))); have I7 := (HI6.out.alloc (.cells #[.int .i64 e1, .int .i64 t1, .string S1, .int .i64 n1, .int .i64 r1] 28)).below hb7 (by have := HI6.out.lt; simp; omega); have N7 := (HN6.out.alloc (.cells #[.int .i64 e1, .int .i64 t1, .string S1, .int .i64 n1, .int .i64 r1] 28)).below hb7 (by have := HN6.out.lt; simp; omega); have i70 := I7.cell 0; have n70 := N7.cell 0; have HS7 := Lib.hid ((HS6.out.below ((Below.refl _ w6).alloc (Nat.le_refl _) (.cells #[.int .i64 e1, .int .i64 t1, .string S1, .int .i64 n1, .int .i64 r1] 28))).below hb7); clear hb7 I7 N7 x10 x11 x12 x13 x14 x20 x21 x22 x23 x24)
      | (go_at_call 27; refine (rwords_same _ _ _ ws (wordsIn_src HS7.out) (wordsIn_src (HW.out.below HB7.out)) (by have := HL.out; omega)).mono ?_; rintro e w8 ⟨rfl, nd, rfl⟩)
      | (go_at_call 23; refine (wakesR_any _).mono ?_; rintro e w9 ⟨rfl, hb9⟩; have HB9 := Lib.hid (below_undrewN hb9); clear hb9)
      | fail)
    go_ret
    exact ⟨ret_b (by first | rfl | simp), HB7.out.trans (HB9.out.mono HB7.out.size)⟩

theorem runs_any (w : World) (sp mp : Option Addr) (c m mc : Nat) (ws : List Int) (v : Value) (start : Int) (inp : ByteArray) (kv : Int) (h : Src w v sp c ws) :
    Calls Try.prog 5 #[.agg #[v, .int .i64 start, .slice mp m mc], .string inp, .int .i64 kv] w (RetB (.bool true) w) := by
  obtain rfl := h.v
  by_cases hE : lgR ws.length m = true ∨ lgR ws.length m = false ∧ (5000 < inp.size ∨ inp.size ≤ 5000 ∧ 20000 < kv ∧ kv ≤ 4194304)
  · exact runs_early w sp mp c ws.length m mc start inp kv hE
  · have hlg : lgR ws.length m = false := by cases hx : lgR ws.length m with | true => exact absurd (.inl hx) hE | false => rfl
    simp only [hlg, Bool.false_eq_true, false_or, true_and] at hE
    obtain ⟨e1, t1, S1, n1, r1, E, hR⟩ := RR_some ws start inp kv
    exact runs_walk w sp mp c m mc ws start inp kv E e1 t1 n1 r1 S1 h hlg (by omega) (by omega) hR (lgR_no hlg)

end Go.Proofs.Ytmlmjkojhfjjlaa
