/- The contract of a step. -/
import Derived.Test.YtmlmjkojhfjjlaaWf
import Derived.Test.YtmlmjkojhfjjlaaRefA
import Derived.Test.YtmlmjkojhfjjlaaDec
namespace Go.Proofs.Ytmlmjkojhfjjlaa
set_option linter.unusedVariables false
set_option linter.unusedSimpArgs false
open Go.RowKit

theorem reckons_any (g gm : Nat) (ov : Value) (s : M.St) (f : Int) (u v : Bool) (a b c op im : Int) (w : World) (hC : Cel w g MT (mc s gm ov)) (hw : Wf s) (hG : M.Good f u v a b c op im) (hf : f ≠ 2) (hf' : f ≠ 3) :
    Calls Try.prog 60 #[.pointer (some ⟨g, 0, none⟩), iv f u v a b c op im] w (RetM (· = g) g gm ov (M.reckons s ⟨f, u, v, a, b, c, op, im⟩) w) := by
  obtain ⟨⟨ha, ha', hb, hb', hc, hc', ho, ho'⟩, h | h | h | h⟩ := hG
  · obtain ⟨rfl, hu, hv, rfl⟩ := h
    by_cases h0 : op = 0
    · subst h0
      cases u
      · exact reck_r2 g gm ov s v a b c w hC hw.rl hw.rb hw.hb ha ha' hb hb' hc hc'
      · cases v
        · exact reck_r1 g gm ov s a b c w hC hw.rl hw.rb hw.hb ha ha' hb hb' hc hc'
        · exact reck_fl g gm ov s a b c w hC hw.rl ha ha' hc hc'
    · exact reck_r3 g gm ov s u v a b c op w hC hw.rl hw.rb hw.hb ha ha' hb hb' hc hc' ho ho' hu h0
  · obtain ⟨rfl, hu, rfl, hi, hi'⟩ := h
    by_cases h0 : op = 0
    · subst h0
      cases u
      · cases v
        · exact reck_i2f g gm ov s a b im w hC hw.rl hw.rb hw.hb ha ha' hb hb' hi hi'
        · exact reck_i2t g gm ov s a b im w hC hw.rl hw.rb hw.hb ha ha' hb hb' hi hi'
      · exact reck_im g gm ov s v a b im w hC hw.rl ha ha' hi hi'
    · cases v
      · exact reck_i3f g gm ov s u a b op im w hC hw.rl hw.rb hw.hb ha ha' hb hb' ho ho' hu h0 hi hi'
      · exact reck_i3t g gm ov s u a b op im w hC hw.rl hw.rb hw.hb ha ha' hb hb' ho ho' hu h0 hi hi'
  · exact absurd h.1 hf
  · exact absurd h.1 hf'

theorem Mach.drewN {w : World} {g gm gw cap : Nat} {rest : List Value} {ov : Value} {s : M.St} (h : Mach w g gm gw cap rest ov s) (n : Nat) : Mach (w.drewN n) g gm gw cap rest ov s :=
  h.fr ((Fr.refl (fun _ => False) w).drewN n) id id id (fun _ _ => id)
theorem mach_pc {w w' : World} {g gm gw cap : Nat} {rest : List Value} {ov : Value} {s : M.St} (h : Mach w g gm gw cap rest ov s) (hC : Cel w' g MT (mc { s with pc := s.pc + 1 } gm ov)) (hF : Fr (fun k => k = g) w w') : Mach w' g gm gw cap rest ov { s with pc := s.pc + 1 } :=
  ⟨hC, h.mm.fr hF (fun e => h.g_gm e.symm) (fun e => h.g_gw e.symm), own_fr h.ow hF (fun k hk e => h.o_g (by rw [hk, e]))⟩

set_option maxHeartbeats 1000000 in
set_option maxRecDepth 100000 in
theorem step_out (w : World) (g gm gw cap : Nat) (rest : List Value) (ov : Value) (s : M.St) (h : Mach w g gm gw cap rest ov s) (hw : Wf s) (hp : ¬ s.pc < s.mem.length) :
    Calls Try.prog 42 #[.pointer (some ⟨g, 0, none⟩)] w (RetM (· = g) g gm ov { s with en := 5 } w) := by
  have hC := h.mc
  have hpc := hw.pc
  obtain ⟨c16, c17, c18, c19, c20, c21, c22, c23, c24, c25, c26, c27⟩ := mach_fld hC hw.rl
  have f := hC.frozen
  have hg := hC.lt
  clear c16 c17 c18 c19 c20 c23 c24 c25 c27
  go_enter Try.func42, Try.ntmps42
  go_wp2
  go_quiet ((go_at_call 46; exact Calls.quiet_of_same ((size_any _ gm gw cap s.mem rest (h.drewN _).mm).mono fun _ _ h => ⟨h.1, h.2.symm⟩)))
  go_wp2
  go_end0
  exact ⟨rfl, cel_en (hC.drewN _) hw.rl 5, fr_set ((Fr.refl _ _).drewN _) _ _⟩

theorem load_here (w : World) (gm gw cap : Nat) (mem : List Int) (rest : List Value) (W : Int) (h : MemAt w gm gw cap mem rest) (p : Int) (hp : 0 ≤ p) (hp' : p < mem.length) (hW : M.at_ mem p = W) :
    Calls Try.prog 56 #[.pointer (some ⟨gm, 0, none⟩), .int .u32 (p * 4)] w (Ret (.tuple #[.int .u32 W, .bool true]) w) := by
  have hle := h.le
  have e2 : p * 4 / 4 = p := by omega
  have := load_ok w gm gw cap mem rest h (p * 4) (by omega) (by omega) ⟨by omega, by unfold M.there; omega⟩
  rw [e2, hW] at this
  exact this

theorem after_dec {w w1 : World} {g gm gw cap : Nat} {rest : List Value} {ov : Value} {s : M.St} {n B : Nat} (h : Mach w g gm gw cap rest ov s) (hw : Wf s) (hb : Below B (w.drewN n) w1) (hB : B = w.heap.size) :
    Fr (fun _ => False) w w1 ∧ Mach w1 g gm gw cap rest ov s ∧ g < w1.heap.size ∧ g < w1.heap.size + 1 ∧ g ≠ w1.heap.size ∧ w1.heap.size ≠ g ∧ w1.cell? ⟨g, 21, none⟩ = some (.int .i64 s.pc) ∧ w1.cell? ⟨g, 26, none⟩ = some (.int .i64 s.en) ∧ (∀ i, w1.frozen? ⟨g, i, none⟩ = false) := by
  subst hB
  have hF1 : Fr (fun _ => False) w w1 := ⟨hb.os, hb.tape, hb.output, hb.size, fun k hk _ => hb.block k hk⟩
  have hM1 := h.fr hF1 id id id (fun _ _ => id)
  have hz1 := hM1.mc.lt
  exact ⟨hF1, hM1, hz1, Nat.lt_succ_of_lt hz1, Nat.ne_of_lt hz1, (Nat.ne_of_lt hz1).symm, (mach_fld hM1.mc hw.rl).2.2.2.2.2.1, (mach_fld hM1.mc hw.rl).2.2.2.2.2.2.2.2.2.2.1, hM1.mc.frozen⟩


set_option maxHeartbeats 1000000 in
set_option maxRecDepth 100000 in
theorem step_ill (w : World) (g gm gw cap : Nat) (rest : List Value) (ov : Value) (s : M.St) (W : Int) (hW : M.at_ s.mem s.pc = W) (hdec : ∀ w0, Calls Try.prog 57 #[.int .u32 W] w0 (RetB (.tuple #[iv 0 false false 0 0 0 0 0, .int .i64 20]) w0))
    (h : Mach w g gm gw cap rest ov s) (hw : Wf s) (hp : s.pc < s.mem.length) :
    Calls Try.prog 42 #[.pointer (some ⟨g, 0, none⟩)] w (RetM (· = g) g gm ov { s with en := 4 } w) := by
  have hC := h.mc
  have hpc := hw.pc
  have hle := h.mm.le
  obtain ⟨c16, c17, c18, c19, c20, c21, c22, c23, c24, c25, c26, c27⟩ := mach_fld hC hw.rl
  have f := hC.frozen
  have hg := hC.lt
  have hL := Lib.hid (fun w0 (hm : MemAt w0 gm gw cap s.mem rest) => load_here w0 gm gw cap s.mem rest W hm s.pc hpc.1 hp hW)
  clear hW c16 c17 c18 c19 c20 c23 c24 c25 c27
  go_enter Try.func42, Try.ntmps42
  go_wp2
  go_quiet ((go_at_call 46; exact Calls.quiet_of_same ((size_any _ gm gw cap s.mem rest (h.drewN _).mm).mono fun _ _ h => ⟨h.1, h.2.symm⟩)))
  go_wp2
  go_quiet ((go_at_call 56; exact quiet_same2 (hL.out _ (h.drewN _).mm)))
  go_wp2_with (go_at_call 57; refine (hdec _).mono ?_; rintro e w1 ⟨rfl, hb1⟩; obtain ⟨hF1, hM1, hz1, hz2, hz3, hz4, d21, d26, df⟩ := after_dec h hw hb1 rfl)
  go_end0
  exact ⟨rfl, (cel_en hM1.mc hw.rl 4).alloc _, (fr_set (hF1.mono (fun _ h => h.elim)) _ _).alloc _⟩

set_option maxHeartbeats 2000000 in
set_option maxRecDepth 100000 in
theorem step_j (w : World) (g gm gw cap : Nat) (rest : List Value) (ov : Value) (s : M.St) (W : Int) (hW : M.at_ s.mem s.pc = W) (u v : Bool) (a b c op im : Int) (hdec : ∀ w0, Calls Try.prog 57 #[.int .u32 W] w0 (RetB (.tuple #[iv 3 u v a b c op im, .int .i64 0]) w0)) (t : M.St)
    (hcall : ∀ w0, Mach w0 g gm gw cap rest ov { s with pc := s.pc + 1 } → Calls Try.prog 59 #[.pointer (some ⟨g, 0, none⟩), iv 3 u v a b c op im] w0 (RetMM (.tuple #[]) g gm gw cap rest ov t w0))
    (h : Mach w g gm gw cap rest ov s) (hw : Wf s) (hp : s.pc < s.mem.length) :
    Calls Try.prog 42 #[.pointer (some ⟨g, 0, none⟩)] w (RetMM (.tuple #[]) g gm gw cap rest ov t w) := by
  have hC := h.mc
  have hpc := hw.pc
  have hpcw : (s.pc + 1 + 9223372036854775808) % 18446744073709551616 - 9223372036854775808 = s.pc + 1 := by omega
  have hle := h.mm.le
  obtain ⟨c16, c17, c18, c19, c20, c21, c22, c23, c24, c25, c26, c27⟩ := mach_fld hC hw.rl
  have f := hC.frozen
  have hg := hC.lt
  have hL := Lib.hid (fun w0 (hm : MemAt w0 gm gw cap s.mem rest) => load_here w0 gm gw cap s.mem rest W hm s.pc hpc.1 hp hW)
  clear hW c16 c17 c18 c19 c20 c23 c24 c25 c27
  go_enter Try.func42, Try.ntmps42
  go_wp2
  go_quiet ((go_at_call 46; exact Calls.quiet_of_same ((size_any _ gm gw cap s.mem rest (h.drewN _).mm).mono fun _ _ h => ⟨h.1, h.2.symm⟩)))
  go_wp2
  go_quiet ((go_at_call 56; exact quiet_same2 (hL.out _ (h.drewN _).mm)))
  go_wp2_with (go_at_call 57; refine (hdec _).mono ?_; rintro e w1 ⟨rfl, hb1⟩; obtain ⟨hF1, hM1, hz1, hz2, hz3, hz4, d21, d26, df⟩ := after_dec h hw hb1 rfl)
  have hF2 : Fr (fun k => k = g) w1 ((w1.setCell ⟨g, 21, none⟩ (.int .i64 (s.pc + 1))).alloc (.cells #[.int .i64 3, .bool u, .bool v, .int .i64 a, .int .i64 b, .int .i64 c, .int .i64 op, .int .i64 im] 24)) := (fr_set (Fr.refl _ _) _ _).alloc _
  refine (hcall _ (mach_pc hM1 ((cel_pc hM1.mc hw.rl (s.pc + 1)).alloc _) hF2)).mono ?_
  rintro e w2 ⟨rfl, hR⟩
  go_wp2
  go_end0
  exact RetMM.pre ⟨rfl, hR⟩ ((hF1.mono (fun _ h => h.elim)).trans (hF2.mono (fun k hk => .inl hk)))

set_option maxHeartbeats 2000000 in
set_option maxRecDepth 100000 in
theorem step_m (w : World) (g gm gw cap : Nat) (rest : List Value) (ov : Value) (s : M.St) (W : Int) (hW : M.at_ s.mem s.pc = W) (u v : Bool) (a b c op im : Int) (hdec : ∀ w0, Calls Try.prog 57 #[.int .u32 W] w0 (RetB (.tuple #[iv 2 u v a b c op im, .int .i64 0]) w0)) (t : M.St)
    (hcall : ∀ w0, Mach w0 g gm gw cap rest ov { s with pc := s.pc + 1 } → Calls Try.prog 58 #[.pointer (some ⟨g, 0, none⟩), iv 2 u v a b c op im] w0 (RetMM (.tuple #[]) g gm gw cap rest ov t w0))
    (h : Mach w g gm gw cap rest ov s) (hw : Wf s) (hp : s.pc < s.mem.length) :
    Calls Try.prog 42 #[.pointer (some ⟨g, 0, none⟩)] w (RetMM (.tuple #[]) g gm gw cap rest ov t w) := by
  have hC := h.mc
  have hpc := hw.pc
  have hpcw : (s.pc + 1 + 9223372036854775808) % 18446744073709551616 - 9223372036854775808 = s.pc + 1 := by omega
  have hle := h.mm.le
  obtain ⟨c16, c17, c18, c19, c20, c21, c22, c23, c24, c25, c26, c27⟩ := mach_fld hC hw.rl
  have f := hC.frozen
  have hg := hC.lt
  have hL := Lib.hid (fun w0 (hm : MemAt w0 gm gw cap s.mem rest) => load_here w0 gm gw cap s.mem rest W hm s.pc hpc.1 hp hW)
  clear hW c16 c17 c18 c19 c20 c23 c24 c25 c27
  go_enter Try.func42, Try.ntmps42
  go_wp2
  go_quiet ((go_at_call 46; exact Calls.quiet_of_same ((size_any _ gm gw cap s.mem rest (h.drewN _).mm).mono fun _ _ h => ⟨h.1, h.2.symm⟩)))
  go_wp2
  go_quiet ((go_at_call 56; exact quiet_same2 (hL.out _ (h.drewN _).mm)))
  go_wp2_with (go_at_call 57; refine (hdec _).mono ?_; rintro e w1 ⟨rfl, hb1⟩; obtain ⟨hF1, hM1, hz1, hz2, hz3, hz4, d21, d26, df⟩ := after_dec h hw hb1 rfl)
  have hF2 : Fr (fun k => k = g) w1 ((w1.setCell ⟨g, 21, none⟩ (.int .i64 (s.pc + 1))).alloc (.cells #[.int .i64 2, .bool u, .bool v, .int .i64 a, .int .i64 b, .int .i64 c, .int .i64 op, .int .i64 im] 24)) := (fr_set (Fr.refl _ _) _ _).alloc _
  refine (hcall _ (mach_pc hM1 ((cel_pc hM1.mc hw.rl (s.pc + 1)).alloc _) hF2)).mono ?_
  rintro e w2 ⟨rfl, hR⟩
  go_wp2
  go_end0
  exact RetMM.pre ⟨rfl, hR⟩ ((hF1.mono (fun _ h => h.elim)).trans (hF2.mono (fun k hk => .inl hk)))

set_option maxHeartbeats 2000000 in
set_option maxRecDepth 100000 in
theorem step_r (w : World) (g gm gw cap : Nat) (rest : List Value) (ov : Value) (s : M.St) (W : Int) (hW : M.at_ s.mem s.pc = W) (u v : Bool) (a b c op im : Int)  (F : Int) (hF2 : (F == 2) = false) (hF3 : (F == 3) = false) (hdec : ∀ w0, Calls Try.prog 57 #[.int .u32 W] w0 (RetB (.tuple #[iv F u v a b c op im, .int .i64 0]) w0)) (t : M.St)
    (hcall : ∀ w0, Mach w0 g gm gw cap rest ov { s with pc := s.pc + 1 } → Calls Try.prog 60 #[.pointer (some ⟨g, 0, none⟩), iv F u v a b c op im] w0 (RetMM (.tuple #[]) g gm gw cap rest ov t w0))
    (h : Mach w g gm gw cap rest ov s) (hw : Wf s) (hp : s.pc < s.mem.length) :
    Calls Try.prog 42 #[.pointer (some ⟨g, 0, none⟩)] w (RetMM (.tuple #[]) g gm gw cap rest ov t w) := by
  have hC := h.mc
  have hpc := hw.pc
  have hpcw : (s.pc + 1 + 9223372036854775808) % 18446744073709551616 - 9223372036854775808 = s.pc + 1 := by omega
  have hle := h.mm.le
  obtain ⟨c16, c17, c18, c19, c20, c21, c22, c23, c24, c25, c26, c27⟩ := mach_fld hC hw.rl
  have f := hC.frozen
  have hg := hC.lt
  have hL := Lib.hid (fun w0 (hm : MemAt w0 gm gw cap s.mem rest) => load_here w0 gm gw cap s.mem rest W hm s.pc hpc.1 hp hW)
  clear hW c16 c17 c18 c19 c20 c23 c24 c25 c27
  go_enter Try.func42, Try.ntmps42
  go_wp2
  go_quiet ((go_at_call 46; exact Calls.quiet_of_same ((size_any _ gm gw cap s.mem rest (h.drewN _).mm).mono fun _ _ h => ⟨h.1, h.2.symm⟩)))
  go_wp2
  go_quiet ((go_at_call 56; exact quiet_same2 (hL.out _ (h.drewN _).mm)))
  go_wp2_with (go_at_call 57; refine (hdec _).mono ?_; rintro e w1 ⟨rfl, hb1⟩; obtain ⟨hF1, hM1, hz1, hz2, hz3, hz4, d21, d26, df⟩ := after_dec h hw hb1 rfl)
  have hF2 : Fr (fun k => k = g) w1 ((w1.setCell ⟨g, 21, none⟩ (.int .i64 (s.pc + 1))).alloc (.cells #[.int .i64 F, .bool u, .bool v, .int .i64 a, .int .i64 b, .int .i64 c, .int .i64 op, .int .i64 im] 24)) := (fr_set (Fr.refl _ _) _ _).alloc _
  refine (hcall _ (mach_pc hM1 ((cel_pc hM1.mc hw.rl (s.pc + 1)).alloc _) hF2)).mono ?_
  rintro e w2 ⟨rfl, hR⟩
  go_wp2
  go_end0
  exact RetMM.pre ⟨rfl, hR⟩ ((hF1.mono (fun _ h => h.elim)).trans (hF2.mono (fun k hk => .inl hk)))


theorem dec_yes {W : Int} (h : M.decOk W = true) (w : World) (h0 : 0 ≤ W) (h1 : W < 4294967296) :
    Calls Try.prog 57 #[.int .u32 W] w (RetB (.tuple #[iv (M.fields W).f (M.fields W).u (M.fields W).v (M.fields W).a (M.fields W).b (M.fields W).c (M.fields W).op (M.fields W).im, .int .i64 0]) w) := by
  have := dec_any W w h0 h1
  unfold decV M.dec M.decE at this
  simp only [h, if_true] at this
  exact this
theorem dec_none {W : Int} (h : ¬ M.decOk W = true) (w : World) (h0 : 0 ≤ W) (h1 : W < 4294967296) :
    Calls Try.prog 57 #[.int .u32 W] w (RetB (.tuple #[iv 0 false false 0 0 0 0 0, .int .i64 20]) w) := by
  have := dec_any W w h0 h1
  unfold decV M.dec M.decE at this
  simp only [h, if_false] at this
  exact this

theorem step_any (w : World) (g gm gw cap : Nat) (rest : List Value) (ov : Value) (s : M.St) (h : Mach w g gm gw cap rest ov s) (hw : Wf s) :
    Calls Try.prog 42 #[.pointer (some ⟨g, 0, none⟩)] w (RetMM (.tuple #[]) g gm gw cap rest ov (M.step s) w) := by
  unfold M.step
  by_cases hp : s.pc < s.mem.length
  · rw [if_pos hp]
    have hb := h.mm.bd s.pc
    by_cases hd : M.decOk (M.at_ s.mem s.pc) = true
    · rw [if_pos hd]
      have ht := hw.pc1 h.mm.le hp
      have hG := ok_good hd
      have hdec := fun w0 => dec_yes hd w0 hb.1 hb.2
      show Calls _ _ _ _ (RetMM (.tuple #[]) g gm gw cap rest ov (if (M.fields (M.at_ s.mem s.pc)).f = 2 then _ else if (M.fields (M.at_ s.mem s.pc)).f = 3 then _ else _) w)
      generalize M.fields (M.at_ s.mem s.pc) = x at hG hdec
      obtain ⟨f, u, v, a, b, c, op, im⟩ := x
      simp only at hG hdec ⊢
      have hG' := hG
      obtain ⟨⟨ha, ha', hb, hb', hc, hc', ho, ho'⟩, hk⟩ := hG'
      by_cases h2 : f = 2
      · subst h2
        rw [if_pos rfl]
        have hk' : c = 0 ∧ op = 0 ∧ -524288 ≤ im ∧ im < 524288 := by
          rcases hk with hk | hk | hk | hk
          · omega
          · omega
          · exact hk.2
          · omega
        obtain ⟨rfl, rfl, hi, hi'⟩ := hk'
        exact step_m w g gm gw cap rest ov s _ rfl u v a b 0 0 im hdec _ (fun w0 h0 => moves_any w0 g gm gw cap rest ov _ u v a b im h0 ht ha ha' hb hb' hi hi') h hw hp
      rw [if_neg h2]
      by_cases h3 : f = 3
      · subst h3
        rw [if_pos rfl]
        have hk' : b = 0 ∧ op = 0 ∧ -8388608 ≤ im ∧ im < 8388608 := by
          rcases hk with hk | hk | hk | hk
          · omega
          · omega
          · omega
          · obtain ⟨_, e1, e2, e3⟩ := hk
            rcases e3 with e3 | e3
            · exact ⟨e1, e2, e3.2.2.1, e3.2.2.2⟩
            · exact ⟨e1, e2, by omega, by omega⟩
        obtain ⟨rfl, rfl, hi, hi'⟩ := hk'
        refine step_j w g gm gw cap rest ov s _ rfl u v a 0 c 0 im hdec _ (fun w0 h0 => ?_) h hw hp
        refine (jumps_any g gm ov _ u v a c im w0 h0.mc ht.rl ht.rb ht.pc.1 (Int.le_of_lt ht.pc.2) ha ha' hc hc' hi hi').mono fun e w' hh => hh.mm h0 ?_ ?_
        · unfold M.jumps; split <;> rfl
        · unfold M.jumps; split <;> rfl
      rw [if_neg h3]
      refine step_r w g gm gw cap rest ov s _ rfl u v a b c op im f (by simpa using h2) (by simpa using h3) hdec _ (fun w0 h0 => ?_) h hw hp
      refine (reckons_any g gm ov _ f u v a b c op im w0 h0.mc ht hG h2 h3).mono fun e w' hh => hh.mm h0 ?_ ?_
      · unfold M.reckons; (repeat' split) <;> rfl
      · unfold M.reckons; (repeat' split) <;> rfl
    · rw [if_neg hd]
      exact (step_ill w g gm gw cap rest ov s _ rfl (fun w0 => dec_none hd w0 hb.1 hb.2) h hw hp).mono fun e w' hh => hh.mm h rfl rfl
  · rw [if_neg hp]
    exact (step_out w g gm gw cap rest ov s h hw hp).mono fun e w' hh => hh.mm h rfl rfl

end Go.Proofs.Ytmlmjkojhfjjlaa
