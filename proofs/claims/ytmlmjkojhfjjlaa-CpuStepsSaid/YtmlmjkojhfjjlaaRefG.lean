/- The document's Encode of jumps and register instructions that there are; of what is none. -/
import Derived.Test.YtmlmjkojhfjjlaaRefF
namespace Go.Proofs.Ytmlmjkojhfjjlaa
set_option linter.unusedVariables false
set_option linter.unusedSimpArgs false
open Go.RowKit

set_option maxHeartbeats 4000000 in
set_option maxRecDepth 100000 in
theorem renc3tt (a im : Int) (w : World) (hG : M.Good 3 true true a 0 0 0 im) :
    Calls Try.prog 35 #[iv 3 true true a 0 0 0 im] w (RetB (.tuple #[.int .u32 (M.enc 3 true true a 0 0 0 im), .int .i64 0]) w) := by
  have hgood := fun w0 => rgood3 true true a 0 im w0 hG
  obtain ⟨⟨ha, ha', hb, hb', hc, hc', ho, ho'⟩, hk⟩ := hG
  have h0 : -8388608 ≤ im ∧ im < 8388608 := by rcases hk with h | h | h | ⟨_, _, _, ⟨_, _, h⟩ | h⟩ <;> first | omega | simp at h
  obtain ⟨h0, h1⟩ := h0
  clear hk
  go_enter Try.func35, Try.ntmps35
  go_wp2_with (first | (go_at_call 49; refine (hgood _).mono ?_; rintro e w1 ⟨rfl, hb1⟩; obtain ⟨hcc, hff⟩ := bcell hb1) | (go_at_call 51; refine (rbit_any _ _).mono ?_; rintro e w' ⟨rfl, rfl⟩) | (go_at_call 52; refine (rword_any _ _ (by omega) (by omega)).mono ?_; rintro e w' ⟨rfl, rfl⟩) | (go_at_call 50; refine (rput_any _ _ _ _ _ (by first | with_reducible exact (putM_bd _ _ _ _).1 | decide) (by first | with_reducible exact (putM_bd _ _ _ _).2 | decide) (by first | omega | decide) (by first | omega | decide) (by decide) (by decide) (by decide) (by decide)).mono ?_; rintro e w' ⟨rfl, nd, rfl⟩))
  go_ret2
  refine ⟨ret_ii ?_ rfl, ?_⟩
  · simp only [M.bit, M.enc, if_true, if_false, Bool.false_eq_true]
    clear hcc hff hgood
    rw [put_30, put_29_1, put_28_1, put_24_4, put_m24] <;> (first | omega | decide)
  · repeat (first | (with_reducible exact Below.refl _ _) | (with_reducible apply below_drewN) | (with_reducible refine Below.alloc ?_ (by simp <;> omega) _) | (with_reducible refine Below.trans ?_ (hb1.mono (by simp <;> omega))))

set_option maxHeartbeats 4000000 in
set_option maxRecDepth 100000 in
theorem renc3ft (a c : Int) (w : World) (hG : M.Good 3 false true a 0 c 0 0) :
    Calls Try.prog 35 #[iv 3 false true a 0 c 0 0] w (RetB (.tuple #[.int .u32 (M.enc 3 false true a 0 c 0 0), .int .i64 0]) w) := by
  have hgood := fun w0 => rgood3 false true a c 0 w0 hG
  obtain ⟨⟨ha, ha', hb, hb', hc, hc', ho, ho'⟩, hk⟩ := hG
  skip
  clear hk
  go_enter Try.func35, Try.ntmps35
  go_wp2_with (first | (go_at_call 49; refine (hgood _).mono ?_; rintro e w1 ⟨rfl, hb1⟩; obtain ⟨hcc, hff⟩ := bcell hb1) | (go_at_call 51; refine (rbit_any _ _).mono ?_; rintro e w' ⟨rfl, rfl⟩) | (go_at_call 52; refine (rword_any _ _ (by omega) (by omega)).mono ?_; rintro e w' ⟨rfl, rfl⟩) | (go_at_call 50; refine (rput_any _ _ _ _ _ (by first | with_reducible exact (putM_bd _ _ _ _).1 | decide) (by first | with_reducible exact (putM_bd _ _ _ _).2 | decide) (by first | omega | decide) (by first | omega | decide) (by decide) (by decide) (by decide) (by decide)).mono ?_; rintro e w' ⟨rfl, nd, rfl⟩))
  go_ret2
  refine ⟨ret_ii ?_ rfl, ?_⟩
  · simp only [M.bit, M.enc, if_true, if_false, Bool.false_eq_true]
    clear hcc hff hgood
    rw [put_30, put_29_1, put_28_1, put_24_4, put_0_4] <;> (first | omega | decide)
  · repeat (first | (with_reducible exact Below.refl _ _) | (with_reducible apply below_drewN) | (with_reducible refine Below.alloc ?_ (by simp <;> omega) _) | (with_reducible refine Below.trans ?_ (hb1.mono (by simp <;> omega))))

set_option maxHeartbeats 4000000 in
set_option maxRecDepth 100000 in
theorem renc3tf (a im : Int) (w : World) (hG : M.Good 3 true false a 0 0 0 im) :
    Calls Try.prog 35 #[iv 3 true false a 0 0 0 im] w (RetB (.tuple #[.int .u32 (M.enc 3 true false a 0 0 0 im), .int .i64 0]) w) := by
  have hgood := fun w0 => rgood3 true false a 0 im w0 hG
  obtain ⟨⟨ha, ha', hb, hb', hc, hc', ho, ho'⟩, hk⟩ := hG
  have h0 : -8388608 ≤ im ∧ im < 8388608 := by rcases hk with h | h | h | ⟨_, _, _, ⟨_, _, h⟩ | h⟩ <;> first | omega | simp at h
  obtain ⟨h0, h1⟩ := h0
  clear hk
  go_enter Try.func35, Try.ntmps35
  go_wp2_with (first | (go_at_call 49; refine (hgood _).mono ?_; rintro e w1 ⟨rfl, hb1⟩; obtain ⟨hcc, hff⟩ := bcell hb1) | (go_at_call 51; refine (rbit_any _ _).mono ?_; rintro e w' ⟨rfl, rfl⟩) | (go_at_call 52; refine (rword_any _ _ (by omega) (by omega)).mono ?_; rintro e w' ⟨rfl, rfl⟩) | (go_at_call 50; refine (rput_any _ _ _ _ _ (by first | with_reducible exact (putM_bd _ _ _ _).1 | decide) (by first | with_reducible exact (putM_bd _ _ _ _).2 | decide) (by first | omega | decide) (by first | omega | decide) (by decide) (by decide) (by decide) (by decide)).mono ?_; rintro e w' ⟨rfl, nd, rfl⟩))
  go_ret2
  refine ⟨ret_ii ?_ rfl, ?_⟩
  · simp only [M.bit, M.enc, if_true, if_false, Bool.false_eq_true]
    clear hcc hff hgood
    rw [put_30, put_29_1, put_28_1, put_24_4, put_m24] <;> (first | omega | decide)
  · repeat (first | (with_reducible exact Below.refl _ _) | (with_reducible apply below_drewN) | (with_reducible refine Below.alloc ?_ (by simp <;> omega) _) | (with_reducible refine Below.trans ?_ (hb1.mono (by simp <;> omega))))

set_option maxHeartbeats 4000000 in
set_option maxRecDepth 100000 in
theorem renc3ff (a c : Int) (w : World) (hG : M.Good 3 false false a 0 c 0 0) :
    Calls Try.prog 35 #[iv 3 false false a 0 c 0 0] w (RetB (.tuple #[.int .u32 (M.enc 3 false false a 0 c 0 0), .int .i64 0]) w) := by
  have hgood := fun w0 => rgood3 false false a c 0 w0 hG
  obtain ⟨⟨ha, ha', hb, hb', hc, hc', ho, ho'⟩, hk⟩ := hG
  skip
  clear hk
  go_enter Try.func35, Try.ntmps35
  go_wp2_with (first | (go_at_call 49; refine (hgood _).mono ?_; rintro e w1 ⟨rfl, hb1⟩; obtain ⟨hcc, hff⟩ := bcell hb1) | (go_at_call 51; refine (rbit_any _ _).mono ?_; rintro e w' ⟨rfl, rfl⟩) | (go_at_call 52; refine (rword_any _ _ (by omega) (by omega)).mono ?_; rintro e w' ⟨rfl, rfl⟩) | (go_at_call 50; refine (rput_any _ _ _ _ _ (by first | with_reducible exact (putM_bd _ _ _ _).1 | decide) (by first | with_reducible exact (putM_bd _ _ _ _).2 | decide) (by first | omega | decide) (by first | omega | decide) (by decide) (by decide) (by decide) (by decide)).mono ?_; rintro e w' ⟨rfl, nd, rfl⟩))
  go_ret2
  refine ⟨ret_ii ?_ rfl, ?_⟩
  · simp only [M.bit, M.enc, if_true, if_false, Bool.false_eq_true]
    clear hcc hff hgood
    rw [put_30, put_29_1, put_28_1, put_24_4, put_0_4] <;> (first | omega | decide)
  · repeat (first | (with_reducible exact Below.refl _ _) | (with_reducible apply below_drewN) | (with_reducible refine Below.alloc ?_ (by simp <;> omega) _) | (with_reducible refine Below.trans ?_ (hb1.mono (by simp <;> omega))))

set_option maxHeartbeats 4000000 in
set_option maxRecDepth 100000 in
theorem renc0tt (a b c op : Int) (w : World) (hG : M.Good 0 true true a b c op 0) :
    Calls Try.prog 35 #[iv 0 true true a b c op 0] w (RetB (.tuple #[.int .u32 (M.enc 0 true true a b c op 0), .int .i64 0]) w) := by
  have hgood := fun w0 => rgood0 true true a b c op w0 hG
  obtain ⟨⟨ha, ha', hb, hb', hc, hc', ho, ho'⟩, hk⟩ := hG
  skip
  clear hk
  go_enter Try.func35, Try.ntmps35
  go_wp2_with (first | (go_at_call 49; refine (hgood _).mono ?_; rintro e w1 ⟨rfl, hb1⟩; obtain ⟨hcc, hff⟩ := bcell hb1) | (go_at_call 51; refine (rbit_any _ _).mono ?_; rintro e w' ⟨rfl, rfl⟩) | (go_at_call 52; refine (rword_any _ _ (by omega) (by omega)).mono ?_; rintro e w' ⟨rfl, rfl⟩) | (go_at_call 50; refine (rput_any _ _ _ _ _ (by first | with_reducible exact (putM_bd _ _ _ _).1 | decide) (by first | with_reducible exact (putM_bd _ _ _ _).2 | decide) (by first | omega | decide) (by first | omega | decide) (by decide) (by decide) (by decide) (by decide)).mono ?_; rintro e w' ⟨rfl, nd, rfl⟩))
  go_ret2
  refine ⟨ret_ii ?_ rfl, ?_⟩
  · simp only [M.bit, M.enc, if_true, if_false, Bool.false_eq_true]
    clear hcc hff hgood
    rw [put_30, put_29_1, put_28_1, put_24_4, put_20_4, put_16_4, put_0_4] <;> (first | omega | decide)
  · repeat (first | (with_reducible exact Below.refl _ _) | (with_reducible apply below_drewN) | (with_reducible refine Below.alloc ?_ (by simp <;> omega) _) | (with_reducible refine Below.trans ?_ (hb1.mono (by simp <;> omega))))

set_option maxHeartbeats 4000000 in
set_option maxRecDepth 100000 in
theorem renc0tf (a b c op : Int) (w : World) (hG : M.Good 0 true false a b c op 0) :
    Calls Try.prog 35 #[iv 0 true false a b c op 0] w (RetB (.tuple #[.int .u32 (M.enc 0 true false a b c op 0), .int .i64 0]) w) := by
  have hgood := fun w0 => rgood0 true false a b c op w0 hG
  obtain ⟨⟨ha, ha', hb, hb', hc, hc', ho, ho'⟩, hk⟩ := hG
  skip
  clear hk
  go_enter Try.func35, Try.ntmps35
  go_wp2_with (first | (go_at_call 49; refine (hgood _).mono ?_; rintro e w1 ⟨rfl, hb1⟩; obtain ⟨hcc, hff⟩ := bcell hb1) | (go_at_call 51; refine (rbit_any _ _).mono ?_; rintro e w' ⟨rfl, rfl⟩) | (go_at_call 52; refine (rword_any _ _ (by omega) (by omega)).mono ?_; rintro e w' ⟨rfl, rfl⟩) | (go_at_call 50; refine (rput_any _ _ _ _ _ (by first | with_reducible exact (putM_bd _ _ _ _).1 | decide) (by first | with_reducible exact (putM_bd _ _ _ _).2 | decide) (by first | omega | decide) (by first | omega | decide) (by decide) (by decide) (by decide) (by decide)).mono ?_; rintro e w' ⟨rfl, nd, rfl⟩))
  go_ret2
  refine ⟨ret_ii ?_ rfl, ?_⟩
  · simp only [M.bit, M.enc, if_true, if_false, Bool.false_eq_true]
    clear hcc hff hgood
    rw [put_30, put_29_1, put_28_1, put_24_4, put_20_4, put_16_4, put_0_4] <;> (first | omega | decide)
  · repeat (first | (with_reducible exact Below.refl _ _) | (with_reducible apply below_drewN) | (with_reducible refine Below.alloc ?_ (by simp <;> omega) _) | (with_reducible refine Below.trans ?_ (hb1.mono (by simp <;> omega))))

set_option maxHeartbeats 4000000 in
set_option maxRecDepth 100000 in
theorem renc0ft (a b c op : Int) (w : World) (hG : M.Good 0 false true a b c op 0) :
    Calls Try.prog 35 #[iv 0 false true a b c op 0] w (RetB (.tuple #[.int .u32 (M.enc 0 false true a b c op 0), .int .i64 0]) w) := by
  have hgood := fun w0 => rgood0 false true a b c op w0 hG
  obtain ⟨⟨ha, ha', hb, hb', hc, hc', ho, ho'⟩, hk⟩ := hG
  skip
  clear hk
  go_enter Try.func35, Try.ntmps35
  go_wp2_with (first | (go_at_call 49; refine (hgood _).mono ?_; rintro e w1 ⟨rfl, hb1⟩; obtain ⟨hcc, hff⟩ := bcell hb1) | (go_at_call 51; refine (rbit_any _ _).mono ?_; rintro e w' ⟨rfl, rfl⟩) | (go_at_call 52; refine (rword_any _ _ (by omega) (by omega)).mono ?_; rintro e w' ⟨rfl, rfl⟩) | (go_at_call 50; refine (rput_any _ _ _ _ _ (by first | with_reducible exact (putM_bd _ _ _ _).1 | decide) (by first | with_reducible exact (putM_bd _ _ _ _).2 | decide) (by first | omega | decide) (by first | omega | decide) (by decide) (by decide) (by decide) (by decide)).mono ?_; rintro e w' ⟨rfl, nd, rfl⟩))
  go_ret2
  refine ⟨ret_ii ?_ rfl, ?_⟩
  · simp only [M.bit, M.enc, if_true, if_false, Bool.false_eq_true]
    clear hcc hff hgood
    rw [put_30, put_29_1, put_28_1, put_24_4, put_20_4, put_16_4, put_0_4] <;> (first | omega | decide)
  · repeat (first | (with_reducible exact Below.refl _ _) | (with_reducible apply below_drewN) | (with_reducible refine Below.alloc ?_ (by simp <;> omega) _) | (with_reducible refine Below.trans ?_ (hb1.mono (by simp <;> omega))))

set_option maxHeartbeats 4000000 in
set_option maxRecDepth 100000 in
theorem renc0ff (a b c op : Int) (w : World) (hG : M.Good 0 false false a b c op 0) :
    Calls Try.prog 35 #[iv 0 false false a b c op 0] w (RetB (.tuple #[.int .u32 (M.enc 0 false false a b c op 0), .int .i64 0]) w) := by
  have hgood := fun w0 => rgood0 false false a b c op w0 hG
  obtain ⟨⟨ha, ha', hb, hb', hc, hc', ho, ho'⟩, hk⟩ := hG
  skip
  clear hk
  go_enter Try.func35, Try.ntmps35
  go_wp2_with (first | (go_at_call 49; refine (hgood _).mono ?_; rintro e w1 ⟨rfl, hb1⟩; obtain ⟨hcc, hff⟩ := bcell hb1) | (go_at_call 51; refine (rbit_any _ _).mono ?_; rintro e w' ⟨rfl, rfl⟩) | (go_at_call 52; refine (rword_any _ _ (by omega) (by omega)).mono ?_; rintro e w' ⟨rfl, rfl⟩) | (go_at_call 50; refine (rput_any _ _ _ _ _ (by first | with_reducible exact (putM_bd _ _ _ _).1 | decide) (by first | with_reducible exact (putM_bd _ _ _ _).2 | decide) (by first | omega | decide) (by first | omega | decide) (by decide) (by decide) (by decide) (by decide)).mono ?_; rintro e w' ⟨rfl, nd, rfl⟩))
  go_ret2
  refine ⟨ret_ii ?_ rfl, ?_⟩
  · simp only [M.bit, M.enc, if_true, if_false, Bool.false_eq_true]
    clear hcc hff hgood
    rw [put_30, put_29_1, put_28_1, put_24_4, put_20_4, put_16_4, put_0_4] <;> (first | omega | decide)
  · repeat (first | (with_reducible exact Below.refl _ _) | (with_reducible apply below_drewN) | (with_reducible refine Below.alloc ?_ (by simp <;> omega) _) | (with_reducible refine Below.trans ?_ (hb1.mono (by simp <;> omega))))

/-- The document's Encode at any instruction that there is. -/
theorem renc_yes (f : Int) (u v : Bool) (a b c op im : Int) (w : World) (hG : M.Good f u v a b c op im) :
    Calls Try.prog 35 #[iv f u v a b c op im] w (RetB (.tuple #[.int .u32 (M.enc f u v a b c op im), .int .i64 0]) w) := by
  have hk := hG.2
  rcases hk with ⟨rfl, _, _, rfl⟩ | ⟨rfl, _, rfl, h0, h1⟩ | ⟨rfl, rfl, rfl, h0, h1⟩ | ⟨rfl, rfl, rfl, ⟨rfl, rfl, h0, h1⟩ | ⟨rfl, rfl⟩⟩
  · cases u <;> cases v
    · exact renc0ff a b c op w hG
    · exact renc0ft a b c op w hG
    · exact renc0tf a b c op w hG
    · exact renc0tt a b c op w hG
  · exact renc1 u v a b op im w hG
  · exact renc2 u v a b im w hG
  · cases v
    · exact renc3tf a im w hG
    · exact renc3tt a im w hG
  · cases v
    · exact renc3ff a c w hG
    · exact renc3ft a c w hG

end Go.Proofs.Ytmlmjkojhfjjlaa
