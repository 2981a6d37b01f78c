/- Contracts of the program's risc.Encode, form by form, for instructions whose fields are in range. -/
import Derived.Test.YtmlmjkojhfjjlaaRisc
namespace Go.Proofs.Ytmlmjkojhfjjlaa
set_option linter.unusedVariables false
set_option linter.unusedSimpArgs false
open Go.RowKit

def bitn (b : Bool) (n : Int) : Int := M.bit b (2 ^ n.toNat)
set_option maxHeartbeats 400000 in
theorem bit_any (b : Bool) (n : Int) (w : World) (h0 : 0 ≤ n) (h1 : n ≤ 31) : Calls Try.prog 54 #[.bool b, .int .i64 n] w (fun e w' => e = .returned (.int .u32 (bitn b n)) ∧ w' = w) := by
  have hp := pow_le31 n.toNat (by omega)
  have hq := pow_ge1 n.toNat
  cases b
  all_goals
    go_enter Try.func54, Try.ntmps54
    go_wp2
    go_ret
    refine ⟨ret_i ?_, rfl⟩
    simp [bitn, M.bit]
  all_goals trace_state
/-- What Encode answers. -/
abbrev encV (f : Int) (u v : Bool) (a b c op im : Int) : Value := .tuple #[.int .u32 (M.encW f u v a b c op im), .int .i64 (M.encE f u v a b c op im)]

theorem encW_yes {f : Int} {u v : Bool} {a b c op im : Int} (h : M.good f u v a b c op im = true) {x : Int} (hx : x = M.enc f u v a b c op im) : x = M.encW f u v a b c op im := by
  unfold M.encW; rw [if_pos h]; exact hx
theorem encE_yes {f : Int} {u v : Bool} {a b c op im : Int} (h : M.good f u v a b c op im = true) : 0 = M.encE f u v a b c op im := by
  unfold M.encE; rw [if_pos h]
theorem encW_no {f : Int} {u v : Bool} {a b c op im : Int} (h : M.good f u v a b c op im = false) : 0 = M.encW f u v a b c op im := by
  unfold M.encW; rw [if_neg (by simp [h])]
theorem encE_no {f : Int} {u v : Bool} {a b c op im : Int} (h : M.good f u v a b c op im = false) : 20 = M.encE f u v a b c op im := by
  unfold M.encE; rw [if_neg (by simp [h])]
theorem bit_or (b : Bool) (n : Int) : M.bit b n = 0 ∨ M.bit b n = n := by cases b <;> simp [M.bit]
theorem bitn29 (b : Bool) : bitn b 29 = M.bit b 536870912 := rfl
theorem bitn28 (b : Bool) : bitn b 28 = M.bit b 268435456 := rfl

/-- The four upper fields. -/
theorem head4 (F a : Int) (u v : Bool) (hF : F = 0 ∨ F = 1073741824 ∨ F = 2147483648 ∨ F = 3221225472) (ha : 0 ≤ a) (ha' : a < 16) :
    bits .or .u32 (bits .or .u32 (bits .or .u32 F (bitn u 29)) (bitn v 28)) (a * 16777216) = F + M.bit u 536870912 + M.bit v 268435456 + a * 16777216 := by
  rw [bitn29, bitn28]
  have hU := bit_or u 536870912
  have hV := bit_or v 268435456
  generalize M.bit u 536870912 = U at *
  generalize M.bit v 268435456 = V at *
  rw [u32_join 30 F U (by omega) (by omega) (by omega) (by omega) (by omega) (by omega)]
  rw [u32_join 29 (F + U) V (by omega) (by omega) (by omega) (by omega) (by omega) (by omega)]
  rw [u32_join 28 (F + U + V) (a * 16777216) (by omega) (by omega) (by omega) (by omega) (by omega) (by omega)]
theorem head_bd (F a : Int) (u v : Bool) (hF : F = 0 ∨ F = 1073741824 ∨ F = 2147483648 ∨ F = 3221225472) (ha : 0 ≤ a) (ha' : a < 16) (X : Int) (hX : X = F + M.bit u 536870912 + M.bit v 268435456 + a * 16777216) :
    0 ≤ X ∧ X % 16777216 = 0 ∧ X ≤ 4278190080 := by
  have hU := bit_or u 536870912
  have hV := bit_or v 268435456
  omega

theorem mask24 (x : Int) (h0 : 0 ≤ x) (h1 : x < 4294967296) : bits .and .u32 x 16777215 = x % 16777216 := u32_mask 24 (by decide) x h0 h1
theorem mask20 (x : Int) (h0 : 0 ≤ x) (h1 : x < 4294967296) : bits .and .u32 x 1048575 = x % 1048576 := u32_mask 20 (by decide) x h0 h1

theorem enc3u_math (v : Bool) (a im : Int) (ha : 0 ≤ a) (ha' : a < 16) :
    bits .or .u32 (bits .or .u32 (bits .or .u32 (bits .or .u32 (bits .or .u32 3221225472 (bitn true 29)) (bitn v 28)) (a * 16777216)) 0) (bits .and .u32 (im % 4294967296) 16777215) = M.enc 3 true v a 0 0 0 im := by
  rw [head4 _ _ _ _ (by simp) ha ha']
  obtain ⟨X, hX⟩ : ∃ X, X = 3221225472 + M.bit true 536870912 + M.bit v 268435456 + a * 16777216 := ⟨_, rfl⟩
  obtain ⟨h0, h1, h2⟩ := head_bd _ _ _ _ (by simp) ha ha' X hX
  rw [← hX, u32_join 0 X 0 h0 (by omega) (by omega) (by omega) (by omega) (by omega)]
  rw [mask24 _ (by omega) (by omega), u32_join 24 (X + 0) _ (by omega) (by omega) (by omega) (by omega) (by omega) (by omega)]
  unfold M.enc
  simp only [if_true]
  omega

theorem enc3_math (v : Bool) (a c : Int) (ha : 0 ≤ a) (ha' : a < 16) (hc : 0 ≤ c) (hc' : c < 16) :
    bits .or .u32 (bits .or .u32 (bits .or .u32 (bits .or .u32 (bits .or .u32 3221225472 (bitn false 29)) (bitn v 28)) (a * 16777216)) c) 0 = M.enc 3 false v a 0 c 0 0 := by
  rw [head4 _ _ _ _ (by simp) ha ha']
  obtain ⟨X, hX⟩ : ∃ X, X = 3221225472 + M.bit false 536870912 + M.bit v 268435456 + a * 16777216 := ⟨_, rfl⟩
  obtain ⟨h0, h1, h2⟩ := head_bd _ _ _ _ (by simp) ha ha' X hX
  rw [← hX, u32_join 24 X c h0 (by omega) (by omega) (by omega) (by omega) (by omega), u32_join 0 (X + c) 0 (by omega) (by omega) (by omega) (by omega) (by omega) (by omega)]
  unfold M.enc
  simp
  omega

theorem enc2_math (u v : Bool) (a b im : Int) (ha : 0 ≤ a) (ha' : a < 16) (hb : 0 ≤ b) (hb' : b < 16) :
    bits .or .u32 (bits .or .u32 (bits .or .u32 (bits .or .u32 (bits .or .u32 2147483648 (bitn u 29)) (bitn v 28)) (a * 16777216)) (b * 1048576)) (bits .and .u32 (im % 4294967296) 1048575) = M.enc 2 u v a b 0 0 im := by
  rw [head4 _ _ _ _ (by simp) ha ha']
  obtain ⟨X, hX⟩ : ∃ X, X = 2147483648 + M.bit u 536870912 + M.bit v 268435456 + a * 16777216 := ⟨_, rfl⟩
  obtain ⟨h0, h1, h2⟩ := head_bd _ _ _ _ (by simp) ha ha' X hX
  rw [← hX, u32_join 24 X _ h0 (by omega) (by omega) (by omega) (by omega) (by omega)]
  rw [mask20 _ (by omega) (by omega), u32_join 20 _ _ (by omega) (by omega) (by omega) (by omega) (by omega) (by omega)]
  unfold M.enc
  simp
  omega

theorem enc1_math (u v : Bool) (a b op im : Int) (ha : 0 ≤ a) (ha' : a < 16) (hb : 0 ≤ b) (hb' : b < 16) (ho : 0 ≤ op) (ho' : op < 16) (hi : 0 ≤ im) (hi' : im < 65536) :
    bits .or .u32 (bits .or .u32 (bits .or .u32 (bits .or .u32 (bits .or .u32 (bits .or .u32 1073741824 (bitn u 29)) (bitn v 28)) (a * 16777216)) (b * 1048576)) (op * 65536)) im = M.enc 1 u v a b 0 op im := by
  rw [head4 _ _ _ _ (by simp) ha ha']
  obtain ⟨X, hX⟩ : ∃ X, X = 1073741824 + M.bit u 536870912 + M.bit v 268435456 + a * 16777216 := ⟨_, rfl⟩
  obtain ⟨h0, h1, h2⟩ := head_bd _ _ _ _ (by simp) ha ha' X hX
  rw [← hX, u32_join 24 X _ h0 (by omega) (by omega) (by omega) (by omega) (by omega), u32_join 20 (X + b * 1048576) (op * 65536) (by omega) (by omega) (by omega) (by omega) (by omega) (by omega),
    u32_join 16 (X + b * 1048576 + op * 65536) _ (by omega) (by omega) (by omega) (by omega) (by omega) (by omega)]
  unfold M.enc
  simp
  omega

theorem u32_zero_mid (u v : Bool) (a b op : Int) (ha : 0 ≤ a) (ha' : a < 16) (hb : 0 ≤ b) (hb' : b < 16) (ho : 0 ≤ op) (ho' : op < 16) :
    bits .or .u32 (bits .or .u32 (bits .or .u32 (bits .or .u32 (bits .or .u32 (bits .or .u32 1073741824 (bitn u 29)) (bitn v 28)) (a * 16777216)) (b * 1048576)) (op * 65536)) 0 =
    bits .or .u32 (bits .or .u32 (bits .or .u32 (bits .or .u32 (bits .or .u32 1073741824 (bitn u 29)) (bitn v 28)) (a * 16777216)) (b * 1048576)) (op * 65536) := by
  rw [head4 _ _ _ _ (by simp) ha ha']
  obtain ⟨X, hX⟩ : ∃ X, X = 1073741824 + M.bit u 536870912 + M.bit v 268435456 + a * 16777216 := ⟨_, rfl⟩
  obtain ⟨h0, h1, h2⟩ := head_bd _ _ _ _ (by simp) ha ha' X hX
  rw [← hX, u32_join 24 X _ h0 (by omega) (by omega) (by omega) (by omega) (by omega), u32_join 20 (X + b * 1048576) (op * 65536) (by omega) (by omega) (by omega) (by omega) (by omega) (by omega)]
  rw [u32_join 0 _ 0 (by omega) (by omega) (by omega) (by omega) (by omega) (by omega)]
  omega

theorem enc0_math (u v : Bool) (a b c op : Int) (ha : 0 ≤ a) (ha' : a < 16) (hb : 0 ≤ b) (hb' : b < 16) (ho : 0 ≤ op) (ho' : op < 16) (hc : 0 ≤ c) (hc' : c < 16) :
    bits .or .u32 (bits .or .u32 (bits .or .u32 (bits .or .u32 (bits .or .u32 (bits .or .u32 0 (bitn u 29)) (bitn v 28)) (a * 16777216)) (b * 1048576)) (op * 65536)) c = M.enc 0 u v a b c op 0 := by
  rw [head4 _ _ _ _ (by simp) ha ha']
  obtain ⟨X, hX⟩ : ∃ X, X = 0 + M.bit u 536870912 + M.bit v 268435456 + a * 16777216 := ⟨_, rfl⟩
  obtain ⟨h0, h1, h2⟩ := head_bd _ _ _ _ (by simp) ha ha' X hX
  rw [← hX, u32_join 24 X _ h0 (by omega) (by omega) (by omega) (by omega) (by omega), u32_join 20 (X + b * 1048576) (op * 65536) (by omega) (by omega) (by omega) (by omega) (by omega) (by omega),
    u32_join 16 (X + b * 1048576 + op * 65536) _ (by omega) (by omega) (by omega) (by omega) (by omega) (by omega)]
  unfold M.enc
  simp
  omega
theorem or0 (x : Int) (h0 : 0 ≤ x) (h1 : x < 4294967296) : bits .or .u32 x 0 = x := by
  rw [u32_join 0 x 0 h0 (by omega) h1 (by omega) (by omega) (by omega)]; omega
theorem or0' (x : Int) (h0 : 0 ≤ x) (h1 : x < 4294967296) : bits .or .u32 0 x = x := by
  rw [u32_join 32 0 x (by omega) (by omega) (by omega) h0 h1 h1]; omega

set_option maxHeartbeats 1000000 in
set_option maxRecDepth 100000 in
theorem enc3u (v : Bool) (a im : Int) (w : World) (ha : 0 ≤ a) (ha' : a < 16) (hi : -8388608 ≤ im) (hi' : im < 8388608) :
    Calls Try.prog 38 #[iv 3 true v a 0 0 0 im] w (RetB (encV 3 true v a 0 0 0 im) w) := by
  have hg : M.good 3 true v a 0 0 0 im = true := (good_yes (by unfold M.Good; simp <;> omega)).symm
  go_enter Try.func38, Try.ntmps38
  go_wp2_with (go_at_call 53; refine (good3u _ _ _ _ (by omega) (by omega) (by omega) (by omega)).mono ?_; rintro e w1 ⟨rfl, hb1⟩)
  obtain ⟨hc, hf⟩ := bcell hb1
  go_quiet ((go_at_call 54; exact Calls.quiet_of_same (bit_any _ _ _ (by decide) (by decide))))
  go_wp2
  go_ret2
  exact ⟨ret_ii (encW_yes hg (enc3u_math v a im ha ha')) (encE_yes hg), below_drewN (((Below.refl _ _).alloc (Nat.le_refl _) _).trans (hb1.mono (by simp))) _⟩

set_option maxHeartbeats 1000000 in
set_option maxRecDepth 100000 in
theorem enc3 (v : Bool) (a c : Int) (w : World) (ha : 0 ≤ a) (ha' : a < 16) (hc0 : 0 ≤ c) (hc' : c < 16) :
    Calls Try.prog 38 #[iv 3 false v a 0 c 0 0] w (RetB (encV 3 false v a 0 c 0 0) w) := by
  have hg : M.good 3 false v a 0 c 0 0 = true := (good_yes (by unfold M.Good; simp <;> omega)).symm
  go_enter Try.func38, Try.ntmps38
  go_wp2_with (go_at_call 53; refine (good3 _ _ _ _ (by omega) (by omega) (by omega) (by omega)).mono ?_; rintro e w1 ⟨rfl, hb1⟩)
  obtain ⟨hc, hf⟩ := bcell hb1
  go_quiet ((go_at_call 54; exact Calls.quiet_of_same (bit_any _ _ _ (by decide) (by decide))))
  go_wp2
  go_ret2
  refine ⟨ret_ii (encW_yes hg ?_) (encE_yes hg), below_drewN (((Below.refl _ _).alloc (Nat.le_refl _) _).trans (hb1.mono (by simp))) _⟩
  have e : bits BinOp.and IntKind.u32 0 16777215 = 0 := by rw [mask24 _ (by decide) (by decide)]; rfl
  rw [e]
  exact enc3_math v a c ha ha' hc0 hc'

set_option maxHeartbeats 1000000 in
set_option maxRecDepth 100000 in
theorem enc2 (u v : Bool) (a b im : Int) (w : World) (ha : 0 ≤ a) (ha' : a < 16) (hb : 0 ≤ b) (hb' : b < 16) (hi : -524288 ≤ im) (hi' : im < 524288) :
    Calls Try.prog 38 #[iv 2 u v a b 0 0 im] w (RetB (encV 2 u v a b 0 0 im) w) := by
  have hg : M.good 2 u v a b 0 0 im = true := (good_yes (by unfold M.Good; simp <;> omega)).symm
  go_enter Try.func38, Try.ntmps38
  go_wp2_with (go_at_call 53; refine (good2 _ _ _ _ _ _ (by omega) (by omega) (by omega) (by omega) (by omega) (by omega)).mono ?_; rintro e w1 ⟨rfl, hb1⟩)
  obtain ⟨hc, hf⟩ := bcell hb1
  go_quiet ((go_at_call 54; exact Calls.quiet_of_same (bit_any _ _ _ (by decide) (by decide))))
  go_wp2
  go_ret2
  refine ⟨ret_ii (encW_yes hg ?_) (encE_yes hg), below_drewN (((Below.refl _ _).alloc (Nat.le_refl _) _).trans (hb1.mono (by simp))) _⟩
  exact enc2_math u v a b im ha ha' hb hb'

set_option maxHeartbeats 1000000 in
set_option maxRecDepth 100000 in
theorem enc1 (u v : Bool) (a b op im : Int) (w : World) (ha : 0 ≤ a) (ha' : a < 16) (hb : 0 ≤ b) (hb' : b < 16) (ho : 0 ≤ op) (ho' : op < 16) (hi : 0 ≤ im) (hi' : im < 65536) :
    Calls Try.prog 38 #[iv 1 u v a b 0 op im] w (RetB (encV 1 u v a b 0 op im) w) := by
  cases hg : M.good 1 u v a b 0 op im
  all_goals
    go_enter Try.func38, Try.ntmps38
    go_wp2_with (go_at_call 53; refine (good1 _ _ _ _ _ _ _ (by omega) (by omega) (by omega) (by omega) (by omega) (by omega) (by omega) (by omega)).mono ?_; rintro e w1 ⟨rfl, hb1⟩)
  · go_ret2
    refine ⟨ret_ii (encW_no hg) (encE_no hg), ((Below.refl _ _).alloc (Nat.le_refl _) _).trans (hb1.mono (by simp))⟩
  obtain ⟨hc, hf⟩ := bcell hb1
  go_quiet ((go_at_call 54; exact Calls.quiet_of_same (bit_any _ _ _ (by decide) (by decide))))
  go_wp2
  go_ret2
  refine ⟨ret_ii (encW_yes hg ?_) (encE_yes hg), below_drewN (((Below.refl _ _).alloc (Nat.le_refl _) _).trans (hb1.mono (by simp))) _⟩
  have H := enc1_math u v a b op im ha ha' hb hb' ho ho' hi hi'
  rw [← H, u32_zero_mid u v a b op ha ha' hb hb' ho ho']

set_option maxHeartbeats 1000000 in
set_option maxRecDepth 100000 in
theorem enc0 (u v : Bool) (a b c op : Int) (w : World) (ha : 0 ≤ a) (ha' : a < 16) (hb : 0 ≤ b) (hb' : b < 16) (hc : 0 ≤ c) (hc' : c < 16) (ho : 0 ≤ op) (ho' : op < 16) :
    Calls Try.prog 38 #[iv 0 u v a b c op 0] w (RetB (encV 0 u v a b c op 0) w) := by
  cases hg : M.good 0 u v a b c op 0
  all_goals
    go_enter Try.func38, Try.ntmps38
    go_wp2_with (go_at_call 53; refine (good0 _ _ _ _ _ _ _ (by omega) (by omega) (by omega) (by omega) (by omega) (by omega) (by omega) (by omega)).mono ?_; rintro e w1 ⟨rfl, hb1⟩)
  · go_ret2
    refine ⟨ret_ii (encW_no hg) (encE_no hg), ((Below.refl _ _).alloc (Nat.le_refl _) _).trans (hb1.mono (by simp))⟩
  obtain ⟨hc1, hf1⟩ := bcell hb1
  go_quiet ((go_at_call 54; exact Calls.quiet_of_same (bit_any _ _ _ (by decide) (by decide))))
  go_wp2
  go_ret2
  refine ⟨ret_ii (encW_yes hg ?_) (encE_yes hg), below_drewN (((Below.refl _ _).alloc (Nat.le_refl _) _).trans (hb1.mono (by simp))) _⟩
  rw [enc0_math u v a b c op ha ha' hb hb' ho ho' hc hc']
  refine or0 _ ?_ ?_
  all_goals
    have hU := bit_or u 536870912
    have hV := bit_or v 268435456
    unfold M.enc
    simp
    omega

end Go.Proofs.Ytmlmjkojhfjjlaa
