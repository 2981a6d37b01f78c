/- The contract of the program's risc.Decode: the instruction of any word, or that it is none. -/
import Derived.Test.YtmlmjkojhfjjlaaEnc
namespace Go.Proofs.Ytmlmjkojhfjjlaa
set_option linter.unusedVariables false
set_option linter.unusedSimpArgs false
open Go.RowKit

def decV (W : Int) : Value := .tuple #[iv (M.dec W).f (M.dec W).u (M.dec W).v (M.dec W).a (M.dec W).b (M.dec W).c (M.dec W).op (M.dec W).im, .int .i64 (M.decE W)]

theorem decV_yes {W f : Int} {u v : Bool} {a b c op im : Int} (hx : M.fields W = ⟨f, u, v, a, b, c, op, im⟩) (hg : M.good f u v a b c op im = true) (he : M.encW f u v a b c op im = W) :
    Value.tuple #[iv f u v a b c op im, .int .i64 0] = decV W := by
  have h : M.enc f u v a b c op im = W := by rw [← he]; unfold M.encW; rw [if_pos hg]
  have hk : M.decOk W = true := by unfold M.decOk M.goodI M.encI; rw [hx]; simp [hg, h]
  unfold decV M.dec M.decE
  rw [if_pos hk, if_pos hk, hx]
theorem decV_no {W f : Int} {u v : Bool} {a b c op im : Int} (hx : M.fields W = ⟨f, u, v, a, b, c, op, im⟩) (h : M.good f u v a b c op im = false ∨ M.encW f u v a b c op im ≠ W) :
    Value.tuple #[iv 0 false false 0 0 0 0 0, .int .i64 20] = decV W := by
  have hk : ¬ M.decOk W = true := by
    unfold M.decOk M.goodI M.encI; rw [hx]
    simp only [Bool.and_eq_true, beq_iff_eq, not_and]
    intro hg
    rcases h with h | h
    · simp [h] at hg
    · intro he; apply h; unfold M.encW; rw [if_pos hg]; exact he
  unfold decV M.dec M.decE
  rw [if_neg hk, if_neg hk]
theorem decV_of {W f : Int} {u v : Bool} {a b c op im : Int} (hx : M.fields W = ⟨f, u, v, a, b, c, op, im⟩) :
    (M.good f u v a b c op im = true ∧ M.encW f u v a b c op im = W ∧ Value.tuple #[iv f u v a b c op im, .int .i64 0] = decV W) ∨
    (M.good f u v a b c op im = true ∧ M.encW f u v a b c op im ≠ W ∧ Value.tuple #[iv 0 false false 0 0 0 0 0, .int .i64 20] = decV W) ∨
    (M.good f u v a b c op im = false ∧ Value.tuple #[iv 0 false false 0 0 0 0 0, .int .i64 20] = decV W) := by
  cases hg : M.good f u v a b c op im
  · exact .inr (.inr ⟨rfl, decV_no hx (.inl hg)⟩)
  · by_cases he : M.encW f u v a b c op im = W
    · exact .inl ⟨rfl, he, decV_yes hx hg he⟩
    · exact .inr (.inl ⟨rfl, he, decV_no hx (.inr he)⟩)

theorem and1 (x : Int) (h0 : 0 ≤ x) (h1 : x < 4294967296) : bits .and .u32 x 1 = x % 2 := u32_mask 1 (by decide) x h0 h1
theorem and15 (x : Int) (h0 : 0 ≤ x) (h1 : x < 4294967296) : bits .and .u32 x 15 = x % 16 := u32_mask 4 (by decide) x h0 h1
theorem flag29 (W : Int) (h0 : 0 ≤ W) (h1 : W < 4294967296) : (bits .and .u32 (W / 536870912) 1 == 1) = decide (W / 536870912 % 2 = 1) := by
  rw [and1 _ (by omega) (by omega), Bool.eq_iff_iff]; simp
theorem flag28 (W : Int) (h0 : 0 ≤ W) (h1 : W < 4294967296) : (bits .and .u32 (W / 268435456) 1 == 1) = decide (W / 268435456 % 2 = 1) := by
  rw [and1 _ (by omega) (by omega), Bool.eq_iff_iff]; simp

set_option maxHeartbeats 1000000 in
set_option maxRecDepth 100000 in
theorem dec0 (W : Int) (w : World) (h0 : 0 ≤ W) (h1 : W < 1073741824) :
    Calls Try.prog 57 #[.int .u32 W] w (RetB (decV W) w) := by
  obtain ⟨u, eu⟩ : ∃ u, decide (W / 536870912 % 2 = 1) = u := ⟨_, rfl⟩
  obtain ⟨v, ev⟩ : ∃ u, decide (W / 268435456 % 2 = 1) = u := ⟨_, rfl⟩
  obtain ⟨a, ea⟩ : ∃ a, M.get W 24 4 = a := ⟨_, rfl⟩
  have ha : 0 ≤ a ∧ a < 16 := by rw [← ea]; unfold M.get; simp; omega
  obtain ⟨b, eb⟩ : ∃ a, M.get W 20 4 = a := ⟨_, rfl⟩
  have hb : 0 ≤ b ∧ b < 16 := by rw [← eb]; unfold M.get; simp; omega
  obtain ⟨op, eop⟩ : ∃ a, M.get W 16 4 = a := ⟨_, rfl⟩
  have hop : 0 ≤ op ∧ op < 16 := by rw [← eop]; unfold M.get; simp; omega
  obtain ⟨c, ec⟩ : ∃ b, bits .and .u32 W 15 = b := ⟨_, rfl⟩
  have c15 := and15 W (by omega) (by omega)
  rw [ec] at c15
  have hc : 0 ≤ c ∧ c < 16 := by omega
  have e29 := flag29 W (by omega) (by omega)
  have e28 := flag28 W (by omega) (by omega)
  rw [eu] at e29
  rw [ev] at e28
  have eF : W / 1073741824 = 0 := by omega
  have hx : M.fields W = ⟨0, u, v, a, b, c, op, 0⟩ := by
    unfold M.fields
    simp only [eF, eu, ev, M.get, c15, ← ea, ← eb, ← eop]
    simp
  clear eu ev
  clear c15
  have HX := decV_of hx
  clear hx
  rcases HX with ⟨hg, he, hd⟩ | ⟨hg, he, hd⟩ | ⟨hg, hd⟩
  · have HD := Lib.hid hd
    have hE : M.encE 0 u v a b c op 0 = 0 := (encE_yes hg).symm
    have he2 : (M.encW 0 u v a b c op 0 != W) = false := by simp [he]
    clear hd hg
    go_enter Try.func57, Try.ntmps57
    go_wp2_with (go_at_call 74; refine (get_any _ _ _ _ (by decide) (by decide) (by decide) (by omega) (by omega)).mono ?_; rintro e w' ⟨rfl, n, rfl⟩)
    refine calls_with (fun x => Cel x w.heap.size 24 #[.int .i64 0, .bool false, .bool false, .int .i64 0, .int .i64 0, .int .i64 0, .int .i64 0, .int .i64 0]) ?_ (fun hB => ?_)
    · repeat (first | (with_reducible exact Cel.new _ _ _) | (with_reducible apply Cel.drewN) | (with_reducible apply Cel.drew) | (with_reducible apply Cel.alloc) | (with_reducible refine Cel.far ?_ (by simp) _))
    refine (enc0 _ _ _ _ _ _ _ (by omega) (by omega) (by omega) (by omega) (by omega) (by omega) (by omega) (by omega)).mono ?_
    rintro e w1 ⟨rfl, hb1⟩
    obtain ⟨hc1, hf1⟩ := bcell hb1
    go_wp2
    clear hc1 hf1
    refine bodyPost_ret (v := .tuple #[iv 0 u v a b c op 0, .int .i64 0]) (res_cell_tmp rfl rfl (((((((((hB.below hb1 hB.lt).set 0 _).set 1 _).set 2 _).set 3 _).set 4 _).set 5 _).set 6 _).set 7 _) Try.underlying24 rfl (by kernel_rfl) (by simp)) rfl ⟨congrArg Ending.returned HD.out, ?_⟩
    repeat (first | (with_reducible exact Below.refl _ _) | (with_reducible apply below_drewN) | (with_reducible refine Below.setCell ?_ (by simp <;> omega) _) | (with_reducible refine Below.alloc ?_ (by simp <;> omega) _) | (with_reducible refine Below.trans ?_ (hb1.mono (by simp <;> omega))))
  · have HD := Lib.hid hd
    have hE : M.encE 0 u v a b c op 0 = 0 := (encE_yes hg).symm
    have he2 : (M.encW 0 u v a b c op 0 != W) = true := by simp [he]
    clear hd hg he
    go_enter Try.func57, Try.ntmps57
    go_wp2_with (go_at_call 74; refine (get_any _ _ _ _ (by decide) (by decide) (by decide) (by omega) (by omega)).mono ?_; rintro e w' ⟨rfl, n, rfl⟩)
    refine calls_with (fun x => Cel x w.heap.size 24 #[.int .i64 0, .bool false, .bool false, .int .i64 0, .int .i64 0, .int .i64 0, .int .i64 0, .int .i64 0]) ?_ (fun hB => ?_)
    · repeat (first | (with_reducible exact Cel.new _ _ _) | (with_reducible apply Cel.drewN) | (with_reducible apply Cel.drew) | (with_reducible apply Cel.alloc) | (with_reducible refine Cel.far ?_ (by simp) _))
    refine (enc0 _ _ _ _ _ _ _ (by omega) (by omega) (by omega) (by omega) (by omega) (by omega) (by omega) (by omega)).mono ?_
    rintro e w1 ⟨rfl, hb1⟩
    obtain ⟨hc1, hf1⟩ := bcell hb1
    go_wp2
    clear hc1 hf1
    refine bodyPost_ret (v := .tuple #[iv 0 false false 0 0 0 0 0, .int .i64 20]) (res_cell_tmp rfl rfl (((((((((hB.below hb1 hB.lt).set 0 _).set 1 _).set 2 _).set 3 _).set 4 _).set 5 _).set 6 _).set 7 _) Try.underlying24 rfl (by kernel_rfl) (by simp)) rfl ⟨congrArg Ending.returned HD.out, ?_⟩
    repeat (first | (with_reducible exact Below.refl _ _) | (with_reducible apply below_drewN) | (with_reducible refine Below.setCell ?_ (by simp <;> omega) _) | (with_reducible refine Below.alloc ?_ (by simp <;> omega) _) | (with_reducible refine Below.trans ?_ (hb1.mono (by simp <;> omega))))
  · have HD := Lib.hid hd
    have hE : M.encE 0 u v a b c op 0 = 20 := (encE_no hg).symm
    clear hd hg
    go_enter Try.func57, Try.ntmps57
    go_wp2_with (go_at_call 74; refine (get_any _ _ _ _ (by decide) (by decide) (by decide) (by omega) (by omega)).mono ?_; rintro e w' ⟨rfl, n, rfl⟩)
    refine calls_with (fun x => Cel x w.heap.size 24 #[.int .i64 0, .bool false, .bool false, .int .i64 0, .int .i64 0, .int .i64 0, .int .i64 0, .int .i64 0]) ?_ (fun hB => ?_)
    · repeat (first | (with_reducible exact Cel.new _ _ _) | (with_reducible apply Cel.drewN) | (with_reducible apply Cel.drew) | (with_reducible apply Cel.alloc) | (with_reducible refine Cel.far ?_ (by simp) _))
    refine (enc0 _ _ _ _ _ _ _ (by omega) (by omega) (by omega) (by omega) (by omega) (by omega) (by omega) (by omega)).mono ?_
    rintro e w1 ⟨rfl, hb1⟩
    obtain ⟨hc1, hf1⟩ := bcell hb1
    go_wp2
    clear hc1 hf1
    refine bodyPost_ret (v := .tuple #[iv 0 false false 0 0 0 0 0, .int .i64 20]) (res_cell_tmp rfl rfl (((((((((hB.below hb1 hB.lt).set 0 _).set 1 _).set 2 _).set 3 _).set 4 _).set 5 _).set 6 _).set 7 _) Try.underlying24 rfl (by kernel_rfl) (by simp)) rfl ⟨congrArg Ending.returned HD.out, ?_⟩
    repeat (first | (with_reducible exact Below.refl _ _) | (with_reducible apply below_drewN) | (with_reducible refine Below.setCell ?_ (by simp <;> omega) _) | (with_reducible refine Below.alloc ?_ (by simp <;> omega) _) | (with_reducible refine Below.trans ?_ (hb1.mono (by simp <;> omega))))

set_option maxHeartbeats 1000000 in
set_option maxRecDepth 100000 in
theorem dec1 (W : Int) (w : World) (h0 : 1073741824 ≤ W) (h1 : W < 2147483648) :
    Calls Try.prog 57 #[.int .u32 W] w (RetB (decV W) w) := by
  obtain ⟨u, eu⟩ : ∃ u, decide (W / 536870912 % 2 = 1) = u := ⟨_, rfl⟩
  obtain ⟨v, ev⟩ : ∃ u, decide (W / 268435456 % 2 = 1) = u := ⟨_, rfl⟩
  obtain ⟨a, ea⟩ : ∃ a, M.get W 24 4 = a := ⟨_, rfl⟩
  have ha : 0 ≤ a ∧ a < 16 := by rw [← ea]; unfold M.get; simp; omega
  obtain ⟨b, eb⟩ : ∃ a, M.get W 20 4 = a := ⟨_, rfl⟩
  have hb : 0 ≤ b ∧ b < 16 := by rw [← eb]; unfold M.get; simp; omega
  obtain ⟨op, eop⟩ : ∃ a, M.get W 16 4 = a := ⟨_, rfl⟩
  have hop : 0 ≤ op ∧ op < 16 := by rw [← eop]; unfold M.get; simp; omega
  obtain ⟨im, ei⟩ : ∃ b, W % 65536 = b := ⟨_, rfl⟩
  have hi : 0 ≤ im ∧ im < 65536 := by omega
  have ei2 : IntKind.u16.wrap W = im := by rw [← ei]; simp [IntKind.wrap, IntKind.bits, IntKind.signed]
  have e29 := flag29 W (by omega) (by omega)
  have e28 := flag28 W (by omega) (by omega)
  rw [eu] at e29
  rw [ev] at e28
  have eF : W / 1073741824 = 1 := by omega
  have hx : M.fields W = ⟨1, u, v, a, b, 0, op, im⟩ := by
    unfold M.fields
    simp only [eF, eu, ev, M.get, ei, ← ea, ← eb, ← eop]
    simp
  clear eu ev
  have HX := decV_of hx
  clear hx
  rcases HX with ⟨hg, he, hd⟩ | ⟨hg, he, hd⟩ | ⟨hg, hd⟩
  · have HD := Lib.hid hd
    have hE : M.encE 1 u v a b 0 op im = 0 := (encE_yes hg).symm
    have he2 : (M.encW 1 u v a b 0 op im != W) = false := by simp [he]
    clear hd hg
    go_enter Try.func57, Try.ntmps57
    go_wp2_with (go_at_call 74; refine (get_any _ _ _ _ (by decide) (by decide) (by decide) (by omega) (by omega)).mono ?_; rintro e w' ⟨rfl, n, rfl⟩)
    refine calls_with (fun x => Cel x w.heap.size 24 #[.int .i64 0, .bool false, .bool false, .int .i64 0, .int .i64 0, .int .i64 0, .int .i64 0, .int .i64 0]) ?_ (fun hB => ?_)
    · repeat (first | (with_reducible exact Cel.new _ _ _) | (with_reducible apply Cel.drewN) | (with_reducible apply Cel.drew) | (with_reducible apply Cel.alloc) | (with_reducible refine Cel.far ?_ (by simp) _))
    refine (enc1 _ _ _ _ _ _ _ (by omega) (by omega) (by omega) (by omega) (by omega) (by omega) (by omega) (by omega)).mono ?_
    rintro e w1 ⟨rfl, hb1⟩
    obtain ⟨hc1, hf1⟩ := bcell hb1
    go_wp2
    clear hc1 hf1
    refine bodyPost_ret (v := .tuple #[iv 1 u v a b 0 op im, .int .i64 0]) (res_cell_tmp rfl rfl (((((((((hB.below hb1 hB.lt).set 0 _).set 1 _).set 2 _).set 3 _).set 4 _).set 5 _).set 6 _).set 7 _) Try.underlying24 rfl (by kernel_rfl) (by simp)) rfl ⟨congrArg Ending.returned HD.out, ?_⟩
    repeat (first | (with_reducible exact Below.refl _ _) | (with_reducible apply below_drewN) | (with_reducible refine Below.setCell ?_ (by simp <;> omega) _) | (with_reducible refine Below.alloc ?_ (by simp <;> omega) _) | (with_reducible refine Below.trans ?_ (hb1.mono (by simp <;> omega))))
  · have HD := Lib.hid hd
    have hE : M.encE 1 u v a b 0 op im = 0 := (encE_yes hg).symm
    have he2 : (M.encW 1 u v a b 0 op im != W) = true := by simp [he]
    clear hd hg he
    go_enter Try.func57, Try.ntmps57
    go_wp2_with (go_at_call 74; refine (get_any _ _ _ _ (by decide) (by decide) (by decide) (by omega) (by omega)).mono ?_; rintro e w' ⟨rfl, n, rfl⟩)
    refine calls_with (fun x => Cel x w.heap.size 24 #[.int .i64 0, .bool false, .bool false, .int .i64 0, .int .i64 0, .int .i64 0, .int .i64 0, .int .i64 0]) ?_ (fun hB => ?_)
    · repeat (first | (with_reducible exact Cel.new _ _ _) | (with_reducible apply Cel.drewN) | (with_reducible apply Cel.drew) | (with_reducible apply Cel.alloc) | (with_reducible refine Cel.far ?_ (by simp) _))
    refine (enc1 _ _ _ _ _ _ _ (by omega) (by omega) (by omega) (by omega) (by omega) (by omega) (by omega) (by omega)).mono ?_
    rintro e w1 ⟨rfl, hb1⟩
    obtain ⟨hc1, hf1⟩ := bcell hb1
    go_wp2
    clear hc1 hf1
    refine bodyPost_ret (v := .tuple #[iv 0 false false 0 0 0 0 0, .int .i64 20]) (res_cell_tmp rfl rfl (((((((((hB.below hb1 hB.lt).set 0 _).set 1 _).set 2 _).set 3 _).set 4 _).set 5 _).set 6 _).set 7 _) Try.underlying24 rfl (by kernel_rfl) (by simp)) rfl ⟨congrArg Ending.returned HD.out, ?_⟩
    repeat (first | (with_reducible exact Below.refl _ _) | (with_reducible apply below_drewN) | (with_reducible refine Below.setCell ?_ (by simp <;> omega) _) | (with_reducible refine Below.alloc ?_ (by simp <;> omega) _) | (with_reducible refine Below.trans ?_ (hb1.mono (by simp <;> omega))))
  · have HD := Lib.hid hd
    have hE : M.encE 1 u v a b 0 op im = 20 := (encE_no hg).symm
    clear hd hg
    go_enter Try.func57, Try.ntmps57
    go_wp2_with (go_at_call 74; refine (get_any _ _ _ _ (by decide) (by decide) (by decide) (by omega) (by omega)).mono ?_; rintro e w' ⟨rfl, n, rfl⟩)
    refine calls_with (fun x => Cel x w.heap.size 24 #[.int .i64 0, .bool false, .bool false, .int .i64 0, .int .i64 0, .int .i64 0, .int .i64 0, .int .i64 0]) ?_ (fun hB => ?_)
    · repeat (first | (with_reducible exact Cel.new _ _ _) | (with_reducible apply Cel.drewN) | (with_reducible apply Cel.drew) | (with_reducible apply Cel.alloc) | (with_reducible refine Cel.far ?_ (by simp) _))
    refine (enc1 _ _ _ _ _ _ _ (by omega) (by omega) (by omega) (by omega) (by omega) (by omega) (by omega) (by omega)).mono ?_
    rintro e w1 ⟨rfl, hb1⟩
    obtain ⟨hc1, hf1⟩ := bcell hb1
    go_wp2
    clear hc1 hf1
    refine bodyPost_ret (v := .tuple #[iv 0 false false 0 0 0 0 0, .int .i64 20]) (res_cell_tmp rfl rfl (((((((((hB.below hb1 hB.lt).set 0 _).set 1 _).set 2 _).set 3 _).set 4 _).set 5 _).set 6 _).set 7 _) Try.underlying24 rfl (by kernel_rfl) (by simp)) rfl ⟨congrArg Ending.returned HD.out, ?_⟩
    repeat (first | (with_reducible exact Below.refl _ _) | (with_reducible apply below_drewN) | (with_reducible refine Below.setCell ?_ (by simp <;> omega) _) | (with_reducible refine Below.alloc ?_ (by simp <;> omega) _) | (with_reducible refine Below.trans ?_ (hb1.mono (by simp <;> omega))))

set_option maxHeartbeats 1000000 in
set_option maxRecDepth 100000 in
theorem dec2 (W : Int) (w : World) (h0 : 2147483648 ≤ W) (h1 : W < 3221225472) :
    Calls Try.prog 57 #[.int .u32 W] w (RetB (decV W) w) := by
  obtain ⟨u, eu⟩ : ∃ u, decide (W / 536870912 % 2 = 1) = u := ⟨_, rfl⟩
  obtain ⟨v, ev⟩ : ∃ u, decide (W / 268435456 % 2 = 1) = u := ⟨_, rfl⟩
  obtain ⟨a, ea⟩ : ∃ a, M.get W 24 4 = a := ⟨_, rfl⟩
  have ha : 0 ≤ a ∧ a < 16 := by rw [← ea]; unfold M.get; simp; omega
  obtain ⟨b, eb⟩ : ∃ a, M.get W 20 4 = a := ⟨_, rfl⟩
  have hb : 0 ≤ b ∧ b < 16 := by rw [← eb]; unfold M.get; simp; omega
  obtain ⟨im, ei⟩ : ∃ b, M.ext20 W = b := ⟨_, rfl⟩
  have hi : -524288 ≤ im ∧ im < 524288 := by rw [← ei]; unfold M.ext20; split <;> omega
  have e29 := flag29 W (by omega) (by omega)
  have e28 := flag28 W (by omega) (by omega)
  rw [eu] at e29
  rw [ev] at e28
  have eF : W / 1073741824 = 2 := by omega
  have hx : M.fields W = ⟨2, u, v, a, b, 0, 0, im⟩ := by
    unfold M.fields
    simp only [eF, eu, ev, M.get, ei, ← ea, ← eb]
    simp
  clear eu ev
  have HX := decV_of hx
  clear hx
  rcases HX with ⟨hg, he, hd⟩ | ⟨hg, he, hd⟩ | ⟨hg, hd⟩
  · have HD := Lib.hid hd
    have hE : M.encE 2 u v a b 0 0 im = 0 := (encE_yes hg).symm
    have he2 : (M.encW 2 u v a b 0 0 im != W) = false := by simp [he]
    clear hd hg
    go_enter Try.func57, Try.ntmps57
    go_wp2_with (first | (go_at_call 74; refine (get_any _ _ _ _ (by decide) (by decide) (by decide) (by omega) (by omega)).mono ?_; rintro e w' ⟨rfl, n, rfl⟩) | (go_at_call 75; refine (ext20_any _ _ (by omega) (by omega)).mono ?_; rintro e w' ⟨rfl, rfl⟩))
    refine calls_with (fun x => Cel x w.heap.size 24 #[.int .i64 0, .bool false, .bool false, .int .i64 0, .int .i64 0, .int .i64 0, .int .i64 0, .int .i64 0]) ?_ (fun hB => ?_)
    · repeat (first | (with_reducible exact Cel.new _ _ _) | (with_reducible apply Cel.drewN) | (with_reducible apply Cel.drew) | (with_reducible apply Cel.alloc) | (with_reducible refine Cel.far ?_ (by simp) _))
    refine (enc2 _ _ _ _ _ _ (by omega) (by omega) (by omega) (by omega) (by omega) (by omega)).mono ?_
    rintro e w1 ⟨rfl, hb1⟩
    obtain ⟨hc1, hf1⟩ := bcell hb1
    go_wp2
    clear hc1 hf1
    refine bodyPost_ret (v := .tuple #[iv 2 u v a b 0 0 im, .int .i64 0]) (res_cell_tmp rfl rfl (((((((((hB.below hb1 hB.lt).set 0 _).set 1 _).set 2 _).set 3 _).set 4 _).set 5 _).set 6 _).set 7 _) Try.underlying24 rfl (by kernel_rfl) (by simp)) rfl ⟨congrArg Ending.returned HD.out, ?_⟩
    repeat (first | (with_reducible exact Below.refl _ _) | (with_reducible apply below_drewN) | (with_reducible refine Below.setCell ?_ (by simp <;> omega) _) | (with_reducible refine Below.alloc ?_ (by simp <;> omega) _) | (with_reducible refine Below.trans ?_ (hb1.mono (by simp <;> omega))))
  · have HD := Lib.hid hd
    have hE : M.encE 2 u v a b 0 0 im = 0 := (encE_yes hg).symm
    have he2 : (M.encW 2 u v a b 0 0 im != W) = true := by simp [he]
    clear hd hg he
    go_enter Try.func57, Try.ntmps57
    go_wp2_with (first | (go_at_call 74; refine (get_any _ _ _ _ (by decide) (by decide) (by decide) (by omega) (by omega)).mono ?_; rintro e w' ⟨rfl, n, rfl⟩) | (go_at_call 75; refine (ext20_any _ _ (by omega) (by omega)).mono ?_; rintro e w' ⟨rfl, rfl⟩))
    refine calls_with (fun x => Cel x w.heap.size 24 #[.int .i64 0, .bool false, .bool false, .int .i64 0, .int .i64 0, .int .i64 0, .int .i64 0, .int .i64 0]) ?_ (fun hB => ?_)
    · repeat (first | (with_reducible exact Cel.new _ _ _) | (with_reducible apply Cel.drewN) | (with_reducible apply Cel.drew) | (with_reducible apply Cel.alloc) | (with_reducible refine Cel.far ?_ (by simp) _))
    refine (enc2 _ _ _ _ _ _ (by omega) (by omega) (by omega) (by omega) (by omega) (by omega)).mono ?_
    rintro e w1 ⟨rfl, hb1⟩
    obtain ⟨hc1, hf1⟩ := bcell hb1
    go_wp2
    clear hc1 hf1
    refine bodyPost_ret (v := .tuple #[iv 0 false false 0 0 0 0 0, .int .i64 20]) (res_cell_tmp rfl rfl (((((((((hB.below hb1 hB.lt).set 0 _).set 1 _).set 2 _).set 3 _).set 4 _).set 5 _).set 6 _).set 7 _) Try.underlying24 rfl (by kernel_rfl) (by simp)) rfl ⟨congrArg Ending.returned HD.out, ?_⟩
    repeat (first | (with_reducible exact Below.refl _ _) | (with_reducible apply below_drewN) | (with_reducible refine Below.setCell ?_ (by simp <;> omega) _) | (with_reducible refine Below.alloc ?_ (by simp <;> omega) _) | (with_reducible refine Below.trans ?_ (hb1.mono (by simp <;> omega))))
  · have HD := Lib.hid hd
    have hE : M.encE 2 u v a b 0 0 im = 20 := (encE_no hg).symm
    clear hd hg
    go_enter Try.func57, Try.ntmps57
    go_wp2_with (first | (go_at_call 74; refine (get_any _ _ _ _ (by decide) (by decide) (by decide) (by omega) (by omega)).mono ?_; rintro e w' ⟨rfl, n, rfl⟩) | (go_at_call 75; refine (ext20_any _ _ (by omega) (by omega)).mono ?_; rintro e w' ⟨rfl, rfl⟩))
    refine calls_with (fun x => Cel x w.heap.size 24 #[.int .i64 0, .bool false, .bool false, .int .i64 0, .int .i64 0, .int .i64 0, .int .i64 0, .int .i64 0]) ?_ (fun hB => ?_)
    · repeat (first | (with_reducible exact Cel.new _ _ _) | (with_reducible apply Cel.drewN) | (with_reducible apply Cel.drew) | (with_reducible apply Cel.alloc) | (with_reducible refine Cel.far ?_ (by simp) _))
    refine (enc2 _ _ _ _ _ _ (by omega) (by omega) (by omega) (by omega) (by omega) (by omega)).mono ?_
    rintro e w1 ⟨rfl, hb1⟩
    obtain ⟨hc1, hf1⟩ := bcell hb1
    go_wp2
    clear hc1 hf1
    refine bodyPost_ret (v := .tuple #[iv 0 false false 0 0 0 0 0, .int .i64 20]) (res_cell_tmp rfl rfl (((((((((hB.below hb1 hB.lt).set 0 _).set 1 _).set 2 _).set 3 _).set 4 _).set 5 _).set 6 _).set 7 _) Try.underlying24 rfl (by kernel_rfl) (by simp)) rfl ⟨congrArg Ending.returned HD.out, ?_⟩
    repeat (first | (with_reducible exact Below.refl _ _) | (with_reducible apply below_drewN) | (with_reducible refine Below.setCell ?_ (by simp <;> omega) _) | (with_reducible refine Below.alloc ?_ (by simp <;> omega) _) | (with_reducible refine Below.trans ?_ (hb1.mono (by simp <;> omega))))

set_option maxHeartbeats 1000000 in
set_option maxRecDepth 100000 in
theorem dec3u (W : Int) (w : World) (h0 : 3221225472 ≤ W) (h1 : W < 4294967296) (hu : W / 536870912 % 2 = 1) :
    Calls Try.prog 57 #[.int .u32 W] w (RetB (decV W) w) := by
  obtain ⟨v, ev⟩ : ∃ u, decide (W / 268435456 % 2 = 1) = u := ⟨_, rfl⟩
  obtain ⟨a, ea⟩ : ∃ a, M.get W 24 4 = a := ⟨_, rfl⟩
  have ha : 0 ≤ a ∧ a < 16 := by rw [← ea]; unfold M.get; simp; omega
  obtain ⟨im, ei⟩ : ∃ b, M.ext24 W = b := ⟨_, rfl⟩
  have hi : -8388608 ≤ im ∧ im < 8388608 := by rw [← ei]; unfold M.ext24; split <;> omega
  have eu : decide (W / 536870912 % 2 = 1) = true := decide_eq_true hu
  have e29 := flag29 W (by omega) (by omega)
  have e28 := flag28 W (by omega) (by omega)
  rw [eu] at e29
  rw [ev] at e28
  have eF : W / 1073741824 = 3 := by omega
  have hx : M.fields W = ⟨3, true, v, a, 0, 0, 0, im⟩ := by
    unfold M.fields
    simp only [eF, eu, ev, M.get, ei, ← ea]
    simp
  clear eu ev
  have HX := decV_of hx
  clear hx
  rcases HX with ⟨hg, he, hd⟩ | ⟨hg, he, hd⟩ | ⟨hg, hd⟩
  · have HD := Lib.hid hd
    have hE : M.encE 3 true v a 0 0 0 im = 0 := (encE_yes hg).symm
    have he2 : (M.encW 3 true v a 0 0 0 im != W) = false := by simp [he]
    clear hd hg
    go_enter Try.func57, Try.ntmps57
    go_wp2_with (first | (go_at_call 74; refine (get_any _ _ _ _ (by decide) (by decide) (by decide) (by omega) (by omega)).mono ?_; rintro e w' ⟨rfl, n, rfl⟩) | (go_at_call 75; refine (ext24_any _ _ (by omega) (by omega)).mono ?_; rintro e w' ⟨rfl, rfl⟩))
    refine calls_with (fun x => Cel x w.heap.size 24 #[.int .i64 0, .bool false, .bool false, .int .i64 0, .int .i64 0, .int .i64 0, .int .i64 0, .int .i64 0]) ?_ (fun hB => ?_)
    · repeat (first | (with_reducible exact Cel.new _ _ _) | (with_reducible apply Cel.drewN) | (with_reducible apply Cel.drew) | (with_reducible apply Cel.alloc) | (with_reducible refine Cel.far ?_ (by simp) _))
    refine (enc3u _ _ _ _ (by omega) (by omega) (by omega) (by omega)).mono ?_
    rintro e w1 ⟨rfl, hb1⟩
    obtain ⟨hc1, hf1⟩ := bcell hb1
    go_wp2
    clear hc1 hf1
    refine bodyPost_ret (v := .tuple #[iv 3 true v a 0 0 0 im, .int .i64 0]) (res_cell_tmp rfl rfl (((((((((hB.below hb1 hB.lt).set 0 _).set 1 _).set 2 _).set 3 _).set 4 _).set 5 _).set 6 _).set 7 _) Try.underlying24 rfl (by kernel_rfl) (by simp)) rfl ⟨congrArg Ending.returned HD.out, ?_⟩
    repeat (first | (with_reducible exact Below.refl _ _) | (with_reducible apply below_drewN) | (with_reducible refine Below.setCell ?_ (by simp <;> omega) _) | (with_reducible refine Below.alloc ?_ (by simp <;> omega) _) | (with_reducible refine Below.trans ?_ (hb1.mono (by simp <;> omega))))
  · have HD := Lib.hid hd
    have hE : M.encE 3 true v a 0 0 0 im = 0 := (encE_yes hg).symm
    have he2 : (M.encW 3 true v a 0 0 0 im != W) = true := by simp [he]
    clear hd hg he
    go_enter Try.func57, Try.ntmps57
    go_wp2_with (first | (go_at_call 74; refine (get_any _ _ _ _ (by decide) (by decide) (by decide) (by omega) (by omega)).mono ?_; rintro e w' ⟨rfl, n, rfl⟩) | (go_at_call 75; refine (ext24_any _ _ (by omega) (by omega)).mono ?_; rintro e w' ⟨rfl, rfl⟩))
    refine calls_with (fun x => Cel x w.heap.size 24 #[.int .i64 0, .bool false, .bool false, .int .i64 0, .int .i64 0, .int .i64 0, .int .i64 0, .int .i64 0]) ?_ (fun hB => ?_)
    · repeat (first | (with_reducible exact Cel.new _ _ _) | (with_reducible apply Cel.drewN) | (with_reducible apply Cel.drew) | (with_reducible apply Cel.alloc) | (with_reducible refine Cel.far ?_ (by simp) _))
    refine (enc3u _ _ _ _ (by omega) (by omega) (by omega) (by omega)).mono ?_
    rintro e w1 ⟨rfl, hb1⟩
    obtain ⟨hc1, hf1⟩ := bcell hb1
    go_wp2
    clear hc1 hf1
    refine bodyPost_ret (v := .tuple #[iv 0 false false 0 0 0 0 0, .int .i64 20]) (res_cell_tmp rfl rfl (((((((((hB.below hb1 hB.lt).set 0 _).set 1 _).set 2 _).set 3 _).set 4 _).set 5 _).set 6 _).set 7 _) Try.underlying24 rfl (by kernel_rfl) (by simp)) rfl ⟨congrArg Ending.returned HD.out, ?_⟩
    repeat (first | (with_reducible exact Below.refl _ _) | (with_reducible apply below_drewN) | (with_reducible refine Below.setCell ?_ (by simp <;> omega) _) | (with_reducible refine Below.alloc ?_ (by simp <;> omega) _) | (with_reducible refine Below.trans ?_ (hb1.mono (by simp <;> omega))))
  · have HD := Lib.hid hd
    have hE : M.encE 3 true v a 0 0 0 im = 20 := (encE_no hg).symm
    clear hd hg
    go_enter Try.func57, Try.ntmps57
    go_wp2_with (first | (go_at_call 74; refine (get_any _ _ _ _ (by decide) (by decide) (by decide) (by omega) (by omega)).mono ?_; rintro e w' ⟨rfl, n, rfl⟩) | (go_at_call 75; refine (ext24_any _ _ (by omega) (by omega)).mono ?_; rintro e w' ⟨rfl, rfl⟩))
    refine calls_with (fun x => Cel x w.heap.size 24 #[.int .i64 0, .bool false, .bool false, .int .i64 0, .int .i64 0, .int .i64 0, .int .i64 0, .int .i64 0]) ?_ (fun hB => ?_)
    · repeat (first | (with_reducible exact Cel.new _ _ _) | (with_reducible apply Cel.drewN) | (with_reducible apply Cel.drew) | (with_reducible apply Cel.alloc) | (with_reducible refine Cel.far ?_ (by simp) _))
    refine (enc3u _ _ _ _ (by omega) (by omega) (by omega) (by omega)).mono ?_
    rintro e w1 ⟨rfl, hb1⟩
    obtain ⟨hc1, hf1⟩ := bcell hb1
    go_wp2
    clear hc1 hf1
    refine bodyPost_ret (v := .tuple #[iv 0 false false 0 0 0 0 0, .int .i64 20]) (res_cell_tmp rfl rfl (((((((((hB.below hb1 hB.lt).set 0 _).set 1 _).set 2 _).set 3 _).set 4 _).set 5 _).set 6 _).set 7 _) Try.underlying24 rfl (by kernel_rfl) (by simp)) rfl ⟨congrArg Ending.returned HD.out, ?_⟩
    repeat (first | (with_reducible exact Below.refl _ _) | (with_reducible apply below_drewN) | (with_reducible refine Below.setCell ?_ (by simp <;> omega) _) | (with_reducible refine Below.alloc ?_ (by simp <;> omega) _) | (with_reducible refine Below.trans ?_ (hb1.mono (by simp <;> omega))))

set_option maxHeartbeats 1000000 in
set_option maxRecDepth 100000 in
theorem dec3 (W : Int) (w : World) (h0 : 3221225472 ≤ W) (h1 : W < 4294967296) (hu : ¬ W / 536870912 % 2 = 1) :
    Calls Try.prog 57 #[.int .u32 W] w (RetB (decV W) w) := by
  obtain ⟨v, ev⟩ : ∃ u, decide (W / 268435456 % 2 = 1) = u := ⟨_, rfl⟩
  obtain ⟨a, ea⟩ : ∃ a, M.get W 24 4 = a := ⟨_, rfl⟩
  have ha : 0 ≤ a ∧ a < 16 := by rw [← ea]; unfold M.get; simp; omega
  obtain ⟨c, ec⟩ : ∃ b, bits .and .u32 W 15 = b := ⟨_, rfl⟩
  have c15 := and15 W (by omega) (by omega)
  rw [ec] at c15
  have hc : 0 ≤ c ∧ c < 16 := by omega
  have eu : decide (W / 536870912 % 2 = 1) = false := decide_eq_false hu
  have e29 := flag29 W (by omega) (by omega)
  have e28 := flag28 W (by omega) (by omega)
  rw [eu] at e29
  rw [ev] at e28
  have eF : W / 1073741824 = 3 := by omega
  have hx : M.fields W = ⟨3, false, v, a, 0, c, 0, 0⟩ := by
    unfold M.fields
    simp only [eF, eu, ev, M.get, c15, ← ea]
    simp
  clear eu ev
  clear c15
  have HX := decV_of hx
  clear hx
  rcases HX with ⟨hg, he, hd⟩ | ⟨hg, he, hd⟩ | ⟨hg, hd⟩
  · have HD := Lib.hid hd
    have hE : M.encE 3 false v a 0 c 0 0 = 0 := (encE_yes hg).symm
    have he2 : (M.encW 3 false v a 0 c 0 0 != W) = false := by simp [he]
    clear hd hg
    go_enter Try.func57, Try.ntmps57
    go_wp2_with (go_at_call 74; refine (get_any _ _ _ _ (by decide) (by decide) (by decide) (by omega) (by omega)).mono ?_; rintro e w' ⟨rfl, n, rfl⟩)
    refine calls_with (fun x => Cel x w.heap.size 24 #[.int .i64 0, .bool false, .bool false, .int .i64 0, .int .i64 0, .int .i64 0, .int .i64 0, .int .i64 0]) ?_ (fun hB => ?_)
    · repeat (first | (with_reducible exact Cel.new _ _ _) | (with_reducible apply Cel.drewN) | (with_reducible apply Cel.drew) | (with_reducible apply Cel.alloc) | (with_reducible refine Cel.far ?_ (by simp) _))
    refine (enc3 _ _ _ _ (by omega) (by omega) (by omega) (by omega)).mono ?_
    rintro e w1 ⟨rfl, hb1⟩
    obtain ⟨hc1, hf1⟩ := bcell hb1
    go_wp2
    clear hc1 hf1
    refine bodyPost_ret (v := .tuple #[iv 3 false v a 0 c 0 0, .int .i64 0]) (res_cell_tmp rfl rfl (((((((((hB.below hb1 hB.lt).set 0 _).set 1 _).set 2 _).set 3 _).set 4 _).set 5 _).set 6 _).set 7 _) Try.underlying24 rfl (by kernel_rfl) (by simp)) rfl ⟨congrArg Ending.returned HD.out, ?_⟩
    repeat (first | (with_reducible exact Below.refl _ _) | (with_reducible apply below_drewN) | (with_reducible refine Below.setCell ?_ (by simp <;> omega) _) | (with_reducible refine Below.alloc ?_ (by simp <;> omega) _) | (with_reducible refine Below.trans ?_ (hb1.mono (by simp <;> omega))))
  · have HD := Lib.hid hd
    have hE : M.encE 3 false v a 0 c 0 0 = 0 := (encE_yes hg).symm
    have he2 : (M.encW 3 false v a 0 c 0 0 != W) = true := by simp [he]
    clear hd hg he
    go_enter Try.func57, Try.ntmps57
    go_wp2_with (go_at_call 74; refine (get_any _ _ _ _ (by decide) (by decide) (by decide) (by omega) (by omega)).mono ?_; rintro e w' ⟨rfl, n, rfl⟩)
    refine calls_with (fun x => Cel x w.heap.size 24 #[.int .i64 0, .bool false, .bool false, .int .i64 0, .int .i64 0, .int .i64 0, .int .i64 0, .int .i64 0]) ?_ (fun hB => ?_)
    · repeat (first | (with_reducible exact Cel.new _ _ _) | (with_reducible apply Cel.drewN) | (with_reducible apply Cel.drew) | (with_reducible apply Cel.alloc) | (with_reducible refine Cel.far ?_ (by simp) _))
    refine (enc3 _ _ _ _ (by omega) (by omega) (by omega) (by omega)).mono ?_
    rintro e w1 ⟨rfl, hb1⟩
    obtain ⟨hc1, hf1⟩ := bcell hb1
    go_wp2
    clear hc1 hf1
    refine bodyPost_ret (v := .tuple #[iv 0 false false 0 0 0 0 0, .int .i64 20]) (res_cell_tmp rfl rfl (((((((((hB.below hb1 hB.lt).set 0 _).set 1 _).set 2 _).set 3 _).set 4 _).set 5 _).set 6 _).set 7 _) Try.underlying24 rfl (by kernel_rfl) (by simp)) rfl ⟨congrArg Ending.returned HD.out, ?_⟩
    repeat (first | (with_reducible exact Below.refl _ _) | (with_reducible apply below_drewN) | (with_reducible refine Below.setCell ?_ (by simp <;> omega) _) | (with_reducible refine Below.alloc ?_ (by simp <;> omega) _) | (with_reducible refine Below.trans ?_ (hb1.mono (by simp <;> omega))))
  · have HD := Lib.hid hd
    have hE : M.encE 3 false v a 0 c 0 0 = 20 := (encE_no hg).symm
    clear hd hg
    go_enter Try.func57, Try.ntmps57
    go_wp2_with (go_at_call 74; refine (get_any _ _ _ _ (by decide) (by decide) (by decide) (by omega) (by omega)).mono ?_; rintro e w' ⟨rfl, n, rfl⟩)
    refine calls_with (fun x => Cel x w.heap.size 24 #[.int .i64 0, .bool false, .bool false, .int .i64 0, .int .i64 0, .int .i64 0, .int .i64 0, .int .i64 0]) ?_ (fun hB => ?_)
    · repeat (first | (with_reducible exact Cel.new _ _ _) | (with_reducible apply Cel.drewN) | (with_reducible apply Cel.drew) | (with_reducible apply Cel.alloc) | (with_reducible refine Cel.far ?_ (by simp) _))
    refine (enc3 _ _ _ _ (by omega) (by omega) (by omega) (by omega)).mono ?_
    rintro e w1 ⟨rfl, hb1⟩
    obtain ⟨hc1, hf1⟩ := bcell hb1
    go_wp2
    clear hc1 hf1
    refine bodyPost_ret (v := .tuple #[iv 0 false false 0 0 0 0 0, .int .i64 20]) (res_cell_tmp rfl rfl (((((((((hB.below hb1 hB.lt).set 0 _).set 1 _).set 2 _).set 3 _).set 4 _).set 5 _).set 6 _).set 7 _) Try.underlying24 rfl (by kernel_rfl) (by simp)) rfl ⟨congrArg Ending.returned HD.out, ?_⟩
    repeat (first | (with_reducible exact Below.refl _ _) | (with_reducible apply below_drewN) | (with_reducible refine Below.setCell ?_ (by simp <;> omega) _) | (with_reducible refine Below.alloc ?_ (by simp <;> omega) _) | (with_reducible refine Below.trans ?_ (hb1.mono (by simp <;> omega))))

theorem dec_any (W : Int) (w : World) (h0 : 0 ≤ W) (h1 : W < 4294967296) : Calls Try.prog 57 #[.int .u32 W] w (RetB (decV W) w) := by
  by_cases a : W < 1073741824
  · exact dec0 W w h0 a
  by_cases b : W < 2147483648
  · exact dec1 W w (by omega) b
  by_cases c : W < 3221225472
  · exact dec2 W w (by omega) c
  by_cases hu : W / 536870912 % 2 = 1
  · exact dec3u W w (by omega) h1 hu
  · exact dec3 W w (by omega) h1 hu

end Go.Proofs.Ytmlmjkojhfjjlaa
