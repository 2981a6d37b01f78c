/- The document's Decode at any word; its step. -/
import Derived.Test.YtmlmjkojhfjjlaaRDec
import Derived.Test.YtmlmjkojhfjjlaaDocMach
import Derived.Test.YtmlmjkojhfjjlaaStep

/- RDecA: The contract of the document's Decode at any word. -/
namespace Go.Proofs.Ytmlmjkojhfjjlaa
set_option linter.unusedVariables false
set_option linter.unusedSimpArgs false
open Go.RowKit

theorem part_is {W lo n v : Int} (h0 : 0 ≤ W) (h1 : W < 4294967296) (a0 : 0 ≤ lo) (a1 : 1 ≤ n) (a2 : lo ≤ 31) (a3 : n ≤ 32 - lo) (e : M.get W lo n = v) : PartIs W lo n v := fun w0 => e ▸ rpart_any W lo n w0 h0 h1 a0 a1 a2 a3
theorem get_is {W lo n v : Int} (h0 : 0 ≤ W) (h1 : W < 4294967296) (a0 : 0 ≤ lo) (a1 : 1 ≤ n) (a2 : lo ≤ 31) (a3 : n ≤ 32 - lo) (e : M.get W lo n = v) : GetIs W lo n v := fun w0 => e ▸ rget_any W lo n w0 h0 h1 a0 a1 a2 a3

theorem ext_is20 (W : Int) (h0 : 0 ≤ W) (h1 : W < 4294967296) : ExtIs (W % 1048576) 20 (M.ext20 W) := fun w0 => by
  have := rext_any (W % 1048576) 20 1048576 w0 (by omega) (by omega) (by decide) (by decide) (by decide)
  have e : (if W % 1048576 % 1048576 < 1048576 / 2 then W % 1048576 % 1048576 else W % 1048576 % 1048576 - 1048576) = M.ext20 W := by unfold M.ext20; simp
  rw [e] at this
  exact this
theorem ext_is24 (W : Int) (h0 : 0 ≤ W) (h1 : W < 4294967296) : ExtIs (W % 16777216) 24 (M.ext24 W) := fun w0 => by
  have := rext_any (W % 16777216) 24 16777216 w0 (by omega) (by omega) (by decide) (by decide) (by decide)
  have e : (if W % 16777216 % 16777216 < 16777216 / 2 then W % 16777216 % 16777216 else W % 16777216 % 16777216 - 16777216) = M.ext24 W := by unfold M.ext24; simp
  rw [e] at this
  exact this

theorem bit_if (x : Int) (h : x = 0 ∨ x = 1) : x = if decide (x = 1) = true then 1 else 0 := by rcases h with rfl | rfl <;> simp

/-- The fields of a word, as the document's Decode takes them. -/
theorem parts_of {W f a b c op im : Int} {u v : Bool} (h0 : 0 ≤ W) (h1 : W < 4294967296) (hx : M.fields W = ⟨f, u, v, a, b, c, op, im⟩) :
    PartIs W 30 2 f ∧ PartIs W 29 1 (if u = true then 1 else 0) ∧ PartIs W 28 1 (if v = true then 1 else 0) ∧ PartIs W 24 4 a ∧ (f ≠ 3 → PartIs W 20 4 b) ∧ (f = 0 ∨ f = 1 → PartIs W 16 4 op) ∧ (f = 0 ∨ f = 3 ∧ u = false → PartIs W 0 4 c) ∧
    (f = 1 → PartIs W 0 16 im) ∧ (f = 2 → ExtIs (W % 1048576) 20 im) ∧ (f = 3 ∧ u = true → ExtIs (W % 16777216) 24 im) := by
  have e30 : (2 : Int) ^ (30 : Int).toNat = 1073741824 := by decide
  have e29 : (2 : Int) ^ (29 : Int).toNat = 536870912 := by decide
  have e28 : (2 : Int) ^ (28 : Int).toNat = 268435456 := by decide
  have e24 : (2 : Int) ^ (24 : Int).toNat = 16777216 := by decide
  have e20 : (2 : Int) ^ (20 : Int).toNat = 1048576 := by decide
  have e16 : (2 : Int) ^ (16 : Int).toNat = 65536 := by decide
  have e0 : (2 : Int) ^ (0 : Int).toNat = 1 := by decide
  have e1 : (2 : Int) ^ (1 : Int).toNat = 2 := by decide
  have e2 : (2 : Int) ^ (2 : Int).toNat = 4 := by decide
  have e4 : (2 : Int) ^ (4 : Int).toNat = 16 := by decide
  unfold M.fields at hx
  dsimp only at hx
  injection hx with xf xu xv xa xb xc xo xi
  refine ⟨part_is h0 h1 (by decide) (by decide) (by decide) (by decide) ?_, part_is h0 h1 (by decide) (by decide) (by decide) (by decide) ?_, part_is h0 h1 (by decide) (by decide) (by decide) (by decide) ?_, part_is h0 h1 (by decide) (by decide) (by decide) (by decide) ?_,
    fun hf => part_is h0 h1 (by decide) (by decide) (by decide) (by decide) ?_, fun hf => part_is h0 h1 (by decide) (by decide) (by decide) (by decide) ?_, fun hf => part_is h0 h1 (by decide) (by decide) (by decide) (by decide) ?_, fun hf => part_is h0 h1 (by decide) (by decide) (by decide) (by decide) ?_, fun hf => ?_, fun hf => ?_⟩
  · unfold M.get; rw [e30, e2, ← xf]; omega
  · unfold M.get; rw [e29, e1, ← xu]; exact bit_if _ (by omega)
  · unfold M.get; rw [e28, e1, ← xv]; exact bit_if _ (by omega)
  · unfold M.get; rw [e24, e4, ← xa]
  · unfold M.get; rw [e20, e4, ← xb, if_neg (by rw [xf]; exact hf)]
  · unfold M.get; rw [e16, e4, ← xo, if_pos (by rw [xf]; exact hf)]
  · unfold M.get; rw [e0, e4, ← xc, Int.ediv_one]
    rcases hf with hf | hf
    · rw [if_pos (by rw [xf]; exact hf)]
    · rw [if_neg (by rw [xf, hf.1]; decide), if_pos (by rw [xf, xu]; exact hf)]
  · unfold M.get; rw [e0, e16, ← xi, Int.ediv_one, if_pos (by rw [xf]; exact hf)]
  · rw [if_neg (by rw [xf, hf]; decide), if_pos (by rw [xf]; exact hf)] at xi
    rw [← xi]; exact ext_is20 W h0 h1
  · rw [if_neg (by rw [xf, hf.1]; decide), if_neg (by rw [xf, hf.1]; decide), if_pos (by rw [xf, xu]; exact hf)] at xi
    rw [← xi]; exact ext_is24 W h0 h1

theorem get20 (W : Int) (h0 : 0 ≤ W) (h1 : W < 4294967296) : GetIs W 0 20 (W % 1048576) := get_is h0 h1 (by decide) (by decide) (by decide) (by decide) (by
  have e0 : (2 : Int) ^ (0 : Int).toNat = 1 := by decide
  have e2 : (2 : Int) ^ (20 : Int).toNat = 1048576 := by decide
  unfold M.get; rw [e0, e2, Int.ediv_one])
theorem get24 (W : Int) (h0 : 0 ≤ W) (h1 : W < 4294967296) : GetIs W 0 24 (W % 16777216) := get_is h0 h1 (by decide) (by decide) (by decide) (by decide) (by
  have e0 : (2 : Int) ^ (0 : Int).toNat = 1 := by decide
  have e2 : (2 : Int) ^ (24 : Int).toNat = 16777216 := by decide
  unfold M.get; rw [e0, e2, Int.ediv_one])

/-- How the document's Encode answers to the fields of a word. -/
theorem enc_cases {W f a b c op im : Int} {u v : Bool} (h0 : 0 ≤ W) (h1 : W < 4294967296) (hx : M.fields W = ⟨f, u, v, a, b, c, op, im⟩) :
    (EncIs (iv f u v a b c op im) W 0 ∧ Value.tuple #[iv f u v a b c op im, .int .i64 0] = decV W) ∨
    (∃ X, (X != W) = true ∧ EncIs (iv f u v a b c op im) X 0 ∧ Value.tuple #[iv 0 false false 0 0 0 0 0, .int .i64 20] = decV W) ∨
    (EncIs (iv f u v a b c op im) 0 20 ∧ Value.tuple #[iv 0 false false 0 0 0 0 0, .int .i64 20] = decV W) := by
  have hw := wide_fields W h0 h1
  rw [hx] at hw
  rcases decV_of hx with ⟨hg, he, hd⟩ | ⟨hg, he, hd⟩ | ⟨hg, hd⟩
  · refine .inl ⟨fun w0 => ?_, hd⟩
    have := renc_yes f u v a b c op im w0 (of_decide_eq_true hg)
    unfold M.encW at he
    rw [if_pos hg] at he
    rw [he] at this
    exact this
  · refine .inr (.inl ⟨M.enc f u v a b c op im, ?_, fun w0 => renc_yes f u v a b c op im w0 (of_decide_eq_true hg), hd⟩)
    unfold M.encW at he
    rw [if_pos hg] at he
    simpa using he
  · exact .inr (.inr ⟨fun w0 => renc_no f u v a b c op im w0 hw (of_decide_eq_false hg), hd⟩)

/-- The document's Decode at any word. -/
theorem rdec_any (W : Int) (w : World) (h0 : 0 ≤ W) (h1 : W < 4294967296) : Calls Try.prog 61 #[.int .u32 W] w (RetB (decV W) w) := by
  obtain ⟨f, u, v, a, b, c, op, im, hx⟩ : ∃ f u v a b c op im, M.fields W = ⟨f, u, v, a, b, c, op, im⟩ := ⟨_, _, _, _, _, _, _, _, rfl⟩
  have hw := wide_fields W h0 h1
  rw [hx] at hw
  obtain ⟨f0, f1, ha, ha', hb, hb', hc, hc', ho, ho', k0, k1, k2, k3⟩ := hw
  simp only at f0 f1 ha ha' hb hb' hc hc' ho ho' k0 k1 k2 k3
  obtain ⟨P30, P29, P28, P24, Q20, Q16, Q0, QI, X20, X24⟩ := parts_of h0 h1 hx
  have hE := enc_cases h0 h1 hx
  have hf : f = 0 ∨ f = 1 ∨ f = 2 ∨ f = 3 := by omega
  rcases hf with rfl | rfl | rfl | rfl
  · obtain rfl := k0 rfl
    rcases hE with ⟨HE, hd⟩ | ⟨X, hne, HE, hd⟩ | ⟨HE, hd⟩ <;> rw [← hd]
    · exact rdec0_ok W 0 a b c op 0 0 u v w P30 P29 P28 P24 (Q20 (by decide)) (Q16 (by decide)) (Q0 (by simp)) HE
    · exact rdec0_ne W X a b c op 0 0 u v w P30 P29 P28 P24 (Q20 (by decide)) (Q16 (by decide)) (Q0 (by simp)) HE hne
    · exact rdec0_no W 0 a b c op 0 0 u v w P30 P29 P28 P24 (Q20 (by decide)) (Q16 (by decide)) (Q0 (by simp)) HE
  · obtain ⟨rfl, i0, i1⟩ := k1 rfl
    rcases hE with ⟨HE, hd⟩ | ⟨X, hne, HE, hd⟩ | ⟨HE, hd⟩ <;> rw [← hd]
    · exact rdec1_ok W 0 a b 0 op im 0 u v w P30 P29 P28 P24 (Q20 (by decide)) (Q16 (by decide)) (QI rfl) HE
    · exact rdec1_ne W X a b 0 op im 0 u v w P30 P29 P28 P24 (Q20 (by decide)) (Q16 (by decide)) (QI rfl) HE hne
    · exact rdec1_no W 0 a b 0 op im 0 u v w P30 P29 P28 P24 (Q20 (by decide)) (Q16 (by decide)) (QI rfl) HE
  · obtain ⟨rfl, rfl, i0, i1⟩ := k2 rfl
    rcases hE with ⟨HE, hd⟩ | ⟨X, hne, HE, hd⟩ | ⟨HE, hd⟩ <;> rw [← hd]
    · exact rdec2_ok W 0 a b 0 0 im _ u v w P30 P29 P28 P24 (Q20 (by decide)) (get20 W h0 h1) (X20 rfl) HE
    · exact rdec2_ne W X a b 0 0 im _ u v w P30 P29 P28 P24 (Q20 (by decide)) (get20 W h0 h1) (X20 rfl) HE hne
    · exact rdec2_no W 0 a b 0 0 im _ u v w P30 P29 P28 P24 (Q20 (by decide)) (get20 W h0 h1) (X20 rfl) HE
  · obtain ⟨rfl, rfl, kt, kf⟩ := k3 rfl
    cases u
    · obtain rfl := kf rfl
      rcases hE with ⟨HE, hd⟩ | ⟨X, hne, HE, hd⟩ | ⟨HE, hd⟩ <;> rw [← hd]
      · exact rdec3n_ok W 0 a 0 c 0 0 0 v w P30 P29 P28 P24 (Q0 (by simp)) HE
      · exact rdec3n_ne W X a 0 c 0 0 0 v w P30 P29 P28 P24 (Q0 (by simp)) HE hne
      · exact rdec3n_no W 0 a 0 c 0 0 0 v w P30 P29 P28 P24 (Q0 (by simp)) HE
    · obtain ⟨rfl, i0, i1⟩ := kt rfl
      rcases hE with ⟨HE, hd⟩ | ⟨X, hne, HE, hd⟩ | ⟨HE, hd⟩ <;> rw [← hd]
      · exact rdec3u_ok W 0 a 0 0 0 im _ v w P30 P29 P28 P24 (get24 W h0 h1) (X24 ⟨rfl, rfl⟩) HE
      · exact rdec3u_ne W X a 0 0 0 im _ v w P30 P29 P28 P24 (get24 W h0 h1) (X24 ⟨rfl, rfl⟩) HE hne
      · exact rdec3u_no W 0 a 0 0 0 im _ v w P30 P29 P28 P24 (get24 W h0 h1) (X24 ⟨rfl, rfl⟩) HE

end Go.Proofs.Ytmlmjkojhfjjlaa


/- RStep: The contract of the document's step. -/
namespace Go.Proofs.Ytmlmjkojhfjjlaa
set_option linter.unusedVariables false
set_option linter.unusedSimpArgs false
open Go.RowKit

theorem dmach_st {w : World} {g gm gw cap : Nat} {rest : List Value} {ov : Value} {st : Int} {s : M.St} (h : DMach w g gm gw cap rest ov st s) (hl : s.r.length = 16) (v : Int) : DMach (w.setCell ⟨g, 26, none⟩ (.int .i64 v)) g gm gw cap rest ov v s :=
  ⟨dcel_st h.mc hl v, h.mm.fr (fr_set (Fr.refl (fun k => k = g) w) _ _) (fun e => h.g_gm e.symm) (fun e => h.g_gw e.symm), own_fr h.ow (fr_set (Fr.refl (fun k => k = g) w) _ _) (fun k hk e => h.o_g (by rw [hk, e]))⟩
theorem dmach_pc {w : World} {g gm gw cap : Nat} {rest : List Value} {ov : Value} {st : Int} {s : M.St} (h : DMach w g gm gw cap rest ov st s) (hl : s.r.length = 16) (v : Int) : DMach (w.setCell ⟨g, 21, none⟩ (.int .i64 v)) g gm gw cap rest ov st { s with pc := v } :=
  ⟨dcel_pc h.mc hl v, h.mm.fr (fr_set (Fr.refl (fun k => k = g) w) _ _) (fun e => h.g_gm e.symm) (fun e => h.g_gw e.symm), own_fr h.ow (fr_set (Fr.refl (fun k => k = g) w) _ _) (fun k hk e => h.o_g (by rw [hk, e]))⟩
theorem DMach.alloc {w : World} {g gm gw cap : Nat} {rest : List Value} {ov : Value} {st : Int} {s : M.St} (h : DMach w g gm gw cap rest ov st s) (o : Obj) : DMach (w.alloc o) g gm gw cap rest ov st s :=
  h.fr ((Fr.refl (fun _ => False) w).alloc o) id id id (fun _ _ => id)
theorem DMach.below {B : Nat} {w w' : World} {g gm gw cap : Nat} {rest : List Value} {ov : Value} {st : Int} {s : M.St} (h : DMach w g gm gw cap rest ov st s) (hb : Below B w w') (hB : B = w.heap.size) : DMach w' g gm gw cap rest ov st s :=
  h.fr (S := fun _ => False) ⟨hb.os, hb.tape, hb.output, hb.size, fun k hk _ => hb.block k (by omega)⟩ id id id (fun _ _ => id)

set_option maxHeartbeats 1000000 in
set_option maxRecDepth 100000 in
theorem rstep_out (w : World) (g gm gw cap : Nat) (rest : List Value) (ov : Value) (st : Int) (s : M.St) (h : DMach w g gm gw cap rest ov st s) (hw : Wf s) (hs : 0 ≤ st) (hs' : st < 4194304) (hp : ¬ s.pc < s.mem.length) :
    Calls Try.prog 44 #[.pointer (some ⟨g, 0, none⟩)] w (RetRR (.tuple #[]) g gm gw cap rest ov (st + 1) { s with en := 5 } w) := by
  have hC := h.mc
  have hpc := hw.pc
  obtain ⟨c16, c17, c18, c19, c20, c21, c22, c23, c24, c25, c26, c27, c28⟩ := dmach_fld hC hw.rl
  have f := hC.frozen
  have hg := hC.lt
  have hM1 := dmach_st h hw.rl (st + 1)
  have HS := Lib.hid (fun n => rsize_any _ gm gw cap s.mem rest (hM1.drewN n).mm)
  have HM := Lib.hid (fun n => (hM1.drewN n).endp hw.rl 5)
  clear hM1 c16 c17 c18 c19 c20 c23 c24 c25 c28
  go_enter Try.func44, Try.ntmps44
  go_wp2
  go_quiet ((go_at_call 48; exact quiet_retD (HS.out _)))
  go_wp2
  go_end0
  exact ⟨rfl, ov, HM.out _, ((fr_set (Fr.refl (fun k => k = g) w) _ _).drewN _ |> fun h => (fr_set h _ _).mono (fun k hk => .inl hk)), .inl rfl⟩

/-- What is known behind the document's Decode. -/
theorem rafter_dec {w w1 : World} {g gm gw cap : Nat} {rest : List Value} {ov : Value} {st : Int} {s : M.St} {B n : Nat} (h : DMach w g gm gw cap rest ov st s) (hw : Wf s) (hb : Below B (w.drewN n) w1) (hB : B = w.heap.size) :
    Fr (fun _ => False) w w1 ∧ DMach w1 g gm gw cap rest ov st s ∧ g < w1.heap.size ∧ g < w1.heap.size + 1 ∧ g ≠ w1.heap.size ∧ w1.heap.size ≠ g ∧ w1.cell? ⟨g, 21, none⟩ = some (.int .i64 s.pc) ∧ w1.cell? ⟨g, 27, none⟩ = some (.int .i64 s.en) ∧ (∀ i, w1.frozen? ⟨g, i, none⟩ = false) := by
  subst hB
  have hF1 : Fr (fun _ => False) w w1 := ⟨hb.os, hb.tape, hb.output, hb.size, fun k hk _ => hb.block k hk⟩
  have hM1 := h.fr hF1 id id id (fun _ _ => id)
  have hz1 := hM1.mc.lt
  exact ⟨hF1, hM1, hz1, Nat.lt_succ_of_lt hz1, Nat.ne_of_lt hz1, (Nat.ne_of_lt hz1).symm, (hM1.mc.cell 21).trans (dc_fld hw.rl 5), (hM1.mc.cell 27).trans (dc_fld hw.rl 11), hM1.mc.frozen⟩

end Go.Proofs.Ytmlmjkojhfjjlaa


/- RStepW: The walks of the document's step, callee by callee. Printed by gen_rstep.py. -/
namespace Go.Proofs.Ytmlmjkojhfjjlaa
set_option linter.unusedVariables false
set_option linter.unusedSimpArgs false
open Go.RowKit

theorem zd_cel {W0 w1 : World} {cs : Array Value} {t : TypeId} {B : Nat} (hb : Below B (W0.drew.alloc (.cells cs t)) w1) (hB : W0.heap.size + 1 ≤ B) : Cel w1 W0.heap.size t cs :=
  below_cel hb (Cel.new W0.drew t cs) (show W0.heap.size < B by omega)
theorem zd_cells {W0 w1 : World} {cs : Array Value} {t : TypeId} {B : Nat} (hb : Below B (W0.drew.alloc (.cells cs t)) w1) (hB : W0.heap.size + 1 ≤ B) :
    (∀ j, w1.cell? ⟨W0.heap.size, j, none⟩ = cs[j]?) := fun j => (zd_cel hb hB).cell j
theorem zd_frozen {W0 w1 : World} {cs : Array Value} {t : TypeId} {B : Nat} (hb : Below B (W0.drew.alloc (.cells cs t)) w1) (hB : W0.heap.size + 1 ≤ B) :
    (∀ j, w1.frozen? ⟨W0.heap.size, j, none⟩ = false) := fun j => (zd_cel hb hB).frozen j

theorem cel8 {w : World} {g : Nat} {t : TypeId} {x0 x1 x2 x3 x4 x5 x6 x7 : Value} (h : Cel w g t #[x0, x1, x2, x3, x4, x5, x6, x7]) (a b c d e f k l : Value) :
    Cel ((((((((w.setCell ⟨g, 0, none⟩ a).setCell ⟨g, 1, none⟩ b).setCell ⟨g, 2, none⟩ c).setCell ⟨g, 3, none⟩ d).setCell ⟨g, 4, none⟩ e).setCell ⟨g, 5, none⟩ f).setCell ⟨g, 6, none⟩ k).setCell ⟨g, 7, none⟩ l) g t #[a, b, c, d, e, f, k, l] :=
  ((((((((h.set 0 a).set 1 b).set 2 c).set 3 d).set 4 e).set 5 f).set 6 k).set 7 l).to (by simp)
theorem fr8 (w : World) (g : Nat) (a b c d e f k l : Value) : Fr (fun i => i = g) w ((((((((w.setCell ⟨g, 0, none⟩ a).setCell ⟨g, 1, none⟩ b).setCell ⟨g, 2, none⟩ c).setCell ⟨g, 3, none⟩ d).setCell ⟨g, 4, none⟩ e).setCell ⟨g, 5, none⟩ f).setCell ⟨g, 6, none⟩ k).setCell ⟨g, 7, none⟩ l) :=
  fr_set (fr_set (fr_set (fr_set (fr_set (fr_set (fr_set (fr_set (Fr.refl _ _) _ _) _ _) _ _) _ _) _ _) _ _) _ _) _ _

section
variable {W0 w1 : World} {g gm gw cap : Nat} {rest : List Value} {ov : Value} {st : Int} {s : M.St} {B : Nat}
theorem dec_A (hM : DMach W0 g gm gw cap rest ov st s) (hb : Below B W0.drew w1) (hB : W0.heap.size ≤ B) (o : Obj) :
    DMach (w1.alloc o) g gm gw cap rest ov st s ∧ Fr (fun _ => False) W0 (w1.alloc o) ∧ g < w1.heap.size := by
  have hF : Fr (fun _ => False) W0 w1 := ⟨hb.os, hb.tape, hb.output, hb.size, fun k hk _ => hb.block k (by omega)⟩
  have h1 := hM.fr hF id id id (fun _ _ => id)
  exact ⟨h1.alloc o, hF.alloc o, h1.mc.lt⟩
theorem dec_B (hM : DMach W0 g gm gw cap rest ov st s) {o : Obj} (hb : Below B (W0.drew.alloc o) w1) (hB : W0.heap.size ≤ B) {w2 : World} (h2 : Fr (fun k => k = W0.heap.size) w1 w2) :
    DMach w2 g gm gw cap rest ov st s ∧ Fr (fun _ => False) W0 w2 := by
  have h0 : W0.heap.size ≤ w1.heap.size := by
    have h := hb.size
    rw [World.size_alloc] at h
    have e : W0.drew.heap.size = W0.heap.size := rfl
    omega
  have hF : Fr (fun _ => False) W0 w1 := ⟨hb.os, hb.tape, hb.output, h0, fun k hk _ => (hb.block k (by omega)).trans (Below.heap_alloc W0.drew o k hk)⟩
  have hF2 := hF.trans' h2 (fun i hi => .inr (by omega))
  exact ⟨hM.fr hF2 id id id (fun _ _ => id), hF2⟩
end

set_option maxHeartbeats 4000000 in
set_option maxRecDepth 100000 in
theorem rstep_ill (w : World) (g gm gw cap : Nat) (rest : List Value) (ov : Value) (st : Int) (s : M.St) (W : Int) (hW : M.at_ s.mem s.pc = W) 
    (hdec : ∀ w0, Calls Try.prog 61 #[.int .u32 W] w0 (RetB (.tuple #[iv 0 false false 0 0 0 0 0, .int .i64 20]) w0))
    (h : DMach w g gm gw cap rest ov st s) (hw : Wf s) (hs : 0 ≤ st) (hs' : st < 4194304) (hp : s.pc < s.mem.length) :
    Calls Try.prog 44 #[.pointer (some ⟨g, 0, none⟩)] w (RetRR (.tuple #[]) g gm gw cap rest ov (st + 1) { s with en := 4 } w) := by
  have hC := h.mc
  have hpc := hw.pc
  have hle := h.mm.le
  have hpcw : (s.pc + 1 + 9223372036854775808) % 18446744073709551616 - 9223372036854775808 = s.pc + 1 := by omega
  have hst : IntKind.i64.wrap (st + 1) = st + 1 := by rw [IntKind.wrap_i64]; omega
  obtain ⟨c16, c17, c18, c19, c20, c21, c22, c23, c24, c25, c26, c27, c28⟩ := dmach_fld hC hw.rl
  have f := hC.frozen
  have hg := hC.lt
  have hM1 := dmach_st h hw.rl (st + 1)
  have hF0 : Fr (foot g gw ov) w (w.setCell ⟨g, 26, none⟩ (.int .i64 (st + 1))) := (fr_set (Fr.refl (fun k => k = g) w) _ _).mono (fun k hk => .inl hk)
  have HS := Lib.hid (fun n => rsize_any _ gm gw cap s.mem rest (hM1.drewN n).mm)
  have HM1 := Lib.hid hM1
  have HF0 := Lib.hid hF0
  have HDEC := Lib.hid hdec
  have HWW := Lib.hid hW
  clear hM1 hF0 hdec hW c16 c17 c18 c19 c20 c23 c24 c25 c28 h hC
  go_enter Try.func44, Try.ntmps44
  go_wp2
  go_quiet ((go_at_call 48; exact quiet_retD (HS.out _)))
  go_wp2
  have hM2 := HM1.out.drewN nq
  have hF2 := HF0.out.drewN nq
  generalize ((w.setCell ⟨g, 26, none⟩ (.int .i64 (st + 1))).drewN nq) = W0 at *
  clear f c21 c22 c26 c27 hg HS HM1 HF0
  have d21 := (hM2.mc.cell 21).trans (dc_fld hw.rl 5)
  have d22 := (hM2.mc.cell 22).trans (dc_fld hw.rl 6)
  have d0 := hM2.mm.hd.cell 0
  have dW := hM2.mm.word s.pc hpc.1 hp
  have z1 := hM2.mc.lt
  have z2 := hM2.mm.hd.lt
  have z3 := hM2.mm.ws.lt
  rw [HWW.out] at dW
  have HK : Hid (∀ (B : Nat) (w1 : World), Below B W0.drew w1 → W0.heap.size ≤ B → w1.cell? ⟨g, 22, none⟩ = some (.pointer (some ⟨gm, 0, none⟩)) ∧ w1.cell? ⟨gm, 0, none⟩ = some (.slice (some ⟨gw, 0, none⟩) s.mem.length cap) ∧ w1.cell? ⟨g, 21, none⟩ = some (.int .i64 s.pc) ∧ w1.cell? ⟨gw, s.pc.toNat, none⟩ = some (.int .u32 W)) := Lib.hid (fun B w1 hb hB =>
    have k := fun (b o : Nat) (hh : b < W0.heap.size) => hb.cell (p := ⟨b, o, none⟩) (show b < B by omega)
    ⟨(k g 22 z1).trans d22, (k gm 0 z2).trans d0, (k g 21 z1).trans d21, (k gw _ z3).trans dW⟩)
  have HK2 : Hid (∀ (B : Nat) (o : Obj) (w1 : World), Below B (W0.drew.alloc o) w1 → W0.heap.size ≤ B → w1.cell? ⟨g, 22, none⟩ = some (.pointer (some ⟨gm, 0, none⟩)) ∧ w1.cell? ⟨gm, 0, none⟩ = some (.slice (some ⟨gw, 0, none⟩) s.mem.length cap) ∧ w1.cell? ⟨g, 21, none⟩ = some (.int .i64 s.pc) ∧ w1.cell? ⟨gw, s.pc.toNat, none⟩ = some (.int .u32 W)) := Lib.hid (fun B o w1 hb hB =>
    have k := fun (b i : Nat) (hh : b < W0.heap.size) => (hb.cell (p := ⟨b, i, none⟩) (show b < B by omega)).trans (World.cell?_alloc_lt W0.drew o ⟨b, i, none⟩ hh)
    ⟨(k g 22 z1).trans d22, (k gm 0 z2).trans d0, (k g 21 z1).trans d21, (k gw _ z3).trans dW⟩)
  have HK3 : Hid (∀ (B : Nat) (o : Obj) (w1 : World), Below B W0.drew w1 → W0.heap.size ≤ B → (w1.alloc o).cell? ⟨g, 22, none⟩ = some (.pointer (some ⟨gm, 0, none⟩)) ∧ (w1.alloc o).cell? ⟨gm, 0, none⟩ = some (.slice (some ⟨gw, 0, none⟩) s.mem.length cap) ∧ (w1.alloc o).cell? ⟨g, 21, none⟩ = some (.int .i64 s.pc) ∧ (w1.alloc o).cell? ⟨gw, s.pc.toNat, none⟩ = some (.int .u32 W)) := Lib.hid (fun B o w1 hb hB =>
    have hz : W0.heap.size ≤ w1.heap.size := hb.size
    have k := fun (b i : Nat) (hh : b < W0.heap.size) => (World.cell?_alloc_lt w1 o ⟨b, i, none⟩ (show b < w1.heap.size by omega)).trans (hb.cell (p := ⟨b, i, none⟩) (show b < B by omega))
    ⟨(k g 22 z1).trans d22, (k gm 0 z2).trans d0, (k g 21 z1).trans d21, (k gw _ z3).trans dW⟩)
  have n1 := Nat.ne_of_lt z1
  have n2 := Nat.ne_of_lt z2
  have n3 := Nat.ne_of_lt z3
  have n4 := n1.symm
  have n5 := n2.symm
  have n6 := n3.symm
  go_region_held3 (fun w' => w'.cell? ⟨g, 22, none⟩ = some (.pointer (some ⟨gm, 0, none⟩)) ∧ w'.cell? ⟨gm, 0, none⟩ = some (.slice (some ⟨gw, 0, none⟩) s.mem.length cap) ∧ w'.cell? ⟨g, 21, none⟩ = some (.int .i64 s.pc) ∧ w'.cell? ⟨gw, s.pc.toNat, none⟩ = some (.int .u32 W))
    (first | go_keep | (with_reducible exact HK.out _ _ hb1 (by simp)) | (with_reducible exact HK2.out _ _ _ hb1 (by simp)) | (with_reducible exact HK3.out _ _ _ hb1 (by simp)))
    (first | (go_at_call 61; refine (HDEC.out _).mono ?_; rintro e w1 ⟨rfl, hb1⟩; try (with_reducible have hzc := zd_cells hb1 (by simp)); try (with_reducible have hzf := zd_frozen hb1 (by simp))))

  · obtain ⟨hM3, hF3, hz⟩ := dec_A hM2 hb1 (by simp) (.cells #[.int .i64 0, .bool false, .bool false, .int .i64 0, .int .i64 0, .int .i64 0, .int .i64 0, .int .i64 0] 24)
    have hB3 := Cel.new w1 24 #[.int .i64 0, .bool false, .bool false, .int .i64 0, .int .i64 0, .int .i64 0, .int .i64 0, .int .i64 0]
    have hk1 : g ≠ w1.heap.size := Nat.ne_of_lt hz
    clear hz hb1 HK HK2 HK3 HDEC HWW d21 d22 d0 dW
    generalize w1.alloc (.cells #[.int .i64 0, .bool false, .bool false, .int .i64 0, .int .i64 0, .int .i64 0, .int .i64 0, .int .i64 0] 24) = W2 at *
    generalize w1.heap.size = k at *
    have hF4 : Fr (foot g gw ov) w W2 := hF2.trans (hF3.mono (fun _ h => h.elim))
    have HM3 := Lib.hid hM3
    have HF4 := Lib.hid hF4
    have hk2 : k ≠ g := hk1.symm
    have e21 := (hM3.mc.cell 21).trans (dc_fld hw.rl 5)
    have e27 := (hM3.mc.cell 27).trans (dc_fld hw.rl 11)
    have ef := hM3.mc.frozen
    have eg := hM3.mc.lt
    have eb := hB3.cell
    clear hM3 hF3 hF4 hM2 hF2 z1 z2 z3 n1 n2 n3 n4 n5 n6 hB3
    go_wp2
    go_end0
    exact ⟨rfl, ov, HM3.out.endp hw.rl 4, HF4.out.trans ((fr_set (Fr.refl (fun k => k = g) W2) _ _).mono (fun k hk => .inl hk)), .inl rfl⟩
  · obtain ⟨hM3, hF3⟩ := dec_B hM2 hb1 (by simp) (fr8 w1 W0.heap.size (.int .i64 0) (.bool false) (.bool false) (.int .i64 0) (.int .i64 0) (.int .i64 0) (.int .i64 0) (.int .i64 0))
    have hB3 := cel8 (zd_cel hb1 (by simp)) (.int .i64 0) (.bool false) (.bool false) (.int .i64 0) (.int .i64 0) (.int .i64 0) (.int .i64 0) (.int .i64 0)
    have hk1 : g ≠ W0.heap.size := n1
    clear hb1 HK HK2 HK3 HDEC HWW d21 d22 d0 dW
    try clear hzc
    try clear hzf
    generalize ((((((((w1.setCell ⟨W0.heap.size, 0, none⟩ (.int .i64 0)).setCell ⟨W0.heap.size, 1, none⟩ (.bool false)).setCell ⟨W0.heap.size, 2, none⟩ (.bool false)).setCell ⟨W0.heap.size, 3, none⟩ (.int .i64 0)).setCell ⟨W0.heap.size, 4, none⟩ (.int .i64 0)).setCell ⟨W0.heap.size, 5, none⟩ (.int .i64 0)).setCell ⟨W0.heap.size, 6, none⟩ (.int .i64 0)).setCell ⟨W0.heap.size, 7, none⟩ (.int .i64 0)) = W2 at *
    generalize W0.heap.size = k at *
    have hF4 : Fr (foot g gw ov) w W2 := hF2.trans (hF3.mono (fun _ h => h.elim))
    have HM3 := Lib.hid hM3
    have HF4 := Lib.hid hF4
    have hk2 : k ≠ g := hk1.symm
    have e21 := (hM3.mc.cell 21).trans (dc_fld hw.rl 5)
    have e27 := (hM3.mc.cell 27).trans (dc_fld hw.rl 11)
    have ef := hM3.mc.frozen
    have eg := hM3.mc.lt
    have eb := hB3.cell
    clear hM3 hF3 hF4 hM2 hF2 z1 z2 z3 n1 n2 n3 n4 n5 n6 hB3
    go_wp2
    go_end0
    exact ⟨rfl, ov, HM3.out.endp hw.rl 4, HF4.out.trans ((fr_set (Fr.refl (fun k => k = g) W2) _ _).mono (fun k hk => .inl hk)), .inl rfl⟩

set_option maxHeartbeats 4000000 in
set_option maxRecDepth 100000 in
theorem rstep_r0 (w : World) (g gm gw cap : Nat) (rest : List Value) (ov : Value) (st : Int) (s : M.St) (W : Int) (hW : M.at_ s.mem s.pc = W) (u v : Bool) (a b c op im : Int)
    (hdec : ∀ w0, Calls Try.prog 61 #[.int .u32 W] w0 (RetB (.tuple #[iv 0 u v a b c op im, .int .i64 0]) w0)) (t : M.St)
    (hcall : ∀ w0, DMach w0 g gm gw cap rest ov (st + 1) { s with pc := s.pc + 1 } → Calls Try.prog 62 #[.pointer (some ⟨g, 0, none⟩), iv 0 u v a b c op im] w0 (RetRR (.tuple #[]) g gm gw cap rest ov (st + 1) t w0))
    (h : DMach w g gm gw cap rest ov st s) (hw : Wf s) (hs : 0 ≤ st) (hs' : st < 4194304) (hp : s.pc < s.mem.length) :
    Calls Try.prog 44 #[.pointer (some ⟨g, 0, none⟩)] w (RetRR (.tuple #[]) g gm gw cap rest ov (st + 1) t w) := by
  have hC := h.mc
  have hpc := hw.pc
  have hle := h.mm.le
  have hpcw : (s.pc + 1 + 9223372036854775808) % 18446744073709551616 - 9223372036854775808 = s.pc + 1 := by omega
  have hst : IntKind.i64.wrap (st + 1) = st + 1 := by rw [IntKind.wrap_i64]; omega
  obtain ⟨c16, c17, c18, c19, c20, c21, c22, c23, c24, c25, c26, c27, c28⟩ := dmach_fld hC hw.rl
  have f := hC.frozen
  have hg := hC.lt
  have hM1 := dmach_st h hw.rl (st + 1)
  have hF0 : Fr (foot g gw ov) w (w.setCell ⟨g, 26, none⟩ (.int .i64 (st + 1))) := (fr_set (Fr.refl (fun k => k = g) w) _ _).mono (fun k hk => .inl hk)
  have HS := Lib.hid (fun n => rsize_any _ gm gw cap s.mem rest (hM1.drewN n).mm)
  have HM1 := Lib.hid hM1
  have HF0 := Lib.hid hF0
  have HDEC := Lib.hid hdec
  have HWW := Lib.hid hW
  have HCALL := Lib.hid hcall
  clear hcall
  clear hM1 hF0 hdec hW c16 c17 c18 c19 c20 c23 c24 c25 c28 h hC
  go_enter Try.func44, Try.ntmps44
  go_wp2
  go_quiet ((go_at_call 48; exact quiet_retD (HS.out _)))
  go_wp2
  have hM2 := HM1.out.drewN nq
  have hF2 := HF0.out.drewN nq
  generalize ((w.setCell ⟨g, 26, none⟩ (.int .i64 (st + 1))).drewN nq) = W0 at *
  clear f c21 c22 c26 c27 hg HS HM1 HF0
  have d21 := (hM2.mc.cell 21).trans (dc_fld hw.rl 5)
  have d22 := (hM2.mc.cell 22).trans (dc_fld hw.rl 6)
  have d0 := hM2.mm.hd.cell 0
  have dW := hM2.mm.word s.pc hpc.1 hp
  have z1 := hM2.mc.lt
  have z2 := hM2.mm.hd.lt
  have z3 := hM2.mm.ws.lt
  rw [HWW.out] at dW
  have HK : Hid (∀ (B : Nat) (w1 : World), Below B W0.drew w1 → W0.heap.size ≤ B → w1.cell? ⟨g, 22, none⟩ = some (.pointer (some ⟨gm, 0, none⟩)) ∧ w1.cell? ⟨gm, 0, none⟩ = some (.slice (some ⟨gw, 0, none⟩) s.mem.length cap) ∧ w1.cell? ⟨g, 21, none⟩ = some (.int .i64 s.pc) ∧ w1.cell? ⟨gw, s.pc.toNat, none⟩ = some (.int .u32 W)) := Lib.hid (fun B w1 hb hB =>
    have k := fun (b o : Nat) (hh : b < W0.heap.size) => hb.cell (p := ⟨b, o, none⟩) (show b < B by omega)
    ⟨(k g 22 z1).trans d22, (k gm 0 z2).trans d0, (k g 21 z1).trans d21, (k gw _ z3).trans dW⟩)
  have HK2 : Hid (∀ (B : Nat) (o : Obj) (w1 : World), Below B (W0.drew.alloc o) w1 → W0.heap.size ≤ B → w1.cell? ⟨g, 22, none⟩ = some (.pointer (some ⟨gm, 0, none⟩)) ∧ w1.cell? ⟨gm, 0, none⟩ = some (.slice (some ⟨gw, 0, none⟩) s.mem.length cap) ∧ w1.cell? ⟨g, 21, none⟩ = some (.int .i64 s.pc) ∧ w1.cell? ⟨gw, s.pc.toNat, none⟩ = some (.int .u32 W)) := Lib.hid (fun B o w1 hb hB =>
    have k := fun (b i : Nat) (hh : b < W0.heap.size) => (hb.cell (p := ⟨b, i, none⟩) (show b < B by omega)).trans (World.cell?_alloc_lt W0.drew o ⟨b, i, none⟩ hh)
    ⟨(k g 22 z1).trans d22, (k gm 0 z2).trans d0, (k g 21 z1).trans d21, (k gw _ z3).trans dW⟩)
  have HK3 : Hid (∀ (B : Nat) (o : Obj) (w1 : World), Below B W0.drew w1 → W0.heap.size ≤ B → (w1.alloc o).cell? ⟨g, 22, none⟩ = some (.pointer (some ⟨gm, 0, none⟩)) ∧ (w1.alloc o).cell? ⟨gm, 0, none⟩ = some (.slice (some ⟨gw, 0, none⟩) s.mem.length cap) ∧ (w1.alloc o).cell? ⟨g, 21, none⟩ = some (.int .i64 s.pc) ∧ (w1.alloc o).cell? ⟨gw, s.pc.toNat, none⟩ = some (.int .u32 W)) := Lib.hid (fun B o w1 hb hB =>
    have hz : W0.heap.size ≤ w1.heap.size := hb.size
    have k := fun (b i : Nat) (hh : b < W0.heap.size) => (World.cell?_alloc_lt w1 o ⟨b, i, none⟩ (show b < w1.heap.size by omega)).trans (hb.cell (p := ⟨b, i, none⟩) (show b < B by omega))
    ⟨(k g 22 z1).trans d22, (k gm 0 z2).trans d0, (k g 21 z1).trans d21, (k gw _ z3).trans dW⟩)
  have n1 := Nat.ne_of_lt z1
  have n2 := Nat.ne_of_lt z2
  have n3 := Nat.ne_of_lt z3
  have n4 := n1.symm
  have n5 := n2.symm
  have n6 := n3.symm
  go_region_held3 (fun w' => w'.cell? ⟨g, 22, none⟩ = some (.pointer (some ⟨gm, 0, none⟩)) ∧ w'.cell? ⟨gm, 0, none⟩ = some (.slice (some ⟨gw, 0, none⟩) s.mem.length cap) ∧ w'.cell? ⟨g, 21, none⟩ = some (.int .i64 s.pc) ∧ w'.cell? ⟨gw, s.pc.toNat, none⟩ = some (.int .u32 W))
    (first | go_keep | (with_reducible exact HK.out _ _ hb1 (by simp)) | (with_reducible exact HK2.out _ _ _ hb1 (by simp)) | (with_reducible exact HK3.out _ _ _ hb1 (by simp)))
    (first | (go_at_call 61; refine (HDEC.out _).mono ?_; rintro e w1 ⟨rfl, hb1⟩; try (with_reducible have hzc := zd_cells hb1 (by simp)); try (with_reducible have hzf := zd_frozen hb1 (by simp))))

  · obtain ⟨hM3, hF3, hz⟩ := dec_A hM2 hb1 (by simp) (.cells #[.int .i64 0, .bool u, .bool v, .int .i64 a, .int .i64 b, .int .i64 c, .int .i64 op, .int .i64 im] 24)
    have hB3 := Cel.new w1 24 #[.int .i64 0, .bool u, .bool v, .int .i64 a, .int .i64 b, .int .i64 c, .int .i64 op, .int .i64 im]
    have hk1 : g ≠ w1.heap.size := Nat.ne_of_lt hz
    clear hz hb1 HK HK2 HK3 HDEC HWW d21 d22 d0 dW
    generalize w1.alloc (.cells #[.int .i64 0, .bool u, .bool v, .int .i64 a, .int .i64 b, .int .i64 c, .int .i64 op, .int .i64 im] 24) = W2 at *
    generalize w1.heap.size = k at *
    have hF4 : Fr (foot g gw ov) w W2 := hF2.trans (hF3.mono (fun _ h => h.elim))
    have HM3 := Lib.hid hM3
    have HF4 := Lib.hid hF4
    have hk2 : k ≠ g := hk1.symm
    have e21 := (hM3.mc.cell 21).trans (dc_fld hw.rl 5)
    have e27 := (hM3.mc.cell 27).trans (dc_fld hw.rl 11)
    have ef := hM3.mc.frozen
    have eg := hM3.mc.lt
    have eb := hB3.cell
    clear hM3 hF3 hF4 hM2 hF2 z1 z2 z3 n1 n2 n3 n4 n5 n6 hB3
    have hM4 := dmach_pc HM3.out hw.rl (s.pc + 1)
    have HM4 := Lib.hid hM4
    clear hM4
    go_wp2_with (first
      | (go_at_call 62; refine (HCALL.out _ HM4.out).mono ?_; rintro e w2 ⟨rfl, hR⟩)
      | fail)
    go_end0
    exact RetRR.pre ⟨rfl, hR⟩ (HF4.out.trans ((fr_set (Fr.refl (fun k => k = g) W2) _ _).mono (fun k hk => .inl hk)))
  · obtain ⟨hM3, hF3⟩ := dec_B hM2 hb1 (by simp) (fr8 w1 W0.heap.size (.int .i64 0) (.bool u) (.bool v) (.int .i64 a) (.int .i64 b) (.int .i64 c) (.int .i64 op) (.int .i64 im))
    have hB3 := cel8 (zd_cel hb1 (by simp)) (.int .i64 0) (.bool u) (.bool v) (.int .i64 a) (.int .i64 b) (.int .i64 c) (.int .i64 op) (.int .i64 im)
    have hk1 : g ≠ W0.heap.size := n1
    clear hb1 HK HK2 HK3 HDEC HWW d21 d22 d0 dW
    try clear hzc
    try clear hzf
    generalize ((((((((w1.setCell ⟨W0.heap.size, 0, none⟩ (.int .i64 0)).setCell ⟨W0.heap.size, 1, none⟩ (.bool u)).setCell ⟨W0.heap.size, 2, none⟩ (.bool v)).setCell ⟨W0.heap.size, 3, none⟩ (.int .i64 a)).setCell ⟨W0.heap.size, 4, none⟩ (.int .i64 b)).setCell ⟨W0.heap.size, 5, none⟩ (.int .i64 c)).setCell ⟨W0.heap.size, 6, none⟩ (.int .i64 op)).setCell ⟨W0.heap.size, 7, none⟩ (.int .i64 im)) = W2 at *
    generalize W0.heap.size = k at *
    have hF4 : Fr (foot g gw ov) w W2 := hF2.trans (hF3.mono (fun _ h => h.elim))
    have HM3 := Lib.hid hM3
    have HF4 := Lib.hid hF4
    have hk2 : k ≠ g := hk1.symm
    have e21 := (hM3.mc.cell 21).trans (dc_fld hw.rl 5)
    have e27 := (hM3.mc.cell 27).trans (dc_fld hw.rl 11)
    have ef := hM3.mc.frozen
    have eg := hM3.mc.lt
    have eb := hB3.cell
    clear hM3 hF3 hF4 hM2 hF2 z1 z2 z3 n1 n2 n3 n4 n5 n6 hB3
    have hM4 := dmach_pc HM3.out hw.rl (s.pc + 1)
    have HM4 := Lib.hid hM4
    clear hM4
    go_wp2_with (first
      | (go_at_call 62; refine (HCALL.out _ HM4.out).mono ?_; rintro e w2 ⟨rfl, hR⟩)
      | fail)
    go_end0
    exact RetRR.pre ⟨rfl, hR⟩ (HF4.out.trans ((fr_set (Fr.refl (fun k => k = g) W2) _ _).mono (fun k hk => .inl hk)))

set_option maxHeartbeats 4000000 in
set_option maxRecDepth 100000 in
theorem rstep_r1 (w : World) (g gm gw cap : Nat) (rest : List Value) (ov : Value) (st : Int) (s : M.St) (W : Int) (hW : M.at_ s.mem s.pc = W) (u v : Bool) (a b c op im : Int)
    (hdec : ∀ w0, Calls Try.prog 61 #[.int .u32 W] w0 (RetB (.tuple #[iv 1 u v a b c op im, .int .i64 0]) w0)) (t : M.St)
    (hcall : ∀ w0, DMach w0 g gm gw cap rest ov (st + 1) { s with pc := s.pc + 1 } → Calls Try.prog 62 #[.pointer (some ⟨g, 0, none⟩), iv 1 u v a b c op im] w0 (RetRR (.tuple #[]) g gm gw cap rest ov (st + 1) t w0))
    (h : DMach w g gm gw cap rest ov st s) (hw : Wf s) (hs : 0 ≤ st) (hs' : st < 4194304) (hp : s.pc < s.mem.length) :
    Calls Try.prog 44 #[.pointer (some ⟨g, 0, none⟩)] w (RetRR (.tuple #[]) g gm gw cap rest ov (st + 1) t w) := by
  have hC := h.mc
  have hpc := hw.pc
  have hle := h.mm.le
  have hpcw : (s.pc + 1 + 9223372036854775808) % 18446744073709551616 - 9223372036854775808 = s.pc + 1 := by omega
  have hst : IntKind.i64.wrap (st + 1) = st + 1 := by rw [IntKind.wrap_i64]; omega
  obtain ⟨c16, c17, c18, c19, c20, c21, c22, c23, c24, c25, c26, c27, c28⟩ := dmach_fld hC hw.rl
  have f := hC.frozen
  have hg := hC.lt
  have hM1 := dmach_st h hw.rl (st + 1)
  have hF0 : Fr (foot g gw ov) w (w.setCell ⟨g, 26, none⟩ (.int .i64 (st + 1))) := (fr_set (Fr.refl (fun k => k = g) w) _ _).mono (fun k hk => .inl hk)
  have HS := Lib.hid (fun n => rsize_any _ gm gw cap s.mem rest (hM1.drewN n).mm)
  have HM1 := Lib.hid hM1
  have HF0 := Lib.hid hF0
  have HDEC := Lib.hid hdec
  have HWW := Lib.hid hW
  have HCALL := Lib.hid hcall
  clear hcall
  clear hM1 hF0 hdec hW c16 c17 c18 c19 c20 c23 c24 c25 c28 h hC
  go_enter Try.func44, Try.ntmps44
  go_wp2
  go_quiet ((go_at_call 48; exact quiet_retD (HS.out _)))
  go_wp2
  have hM2 := HM1.out.drewN nq
  have hF2 := HF0.out.drewN nq
  generalize ((w.setCell ⟨g, 26, none⟩ (.int .i64 (st + 1))).drewN nq) = W0 at *
  clear f c21 c22 c26 c27 hg HS HM1 HF0
  have d21 := (hM2.mc.cell 21).trans (dc_fld hw.rl 5)
  have d22 := (hM2.mc.cell 22).trans (dc_fld hw.rl 6)
  have d0 := hM2.mm.hd.cell 0
  have dW := hM2.mm.word s.pc hpc.1 hp
  have z1 := hM2.mc.lt
  have z2 := hM2.mm.hd.lt
  have z3 := hM2.mm.ws.lt
  rw [HWW.out] at dW
  have HK : Hid (∀ (B : Nat) (w1 : World), Below B W0.drew w1 → W0.heap.size ≤ B → w1.cell? ⟨g, 22, none⟩ = some (.pointer (some ⟨gm, 0, none⟩)) ∧ w1.cell? ⟨gm, 0, none⟩ = some (.slice (some ⟨gw, 0, none⟩) s.mem.length cap) ∧ w1.cell? ⟨g, 21, none⟩ = some (.int .i64 s.pc) ∧ w1.cell? ⟨gw, s.pc.toNat, none⟩ = some (.int .u32 W)) := Lib.hid (fun B w1 hb hB =>
    have k := fun (b o : Nat) (hh : b < W0.heap.size) => hb.cell (p := ⟨b, o, none⟩) (show b < B by omega)
    ⟨(k g 22 z1).trans d22, (k gm 0 z2).trans d0, (k g 21 z1).trans d21, (k gw _ z3).trans dW⟩)
  have HK2 : Hid (∀ (B : Nat) (o : Obj) (w1 : World), Below B (W0.drew.alloc o) w1 → W0.heap.size ≤ B → w1.cell? ⟨g, 22, none⟩ = some (.pointer (some ⟨gm, 0, none⟩)) ∧ w1.cell? ⟨gm, 0, none⟩ = some (.slice (some ⟨gw, 0, none⟩) s.mem.length cap) ∧ w1.cell? ⟨g, 21, none⟩ = some (.int .i64 s.pc) ∧ w1.cell? ⟨gw, s.pc.toNat, none⟩ = some (.int .u32 W)) := Lib.hid (fun B o w1 hb hB =>
    have k := fun (b i : Nat) (hh : b < W0.heap.size) => (hb.cell (p := ⟨b, i, none⟩) (show b < B by omega)).trans (World.cell?_alloc_lt W0.drew o ⟨b, i, none⟩ hh)
    ⟨(k g 22 z1).trans d22, (k gm 0 z2).trans d0, (k g 21 z1).trans d21, (k gw _ z3).trans dW⟩)
  have HK3 : Hid (∀ (B : Nat) (o : Obj) (w1 : World), Below B W0.drew w1 → W0.heap.size ≤ B → (w1.alloc o).cell? ⟨g, 22, none⟩ = some (.pointer (some ⟨gm, 0, none⟩)) ∧ (w1.alloc o).cell? ⟨gm, 0, none⟩ = some (.slice (some ⟨gw, 0, none⟩) s.mem.length cap) ∧ (w1.alloc o).cell? ⟨g, 21, none⟩ = some (.int .i64 s.pc) ∧ (w1.alloc o).cell? ⟨gw, s.pc.toNat, none⟩ = some (.int .u32 W)) := Lib.hid (fun B o w1 hb hB =>
    have hz : W0.heap.size ≤ w1.heap.size := hb.size
    have k := fun (b i : Nat) (hh : b < W0.heap.size) => (World.cell?_alloc_lt w1 o ⟨b, i, none⟩ (show b < w1.heap.size by omega)).trans (hb.cell (p := ⟨b, i, none⟩) (show b < B by omega))
    ⟨(k g 22 z1).trans d22, (k gm 0 z2).trans d0, (k g 21 z1).trans d21, (k gw _ z3).trans dW⟩)
  have n1 := Nat.ne_of_lt z1
  have n2 := Nat.ne_of_lt z2
  have n3 := Nat.ne_of_lt z3
  have n4 := n1.symm
  have n5 := n2.symm
  have n6 := n3.symm
  go_region_held3 (fun w' => w'.cell? ⟨g, 22, none⟩ = some (.pointer (some ⟨gm, 0, none⟩)) ∧ w'.cell? ⟨gm, 0, none⟩ = some (.slice (some ⟨gw, 0, none⟩) s.mem.length cap) ∧ w'.cell? ⟨g, 21, none⟩ = some (.int .i64 s.pc) ∧ w'.cell? ⟨gw, s.pc.toNat, none⟩ = some (.int .u32 W))
    (first | go_keep | (with_reducible exact HK.out _ _ hb1 (by simp)) | (with_reducible exact HK2.out _ _ _ hb1 (by simp)) | (with_reducible exact HK3.out _ _ _ hb1 (by simp)))
    (first | (go_at_call 61; refine (HDEC.out _).mono ?_; rintro e w1 ⟨rfl, hb1⟩; try (with_reducible have hzc := zd_cells hb1 (by simp)); try (with_reducible have hzf := zd_frozen hb1 (by simp))))

  · obtain ⟨hM3, hF3, hz⟩ := dec_A hM2 hb1 (by simp) (.cells #[.int .i64 1, .bool u, .bool v, .int .i64 a, .int .i64 b, .int .i64 c, .int .i64 op, .int .i64 im] 24)
    have hB3 := Cel.new w1 24 #[.int .i64 1, .bool u, .bool v, .int .i64 a, .int .i64 b, .int .i64 c, .int .i64 op, .int .i64 im]
    have hk1 : g ≠ w1.heap.size := Nat.ne_of_lt hz
    clear hz hb1 HK HK2 HK3 HDEC HWW d21 d22 d0 dW
    generalize w1.alloc (.cells #[.int .i64 1, .bool u, .bool v, .int .i64 a, .int .i64 b, .int .i64 c, .int .i64 op, .int .i64 im] 24) = W2 at *
    generalize w1.heap.size = k at *
    have hF4 : Fr (foot g gw ov) w W2 := hF2.trans (hF3.mono (fun _ h => h.elim))
    have HM3 := Lib.hid hM3
    have HF4 := Lib.hid hF4
    have hk2 : k ≠ g := hk1.symm
    have e21 := (hM3.mc.cell 21).trans (dc_fld hw.rl 5)
    have e27 := (hM3.mc.cell 27).trans (dc_fld hw.rl 11)
    have ef := hM3.mc.frozen
    have eg := hM3.mc.lt
    have eb := hB3.cell
    clear hM3 hF3 hF4 hM2 hF2 z1 z2 z3 n1 n2 n3 n4 n5 n6 hB3
    have hM4 := dmach_pc HM3.out hw.rl (s.pc + 1)
    have HM4 := Lib.hid hM4
    clear hM4
    go_wp2_with (first
      | (go_at_call 62; refine (HCALL.out _ HM4.out).mono ?_; rintro e w2 ⟨rfl, hR⟩)
      | fail)
    go_end0
    exact RetRR.pre ⟨rfl, hR⟩ (HF4.out.trans ((fr_set (Fr.refl (fun k => k = g) W2) _ _).mono (fun k hk => .inl hk)))
  · obtain ⟨hM3, hF3⟩ := dec_B hM2 hb1 (by simp) (fr8 w1 W0.heap.size (.int .i64 1) (.bool u) (.bool v) (.int .i64 a) (.int .i64 b) (.int .i64 c) (.int .i64 op) (.int .i64 im))
    have hB3 := cel8 (zd_cel hb1 (by simp)) (.int .i64 1) (.bool u) (.bool v) (.int .i64 a) (.int .i64 b) (.int .i64 c) (.int .i64 op) (.int .i64 im)
    have hk1 : g ≠ W0.heap.size := n1
    clear hb1 HK HK2 HK3 HDEC HWW d21 d22 d0 dW
    try clear hzc
    try clear hzf
    generalize ((((((((w1.setCell ⟨W0.heap.size, 0, none⟩ (.int .i64 1)).setCell ⟨W0.heap.size, 1, none⟩ (.bool u)).setCell ⟨W0.heap.size, 2, none⟩ (.bool v)).setCell ⟨W0.heap.size, 3, none⟩ (.int .i64 a)).setCell ⟨W0.heap.size, 4, none⟩ (.int .i64 b)).setCell ⟨W0.heap.size, 5, none⟩ (.int .i64 c)).setCell ⟨W0.heap.size, 6, none⟩ (.int .i64 op)).setCell ⟨W0.heap.size, 7, none⟩ (.int .i64 im)) = W2 at *
    generalize W0.heap.size = k at *
    have hF4 : Fr (foot g gw ov) w W2 := hF2.trans (hF3.mono (fun _ h => h.elim))
    have HM3 := Lib.hid hM3
    have HF4 := Lib.hid hF4
    have hk2 : k ≠ g := hk1.symm
    have e21 := (hM3.mc.cell 21).trans (dc_fld hw.rl 5)
    have e27 := (hM3.mc.cell 27).trans (dc_fld hw.rl 11)
    have ef := hM3.mc.frozen
    have eg := hM3.mc.lt
    have eb := hB3.cell
    clear hM3 hF3 hF4 hM2 hF2 z1 z2 z3 n1 n2 n3 n4 n5 n6 hB3
    have hM4 := dmach_pc HM3.out hw.rl (s.pc + 1)
    have HM4 := Lib.hid hM4
    clear hM4
    go_wp2_with (first
      | (go_at_call 62; refine (HCALL.out _ HM4.out).mono ?_; rintro e w2 ⟨rfl, hR⟩)
      | fail)
    go_end0
    exact RetRR.pre ⟨rfl, hR⟩ (HF4.out.trans ((fr_set (Fr.refl (fun k => k = g) W2) _ _).mono (fun k hk => .inl hk)))

set_option maxHeartbeats 4000000 in
set_option maxRecDepth 100000 in
theorem rstep_m (w : World) (g gm gw cap : Nat) (rest : List Value) (ov : Value) (st : Int) (s : M.St) (W : Int) (hW : M.at_ s.mem s.pc = W) (u v : Bool) (a b c op im : Int)
    (hdec : ∀ w0, Calls Try.prog 61 #[.int .u32 W] w0 (RetB (.tuple #[iv 2 u v a b c op im, .int .i64 0]) w0)) (t : M.St)
    (hcall : ∀ w0, DMach w0 g gm gw cap rest ov (st + 1) { s with pc := s.pc + 1 } → Calls Try.prog 63 #[.pointer (some ⟨g, 0, none⟩), iv 2 u v a b c op im] w0 (RetRR (.tuple #[]) g gm gw cap rest ov (st + 1) t w0))
    (h : DMach w g gm gw cap rest ov st s) (hw : Wf s) (hs : 0 ≤ st) (hs' : st < 4194304) (hp : s.pc < s.mem.length) :
    Calls Try.prog 44 #[.pointer (some ⟨g, 0, none⟩)] w (RetRR (.tuple #[]) g gm gw cap rest ov (st + 1) t w) := by
  have hC := h.mc
  have hpc := hw.pc
  have hle := h.mm.le
  have hpcw : (s.pc + 1 + 9223372036854775808) % 18446744073709551616 - 9223372036854775808 = s.pc + 1 := by omega
  have hst : IntKind.i64.wrap (st + 1) = st + 1 := by rw [IntKind.wrap_i64]; omega
  obtain ⟨c16, c17, c18, c19, c20, c21, c22, c23, c24, c25, c26, c27, c28⟩ := dmach_fld hC hw.rl
  have f := hC.frozen
  have hg := hC.lt
  have hM1 := dmach_st h hw.rl (st + 1)
  have hF0 : Fr (foot g gw ov) w (w.setCell ⟨g, 26, none⟩ (.int .i64 (st + 1))) := (fr_set (Fr.refl (fun k => k = g) w) _ _).mono (fun k hk => .inl hk)
  have HS := Lib.hid (fun n => rsize_any _ gm gw cap s.mem rest (hM1.drewN n).mm)
  have HM1 := Lib.hid hM1
  have HF0 := Lib.hid hF0
  have HDEC := Lib.hid hdec
  have HWW := Lib.hid hW
  have HCALL := Lib.hid hcall
  clear hcall
  clear hM1 hF0 hdec hW c16 c17 c18 c19 c20 c23 c24 c25 c28 h hC
  go_enter Try.func44, Try.ntmps44
  go_wp2
  go_quiet ((go_at_call 48; exact quiet_retD (HS.out _)))
  go_wp2
  have hM2 := HM1.out.drewN nq
  have hF2 := HF0.out.drewN nq
  generalize ((w.setCell ⟨g, 26, none⟩ (.int .i64 (st + 1))).drewN nq) = W0 at *
  clear f c21 c22 c26 c27 hg HS HM1 HF0
  have d21 := (hM2.mc.cell 21).trans (dc_fld hw.rl 5)
  have d22 := (hM2.mc.cell 22).trans (dc_fld hw.rl 6)
  have d0 := hM2.mm.hd.cell 0
  have dW := hM2.mm.word s.pc hpc.1 hp
  have z1 := hM2.mc.lt
  have z2 := hM2.mm.hd.lt
  have z3 := hM2.mm.ws.lt
  rw [HWW.out] at dW
  have HK : Hid (∀ (B : Nat) (w1 : World), Below B W0.drew w1 → W0.heap.size ≤ B → w1.cell? ⟨g, 22, none⟩ = some (.pointer (some ⟨gm, 0, none⟩)) ∧ w1.cell? ⟨gm, 0, none⟩ = some (.slice (some ⟨gw, 0, none⟩) s.mem.length cap) ∧ w1.cell? ⟨g, 21, none⟩ = some (.int .i64 s.pc) ∧ w1.cell? ⟨gw, s.pc.toNat, none⟩ = some (.int .u32 W)) := Lib.hid (fun B w1 hb hB =>
    have k := fun (b o : Nat) (hh : b < W0.heap.size) => hb.cell (p := ⟨b, o, none⟩) (show b < B by omega)
    ⟨(k g 22 z1).trans d22, (k gm 0 z2).trans d0, (k g 21 z1).trans d21, (k gw _ z3).trans dW⟩)
  have HK2 : Hid (∀ (B : Nat) (o : Obj) (w1 : World), Below B (W0.drew.alloc o) w1 → W0.heap.size ≤ B → w1.cell? ⟨g, 22, none⟩ = some (.pointer (some ⟨gm, 0, none⟩)) ∧ w1.cell? ⟨gm, 0, none⟩ = some (.slice (some ⟨gw, 0, none⟩) s.mem.length cap) ∧ w1.cell? ⟨g, 21, none⟩ = some (.int .i64 s.pc) ∧ w1.cell? ⟨gw, s.pc.toNat, none⟩ = some (.int .u32 W)) := Lib.hid (fun B o w1 hb hB =>
    have k := fun (b i : Nat) (hh : b < W0.heap.size) => (hb.cell (p := ⟨b, i, none⟩) (show b < B by omega)).trans (World.cell?_alloc_lt W0.drew o ⟨b, i, none⟩ hh)
    ⟨(k g 22 z1).trans d22, (k gm 0 z2).trans d0, (k g 21 z1).trans d21, (k gw _ z3).trans dW⟩)
  have HK3 : Hid (∀ (B : Nat) (o : Obj) (w1 : World), Below B W0.drew w1 → W0.heap.size ≤ B → (w1.alloc o).cell? ⟨g, 22, none⟩ = some (.pointer (some ⟨gm, 0, none⟩)) ∧ (w1.alloc o).cell? ⟨gm, 0, none⟩ = some (.slice (some ⟨gw, 0, none⟩) s.mem.length cap) ∧ (w1.alloc o).cell? ⟨g, 21, none⟩ = some (.int .i64 s.pc) ∧ (w1.alloc o).cell? ⟨gw, s.pc.toNat, none⟩ = some (.int .u32 W)) := Lib.hid (fun B o w1 hb hB =>
    have hz : W0.heap.size ≤ w1.heap.size := hb.size
    have k := fun (b i : Nat) (hh : b < W0.heap.size) => (World.cell?_alloc_lt w1 o ⟨b, i, none⟩ (show b < w1.heap.size by omega)).trans (hb.cell (p := ⟨b, i, none⟩) (show b < B by omega))
    ⟨(k g 22 z1).trans d22, (k gm 0 z2).trans d0, (k g 21 z1).trans d21, (k gw _ z3).trans dW⟩)
  have n1 := Nat.ne_of_lt z1
  have n2 := Nat.ne_of_lt z2
  have n3 := Nat.ne_of_lt z3
  have n4 := n1.symm
  have n5 := n2.symm
  have n6 := n3.symm
  go_region_held3 (fun w' => w'.cell? ⟨g, 22, none⟩ = some (.pointer (some ⟨gm, 0, none⟩)) ∧ w'.cell? ⟨gm, 0, none⟩ = some (.slice (some ⟨gw, 0, none⟩) s.mem.length cap) ∧ w'.cell? ⟨g, 21, none⟩ = some (.int .i64 s.pc) ∧ w'.cell? ⟨gw, s.pc.toNat, none⟩ = some (.int .u32 W))
    (first | go_keep | (with_reducible exact HK.out _ _ hb1 (by simp)) | (with_reducible exact HK2.out _ _ _ hb1 (by simp)) | (with_reducible exact HK3.out _ _ _ hb1 (by simp)))
    (first | (go_at_call 61; refine (HDEC.out _).mono ?_; rintro e w1 ⟨rfl, hb1⟩; try (with_reducible have hzc := zd_cells hb1 (by simp)); try (with_reducible have hzf := zd_frozen hb1 (by simp))))

  · obtain ⟨hM3, hF3, hz⟩ := dec_A hM2 hb1 (by simp) (.cells #[.int .i64 2, .bool u, .bool v, .int .i64 a, .int .i64 b, .int .i64 c, .int .i64 op, .int .i64 im] 24)
    have hB3 := Cel.new w1 24 #[.int .i64 2, .bool u, .bool v, .int .i64 a, .int .i64 b, .int .i64 c, .int .i64 op, .int .i64 im]
    have hk1 : g ≠ w1.heap.size := Nat.ne_of_lt hz
    clear hz hb1 HK HK2 HK3 HDEC HWW d21 d22 d0 dW
    generalize w1.alloc (.cells #[.int .i64 2, .bool u, .bool v, .int .i64 a, .int .i64 b, .int .i64 c, .int .i64 op, .int .i64 im] 24) = W2 at *
    generalize w1.heap.size = k at *
    have hF4 : Fr (foot g gw ov) w W2 := hF2.trans (hF3.mono (fun _ h => h.elim))
    have HM3 := Lib.hid hM3
    have HF4 := Lib.hid hF4
    have hk2 : k ≠ g := hk1.symm
    have e21 := (hM3.mc.cell 21).trans (dc_fld hw.rl 5)
    have e27 := (hM3.mc.cell 27).trans (dc_fld hw.rl 11)
    have ef := hM3.mc.frozen
    have eg := hM3.mc.lt
    have eb := hB3.cell
    clear hM3 hF3 hF4 hM2 hF2 z1 z2 z3 n1 n2 n3 n4 n5 n6 hB3
    have hM4 := dmach_pc HM3.out hw.rl (s.pc + 1)
    have HM4 := Lib.hid hM4
    clear hM4
    go_wp2_with (first
      | (go_at_call 63; refine (HCALL.out _ HM4.out).mono ?_; rintro e w2 ⟨rfl, hR⟩)
      | fail)
    go_end0
    exact RetRR.pre ⟨rfl, hR⟩ (HF4.out.trans ((fr_set (Fr.refl (fun k => k = g) W2) _ _).mono (fun k hk => .inl hk)))
  · obtain ⟨hM3, hF3⟩ := dec_B hM2 hb1 (by simp) (fr8 w1 W0.heap.size (.int .i64 2) (.bool u) (.bool v) (.int .i64 a) (.int .i64 b) (.int .i64 c) (.int .i64 op) (.int .i64 im))
    have hB3 := cel8 (zd_cel hb1 (by simp)) (.int .i64 2) (.bool u) (.bool v) (.int .i64 a) (.int .i64 b) (.int .i64 c) (.int .i64 op) (.int .i64 im)
    have hk1 : g ≠ W0.heap.size := n1
    clear hb1 HK HK2 HK3 HDEC HWW d21 d22 d0 dW
    try clear hzc
    try clear hzf
    generalize ((((((((w1.setCell ⟨W0.heap.size, 0, none⟩ (.int .i64 2)).setCell ⟨W0.heap.size, 1, none⟩ (.bool u)).setCell ⟨W0.heap.size, 2, none⟩ (.bool v)).setCell ⟨W0.heap.size, 3, none⟩ (.int .i64 a)).setCell ⟨W0.heap.size, 4, none⟩ (.int .i64 b)).setCell ⟨W0.heap.size, 5, none⟩ (.int .i64 c)).setCell ⟨W0.heap.size, 6, none⟩ (.int .i64 op)).setCell ⟨W0.heap.size, 7, none⟩ (.int .i64 im)) = W2 at *
    generalize W0.heap.size = k at *
    have hF4 : Fr (foot g gw ov) w W2 := hF2.trans (hF3.mono (fun _ h => h.elim))
    have HM3 := Lib.hid hM3
    have HF4 := Lib.hid hF4
    have hk2 : k ≠ g := hk1.symm
    have e21 := (hM3.mc.cell 21).trans (dc_fld hw.rl 5)
    have e27 := (hM3.mc.cell 27).trans (dc_fld hw.rl 11)
    have ef := hM3.mc.frozen
    have eg := hM3.mc.lt
    have eb := hB3.cell
    clear hM3 hF3 hF4 hM2 hF2 z1 z2 z3 n1 n2 n3 n4 n5 n6 hB3
    have hM4 := dmach_pc HM3.out hw.rl (s.pc + 1)
    have HM4 := Lib.hid hM4
    clear hM4
    go_wp2_with (first
      | (go_at_call 63; refine (HCALL.out _ HM4.out).mono ?_; rintro e w2 ⟨rfl, hR⟩)
      | fail)
    go_end0
    exact RetRR.pre ⟨rfl, hR⟩ (HF4.out.trans ((fr_set (Fr.refl (fun k => k = g) W2) _ _).mono (fun k hk => .inl hk)))

set_option maxHeartbeats 4000000 in
set_option maxRecDepth 100000 in
theorem rstep_j (w : World) (g gm gw cap : Nat) (rest : List Value) (ov : Value) (st : Int) (s : M.St) (W : Int) (hW : M.at_ s.mem s.pc = W) (u v : Bool) (a b c op im : Int)
    (hdec : ∀ w0, Calls Try.prog 61 #[.int .u32 W] w0 (RetB (.tuple #[iv 3 u v a b c op im, .int .i64 0]) w0)) (t : M.St)
    (hcall : ∀ w0, DMach w0 g gm gw cap rest ov (st + 1) { s with pc := s.pc + 1 } → Calls Try.prog 64 #[.pointer (some ⟨g, 0, none⟩), iv 3 u v a b c op im] w0 (RetRR (.tuple #[]) g gm gw cap rest ov (st + 1) t w0))
    (h : DMach w g gm gw cap rest ov st s) (hw : Wf s) (hs : 0 ≤ st) (hs' : st < 4194304) (hp : s.pc < s.mem.length) :
    Calls Try.prog 44 #[.pointer (some ⟨g, 0, none⟩)] w (RetRR (.tuple #[]) g gm gw cap rest ov (st + 1) t w) := by
  have hC := h.mc
  have hpc := hw.pc
  have hle := h.mm.le
  have hpcw : (s.pc + 1 + 9223372036854775808) % 18446744073709551616 - 9223372036854775808 = s.pc + 1 := by omega
  have hst : IntKind.i64.wrap (st + 1) = st + 1 := by rw [IntKind.wrap_i64]; omega
  obtain ⟨c16, c17, c18, c19, c20, c21, c22, c23, c24, c25, c26, c27, c28⟩ := dmach_fld hC hw.rl
  have f := hC.frozen
  have hg := hC.lt
  have hM1 := dmach_st h hw.rl (st + 1)
  have hF0 : Fr (foot g gw ov) w (w.setCell ⟨g, 26, none⟩ (.int .i64 (st + 1))) := (fr_set (Fr.refl (fun k => k = g) w) _ _).mono (fun k hk => .inl hk)
  have HS := Lib.hid (fun n => rsize_any _ gm gw cap s.mem rest (hM1.drewN n).mm)
  have HM1 := Lib.hid hM1
  have HF0 := Lib.hid hF0
  have HDEC := Lib.hid hdec
  have HWW := Lib.hid hW
  have HCALL := Lib.hid hcall
  clear hcall
  clear hM1 hF0 hdec hW c16 c17 c18 c19 c20 c23 c24 c25 c28 h hC
  go_enter Try.func44, Try.ntmps44
  go_wp2
  go_quiet ((go_at_call 48; exact quiet_retD (HS.out _)))
  go_wp2
  have hM2 := HM1.out.drewN nq
  have hF2 := HF0.out.drewN nq
  generalize ((w.setCell ⟨g, 26, none⟩ (.int .i64 (st + 1))).drewN nq) = W0 at *
  clear f c21 c22 c26 c27 hg HS HM1 HF0
  have d21 := (hM2.mc.cell 21).trans (dc_fld hw.rl 5)
  have d22 := (hM2.mc.cell 22).trans (dc_fld hw.rl 6)
  have d0 := hM2.mm.hd.cell 0
  have dW := hM2.mm.word s.pc hpc.1 hp
  have z1 := hM2.mc.lt
  have z2 := hM2.mm.hd.lt
  have z3 := hM2.mm.ws.lt
  rw [HWW.out] at dW
  have HK : Hid (∀ (B : Nat) (w1 : World), Below B W0.drew w1 → W0.heap.size ≤ B → w1.cell? ⟨g, 22, none⟩ = some (.pointer (some ⟨gm, 0, none⟩)) ∧ w1.cell? ⟨gm, 0, none⟩ = some (.slice (some ⟨gw, 0, none⟩) s.mem.length cap) ∧ w1.cell? ⟨g, 21, none⟩ = some (.int .i64 s.pc) ∧ w1.cell? ⟨gw, s.pc.toNat, none⟩ = some (.int .u32 W)) := Lib.hid (fun B w1 hb hB =>
    have k := fun (b o : Nat) (hh : b < W0.heap.size) => hb.cell (p := ⟨b, o, none⟩) (show b < B by omega)
    ⟨(k g 22 z1).trans d22, (k gm 0 z2).trans d0, (k g 21 z1).trans d21, (k gw _ z3).trans dW⟩)
  have HK2 : Hid (∀ (B : Nat) (o : Obj) (w1 : World), Below B (W0.drew.alloc o) w1 → W0.heap.size ≤ B → w1.cell? ⟨g, 22, none⟩ = some (.pointer (some ⟨gm, 0, none⟩)) ∧ w1.cell? ⟨gm, 0, none⟩ = some (.slice (some ⟨gw, 0, none⟩) s.mem.length cap) ∧ w1.cell? ⟨g, 21, none⟩ = some (.int .i64 s.pc) ∧ w1.cell? ⟨gw, s.pc.toNat, none⟩ = some (.int .u32 W)) := Lib.hid (fun B o w1 hb hB =>
    have k := fun (b i : Nat) (hh : b < W0.heap.size) => (hb.cell (p := ⟨b, i, none⟩) (show b < B by omega)).trans (World.cell?_alloc_lt W0.drew o ⟨b, i, none⟩ hh)
    ⟨(k g 22 z1).trans d22, (k gm 0 z2).trans d0, (k g 21 z1).trans d21, (k gw _ z3).trans dW⟩)
  have HK3 : Hid (∀ (B : Nat) (o : Obj) (w1 : World), Below B W0.drew w1 → W0.heap.size ≤ B → (w1.alloc o).cell? ⟨g, 22, none⟩ = some (.pointer (some ⟨gm, 0, none⟩)) ∧ (w1.alloc o).cell? ⟨gm, 0, none⟩ = some (.slice (some ⟨gw, 0, none⟩) s.mem.length cap) ∧ (w1.alloc o).cell? ⟨g, 21, none⟩ = some (.int .i64 s.pc) ∧ (w1.alloc o).cell? ⟨gw, s.pc.toNat, none⟩ = some (.int .u32 W)) := Lib.hid (fun B o w1 hb hB =>
    have hz : W0.heap.size ≤ w1.heap.size := hb.size
    have k := fun (b i : Nat) (hh : b < W0.heap.size) => (World.cell?_alloc_lt w1 o ⟨b, i, none⟩ (show b < w1.heap.size by omega)).trans (hb.cell (p := ⟨b, i, none⟩) (show b < B by omega))
    ⟨(k g 22 z1).trans d22, (k gm 0 z2).trans d0, (k g 21 z1).trans d21, (k gw _ z3).trans dW⟩)
  have n1 := Nat.ne_of_lt z1
  have n2 := Nat.ne_of_lt z2
  have n3 := Nat.ne_of_lt z3
  have n4 := n1.symm
  have n5 := n2.symm
  have n6 := n3.symm
  go_region_held3 (fun w' => w'.cell? ⟨g, 22, none⟩ = some (.pointer (some ⟨gm, 0, none⟩)) ∧ w'.cell? ⟨gm, 0, none⟩ = some (.slice (some ⟨gw, 0, none⟩) s.mem.length cap) ∧ w'.cell? ⟨g, 21, none⟩ = some (.int .i64 s.pc) ∧ w'.cell? ⟨gw, s.pc.toNat, none⟩ = some (.int .u32 W))
    (first | go_keep | (with_reducible exact HK.out _ _ hb1 (by simp)) | (with_reducible exact HK2.out _ _ _ hb1 (by simp)) | (with_reducible exact HK3.out _ _ _ hb1 (by simp)))
    (first | (go_at_call 61; refine (HDEC.out _).mono ?_; rintro e w1 ⟨rfl, hb1⟩; try (with_reducible have hzc := zd_cells hb1 (by simp)); try (with_reducible have hzf := zd_frozen hb1 (by simp))))

  · obtain ⟨hM3, hF3, hz⟩ := dec_A hM2 hb1 (by simp) (.cells #[.int .i64 3, .bool u, .bool v, .int .i64 a, .int .i64 b, .int .i64 c, .int .i64 op, .int .i64 im] 24)
    have hB3 := Cel.new w1 24 #[.int .i64 3, .bool u, .bool v, .int .i64 a, .int .i64 b, .int .i64 c, .int .i64 op, .int .i64 im]
    have hk1 : g ≠ w1.heap.size := Nat.ne_of_lt hz
    clear hz hb1 HK HK2 HK3 HDEC HWW d21 d22 d0 dW
    generalize w1.alloc (.cells #[.int .i64 3, .bool u, .bool v, .int .i64 a, .int .i64 b, .int .i64 c, .int .i64 op, .int .i64 im] 24) = W2 at *
    generalize w1.heap.size = k at *
    have hF4 : Fr (foot g gw ov) w W2 := hF2.trans (hF3.mono (fun _ h => h.elim))
    have HM3 := Lib.hid hM3
    have HF4 := Lib.hid hF4
    have hk2 : k ≠ g := hk1.symm
    have e21 := (hM3.mc.cell 21).trans (dc_fld hw.rl 5)
    have e27 := (hM3.mc.cell 27).trans (dc_fld hw.rl 11)
    have ef := hM3.mc.frozen
    have eg := hM3.mc.lt
    have eb := hB3.cell
    clear hM3 hF3 hF4 hM2 hF2 z1 z2 z3 n1 n2 n3 n4 n5 n6 hB3
    have hM4 := dmach_pc HM3.out hw.rl (s.pc + 1)
    have HM4 := Lib.hid hM4
    clear hM4
    go_wp2_with (first
      | (go_at_call 64; refine (HCALL.out _ HM4.out).mono ?_; rintro e w2 ⟨rfl, hR⟩)
      | fail)
    go_end0
    exact RetRR.pre ⟨rfl, hR⟩ (HF4.out.trans ((fr_set (Fr.refl (fun k => k = g) W2) _ _).mono (fun k hk => .inl hk)))
  · obtain ⟨hM3, hF3⟩ := dec_B hM2 hb1 (by simp) (fr8 w1 W0.heap.size (.int .i64 3) (.bool u) (.bool v) (.int .i64 a) (.int .i64 b) (.int .i64 c) (.int .i64 op) (.int .i64 im))
    have hB3 := cel8 (zd_cel hb1 (by simp)) (.int .i64 3) (.bool u) (.bool v) (.int .i64 a) (.int .i64 b) (.int .i64 c) (.int .i64 op) (.int .i64 im)
    have hk1 : g ≠ W0.heap.size := n1
    clear hb1 HK HK2 HK3 HDEC HWW d21 d22 d0 dW
    try clear hzc
    try clear hzf
    generalize ((((((((w1.setCell ⟨W0.heap.size, 0, none⟩ (.int .i64 3)).setCell ⟨W0.heap.size, 1, none⟩ (.bool u)).setCell ⟨W0.heap.size, 2, none⟩ (.bool v)).setCell ⟨W0.heap.size, 3, none⟩ (.int .i64 a)).setCell ⟨W0.heap.size, 4, none⟩ (.int .i64 b)).setCell ⟨W0.heap.size, 5, none⟩ (.int .i64 c)).setCell ⟨W0.heap.size, 6, none⟩ (.int .i64 op)).setCell ⟨W0.heap.size, 7, none⟩ (.int .i64 im)) = W2 at *
    generalize W0.heap.size = k at *
    have hF4 : Fr (foot g gw ov) w W2 := hF2.trans (hF3.mono (fun _ h => h.elim))
    have HM3 := Lib.hid hM3
    have HF4 := Lib.hid hF4
    have hk2 : k ≠ g := hk1.symm
    have e21 := (hM3.mc.cell 21).trans (dc_fld hw.rl 5)
    have e27 := (hM3.mc.cell 27).trans (dc_fld hw.rl 11)
    have ef := hM3.mc.frozen
    have eg := hM3.mc.lt
    have eb := hB3.cell
    clear hM3 hF3 hF4 hM2 hF2 z1 z2 z3 n1 n2 n3 n4 n5 n6 hB3
    have hM4 := dmach_pc HM3.out hw.rl (s.pc + 1)
    have HM4 := Lib.hid hM4
    clear hM4
    go_wp2_with (first
      | (go_at_call 64; refine (HCALL.out _ HM4.out).mono ?_; rintro e w2 ⟨rfl, hR⟩)
      | fail)
    go_end0
    exact RetRR.pre ⟨rfl, hR⟩ (HF4.out.trans ((fr_set (Fr.refl (fun k => k = g) W2) _ _).mono (fun k hk => .inl hk)))

end Go.Proofs.Ytmlmjkojhfjjlaa
