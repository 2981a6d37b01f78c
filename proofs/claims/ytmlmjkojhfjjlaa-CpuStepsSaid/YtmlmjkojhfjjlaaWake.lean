/- A machine that wakes: the law's own sample run. -/
import Derived.Test.YtmlmjkojhfjjlaaHalt
import Derived.Test.YtmlmjkojhfjjlaaRun
namespace Go.Proofs.Ytmlmjkojhfjjlaa
set_option linter.unusedVariables false
set_option linter.unusedSimpArgs false
open Go.RowKit

theorem src_own {w : World} {base : Nat} {v : Value} {ws : List Int} (h : w.ownsRow base U32T 1 v ws.length (ws.map (Value.int .u32))) (hb : ∀ i, 0 ≤ M.at_ ws i ∧ M.at_ ws i < 4294967296) : ∃ sp c, Src w v sp c ws := by
  rcases h.2 with ⟨rfl, hn⟩ | ⟨g, cap, cur, rfl, hbb, hgg, rest⟩
  · exact ⟨none, 0, by rw [hn], fun h => by omega, hb⟩
  · refine ⟨some ⟨g, 0, none⟩, cap, rfl, fun _ => ⟨_, rfl, ?_⟩, hb⟩
    intro j u hj
    obtain ⟨_, _, hsz, htk⟩ := rest
    have hj' : j < ws.length := by
      have := (List.getElem?_eq_some_iff.1 hj).1
      simpa using this
    have h1 : (cur.toList.take (ws.length * 1))[j]? = some u := by rw [htk]; exact hj
    rw [List.getElem?_take, if_pos (by omega), Array.getElem?_toList] at h1
    have hplain : (⟨g, 0, none⟩ : Addr).add j = ⟨g, j, none⟩ := by unfold Addr.add; split <;> simp_all
    rw [hplain, cell_of_row w g j cur U32T (0, 0) hgg]
    exact h1

theorem halt_bd (b : Int) (h0 : 0 ≤ b) (h1 : b < 65536) (i : Int) : 0 ≤ M.at_ (haltW b) i ∧ M.at_ (haltW b) i < 4294967296 := by
  unfold M.at_ haltW
  generalize i.toNat = n
  match n with
  | 0 =>
    show 0 ≤ M.enc 1 true false 1 0 0 0 65535 ∧ M.enc 1 true false 1 0 0 0 65535 < 4294967296
    decide
  | 1 =>
    show 0 ≤ M.enc 1 false false 1 1 0 8 65472 ∧ M.enc 1 false false 1 1 0 8 65472 < 4294967296
    decide
  | 2 => simp [M.enc, M.bit]; omega
  | 3 =>
    show 0 ≤ M.enc 2 true false 0 1 0 0 8 ∧ M.enc 2 true false 0 1 0 0 8 < 4294967296
    decide
  | 4 =>
    show 0 ≤ M.enc 2 true false 0 1 0 0 0 ∧ M.enc 2 true false 0 1 0 0 0 < 4294967296
    decide
  | n + 5 => exact ⟨by simp, by simp⟩

/-- The sample's start. -/
def hs0 (b : Int) : M.St := st0 (haltW b) 0 ⟨#[]⟩
theorem wake1 : ocV (M.runs 100 (hs0 65)) (M.steps 100 (hs0 65)) = .agg #[.int .i64 1, .int .i64 0, .string ⟨#[65]⟩, .int .i64 5, .int .i64 0] := by kernel_rfl
theorem wake2 : ocV (M.runs 100 (M.runs 100 (hs0 65))) (M.steps 100 (M.runs 100 (hs0 65))) = .agg #[.int .i64 1, .int .i64 0, .string ⟨#[65]⟩, .int .i64 0, .int .i64 0] := by kernel_rfl

theorem RetMM.fr {v : Value} {g gm gw cap B : Nat} {rest : List Value} {ov : Value} {s : M.St} {w0 w : World} {e : Ending} {w' : World} (h : RetMM v g gm gw cap rest ov s w e w') (hF : Fr (fun k => B ≤ k) w0 w) (h1 : B ≤ g) (h2 : B ≤ gw) (h3 : ∀ k, ov.ownBlock = some k → B ≤ k) (hB : B ≤ w.heap.size) :
    e = .returned v ∧ ∃ ov', Mach w' g gm gw cap rest ov' s ∧ Fr (fun k => B ≤ k) w0 w' ∧ (∀ k, ov'.ownBlock = some k → B ≤ k) ∧ B ≤ w'.heap.size := by
  obtain ⟨he, ov', hM, hF', hA⟩ := h
  refine ⟨he, ov', hM, hF.trans (hF'.mono ?_), ?_, Nat.le_trans hB hF'.size⟩
  · rintro k (rfl | rfl | hk)
    · exact h1
    · exact h2
    · exact h3 k hk
  · intro k hk
    rcases hA with hA | ⟨b, hb, hle⟩
    · exact h3 k (hA ▸ hk)
    · rw [hb] at hk; injection hk with hk; omega

theorem wk_out {w3 : World} {g gm gw cap : Nat} {rest : List Value} {ov : Value} {s : M.St} (h : Mach w3 g gm gw cap rest ov s) : ¬ foot g gw ov w3.heap.size := by
  rintro (e | e | e)
  · have := h.mc.lt; omega
  · have := h.mm.ws.lt; omega
  · have := own_lt h.ow e; omega

set_option maxHeartbeats 4000000 in
set_option maxRecDepth 100000 in
theorem wakes_any (w : World) : Calls Try.prog 15 #[] w (RetB (.bool true) w) := by
  go_enter Try.func15, Try.ntmps15
  go_wp2_with (first
    | (go_at_call 40; refine (halt_any 65 _ (by decide) (by decide)).mono ?_; rintro e w1 ⟨v, rfl, hown, hB1⟩; obtain ⟨sp, c, hS⟩ := src_own hown (halt_bd 65 (by decide) (by decide)))
    | (go_at_call 18; refine (cpunew_any _ sp c (haltW 65) _ 0 ⟨#[]⟩ hS (by decide) (by decide) (by decide) (by decide)).mono ?_; rintro e w2 ⟨g, gm, gw, rfl, hM, hB2, k1, k2, k3⟩)
    | (go_at_call 19; refine (run_any _ g gm gw _ _ _ (M.runs 100 (hs0 65)) 100 (by decide) (hM3.fr ((Fr.refl (fun _ => False) _).alloc _) id id id (fun _ _ => id)) hw3).mono ?_; rintro e w4 ⟨⟨he, ov4, hM4, hF4, hA4⟩, hw4⟩; rw [wake2] at he; subst he; have hO := hF4.cel (Cel.new w3 _ _) (wk_out hM3); have oc := hO.cell; have of := hO.frozen; have ol := hO.lt)
    | (go_at_call 19; refine (run_any _ g gm gw _ _ _ (hs0 65) 100 (by decide) hM (wf_st0 _ _ _ (by decide) (by decide) (by decide))).mono ?_; rintro e w3 ⟨⟨he, ov3, hM3, hF3, hA3⟩, hw3⟩; rw [wake1] at he; subst he)
    | fail)
  go_ret
  have s1 := hB1.size
  have s2 := hB2.size
  have m3 : ∀ k, foot g gw (.slice none 0 0) k → w.heap.size ≤ k := by
    rintro k (rfl | rfl | h)
    · omega
    · omega
    · simp [Value.ownBlock] at h
  have m4 : ∀ k, foot g gw ov3 k → w.heap.size ≤ k := by
    rintro k (rfl | rfl | h)
    · omega
    · omega
    · rcases hA3 with e | ⟨b, e, hle⟩
      · rw [e] at h; simp [Value.ownBlock] at h
      · rw [e] at h; injection h with h; omega
  have F2 : Fr (fun k => w.heap.size ≤ k) w w2 := ((Fr.refl _ w).trans' (Fr.of_below (S := fun _ => False) hB1) (fun _ h => h.elim)).trans' (Fr.of_below (S := fun _ => False) (hB2)) (fun _ h => h.elim)
  have F4 : Fr (fun k => w.heap.size ≤ k) w w4 := ((F2.trans (hF3.mono m3)).alloc _).trans (hF4.mono m4)
  exact ⟨rfl, (F4.alloc _).below (Nat.le_refl _) (fun _ h => h)⟩

end Go.Proofs.Ytmlmjkojhfjjlaa
