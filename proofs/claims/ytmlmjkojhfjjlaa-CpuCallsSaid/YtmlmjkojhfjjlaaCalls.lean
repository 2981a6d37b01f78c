/- CpuCalls: the walk. -/
import Derived.Test.YtmlmjkojhfjjlaaLoads
namespace Go.Proofs.Ytmlmjkojhfjjlaa
set_option linter.unusedVariables false
set_option linter.unusedSimpArgs false
open Go.RowKit

abbrev IT : TypeId := 24
theorem infoI : (Try.prog.info? 24).map (fun i => (i.zero, i.size, i.bytes)) = some (some (.agg #[.int .i64 0, .bool false, .bool false, .int .i64 0, .int .i64 0, .int .i64 0, .int .i64 0, .int .i64 0]), 8, 56) := by kernel_rfl

theorem rowC_append (l m : List M.I) : rowC (l ++ m) = rowC l ++ rowC m := by simp [rowC]

/-- Instructions that a row owns. -/
theorem Ins.of_own {w : World} {base n : Nat} {v : Value} {is : List M.I} (h : w.ownsRow base IT 8 v n (rowC is)) (hn : n = is.length) (h0 : 0 < n) : ∃ g c, v = .slice (some ⟨g, 0, none⟩) n c ∧ base ≤ g ∧ Ins w g is := by
  subst hn
  rcases h.2 with ⟨_, e⟩ | ⟨g, cap, cur, rfl, hb, hgg, h1, h2, h3, h4⟩
  · omega
  · refine ⟨g, cap, rfl, hb, ⟨fun k j hk hj => ?_, (Array.getElem?_eq_some_iff.1 hgg).1⟩⟩
    rw [cell_of_row w g _ cur IT (0, 0) hgg]
    have h5 : (cur.toList.take (is.length * 8))[k * 8 + j]? = (rowC is)[k * 8 + j]? := by rw [h4]
    rw [List.getElem?_take, if_pos (by omega), Array.getElem?_toList] at h5
    rw [h5, Nat.mul_comm]
    exact rowC_at is k j hk hj

def callsHead (cond : Int) (K : Nat) : List M.I := [⟨3, true, true, cond, 0, 0, 0, (K : Int) + 1⟩, ⟨1, false, false, 2, 2, 0, 8, 1⟩]
theorem calls_eq (cond : Int) (K : Nat) : M.callsI cond K = callsHead cond K ++ List.replicate K M.stepI ++ [⟨3, false, false, 7, 0, 15, 0, 0⟩] := rfl

/-- Behind k rounds. -/
def CallsAt (W : World) (cond : Int) (K k : Nat) (v : Value) (wr : World) : Prop :=
  wr.ownsRow W.heap.size IT 8 v (2 + k) (rowC (callsHead cond K ++ List.replicate k M.stepI)) ∧ Below W.heap.size W wr

theorem calls_next {W wr w2 : World} {cond : Int} {K k : Nat} {v v2 : Value} {o : Obj} {x : List Value} (h : CallsAt W cond K k v wr) (hg : (wr.alloc o).grownBy w2 v.ownBlock)
    (hown2 : w2.ownsRow W.heap.size IT 8 v2 (2 + k + 1) (rowC (callsHead cond K ++ List.replicate k M.stepI) ++ iC M.stepI)) : CallsAt W cond K (k + 1) v2 w2 := by
  obtain ⟨hown, hB⟩ := h
  refine ⟨?_, ?_⟩
  · have e : rowC (callsHead cond K ++ List.replicate (k + 1) M.stepI) = rowC (callsHead cond K ++ List.replicate k M.stepI) ++ iC M.stepI := by
      rw [List.replicate_succ', ← List.append_assoc, rowC_append (_ ++ _)]
      simp [rowC]
    rw [e]
    exact hown2
  · exact (hB.alloc hB.size o).grown hg (hB.alloc hB.size o).size (fun j hj => own_base hown hj)

set_option maxHeartbeats 8000000 in
set_option maxRecDepth 100000 in
theorem calls_walk (W : World) (nn : Int) (hol : Bool) (K : Nat) (cond : Int) (p q r : Int) (hc : (hol = true ∧ cond = 7 ∧ p = 1 ∧ q = 4 ∧ r = 0) ∨ (hol = false ∧ cond = 15 ∧ p = 2 ∧ q = 0 ∧ r = 1)) (hK : K < 20) (hn : wrap64 ((IntKind.u64.wrap nn).tmod 20) = (K : Int))
    (ws : List Int) (s2 : M.St) (hws : encs (M.callsI cond K) ++ List.replicate 8 0 = ws) (hs2 : M.runs 2 (st0 ws 0 ⟨#[]⟩) = s2) (hv : ocV (M.runs 2 (st0 ws 0 ⟨#[]⟩)) (M.steps 2 (st0 ws 0 ⟨#[]⟩)) = .agg #[.int .i64 3, .int .i64 0, .string ⟨#[]⟩, .int .i64 2, .int .i64 0])
    (hg : ∀ (k : Nat) (hk : k < (M.callsI cond K).length), M.goodI (M.callsI cond K)[k] = true)
    (hpc : s2.pc = p) (h1 : M.at_ s2.r 15 = q) (h2 : M.at_ s2.r 2 = r) :
    Calls Try.prog 9 #[.int .i64 nn, .bool hol] W (RetB (.bool true) W) := by
  obtain ⟨i0, hi0, hz0, hz1, hz2⟩ := info_parts infoI
  have HWS := Lib.hid hws
  have HS2 := Lib.hid hs2
  have HV := Lib.hid hv
  have HG := Lib.hid hg
  have HP := Lib.hid hpc
  have H1 := Lib.hid h1
  have H2 := Lib.hid h2
  clear hws hs2 hv hg hpc h1 h2
  rcases hc with ⟨rfl, rfl, rfl, rfl, rfl⟩ | ⟨rfl, rfl, rfl, rfl, rfl⟩
  · skip
    go_enter Try.func9, Try.ntmps9
    go_wp2
    simp only [hn]
    go_loopw [7, 8] (fun v i wr => ∃ k : Nat, k ≤ K ∧ i = .int .i64 (k : Int) ∧ CallsAt W 7 K k v wr) (fun _ i _ => K - (intOf i).toNat)
    · exact ⟨0, Nat.zero_le _, rfl, ⟨rfl, .inr ⟨W.heap.size, 2, (rowC (callsHead 7 K)).toArray, rfl, Nat.le_refl _, Cel.new W _ _, Nat.le_refl _, by decide, rfl, rfl⟩⟩, (Below.refl _ W).alloc (Nat.le_refl _) _⟩
    obtain ⟨k, hk, rfl, hP⟩ := hrel
    have HQ := Lib.hid hP
    clear hP
    have hsz := HQ.out.2.size
    by_cases hlt : k < K
    · go_wp2_with (first
        | (at_builtin; refine wpList_append_lies _ (by rfl) _ _ _ (by rfl) W.heap.size IT i0 _ 8 56 Try.underlying25 hi0 hz0 hz1 hz2 rfl (by omega) _ (2 + k) _ (by rfl) (HQ.out.1.alloc _) ⟨wr.heap.size, 0, none⟩ 1 1 (iC M.stepI) (by rfl) rfl (World.news_of_block (heap_alloc_new wr _)) (by simp [Value.oneCell', iC]) (by omega) (by unfold maxLen; omega) (by omega) (by simp; omega) (wr.heap.size + 1) (by simp) ?_; intro b2 cp w2 hown2 hgrow hat hlt2))
      have hnx := calls_next (x := []) HQ.out hgrow hown2
      go_roundw
      case rel => exact ⟨k + 1, by omega, by go_num, hnx⟩
      case measure => simp [intOf]; omega
    · obtain rfl : k = K := by omega
      go_wp2_with (first
        | (at_builtin; refine wpList_append_lies _ (by rfl) _ _ _ (by rfl) W.heap.size IT i0 _ 8 56 Try.underlying25 hi0 hz0 hz1 hz2 rfl (by omega) _ (2 + k) _ (by rfl) (HQ.out.1.alloc _) ⟨wr.heap.size, 0, none⟩ 1 1 (iC ⟨3, false, false, 7, 0, 15, 0, 0⟩) (by rfl) rfl (World.news_of_block (heap_alloc_new wr _)) (by simp [Value.oneCell', iC]) (by omega) (by unfold maxLen; omega) (by omega) (by simp; omega) (wr.heap.size + 1) (by simp) ?_; intro b2 cp w2 hown2 hgrow hat hlt2; have hown3 : w2.ownsRow W.heap.size IT 8 (.slice (some ⟨b2, 0, none⟩) (2 + k + 1) cp) (2 + k + 1) (rowC (M.callsI 7 k)) := (by rw [calls_eq, rowC_append]; exact hown2); have hins := Ins.of_own hown3 (M.calls_len 7 k).symm (by omega); obtain ⟨g3, c3, he3, hg3, hI3⟩ := hins; injection he3 with he3 he4 he5; injection he3 with he3; injection he3 with he3; subst he3; have HI := Lib.hid hI3; have HB2 := Lib.hid ((HQ.out.2.alloc hsz (.cells (iC ⟨3, false, false, 7, 0, 15, 0, 0⟩).toArray IT)).grown hgrow (HQ.out.2.alloc hsz _).size (fun j hj => own_base HQ.out.1 hj)); clear hown2 hown3 hgrow hat he4 he5 hI3)
        | (go_at_call 16; refine (played_ok _ b2 (2 + k + 1) _ (M.callsI 7 k) ⟨#[]⟩ 2 ws s2 _ _ _ _ _ HWS.out HS2.out HV.out (M.calls_len 7 k).symm HI.out HG.out (by rw [M.calls_len]; omega) (by rw [M.calls_len]; omega) (by decide) (by decide)).mono ?_; rintro e w3 ⟨gg, gm, gw, ov, rfl, hM, hB⟩; have HM := Lib.hid (hM.alloc (.cells #[.int .i64 3, .int .i64 0, .string ⟨#[]⟩, .int .i64 2, .int .i64 0] 28)); have o0 := (Cel.new w3 28 #[.int .i64 3, .int .i64 0, .string ⟨#[]⟩, .int .i64 2, .int .i64 0]).cell 0; have HB := Lib.hid (HB2.out.trans (hB.mono HB2.out.size)); clear hM hB)
        | (go_at_call 28; first | ((with_reducible refine (reg_is _ _ _ _ _ _ _ _ 15 _ HM.out (by decide) (by decide) H1.out).mono ?_); rintro e w' ⟨rfl, rfl⟩) | ((with_reducible refine (reg_is _ _ _ _ _ _ _ _ 2 _ HM.out (by decide) (by decide) H2.out).mono ?_); rintro e w' ⟨rfl, rfl⟩))
        | (go_at_call 20; refine (pc_is _ _ _ _ _ _ _ _ _ HM.out HP.out).mono ?_; rintro e w' ⟨rfl, rfl⟩)
        | (go_at_call 15; refine (wakes_any _).mono ?_; rintro e w5 ⟨rfl, hB5⟩)
        | fail)
      go_ret
      exact ⟨ret_b (by first | rfl | simp), (HB.out.alloc HB.out.size _).trans (hB5.mono (by have := HB.out.size; simp; omega))⟩
  · skip
    go_enter Try.func9, Try.ntmps9
    go_wp2
    simp only [hn]
    go_loopw [7, 8] (fun v i wr => ∃ k : Nat, k ≤ K ∧ i = .int .i64 (k : Int) ∧ CallsAt W 15 K k v wr) (fun _ i _ => K - (intOf i).toNat)
    · exact ⟨0, Nat.zero_le _, rfl, ⟨rfl, .inr ⟨W.heap.size, 2, (rowC (callsHead 15 K)).toArray, rfl, Nat.le_refl _, Cel.new W _ _, Nat.le_refl _, by decide, rfl, rfl⟩⟩, (Below.refl _ W).alloc (Nat.le_refl _) _⟩
    obtain ⟨k, hk, rfl, hP⟩ := hrel
    have HQ := Lib.hid hP
    clear hP
    have hsz := HQ.out.2.size
    by_cases hlt : k < K
    · go_wp2_with (first
        | (at_builtin; refine wpList_append_lies _ (by rfl) _ _ _ (by rfl) W.heap.size IT i0 _ 8 56 Try.underlying25 hi0 hz0 hz1 hz2 rfl (by omega) _ (2 + k) _ (by rfl) (HQ.out.1.alloc _) ⟨wr.heap.size, 0, none⟩ 1 1 (iC M.stepI) (by rfl) rfl (World.news_of_block (heap_alloc_new wr _)) (by simp [Value.oneCell', iC]) (by omega) (by unfold maxLen; omega) (by omega) (by simp; omega) (wr.heap.size + 1) (by simp) ?_; intro b2 cp w2 hown2 hgrow hat hlt2))
      have hnx := calls_next (x := []) HQ.out hgrow hown2
      go_roundw
      case rel => exact ⟨k + 1, by omega, by go_num, hnx⟩
      case measure => simp [intOf]; omega
    · obtain rfl : k = K := by omega
      go_wp2_with (first
        | (at_builtin; refine wpList_append_lies _ (by rfl) _ _ _ (by rfl) W.heap.size IT i0 _ 8 56 Try.underlying25 hi0 hz0 hz1 hz2 rfl (by omega) _ (2 + k) _ (by rfl) (HQ.out.1.alloc _) ⟨wr.heap.size, 0, none⟩ 1 1 (iC ⟨3, false, false, 7, 0, 15, 0, 0⟩) (by rfl) rfl (World.news_of_block (heap_alloc_new wr _)) (by simp [Value.oneCell', iC]) (by omega) (by unfold maxLen; omega) (by omega) (by simp; omega) (wr.heap.size + 1) (by simp) ?_; intro b2 cp w2 hown2 hgrow hat hlt2; have hown3 : w2.ownsRow W.heap.size IT 8 (.slice (some ⟨b2, 0, none⟩) (2 + k + 1) cp) (2 + k + 1) (rowC (M.callsI 15 k)) := (by rw [calls_eq, rowC_append]; exact hown2); have hins := Ins.of_own hown3 (M.calls_len 15 k).symm (by omega); obtain ⟨g3, c3, he3, hg3, hI3⟩ := hins; injection he3 with he3 he4 he5; injection he3 with he3; injection he3 with he3; subst he3; have HI := Lib.hid hI3; have HB2 := Lib.hid ((HQ.out.2.alloc hsz (.cells (iC ⟨3, false, false, 7, 0, 15, 0, 0⟩).toArray IT)).grown hgrow (HQ.out.2.alloc hsz _).size (fun j hj => own_base HQ.out.1 hj)); clear hown2 hown3 hgrow hat he4 he5 hI3)
        | (go_at_call 16; refine (played_ok _ b2 (2 + k + 1) _ (M.callsI 15 k) ⟨#[]⟩ 2 ws s2 _ _ _ _ _ HWS.out HS2.out HV.out (M.calls_len 15 k).symm HI.out HG.out (by rw [M.calls_len]; omega) (by rw [M.calls_len]; omega) (by decide) (by decide)).mono ?_; rintro e w3 ⟨gg, gm, gw, ov, rfl, hM, hB⟩; have HM := Lib.hid (hM.alloc (.cells #[.int .i64 3, .int .i64 0, .string ⟨#[]⟩, .int .i64 2, .int .i64 0] 28)); have o0 := (Cel.new w3 28 #[.int .i64 3, .int .i64 0, .string ⟨#[]⟩, .int .i64 2, .int .i64 0]).cell 0; have HB := Lib.hid (HB2.out.trans (hB.mono HB2.out.size)); clear hM hB)
        | (go_at_call 28; first | ((with_reducible refine (reg_is _ _ _ _ _ _ _ _ 15 _ HM.out (by decide) (by decide) H1.out).mono ?_); rintro e w' ⟨rfl, rfl⟩) | ((with_reducible refine (reg_is _ _ _ _ _ _ _ _ 2 _ HM.out (by decide) (by decide) H2.out).mono ?_); rintro e w' ⟨rfl, rfl⟩))
        | (go_at_call 20; refine (pc_is _ _ _ _ _ _ _ _ _ HM.out HP.out).mono ?_; rintro e w' ⟨rfl, rfl⟩)
        | (go_at_call 15; refine (wakes_any _).mono ?_; rintro e w5 ⟨rfl, hB5⟩)
        | fail)
      go_ret
      exact ⟨ret_b (by first | rfl | simp), (HB.out.alloc HB.out.size _).trans (hB5.mono (by have := HB.out.size; simp; omega))⟩

theorem mod20 (n : Int) : ∃ K : Nat, wrap64 ((IntKind.u64.wrap n).tmod 20) = (K : Int) ∧ K < 20 := by
  refine ⟨((n % 18446744073709551616) % 20).toNat, ?_, by omega⟩
  rw [IntKind.wrap_u64, Int.tmod_eq_emod_of_nonneg (by omega)]
  unfold wrap64
  omega

theorem calls_any (W : World) (nn : Int) (hol : Bool) : Calls Try.prog 9 #[.int .i64 nn, .bool hol] W (RetB (.bool true) W) := by
  obtain ⟨K, hn, hK⟩ := mod20 nn
  cases hol
  · obtain ⟨h1, h2, h3, h4, h5, h6, h7, h8⟩ := M.calls_no K hK ⟨#[]⟩ _ rfl
    refine calls_walk W nn false K 15 2 0 1 (.inr ⟨rfl, rfl, rfl, rfl, rfl⟩) hK hn _ _ rfl rfl ?_ (M.good_at (M.calls_good 15 K hK (.inr rfl))) h5 h6 h7
    unfold ocV
    rw [h1, h2, h3, h4, h8]
    rfl
  · obtain ⟨h1, h2, h3, h4, h5, h6, h7, h8⟩ := M.calls_yes K hK ⟨#[]⟩ _ rfl
    refine calls_walk W nn true K 7 1 4 0 (.inl ⟨rfl, rfl, rfl, rfl, rfl⟩) hK hn _ _ rfl rfl ?_ (M.good_at (M.calls_good 7 K hK (.inl rfl))) h5 h6 h7
    unfold ocV
    rw [h1, h2, h3, h4, h8]
    rfl

end Go.Proofs.Ytmlmjkojhfjjlaa
