/- The document's Boot; the lists' comparisons. -/
import Derived.Test.YtdafkdjgclpolaaImgW
namespace Go.Proofs.Ytdafkdjgclpolaa
set_option linter.unusedVariables false
set_option linter.unusedSimpArgs false
open Go.RowKit

theorem bootI_len (size : Int) (es : List Int) : (bootI size es).length = 2 + es.length + 3 := by
  unfold bootI
  rw [List.length_append, List.length_append, jumpsI_len]
  rfl

/-- Behind k entries: the instructions so far. -/
def RB1 (w : World) (size : Int) (es : List Int) (k g c : Nat) (wr : World) : Prop :=
  Below w.heap.size w wr ∧ wr.ownsRow w.heap.size IT 8 (.slice (some ⟨g, 0, none⟩) (2 + k) c) (2 + k) (rowC (headI size ++ jumpsI 10 (es.take k))) ∧ (es.take k).all (entB size) = true
/-- Behind k words. -/
def RB2 (w : World) (is : List M.I) (B k : Nat) (v : Value) (wr : World) : Prop :=
  Below w.heap.size w wr ∧ w.heap.size ≤ B ∧ B ≤ wr.heap.size ∧ wr.ownsRow B U32T 1 v (8 + k) ((List.replicate 8 0 ++ (encs is).take k).map (Value.int .u32))

theorem rb1_next {w wr w2 : World} {size e0 : Int} {es : List Int} {k g c g2 c2 : Nat} {o : Obj} (h : RB1 w size es k g c wr) (hk : k < es.length) (he : es[k] = e0) (hr : entB size e0 = true)
    (hown2 : w2.ownsRow w.heap.size IT 8 (.slice (some ⟨g2, 0, none⟩) (2 + k + 1) c2) (2 + k + 1) (rowC (headI size ++ jumpsI 10 (es.take k)) ++ iC (jumpI (10 + (k : Int)) e0)))
    (hgrow : (wr.alloc o).grownBy w2 (Value.ownBlock (.slice (some ⟨g, 0, none⟩) (2 + k) c))) : RB1 w size es (k + 1) g2 c2 w2 := by
  obtain ⟨hB, hown, hall⟩ := h
  refine ⟨(hB.alloc hB.size o).grown hgrow (hB.alloc hB.size o).size (fun j hj => own_base hown hj), ?_, ?_⟩
  · have e : rowC (headI size ++ jumpsI 10 (es.take (k + 1))) = rowC (headI size ++ jumpsI 10 (es.take k)) ++ iC (jumpI (10 + (k : Int)) e0) := by
      rw [List.take_succ_eq_append_getElem hk, he, jumpsI_append]
      have hl : (es.take k).length = k := by rw [List.length_take]; omega
      rw [hl, ← List.append_assoc, rowC_append (_ ++ _)]
      simp [rowC]
    rw [e]
    exact hown2
  · rw [List.take_succ_eq_append_getElem hk, he, List.all_append, hall]
    simp [hr]

theorem rb2_next {w wr w1 w2 : World} {is : List M.I} {B k : Nat} {v v2 : Value} {o : Obj} {x : M.I} (h : RB2 w is B k v wr) (hk : k < is.length) (hx : is[k] = x) (hb1 : Below wr.heap.size wr w1) (hg : (w1.alloc o).grownBy w2 v.ownBlock)
    (hown2 : w2.ownsRow B U32T 1 v2 (8 + k + 1) ((List.replicate 8 0 ++ (encs is).take k).map (Value.int .u32) ++ [.int .u32 (M.enc x.f x.u x.v x.a x.b x.c x.op x.im)])) : RB2 w is B (k + 1) v2 w2 := by
  obtain ⟨hB, hle, hle2, hown⟩ := h
  have h1 : Below w.heap.size w (w1.alloc o) := (hB.trans (hb1.mono hB.size)).alloc (Nat.le_trans hB.size hb1.size) o
  refine ⟨h1.grown hg h1.size (fun j hj => Nat.le_trans hle (own_base hown hj)), hle, ?_, ?_⟩
  · have := hb1.size; have := hg.size; simp at this; omega
  · have e := encs_next is k hk x hx
    rw [List.map_append, ← e]
    rw [List.map_append] at hown2
    rw [← List.append_assoc]
    exact hown2

set_option maxHeartbeats 4000000 in
set_option maxRecDepth 100000 in
theorem rboot_no (w : World) (sp : Option Addr) (n c : Nat) (size : Int) (h : ¬ (256 ≤ size ∧ size ≤ 65536 ∧ n ≤ 16)) :
    Calls Try.prog 9 #[.int .i64 size, .slice sp n c] w (Ret (.tuple #[.slice none 0 0, .int .i64 1]) w) := by
  by_cases h0 : size < 256
  · clear h
    go_enter Try.func9, Try.ntmps9
    go_wp2
    go_ret2
    exact ⟨rfl, rfl⟩
  · by_cases h1 : 65536 < size
    · clear h
      go_enter Try.func9, Try.ntmps9
      go_wp2
      go_ret2
      exact ⟨rfl, rfl⟩
    · have h2 : 16 < n := by omega
      clear h
      go_enter Try.func9, Try.ntmps9
      go_wp2
      go_ret2
      exact ⟨rfl, rfl⟩

set_option maxHeartbeats 4000000 in
set_option maxRecDepth 100000 in
theorem rfirst_any (w : World) (m : Int) : Calls Try.prog 13 #[.int .i64 m] w (Ret (.int .i64 (firstW m)) w) := by
  have e : firstW m = if m < 0 ∨ 16 < m then 0 else 13 + m := rfl
  have E := Lib.hid e
  clear e
  by_cases h0 : m < 0
  · go_enter Try.func13, Try.ntmps13
    go_wp2
    go_ret
    exact ⟨ret_i (by rw [E.out, if_pos (.inl h0)]), rfl⟩
  · by_cases h1 : 16 < m
    · go_enter Try.func13, Try.ntmps13
      go_wp2
      go_ret
      exact ⟨ret_i (by rw [E.out, if_pos (.inr h1)]), rfl⟩
    · go_enter Try.func13, Try.ntmps13
      go_wp2
      go_ret
      exact ⟨ret_i (by rw [E.out, if_neg (by omega)]), rfl⟩

/-- Two lists that are the same. -/
def wordsAt (w : World) (v : Value) (ws : List Int) : Prop := ∃ sp c, v = .slice sp ws.length c ∧ ∀ k (hk : k < ws.length), ∃ ad, sp = some ad ∧ w.cell? (ad.add k) = some (.int .u32 ws[k])
set_option maxHeartbeats 4000000 in
set_option maxRecDepth 100000 in
theorem words_same (w : World) (v u : Value) (ws : List Int) (hv : wordsAt w v ws) (hu : wordsAt w u ws) (hl : ws.length ≤ 1000000) : Calls Try.prog 10 #[v, u] w (RetD (.bool true) w) := by
  obtain ⟨sp, c, rfl, h1⟩ := hv
  obtain ⟨sp2, c2, rfl, h2⟩ := hu
  have H1 := Lib.hid h1
  have H2 := Lib.hid h2
  clear h1 h2
  go_enter Try.func10, Try.ntmps10
  go_wp2
  go_loopw [5] (fun i wr => ∃ k q : Nat, k ≤ ws.length ∧ i = .int .i64 (k : Int) ∧ wr = w.drewN q) (fun i _ => ws.length - (intOf i).toNat)
  · exact ⟨0, 0, Nat.zero_le _, rfl, rfl⟩
  obtain ⟨k, q, hk, rfl, rfl⟩ := hrel
  by_cases hlt : k < ws.length
  · obtain ⟨ad, rfl, hc⟩ := H1.out k hlt
    obtain ⟨ad2, rfl, hc2⟩ := H2.out k hlt
    have hlt' : (k : Int) < (ws.length : Int) := by omega
    obtain ⟨x, hx⟩ : ∃ x, ws[k] = x := ⟨_, rfl⟩
    rw [hx] at hc hc2
    clear hx
    go_wp2
    go_quiet (fail)
    go_wp2
    go_roundw
    case rel => exact ⟨k + 1, _, by omega, by go_num, rfl⟩
    case measure => simp [intOf]; omega
  · go_wp2
    go_ret
    exact ⟨rfl, q, rfl⟩

/-- Two lists that are the same. -/
def numsAt (w : World) (v : Value) (ws : List Int) : Prop := ∃ sp c, v = .slice sp ws.length c ∧ ∀ k (hk : k < ws.length), ∃ ad, sp = some ad ∧ w.cell? (ad.add k) = some (.int .i64 ws[k])
set_option maxHeartbeats 4000000 in
set_option maxRecDepth 100000 in
theorem nums_same (w : World) (v u : Value) (ws : List Int) (hv : numsAt w v ws) (hu : numsAt w u ws) (hl : ws.length ≤ 1000000) : Calls Try.prog 11 #[v, u] w (RetD (.bool true) w) := by
  obtain ⟨sp, c, rfl, h1⟩ := hv
  obtain ⟨sp2, c2, rfl, h2⟩ := hu
  have H1 := Lib.hid h1
  have H2 := Lib.hid h2
  clear h1 h2
  go_enter Try.func11, Try.ntmps11
  go_wp2
  go_loopw [5] (fun i wr => ∃ k q : Nat, k ≤ ws.length ∧ i = .int .i64 (k : Int) ∧ wr = w.drewN q) (fun i _ => ws.length - (intOf i).toNat)
  · exact ⟨0, 0, Nat.zero_le _, rfl, rfl⟩
  obtain ⟨k, q, hk, rfl, rfl⟩ := hrel
  by_cases hlt : k < ws.length
  · obtain ⟨ad, rfl, hc⟩ := H1.out k hlt
    obtain ⟨ad2, rfl, hc2⟩ := H2.out k hlt
    have hlt' : (k : Int) < (ws.length : Int) := by omega
    obtain ⟨x, hx⟩ : ∃ x, ws[k] = x := ⟨_, rfl⟩
    rw [hx] at hc hc2
    clear hx
    go_wp2
    go_quiet (fail)
    go_wp2
    go_roundw
    case rel => exact ⟨k + 1, _, by omega, by go_num, rfl⟩
    case measure => simp [intOf]; omega
  · go_wp2
    go_ret
    exact ⟨rfl, q, rfl⟩


theorem words_own {w : World} {base : Nat} {v : Value} {ws : List Int} {n : Nat} (h : w.ownsRow base U32T 1 v n (ws.map (Value.int .u32))) (hn : n = ws.length) : wordsAt w v ws := by
  subst hn
  rcases h.2 with ⟨rfl, hn⟩ | ⟨g, cap, cur, rfl, hbb, hgg, rest⟩
  · exact ⟨none, 0, by rw [hn], fun k hk => by omega⟩
  · refine ⟨some ⟨g, 0, none⟩, cap, rfl, fun k hk => ⟨_, rfl, h.cells (g := g) rfl k _ ?_⟩⟩
    rw [List.getElem?_map, List.getElem?_eq_getElem hk]
    rfl
theorem words_nil (w : World) : wordsAt w (.slice none 0 0) [] := ⟨none, 0, rfl, fun k hk => by simp at hk⟩
theorem nums_of {w : World} {v : Value} {sp : Option Addr} {c : Nat} {es : List Int} (h : Nums w v sp c es) : numsAt w v es :=
  ⟨sp, c, h.v, fun k hk => let ⟨ad, e1, hc, _⟩ := h.at_k k hk _ rfl; ⟨ad, e1, hc⟩⟩

/-- What the document's Boot answers. -/
def RetRBoot (size : Int) (es : List Int) (w : World) (e : Ending) (w' : World) : Prop :=
  Below w.heap.size w w' ∧ ((bootOk size es = true ∧ ∃ v n, e = .returned (.tuple #[v, .int .i64 0]) ∧ n = (bootW size es).length ∧ w'.ownsRow w.heap.size U32T 1 v n ((bootW size es).map (Value.int .u32))) ∨
    (bootOk size es = false ∧ e = .returned (.tuple #[.slice none 0 0, .int .i64 1])))

theorem rb1_start (w : World) (size : Int) (es : List Int) : RB1 w size es 0 w.heap.size 2 (w.alloc (.cells (rowC (headI size)).toArray IT)) := by
  refine ⟨(Below.refl _ w).alloc (Nat.le_refl _) _, ?_, by simp⟩
  have e : rowC (headI size ++ jumpsI 10 (es.take 0)) = rowC (headI size) := by rw [List.take_zero]; simp [jumpsI]
  rw [e]
  exact ⟨rfl, .inr ⟨w.heap.size, 2, _, rfl, Nat.le_refl _, Cel.new w IT _, Nat.le_refl _, by unfold maxLen; omega, rfl, rfl⟩⟩

theorem rb2_start {w wr : World} {is : List M.I} (h : Below w.heap.size w wr) : RB2 w is wr.heap.size 0 (.slice (some ⟨wr.heap.size, 0, none⟩) 8 8) (wr.alloc (.cells (madeCells #[.int .u32 0] 8) U32T)) := by
  refine ⟨h.alloc h.size _, h.size, by simp, ?_⟩
  have e : ((List.replicate 8 (0 : Int) ++ (encs is).take 0).map (Value.int .u32)) = (List.replicate 8 (0 : Int)).map (Value.int .u32) := by rw [List.take_zero, List.append_nil]
  rw [e]
  exact ⟨rfl, .inr ⟨wr.heap.size, 8, _, rfl, Nat.le_refl _, Cel.new wr U32T _, Nat.le_refl _, by unfold maxLen; omega, by rw [made8]; rfl, by rw [made8]; rfl⟩⟩

theorem own_lower {w : World} {base base' size n : Nat} {e : TypeId} {v : Value} {xs : List Value} (h : w.ownsRow base e size v n xs) (hb : base' ≤ base) : w.ownsRow base' e size v n xs := by
  refine ⟨h.1, ?_⟩
  rcases h.2 with hn | ⟨g, cap, cur, rfl, hbb, rest⟩
  · exact .inl hn
  · exact .inr ⟨g, cap, cur, rfl, Nat.le_trans hb hbb, rest⟩
theorem rboot_end {w wr : World} {size : Int} {es : List Int} {B : Nat} {v : Value} (h : RB2 w (bootI size es) B (2 + es.length + 3) v wr) (hOk : bootOk size es = true) : RetRBoot size es w (.returned (.tuple #[v, .int .i64 0])) wr := by
  obtain ⟨hB, hle, hle2, hown⟩ := h
  refine ⟨hB, .inl ⟨hOk, v, 8 + (2 + es.length + 3), rfl, ?_, ?_⟩⟩
  · unfold bootW
    rw [List.length_append, List.length_replicate]
    unfold encs
    rw [List.length_map, bootI_len]
  · have e : List.replicate 8 0 ++ (encs (bootI size es)).take (2 + es.length + 3) = bootW size es := by
      unfold bootW
      rw [List.take_of_length_le (by unfold encs; rw [List.length_map, bootI_len]; exact Nat.le_refl _)]
    rw [e] at hown
    exact own_lower hown hle

set_option maxHeartbeats 8000000 in
set_option maxRecDepth 100000 in
theorem rboot_walk (w : World) (sp : Option Addr) (c : Nat) (es : List Int) (size : Int) (hN : Nums w (.slice sp es.length c) sp c es) (h0 : 256 ≤ size) (h1 : size ≤ 65536) (h2 : es.length ≤ 16) :
    Calls Try.prog 9 #[.int .i64 size, .slice sp es.length c] w (RetRBoot size es w) := by
  obtain ⟨i0, hi0, hz0, hz1, hz2⟩ := info_parts info32
  obtain ⟨j0, hj0, hy0, hy1, hy2⟩ := info_parts infoI
  have HN := Lib.hid hN
  clear hN
  go_enter Try.func9, Try.ntmps9
  go_wp2
  have HS := Lib.hid (rb1_start w size es)
  go_loopw [7, 8] (fun v i wr => ∃ k g c : Nat, k ≤ es.length ∧ i = .int .i64 (k : Int) ∧ v = .slice (some ⟨g, 0, none⟩) (2 + k) c ∧ RB1 w size es k g c wr) (fun _ i _ => es.length - (intOf i).toNat)
  · exact ⟨0, w.heap.size, 2, Nat.zero_le _, rfl, rfl, HS.out⟩
  obtain ⟨k, g, cc, hk, rfl, rfl, hP⟩ := hrel
  have HP := Lib.hid hP
  have hs0 := hP.1.size
  clear hP HS
  by_cases hlt : k < es.length
  · obtain ⟨e0, he0⟩ : ∃ e0, es[k] = e0 := ⟨_, rfl⟩
    obtain ⟨ad, rfl, hce, hbe, hbe'⟩ := (HN.out.below HP.out.1).at_k k hlt e0 he0
    have HE := Lib.hid he0
    clear he0
    by_cases hin : 0 ≤ e0 ∧ e0 < size
    · obtain ⟨hin1, hin2⟩ := hin
      have HR := Lib.hid (show entB size e0 = true from decide_eq_true ⟨hin1, hin2⟩)
      obtain ⟨J, hJ⟩ : ∃ J, e0 - (8 + (2 + (k : Int))) - 1 = J := ⟨_, rfl⟩
      have HJ := Lib.hid (show J = e0 - (10 + (k : Int)) - 1 by omega)
      go_wp2_with (first
        | (at_builtin; refine wpList_append_lies _ (by rfl) _ _ _ (by rfl) w.heap.size IT j0 _ 8 56 Try.underlying42 hj0 hy0 hy1 hy2 rfl (by omega) _ (2 + k) _ (by rfl) (HP.out.2.1.alloc _) ⟨wr.heap.size, 0, none⟩ 1 1 (iC ⟨3, true, true, 7, 0, 0, 0, J⟩) (by rfl) rfl (World.news_of_block (heap_alloc_new wr _)) (by simp [Value.oneCell', iC]) (by omega) (by unfold maxLen; omega) (by omega) (by simp; omega) (wr.heap.size + 1) (by simp) ?_; intro g4 c4 w4 hown4 hgrow hat hlt4; rw [HJ.out] at hown4; have HP4 := Lib.hid (rb1_next HP.out hlt HE.out HR.out hown4 hgrow); clear hown4 hgrow hat hlt4)
        | fail)
      go_roundw
      case rel => exact ⟨k + 1, g4, c4, by omega, by go_num, rfl, HP4.out⟩
      case measure => simp [intOf]; omega
    · have HB := Lib.hid (boot_bad hlt HE.out (show entB size e0 = false from decide_eq_false hin))
      by_cases hneg : e0 < 0
      · clear hin
        go_wp2
        go_ret2
        exact ⟨HP.out.1, .inr ⟨HB.out, rfl⟩⟩
      · have hge : size ≤ e0 := by omega
        clear hin
        go_wp2
        go_ret2
        exact ⟨HP.out.1, .inr ⟨HB.out, rfl⟩⟩
  · obtain rfl : k = es.length := by omega
    have hOk : bootOk size es = true := by
      unfold bootOk
      have := HP.out.2.2
      rw [List.take_length] at this
      rw [this, Bool.and_true]
      exact decide_eq_true ⟨h0, h1, h2⟩
    have HOk := Lib.hid hOk
    clear hOk
    go_wp2_with (first
      | (at_make; refine wpList_make_row _ rfl _ _ 24 rfl 36 i0 (.int .u32 0) Try.underlying24 hi0 hz0 hz1 rfl .i64 .i64 8 rfl rfl (by rw [hz2]; omega) (by omega) ?_; have HR2 := Lib.hid (rb2_start (is := bootI size es) HB4.out); have HI2 := Lib.hid (HI4.out.below ((Below.refl _ w4).alloc (Nat.le_refl _) (.cells (madeCells #[.int .u32 0] 8) U32T))))
      | (at_builtin; refine wpList_append_lies _ (by rfl) _ _ _ (by rfl) w.heap.size IT j0 _ 8 56 Try.underlying42 hj0 hy0 hy1 hy2 rfl (by omega) _ (2 + es.length) _ (by rfl) (HP.out.2.1.alloc _) ⟨wr.heap.size, 0, none⟩ 3 3 (rowC tailI) (by rfl) rfl (World.news_of_block (heap_alloc_new wr _)) (by decide) (by omega) (by unfold maxLen; omega) (by omega) (by simp; omega) (wr.heap.size + 1) (by simp) ?_; intro g4 c4 w4 hown4 hgrow hat hlt4; have hown5 : w4.ownsRow w.heap.size IT 8 (.slice (some ⟨g4, 0, none⟩) (2 + es.length + 3) c4) (2 + es.length + 3) (rowC (bootI size es)) := (by unfold bootI; rw [rowC_append]; have h9 := hown4; rw [List.take_length] at h9; exact h9); have hins := Ins.of_own hown5 (bootI_len size es).symm (by omega); obtain ⟨g5, c5, he5, hg5, hI5⟩ := hins; injection he5 with he5 he6 he7; injection he5 with he5; injection he5 with he5; subst he5; have HI4 := Lib.hid hI5; have HB4 := Lib.hid ((HP.out.1.alloc hs0 (.cells (rowC tailI).toArray IT)).grown hgrow (HP.out.1.alloc hs0 _).size (fun j hj => own_base HP.out.2.1 hj)); clear hown4 hown5 hgrow hat hlt4 he6 he7 hI5)
      | fail)
    have HN2 := Lib.hid (show 2 + es.length + 3 = (bootI size es).length from (bootI_len size es).symm)
    go_loopw [9, 10, 11, 12] (fun v i _ _ wx => ∃ l : Nat, l ≤ 2 + es.length + 3 ∧ i = .int .i64 (l : Int) ∧ Hid (RB2 w (bootI size es) w4.heap.size l v wx) ∧ Hid (Below w4.heap.size w4 wx)) (fun _ i _ _ _ => 2 + es.length + 3 - (intOf i).toNat)
    · exact ⟨0, Nat.zero_le _, rfl, HR2.out, (Below.refl _ w4).alloc (Nat.le_refl _) _⟩
    obtain ⟨l, hl, rfl, hR, hBx⟩ := hrel
    clear HR2
    by_cases hll : l < 2 + es.length + 3
    · have hll' : l < (bootI size es).length := by rw [← HN2.out]; exact hll
      obtain ⟨x, hx⟩ : ∃ x, (bootI size es)[l] = x := ⟨_, rfl⟩
      obtain ⟨e0, e1, e2, e3, e4, e5, e6, e7⟩ := (HI4.out.below hBx.out).cells l hll' x hx
      have HX := Lib.hid hx
      have HG := Lib.hid (show M.Good x.f x.u x.v x.a x.b x.c x.op x.im from of_decide_eq_true (hx ▸ M.good_at (boot_good size es HOk.out) l hll'))
      have hs5 := hR.out.2.2.1
      clear hx
      go_wp2_with (first
        | (go_at_call 24; refine (renc_yes _ _ _ _ _ _ _ _ _ HG.out).mono ?_; rintro e w6 ⟨rfl, hb6⟩; have HB6 := Lib.hid hb6; have hs6 := hb6.size; have R6 := Lib.hid (own_fr hR.out.2.2.2 (Fr.of_below (S := fun _ => False) hb6) (fun _ _ => id)); clear hb6)
        | (at_builtin; refine wpList_append_lies _ (by rfl) _ _ _ (by rfl) w4.heap.size U32T i0 (.int .u32 0) 1 4 Try.underlying24 hi0 hz0 hz1 hz2 rfl (by omega) _ (8 + l) _ (by rfl) (R6.out.alloc _) ⟨w6.heap.size, 0, none⟩ 1 1 [.int .u32 (M.enc x.f x.u x.v x.a x.b x.c x.op x.im)] (by rfl) rfl (World.news_of_block (heap_alloc_new w6 _)) (by simp [Value.oneCell']) (by omega) (by unfold maxLen; omega) (by omega) (by simp; omega) (w6.heap.size + 1) (by simp) ?_; intro g7 c7 w7 hown7 hgrow hat hlt7; have HR7 := Lib.hid (rb2_next hR.out hll' HX.out HB6.out hgrow hown7); have HB7 := Lib.hid (((hBx.out.trans (HB6.out.mono hs5)).alloc (Nat.le_trans hs5 hs6) (.cells #[.int .u32 (M.enc x.f x.u x.v x.a x.b x.c x.op x.im)] U32T)).grown hgrow (by simp; omega) (fun j hj => own_base R6.out hj)); clear hown7 hgrow hat hlt7)
        | fail)
      go_roundw
      case rel => exact ⟨l + 1, by omega, by go_num, HR7.out, HB7.out⟩
      case measure => simp [intOf]; omega
    · obtain rfl : l = 2 + es.length + 3 := by omega
      have HE := Lib.hid (rboot_end hR.out HOk.out)
      go_wp2
      go_ret2
      exact HE.out

end Go.Proofs.Ytdafkdjgclpolaa
