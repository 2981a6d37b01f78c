/- played: instructions as they lie, the words that they are. -/
import Derived.Test.YtmlmjkojhfjjlaaRefG
import Derived.Test.YtmlmjkojhfjjlaaZeros
import Derived.LoopTactic
namespace Go.Proofs.Ytmlmjkojhfjjlaa
set_option linter.unusedVariables false
set_option linter.unusedSimpArgs false
open Go.RowKit

/-- An instruction's cells. -/
def iC (x : M.I) : List Value := [.int .i64 x.f, .bool x.u, .bool x.v, .int .i64 x.a, .int .i64 x.b, .int .i64 x.c, .int .i64 x.op, .int .i64 x.im]
/-- The instructions, as they lie. -/
def rowC (is : List M.I) : List Value := is.flatMap iC

theorem rowC_at : ∀ (is : List M.I) (k j : Nat) (hk : k < is.length) (hj : j < 8), (rowC is)[8 * k + j]? = (iC is[k])[j]?
  | [], k, j, hk, _ => by simp at hk
  | x :: xs, 0, j, _, hj => by
    show (iC x ++ rowC xs)[8 * 0 + j]? = (iC x)[j]?
    rw [List.getElem?_append_left (by show 8 * 0 + j < 8; omega)]
    congr 1
    omega
  | x :: xs, k + 1, j, hk, hj => by
    show (iC x ++ rowC xs)[8 * (k + 1) + j]? = (iC (xs[k]'(by simpa using hk)))[j]?
    rw [List.getElem?_append_right (by show 8 ≤ 8 * (k + 1) + j; omega)]
    have := rowC_at xs k j (by simpa using hk) hj
    rw [← this]
    congr 1
    show 8 * (k + 1) + j - 8 = _
    omega

/-- A struct out of its block, as a result between two others. -/
theorem res_tmp_cell_tmp {P : Program} {fn : Func} {p u r : Tmp} {ty t : TypeId} {g : Nat} {cs : Array Value} {w : World} {d : TypeDesc} {tmps : Array Value} (h : fn.results = #[.tmp r, .cell p ty, .tmp u])
    (hp : tmps.getD p undef = .pointer (some ⟨g, 0, none⟩)) (hg : Cel w g t cs) (hu : P.underlying ty = some d) (hd : (match d with | .struct _ | .array _ _ => true | _ => false) = true)
    (hi : (P.info? ty).map (·.size) = some cs.size) {v : Value} (hv : v = .tuple #[tmps.getD r undef, .agg cs, tmps.getD u undef]) : (results fn tmps).run P w = .ok v w := by
  subst hv
  have hp' : tmps[p]?.getD undef = .pointer (some ⟨g, 0, none⟩) := by simpa using hp
  simp only [results, h]
  simp [Sem.run_bind, Result.andThen, hp', asAddr, run_loadVar_row w g t ty cs (0, 0) d hg hu hd hi]

/-- Instructions, as they lie. -/
structure Ins (w : World) (g : Nat) (is : List M.I) : Prop where
  at_ : ∀ (k j : Nat) (hk : k < is.length), j < 8 → w.cell? ⟨g, k * 8 + j, none⟩ = (iC is[k])[j]?
  lt : g < w.heap.size
theorem Ins.below {w w' : World} {g : Nat} {is : List M.I} (h : Ins w g is) (hb : Below w.heap.size w w') : Ins w' g is :=
  ⟨fun k j hk hj => (hb.cell (p := ⟨g, k * 8 + j, none⟩) h.lt).trans (h.at_ k j hk hj), Nat.lt_of_lt_of_le h.lt hb.size⟩

theorem Ins.cells {w : World} {g : Nat} {is : List M.I} (h : Ins w g is) (k : Nat) (hk : k < is.length) (x : M.I) (hx : is[k] = x) :
    w.cell? ⟨g, k * 8, none⟩ = some (.int .i64 x.f) ∧ w.cell? ⟨g, k * 8 + 1, none⟩ = some (.bool x.u) ∧ w.cell? ⟨g, k * 8 + 2, none⟩ = some (.bool x.v) ∧ w.cell? ⟨g, k * 8 + 3, none⟩ = some (.int .i64 x.a) ∧
    w.cell? ⟨g, k * 8 + 4, none⟩ = some (.int .i64 x.b) ∧ w.cell? ⟨g, k * 8 + 5, none⟩ = some (.int .i64 x.c) ∧ w.cell? ⟨g, k * 8 + 6, none⟩ = some (.int .i64 x.op) ∧ w.cell? ⟨g, k * 8 + 7, none⟩ = some (.int .i64 x.im) := by
  subst hx
  exact ⟨h.at_ k 0 hk (by decide), h.at_ k 1 hk (by decide), h.at_ k 2 hk (by decide), h.at_ k 3 hk (by decide), h.at_ k 4 hk (by decide), h.at_ k 5 hk (by decide), h.at_ k 6 hk (by decide), h.at_ k 7 hk (by decide)⟩

/-- The words of instructions. -/
def encs (is : List M.I) : List Int := is.map M.encI
theorem encs_bd {is : List M.I} (hg : ∀ (k : Nat) (hk : k < is.length), M.goodI is[k] = true) (i : Int) : 0 ≤ M.at_ (encs is) i ∧ M.at_ (encs is) i < 4294967296 := by
  unfold M.at_ encs
  rw [List.getD_eq_getElem?_getD, List.getElem?_map]
  cases h : is[i.toNat]? with
  | none => simp
  | some x =>
    obtain ⟨hl, hx⟩ := List.getElem?_eq_some_iff.1 h
    have := hg i.toNat hl
    rw [hx] at this
    exact M.enc_bd (of_decide_eq_true this)
theorem encs_next (is : List M.I) (k : Nat) (hk : k < is.length) (x : M.I) (hx : is[k] = x) : ((encs is).take k).map (Value.int .u32) ++ [.int .u32 (M.enc x.f x.u x.v x.a x.b x.c x.op x.im)] = ((encs is).take (k + 1)).map (Value.int .u32) := by
  have hl : k < (encs is).length := by simpa [encs] using hk
  rw [List.take_succ_eq_append_getElem hl, List.map_append]
  subst hx
  simp [encs, M.encI]

/-- Behind k rounds of played. -/
def PlayAt (w : World) (is : List M.I) (k : Nat) (v : Value) (wr : World) : Prop :=
  wr.ownsRow w.heap.size U32T 1 v k (((encs is).take k).map (Value.int .u32)) ∧ Below w.heap.size w wr

theorem play_next {w wr w1 w2 : World} {is : List M.I} {k : Nat} {v v2 : Value} {o : Obj} {x : M.I} (h : PlayAt w is k v wr) (hk : k < is.length) (hx : is[k] = x) (hb1 : Below wr.heap.size wr w1) (hg : (w1.alloc o).grownBy w2 v.ownBlock)
    (hown2 : w2.ownsRow w.heap.size U32T 1 v2 (k + 1) (((encs is).take k).map (Value.int .u32) ++ [.int .u32 (M.enc x.f x.u x.v x.a x.b x.c x.op x.im)])) : PlayAt w is (k + 1) v2 w2 := by
  obtain ⟨hown, hB⟩ := h
  refine ⟨encs_next is k hk x hx ▸ hown2, ?_⟩
  have h1 : Below w.heap.size w (w1.alloc o) := (hB.trans (hb1.mono hB.size)).alloc (Nat.le_trans hB.size hb1.size) o
  exact h1.grown hg h1.size (fun j hj => own_base hown hj)

set_option maxHeartbeats 4000000 in
set_option maxRecDepth 100000 in
theorem played_ok (w : World) (g n c : Nat) (is : List M.I) (inp : ByteArray) (fuel : Nat) (ws : List Int) (s2 : M.St) (x0 x1 x3 x4 : Int) (S : ByteArray) (hws : encs is ++ List.replicate 8 0 = ws) (hs2 : M.runs fuel (st0 ws 0 inp) = s2) (hv : ocV (M.runs fuel (st0 ws 0 inp)) (M.steps fuel (st0 ws 0 inp)) = .agg #[.int .i64 x0, .int .i64 x1, .string S, .int .i64 x3, .int .i64 x4])
    (hnl : n = is.length) (hI : Ins w g is) (hg : ∀ (k : Nat) (hk : k < is.length), M.goodI is[k] = true) (hn0 : 0 < is.length) (hn : is.length ≤ 500) (hi : inp.size ≤ 4096) (hf : fuel ≤ 4194304) :
    Calls Try.prog 16 #[.slice (some ⟨g, 0, none⟩) n c, .string inp, .int .i64 (fuel : Int)] w (fun e w' => ∃ gg gm gw ov', e = .returned (.tuple #[.pointer (some ⟨gg, 0, none⟩), .agg #[.int .i64 x0, .int .i64 x1, .string S, .int .i64 x3, .int .i64 x4], .bool true]) ∧
      Own w' w.heap.size gg gm gw ws.length ov' s2 ∧ Below w.heap.size w w') := by
  subst hnl
  have hN : newE ws.length 0 inp.size = 0 := by
    rw [← hws]
    unfold newE
    rw [if_neg (by simp [encs]; omega), if_neg (by omega), if_neg (by omega)]
  have HN := Lib.hid hN
  have HWS := Lib.hid hws
  have HS2 := Lib.hid hs2
  have HV := Lib.hid hv
  clear hN hws hs2 hv
  obtain ⟨i0, hi0, hz0, hz1, hz2⟩ := info_parts info32
  have HI := Lib.hid hI
  have HG := Lib.hid hg
  clear hI hg
  go_enter Try.func16, Try.ntmps16
  go_wp2
  go_loopw [9, 10, 11, 12] (fun v i _ _ wr => ∃ k : Nat, k ≤ is.length ∧ i = .int .i64 (k : Int) ∧ PlayAt (w.alloc (.cells #[.int .i64 0, .int .i64 0, .string ⟨#[]⟩, .int .i64 0, .int .i64 0] 28)) is k v wr) (fun _ i _ _ _ => is.length - (intOf i).toNat)
  · exact ⟨0, Nat.zero_le _, rfl, ⟨rfl, .inl ⟨rfl, rfl⟩⟩, Below.refl _ _⟩
  obtain ⟨k, hk, rfl, hP⟩ := hrel
  have HP := Lib.hid hP
  clear hP
  by_cases hlt : k < is.length
  · have hJ := (HI.out.below ((Below.refl _ w).alloc (Nat.le_refl _) (.cells #[.int .i64 0, .int .i64 0, .string ⟨#[]⟩, .int .i64 0, .int .i64 0] 28))).below HP.out.2
    obtain ⟨x, hx⟩ : ∃ x, is[k] = x := ⟨_, rfl⟩
    obtain ⟨e0, e1, e2, e3, e4, e5, e6, e7⟩ := hJ.cells k hlt x hx
    have HG1 := Lib.hid (show M.Good x.f x.u x.v x.a x.b x.c x.op x.im from of_decide_eq_true (hx ▸ HG.out k hlt))
    have HX := Lib.hid hx
    clear hJ hx
    go_wp2_with (first
      | (go_at_call 35; refine (renc_yes _ _ _ _ _ _ _ _ _ HG1.out).mono ?_; rintro e w1 ⟨rfl, hb1⟩; have hown1 := own_fr HP.out.1 (Fr.of_below (S := fun _ => False) hb1) (fun _ _ => id); have hs1 := hb1.size; have hs0 := HP.out.2.size)
      | (at_builtin; refine wpList_append_lies _ (by rfl) _ _ _ (by rfl) (w.alloc (.cells #[.int .i64 0, .int .i64 0, .string ⟨#[]⟩, .int .i64 0, .int .i64 0] 28)).heap.size U32T i0 (.int .u32 0) 1 4 Try.underlying32 hi0 hz0 hz1 hz2 rfl (by omega) _ k _ (by rfl) (hown1.alloc _) ⟨w1.heap.size, 0, none⟩ 1 1 [.int .u32 (M.enc x.f x.u x.v x.a x.b x.c x.op x.im)] (by rfl) rfl (World.news_of_block (heap_alloc_new w1 _)) (by simp [Value.oneCell']) (by omega) (by unfold maxLen; omega) (by omega) (by simp at hs0 ⊢; omega) (w1.heap.size + 1) (by simp) ?_; intro b2 cp w2 hown2 hgrow hat hlt2))
    have hnx := play_next HP.out hlt HX.out hb1 hgrow hown2
    go_roundw
    case rel => exact ⟨k + 1, by omega, by go_num, hnx⟩
    case measure => simp [intOf]; omega
  · obtain rfl : k = is.length := by omega
    have hall : (encs is).take is.length = encs is := List.take_of_length_le (by simp [encs])
    have hown := HP.out.1
    rw [hall] at hown
    have HO := Lib.hid hown
    have hs0 := HP.out.2.size
    clear hown hall
    have hO0 := (Cel.new w 28 #[.int .i64 0, .int .i64 0, .string ⟨#[]⟩, .int .i64 0, .int .i64 0]).below HP.out.2 (by simp)
    have HO0 := Lib.hid hO0
    clear hO0
    have HB1 := Lib.hid (((Below.refl _ w).alloc (Nat.le_refl _) (.cells #[.int .i64 0, .int .i64 0, .string ⟨#[]⟩, .int .i64 0, .int .i64 0] 28)).trans (HP.out.2.mono (by simp)))
    go_wp2_with (first
      | (at_builtin; refine wpList_zeros8 rfl _ _ rfl (w.alloc (.cells #[.int .i64 0, .int .i64 0, .string ⟨#[]⟩, .int .i64 0, .int .i64 0] 28)).heap.size is.length _ (encs is) rfl rfl HO.out hn0 (by omega) (encs_bd HG.out) hs0 ?_; intro v2 w2 sp2 c2 hS2 hb2; rw [HWS.out] at hS2; have HZ2 := Lib.hid hS2; have HO1 := Lib.hid (HO0.out.below hb2 (by simp)); have HB2 := Lib.hid (HB1.out.trans (hb2.mono (by simp))); clear hS2 hb2)
      | (go_at_call 18; refine (own_new _ sp2 c2 ws _ 0 inp HZ2.out HN.out).mono ?_; rintro e w3 ⟨gg, gm, gw, rfl, M3, hb3⟩; have HM3 := Lib.hid (M3.mono HB2.out.size); have HO2 := Lib.hid (HO1.out.below hb3 HO1.out.lt); have HB3 := Lib.hid (HB2.out.trans (hb3.mono HB2.out.size)); clear M3 hb3)
      | (go_at_call 19; refine (own_run _ w.heap.size gg gm gw _ _ _ fuel hf HM3.out HB3.out.size).mono ?_; rintro e w4 ⟨he, ov4, M4, hF4, hk4⟩; have HO4 := Lib.hid (HM3.out.keeps hF4 HO2.out); have HB4 := Lib.hid (below_fr HB3.out hF4 HB3.out.size HM3.out.lo); rw [HV.out] at he; rw [HS2.out] at M4; subst he; have HM5 := Lib.hid M4; have HM4 := Lib.hid (M4.alloc (.cells #[.int .i64 x0, .int .i64 x1, .string S, .int .i64 x3, .int .i64 x4] 28)); have O5 := Cel.new w4 28 #[.int .i64 x0, .int .i64 x1, .string S, .int .i64 x3, .int .i64 x4]; have o0 := O5.cell 0; have o1 := O5.cell 1; have o2 := O5.cell 2; have o3 := O5.cell 3; have o4 := O5.cell 4; have O6 := HO4.out.alloc (.cells #[.int .i64 x0, .int .i64 x1, .string S, .int .i64 x3, .int .i64 x4] 28); have HO6 := Lib.hid O6; have q0 := HO4.out.cell 0; have q1 := HO4.out.cell 1; have q2 := HO4.out.cell 2; have q3 := HO4.out.cell 3; have q4 := HO4.out.cell 4; have qf := HO4.out.frozen; have qlt := HO4.out.lt; have qlt1 : w.heap.size < w4.heap.size + 1 := (by omega); have qne : w.heap.size ≠ w4.heap.size := (by omega); have qne' : w4.heap.size ≠ w.heap.size := (by omega); clear M4 hF4 hk4 O5 O6)
      | fail)
    go_region
    go_wp2
    have F5 : Fr (fun k => k = w.heap.size) w4 _ := ((fr_set (fr_set (fr_set (fr_set (fr_set (Fr.refl _ w4) 0 (.int .i64 x0)) 1 (.int .i64 x1)) 2 (.string S)) 3 (.int .i64 x3)) 4 (.int .i64 x4)).alloc (.cells #[.int .i64 x0, .int .i64 x1, .string S, .int .i64 x3, .int .i64 x4] 28)).drew
    refine bodyPost_ret (res_tmp_cell_tmp rfl rfl ((((((HO4.out.set 0 (.int .i64 x0)).set 1 (.int .i64 x1)).set 2 (.string S)).set 3 (.int .i64 x3)).set 4 (.int .i64 x4)).alloc (.cells #[.int .i64 x0, .int .i64 x1, .string S, .int .i64 x3, .int .i64 x4] 28)).drew Try.underlying28 rfl (by kernel_rfl) rfl) rfl ⟨gg, gm, gw, ov4, rfl, ?_, ?_⟩
    · exact HM5.out.fr F5 (fun k hk e => HM5.out.not_cel HO4.out (e ▸ hk))
    · exact below_fr HB4.out F5 HB4.out.size (fun k hk => by omega)

theorem Ins.of_cel {w : World} {g : Nat} {t : TypeId} {is : List M.I} (h : Cel w g t (rowC is).toArray) : Ins w g is :=
  ⟨fun k j hk hj => by rw [h.cell, List.getElem?_toArray, Nat.mul_comm]; exact rowC_at is k j hk hj, h.lt⟩

abbrev IT : TypeId := 24
theorem infoI : (Try.prog.info? 24).map (fun i => (i.zero, i.size, i.bytes)) = some (some (.agg #[.int .i64 0, .bool false, .bool false, .int .i64 0, .int .i64 0, .int .i64 0, .int .i64 0, .int .i64 0]), 8, 56) := by kernel_rfl

theorem rowC_append (l m : List M.I) : rowC (l ++ m) = rowC l ++ rowC m := by simp [rowC]

/-- Instructions that a row owns. -/
theorem Ins.of_own {w : World} {base n : Nat} {v : Value} {is : List M.I} (h : w.ownsRow base IT 8 v n (rowC is)) (hn : n = is.length) (h0 : 0 < n) : ∃ g c, v = .slice (some ⟨g, 0, none⟩) n c ∧ base ≤ g ∧ Ins w g is := by
  subst hn
  rcases h.2 with ⟨_, e⟩ | ⟨g, cap, cur, rfl, hb, hgg, h1, h2, h3, h4⟩
  · omega
  · refine ⟨g, cap, rfl, hb, ⟨fun k j hk hj => ?_, (Array.getElem?_eq_some_iff.1 hgg).1⟩⟩
    rw [cell_of_row w g _ cur IT (0, 0) hgg]
    have h5 : (cur.toList.take (is.length * 8))[k * 8 + j]? = (rowC is)[k * 8 + j]? := by rw [h4]
    rw [List.getElem?_take, if_pos (by omega), Array.getElem?_toList] at h5
    rw [h5, Nat.mul_comm]
    exact rowC_at is k j hk hj


end Go.Proofs.Ytmlmjkojhfjjlaa
