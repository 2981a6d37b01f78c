/- A machine and the document's side by side; the law's own same. -/
import Derived.Test.YtmlmjkojhfjjlaaRunsA
import Derived.Test.YtmlmjkojhfjjlaaTwo
import Derived.Test.YtmlmjkojhfjjlaaNone

/- Same: The law's own 'same': a machine and the document's stand alike. -/
namespace Go.Proofs.Ytmlmjkojhfjjlaa
set_option linter.unusedVariables false
set_option linter.unusedSimpArgs false
open Go.RowKit

/-- What a call that copies words leaves. -/
def RetWds (f : Value → Value) (ws : List Int) (w : World) (e : Ending) (w' : World) : Prop := ∃ v', e = .returned (f v') ∧ wordsIn w' v' ws ∧ Below w.heap.size w w'

theorem wordsIn_cel {w : World} {g c : Nat} {ws : List Int} {rest : List Value} (h : Cel w g U32T (wds ws rest)) : wordsIn w (.slice (some ⟨g, 0, none⟩) ws.length c) ws := by
  refine ⟨_, c, rfl, fun k hk => ⟨_, rfl, ?_⟩⟩
  have hplain : (⟨g, 0, none⟩ : Addr).add k = ⟨g, k, none⟩ := by unfold Addr.add; split <;> simp_all
  rw [hplain, h.cell, wds_at k hk]
  rw [List.getD_eq_getElem?_getD, List.getElem?_eq_getElem hk]
  rfl
theorem wordsIn_below {w w' : World} {v : Value} {ws : List Int} (h : wordsIn w v ws) (hb : Below w.heap.size w w') : wordsIn w' v ws := by
  obtain ⟨sp, c, hv, hc⟩ := h
  exact ⟨sp, c, hv, fun k hk => let ⟨ad, e, hh⟩ := hc k hk; ⟨ad, e, (hb.cell (World.block_lt_of_cell? w _ hh)).trans hh⟩⟩
theorem wordsIn_drewN {w : World} {v : Value} {ws : List Int} (h : wordsIn w v ws) (n : Nat) : wordsIn (w.drewN n) v ws := h

theorem src_cel {w : World} {g c : Nat} {ws : List Int} {rest : List Value} (h : Cel w g U32T (wds ws rest)) (hb : ∀ i, 0 ≤ M.at_ ws i ∧ M.at_ ws i < 4294967296) : Src w (.slice (some ⟨g, 0, none⟩) ws.length c) (some ⟨g, 0, none⟩) c ws := by
  refine ⟨rfl, fun _ => ⟨_, rfl, fun j u hj => ?_⟩, hb⟩
  have hplain : (⟨g, 0, none⟩ : Addr).add j = ⟨g, j, none⟩ := by unfold Addr.add; split <;> simp_all
  have hl : j < ws.length := by
    have := (List.getElem?_eq_some_iff.1 hj).1
    simpa using this
  rw [hplain, h.cell, wds_at j hl]
  rw [List.getElem?_map, List.getElem?_eq_getElem hl] at hj
  rw [List.getD_eq_getElem?_getD, List.getElem?_eq_getElem hl]
  exact hj

set_option maxHeartbeats 1000000 in
set_option maxRecDepth 100000 in
theorem clone_any (w : World) (g c : Nat) (ws : List Int) (h : Src w (.slice (some ⟨g, 0, none⟩) ws.length c) (some ⟨g, 0, none⟩) c ws) (hl : ws.length ≤ 65536) :
    Calls Try.prog 65 #[.slice (some ⟨g, 0, none⟩) ws.length c] w (RetWds id ws w) := by
  have HH := Lib.hid h
  clear h
  have hq := fun (W : World) => Lib.run_eql_slice_nil (P := Try.prog) W 32 54 (some ⟨g, 0, none⟩) ws.length c 0 0 Try.underlying32
  go_enter Try.func65, Try.ntmps65
  go_wp2_with (first
    | (at_builtin; refine wpList_copy_words2 rfl _ _ rfl w.heap.size _ _ _ ws rfl rfl rfl (Cel.new w _ _) (HH.out.below ((Below.refl _ w).alloc (Nat.le_refl _) _)) (by omega) ?_; intro gw cap rst w1 hC hcap hgw hb; have HC := Lib.hid hC; have HB := Lib.hid (((Below.refl _ w).alloc (Nat.le_refl _) (.cells #[] U32T)).trans hb); clear hC hb)
    | fail)
  go_ret
  exact ⟨_, rfl, wordsIn_cel HC.out, HB.out⟩

set_option maxHeartbeats 1000000 in
set_option maxRecDepth 100000 in
theorem mwords_any (w : World) (gm gw cap : Nat) (mem : List Int) (rest : List Value) (h : MemAt w gm gw cap mem rest) :
    Calls Try.prog 45 #[.pointer (some ⟨gm, 0, none⟩), .int .i64 0, .int .i64 (mem.length : Int)] w (RetWds (fun v => .tuple #[v, .bool true]) mem w) := by
  have HZ := Lib.hid (size_any w gm gw cap mem rest h)
  have c0 := h.hd.cell 0
  have hle := h.le
  have hlc := h.lc
  have HK := Lib.hid (src_cel (c := cap) h.ws h.bd)
  clear h
  by_cases h0 : mem.length = 0
  · have e0 : ((mem.length : Int) == 0) = true := by simp [h0]
    have H0 := Lib.hid (List.eq_nil_of_length_eq_zero h0)
    clear h0
    go_enter Try.func45, Try.ntmps45
    go_wp2_with (first
      | (go_at_call 46; refine HZ.out.mono ?_; rintro e w' ⟨rfl, rfl⟩)
      | fail)
    go_ret2
    refine ⟨.slice none 0 0, rfl, ?_, Below.refl _ _⟩
    rw [H0.out]
    exact ⟨none, 0, rfl, fun k hk => by simp at hk⟩
  · have e0 : ((mem.length : Int) == 0) = false := by simpa using h0
    clear h0
    go_enter Try.func45, Try.ntmps45
    go_wp2_with (first
      | (go_at_call 46; refine HZ.out.mono ?_; rintro e w' ⟨rfl, rfl⟩)
      | (go_at_call 65; refine (clone_any _ gw cap mem HK.out hle).mono ?_; rintro e w1 ⟨v', rfl, hw, hb⟩; have HWW := Lib.hid hw; have HB := Lib.hid hb; clear hw hb)
      | fail)
    go_ret2
    exact ⟨v', rfl, HWW.out, HB.out⟩

/-- Behind k rounds of the document's Words. -/
def MwAt (w : World) (mem : List Int) (k : Nat) (v : Value) (wr : World) : Prop := wr.ownsRow w.heap.size U32T 1 v k ((mem.take k).map (Value.int .u32)) ∧ Below w.heap.size w wr
theorem mw_next {w wr w2 : World} {mem : List Int} {k : Nat} {v v2 : Value} {o : Obj} (h : MwAt w mem k v wr) (hk : k < mem.length) (hg : (wr.alloc o).grownBy w2 v.ownBlock)
    (hown2 : w2.ownsRow w.heap.size U32T 1 v2 (k + 1) ((mem.take k).map (Value.int .u32) ++ [.int .u32 (mem.getD k 0)])) : MwAt w mem (k + 1) v2 w2 := by
  obtain ⟨hown, hB⟩ := h
  refine ⟨?_, ?_⟩
  · rw [List.take_succ_eq_append_getElem hk, List.map_append]
    rw [List.getD_eq_getElem?_getD, List.getElem?_eq_getElem hk] at hown2
    exact hown2
  · have h1 : Below w.heap.size w (wr.alloc o) := hB.alloc hB.size o
    exact h1.grown hg h1.size (fun j hj => own_base hown hj)

set_option maxHeartbeats 1000000 in
set_option maxRecDepth 100000 in
theorem rwordsm_any (w : World) (gm gw cap : Nat) (mem : List Int) (rest : List Value) (h : RMemAt w gm gw cap mem rest) :
    Calls Try.prog 47 #[.pointer (some ⟨gm, 0, none⟩), .int .i64 0, .int .i64 (mem.length : Int)] w (RetWds (fun v => .tuple #[v, .bool true]) mem w) := by
  have HZ := Lib.hid (rsize_any w gm gw cap mem rest h)
  have hle := h.le
  have hlc := h.lc
  have HH := Lib.hid h
  obtain ⟨i0, hi0, hz0, hz1, hz2⟩ := info_parts info32
  clear h
  go_enter Try.func47, Try.ntmps47
  go_wp2_with (first
    | (go_at_call 48; refine HZ.out.mono ?_; rintro e w' ⟨rfl, rfl⟩)
    | fail)
  go_loopw [8, 9] (fun v i wr => ∃ k : Nat, k ≤ mem.length ∧ i = .int .i64 (k : Int) ∧ MwAt w mem k v wr) (fun _ i _ => mem.length - (intOf i).toNat)
  · exact ⟨0, Nat.zero_le _, rfl, ⟨rfl, .inl ⟨rfl, rfl⟩⟩, Below.refl _ _⟩
  obtain ⟨k, hk, rfl, hP⟩ := hrel
  have HP := Lib.hid hP
  clear hP
  by_cases hlt : k < mem.length
  · have hM := HH.out.fr (Fr.of_below (S := fun _ => False) HP.out.2) id id
    have c0 := hM.hd.cell 0
    have cw : wr.cell? ⟨gw, k, none⟩ = some (.int .u32 (mem.getD k 0)) := by rw [hM.ws.cell, wds_at k hlt]
    have hs0 := HP.out.2.size
    have hlt' : (k : Int) < (mem.length : Int) := by omega
    obtain ⟨x, hx⟩ : ∃ x, mem.getD k 0 = x := ⟨_, rfl⟩
    rw [hx] at cw
    have HX := Lib.hid hx
    have hown := HP.out.1
    clear hM hx
    go_wp2_with (at_builtin; refine wpList_append_lies _ (by rfl) _ _ _ (by rfl) w.heap.size U32T i0 (.int .u32 0) 1 4 Try.underlying32 hi0 hz0 hz1 hz2 rfl (by omega) _ k _ (by rfl) (hown.alloc _) ⟨wr.heap.size, 0, none⟩ 1 1 [.int .u32 x] (by rfl) rfl (World.news_of_block (heap_alloc_new wr _)) (by simp [Value.oneCell']) (by omega) (by unfold maxLen; omega) (by omega) (by simp; omega) (wr.heap.size + 1) (by simp) ?_; intro b2 cp w2 hown2 hgrow hat hlt2)
    have hnx := mw_next HP.out hlt hgrow (by rw [HX.out]; exact hown2)
    go_roundw
    case rel => exact ⟨k + 1, by omega, by go_num, hnx⟩
    case measure => simp [intOf]; omega
  · obtain rfl : k = mem.length := by omega
    have hall : mem.take mem.length = mem := List.take_length
    have hown := HP.out.1
    rw [hall] at hown
    have HO := Lib.hid hown
    clear hown hall
    go_wp2
    go_ret2
    obtain ⟨sp, c, hS⟩ := src_own HO.out HH.out.bd
    exact ⟨_, rfl, wordsIn_src hS, HP.out.2⟩

end Go.Proofs.Ytmlmjkojhfjjlaa


/- Duet: A machine and the document's side by side; the law's own 'same' of two that stand alike. -/
namespace Go.Proofs.Ytmlmjkojhfjjlaa
set_option linter.unusedVariables false
set_option linter.unusedSimpArgs false
open Go.RowKit

/-- A machine and the document's, made since w0. -/
structure Duet (w0 w : World) (g gm gw cap : Nat) (ov : Value) (s : M.St) (g2 gm2 gw2 cap2 : Nat) (rest2 : List Value) (ov2 : Value) (st : Int) (s2 : M.St) : Prop where
  m : Own w w0.heap.size g gm gw cap ov s
  n : DMach w g2 gm2 gw2 cap2 rest2 ov2 st s2
  wf : Wf s2
  lo : ∀ k, MB g2 gm2 gw2 ov2 k → w0.heap.size ≤ k
  ap : ∀ k, MB g gm gw ov k → ¬ MB g2 gm2 gw2 ov2 k
  b : Below w0.heap.size w0 w

theorem DMach.lt {w : World} {g gm gw cap : Nat} {rest : List Value} {ov : Value} {st : Int} {s : M.St} (h : DMach w g gm gw cap rest ov st s) {k : Nat} (hk : MB g gm gw ov k) : k < w.heap.size := by
  rcases hk with rfl | rfl | rfl | hk
  · exact h.mc.lt
  · exact h.mm.hd.lt
  · exact h.mm.ws.lt
  · exact own_lt h.ow hk
theorem DMach.fr' {S : Nat → Prop} {w w' : World} {g gm gw cap : Nat} {rest : List Value} {ov : Value} {st : Int} {s : M.St} (h : DMach w g gm gw cap rest ov st s) (hF : Fr S w w') (hS : ∀ k, MB g gm gw ov k → ¬ S k) : DMach w' g gm gw cap rest ov st s :=
  h.fr hF (hS _ (.inl rfl)) (hS _ (.inr (.inl rfl))) (hS _ (.inr (.inr (.inl rfl)))) (fun k hk => hS k (.inr (.inr (.inr hk))))
theorem DMach.not_cel {B : Nat} {cs : Array Value} {w : World} {g gm gw cap : Nat} {rest : List Value} {ov : Value} {st : Int} {s : M.St} (h : DMach w g gm gw cap rest ov st s) (hc : Cel w B 28 cs) : ¬ MB g gm gw ov B := by
  rintro (e | e | e | e)
  · exact h.mc.ne hc (by decide) e.symm
  · exact h.mm.hd.ne hc (by decide) e.symm
  · exact h.mm.ws.ne hc (by decide) e.symm
  · exact own_cel_ne h.ow hc (by decide) e
theorem DMach.play_cel {B : Nat} {cs : Array Value} {w : World} {g gm gw cap : Nat} {rest : List Value} {ov : Value} {st : Int} {s : M.St} (h : DMach w g gm gw cap rest ov st s) {e : Ending} {v : Value} {w' : World} {st' : Int} {s' : M.St} (hR : RetRR v g gm gw cap rest ov st' s' w e w') (hb : Nat) (hle : hb ≤ w.heap.size) :
    e = .returned v ∧ ∃ ov', DMach w' g gm gw cap rest ov' st' s' ∧ Fr (MB g gm gw ov) w w' ∧ (∀ k, MB g gm gw ov' k → MB g gm gw ov k ∨ w.heap.size ≤ k) := by
  obtain ⟨he, ov', hM, hF, hA⟩ := hR
  refine ⟨he, ov', hM, hF.mono ?_, ?_⟩
  · rintro k (e | e | e)
    · exact .inl e
    · exact .inr (.inr (.inl e))
    · exact .inr (.inr (.inr e))
  · rintro k (e | e | e | e)
    · exact .inl (.inl e)
    · exact .inl (.inr (.inl e))
    · exact .inl (.inr (.inr (.inl e)))
    · rcases hA with hA | ⟨b, hb', hle⟩
      · exact .inl (.inr (.inr (.inr (hA ▸ e))))
      · rw [hb'] at e; injection e with e; exact .inr (by omega)

section
variable {w0 w w' : World} {g gm gw cap g2 gm2 gw2 cap2 : Nat} {rest2 : List Value} {ov ov2 : Value} {s s2 : M.St} {st : Int}
theorem Duet.fr {S : Nat → Prop} (h : Duet w0 w g gm gw cap ov s g2 gm2 gw2 cap2 rest2 ov2 st s2) (hF : Fr S w w') (h1 : ∀ k, MB g gm gw ov k → ¬ S k) (h2 : ∀ k, MB g2 gm2 gw2 ov2 k → ¬ S k) (hS : ∀ k, S k → w0.heap.size ≤ k) : Duet w0 w' g gm gw cap ov s g2 gm2 gw2 cap2 rest2 ov2 st s2 :=
  ⟨h.m.fr hF h1, h.n.fr' hF h2, h.wf, h.lo, h.ap, below_fr h.b hF h.b.size hS⟩
theorem Duet.alloc (h : Duet w0 w g gm gw cap ov s g2 gm2 gw2 cap2 rest2 ov2 st s2) (o : Obj) : Duet w0 (w.alloc o) g gm gw cap ov s g2 gm2 gw2 cap2 rest2 ov2 st s2 :=
  h.fr (S := fun _ => False) ((Fr.refl _ w).alloc o) (fun _ _ => id) (fun _ _ => id) (fun _ h => h.elim)
theorem Duet.drewN (h : Duet w0 w g gm gw cap ov s g2 gm2 gw2 cap2 rest2 ov2 st s2) (n : Nat) : Duet w0 (w.drewN n) g gm gw cap ov s g2 gm2 gw2 cap2 rest2 ov2 st s2 :=
  h.fr (S := fun _ => False) ((Fr.refl _ w).drewN n) (fun _ _ => id) (fun _ _ => id) (fun _ h => h.elim)
theorem Duet.below (h : Duet w0 w g gm gw cap ov s g2 gm2 gw2 cap2 rest2 ov2 st s2) (hb : Below w.heap.size w w') : Duet w0 w' g gm gw cap ov s g2 gm2 gw2 cap2 rest2 ov2 st s2 :=
  h.fr (S := fun _ => False) (Fr.of_below hb) (fun _ _ => id) (fun _ _ => id) (fun _ h => h.elim)
end

theorem duet_run1 {w0 w : World} {g gm gw cap g2 gm2 gw2 cap2 : Nat} {rest2 : List Value} {ov ov2 : Value} {s s2 : M.St} {st : Int} (kv : Int) (k : Nat) (hkv : kv = (k : Int)) (hk : k ≤ 4194304) (h : Duet w0 w g gm gw cap ov s g2 gm2 gw2 cap2 rest2 ov2 st s2) :
    Calls Try.prog 19 #[.pointer (some ⟨g, 0, none⟩), .int .i64 kv] w (fun e w' => e = .returned (.tuple #[ocV (M.runs k s) (M.steps k s), .int .i64 0]) ∧
      ∃ ov', Duet w0 w' g gm gw cap ov' (M.runs k s) g2 gm2 gw2 cap2 rest2 ov2 st s2 ∧ Fr (MB g gm gw ov) w w') := by
  subst hkv
  refine (own_run w _ g gm gw cap ov s k hk h.m h.b.size).mono ?_
  rintro e w' ⟨he, ov', hM, hF, hkeep⟩
  refine ⟨he, ov', ⟨hM, h.n.fr' hF (fun k a b => h.ap k b a), h.wf, h.lo, fun k a b => ?_, below_fr h.b hF h.b.size (fun k hk => h.m.lo k hk)⟩, hF⟩
  rcases hkeep k a with h1 | h1
  · exact h.ap k h1 b
  · have := h.n.lt b; omega

theorem duet_run2 {w0 w : World} {g gm gw cap g2 gm2 gw2 cap2 : Nat} {rest2 : List Value} {ov ov2 : Value} {s s2 : M.St} {st : Int} (kv : Int) (k : Nat) (hkv : kv = (k : Int)) (hk : k ≤ 4194304) (h : Duet w0 w g gm gw cap ov s g2 gm2 gw2 cap2 rest2 ov2 st s2) :
    Calls Try.prog 33 #[.pointer (some ⟨g2, 0, none⟩), .int .i64 kv] w (fun e w' => e = .returned (.tuple #[ocV (M.runs k s2) (M.steps k s2), .int .i64 0]) ∧
      ∃ ov' st', Duet w0 w' g gm gw cap ov s g2 gm2 gw2 cap2 rest2 ov' st' (M.runs k s2) ∧ Fr (MB g2 gm2 gw2 ov2) w w') := by
  subst hkv
  refine (rrunm_any w g2 gm2 gw2 cap2 rest2 ov2 st s2 k hk h.n h.wf).mono ?_
  rintro e w' ⟨hR, hwf⟩
  obtain ⟨he, ov', hM, hF, hkeep⟩ := h.n.play_cel (B := 0) (cs := #[]) hR 0 (Nat.zero_le _)
  refine ⟨he, ov', _, ⟨h.m.fr hF (fun k a b => h.ap k a b), hM, hwf, fun k hk => ?_, fun k a b => ?_, below_fr h.b hF h.b.size (fun k hk => h.lo k hk)⟩, hF⟩
  · rcases hkeep k hk with h1 | h1
    · exact h.lo k h1
    · exact Nat.le_trans h.b.size h1
  · rcases hkeep k b with h1 | h1
    · exact h.ap k a h1
    · have := h.m.lt a; omega

set_option maxHeartbeats 1000000 in
set_option maxRecDepth 100000 in
theorem cmem_any (w : World) (base g gm gw cap : Nat) (ov : Value) (s : M.St) (h : Own w base g gm gw cap ov s) :
    Calls Try.prog 29 #[.pointer (some ⟨g, 0, none⟩)] w (Ret (.pointer (some ⟨gm, 0, none⟩)) w) := by
  obtain ⟨c16, c17, c18, c19, c20, c21, c22, c23, c24, c25, c26, c27⟩ := mach_fld h.m.mc h.wf.rl
  clear h c16 c17 c18 c19 c20 c21 c23 c24 c25 c26 c27
  go_enter Try.func29, Try.ntmps29
  go_wp2
  go_ret
  exact ⟨rfl, rfl⟩

theorem quiet_retDD {f : FuncId} {args : Array Value} {w : World} {n : Nat} {v : Value} (h : Calls Try.prog f args (w.drewN n) (RetD v (w.drewN n))) :
    Calls Try.prog f args (w.drewN n) fun e w' => e = .returned v ∧ ∃ m, w' = w.drewN m := h.mono fun _ _ ⟨h1, k, h2⟩ => ⟨h1, n + k, by rw [h2]; simp⟩

set_option maxHeartbeats 4000000 in
set_option maxRecDepth 100000 in
theorem same_ok {w0 w : World} {g gm gw cap g2 gm2 gw2 cap2 : Nat} {rest2 : List Value} {ov ov2 : Value} {s : M.St} {st : Int} (h : Duet w0 w g gm gw cap ov s g2 gm2 gw2 cap2 rest2 ov2 st s) :
    Calls Try.prog 34 #[.pointer (some ⟨g, 0, none⟩), .pointer (some ⟨g2, 0, none⟩)] w (RetB (.bool true) w) := by
  have HD := Lib.hid h
  have hle := h.m.m.mm.le
  clear h
  go_enter Try.func34, Try.ntmps34
  go_wp2
  go_loopw [5] (fun i wr => ∃ k q : Nat, k ≤ 16 ∧ i = .int .i64 (k : Int) ∧ wr = w.drewN q) (fun i _ => 16 - (intOf i).toNat)
  · exact ⟨0, 0, Nat.zero_le _, rfl, rfl⟩
  obtain ⟨k, q, hk, rfl, rfl⟩ := hrel
  by_cases hlt : k < 16
  · have hlt' : (k : Int) < 16 := by omega
    have c2 := (HD.out.n.mc.cell k).trans (dc_reg HD.out.wf.rl k hlt)
    have hR := fun n => reg_any _ _ g gm gw cap ov s (k : Int) (HD.out.drewN (q + n)).m (by omega) (by omega)
    have ex : M.at_ s.r (k : Int) = s.r.getD k 0 := by unfold M.at_; simp
    simp only [ex] at hR
    have HR := Lib.hid hR
    clear hR ex
    generalize s.r.getD k 0 = x at *
    go_wp2
    go_quiet ((go_at_call 28; exact quiet_same2 (HR.out _)))
    go_wp2
    go_roundw
    case rel => exact ⟨k + 1, _, by omega, by go_num, rfl⟩
    case measure => simp [intOf]; omega
  · have : k = 16 := by omega
    subst this
    have hW := HD.out.drewN q
    have HB0 := Lib.hid (below_drewN (Below.refl w.heap.size w) q)
    generalize w.drewN q = W at *
    have HDW := Lib.hid hW
    clear hW
    go_wp2_with (first
      | (go_at_call 29; refine (cmem_any _ _ g gm gw cap ov s HDW.out.m).mono ?_; rintro e w' ⟨rfl, rfl⟩)
      | (go_at_call 46; refine (size_any _ gm gw cap s.mem [] HDW.out.m.m.mm).mono ?_; rintro e w' ⟨rfl, rfl⟩)
      | (go_at_call 45; refine (mwords_any _ gm gw cap s.mem [] HDW.out.m.m.mm).mono ?_; rintro e w1 ⟨v1, rfl, hw1, hb1⟩; have HW1 := Lib.hid hw1; have HD1 := Lib.hid (HDW.out.below hb1); have HB1 := Lib.hid (HB0.out.trans (hb1.mono HB0.out.size)); clear hw1 hb1)
      | fail)
    have c22 := (HD1.out.n.mc.cell 22).trans (dc_fld HD1.out.wf.rl 6)
    have z2 := HD1.out.n.mc.lt
    have HZ := Lib.hid (fun n => rsize_any _ gm2 gw2 cap2 s.mem rest2 (HD1.out.n.drewN n).mm)
    have HK : Hid (∀ w2 : World, Below (w1.drewN 1).heap.size (w1.drewN 1) w2 → w2.cell? ⟨g2, 22, none⟩ = some (.pointer (some ⟨gm2, 0, none⟩))) := Lib.hid (fun w2 hb => (hb.cell (p := ⟨g2, 22, none⟩) z2).trans c22)
    go_region_held3 (fun w' => w'.cell? ⟨g2, 22, none⟩ = some (.pointer (some ⟨gm2, 0, none⟩)))
      (first | go_keep | (with_reducible exact HK.out _ hb2))
      (first | (go_at_call 48; refine (HZ.out 1).mono ?_; rintro e w' ⟨rfl, rfl⟩) | (go_at_call 47; refine (rwordsm_any _ gm2 gw2 cap2 s.mem rest2 (HD1.out.n.drewN 1).mm).mono ?_; rintro e w2 ⟨v2, rfl, hw2, hb2⟩))
    have hb2' : Below w1.heap.size w1 w2 := ⟨hb2.os, hb2.tape, hb2.output, hb2.size, hb2.block⟩
    have HB2 := Lib.hid (HB1.out.trans (hb2'.mono HB1.out.size))
    have HD2 := Lib.hid (HD1.out.below hb2')
    have HW2 := Lib.hid hw2
    have HV2 := Lib.hid (wordsIn_below HW1.out hb2')
    have c21 := (HD2.out.n.mc.cell 21).trans (dc_fld HD2.out.wf.rl 5)
    clear hb2 hb2' hw2 c22 z2 HK HZ
    have HP := Lib.hid (fun n => pc_is _ _ g gm gw cap ov s s.pc (HD2.out.drewN n).m rfl)
    have HQ := Lib.hid (fun n => rwords_same (w2.drewN n) v1 v2 s.mem (wordsIn_drewN HV2.out n) (wordsIn_drewN HW2.out n) (by omega))
    have HR1 := Lib.hid (fun n => reg_out (w2.drewN n) g 16 (.inr (by decide)))
    have HR2 := Lib.hid (fun n => reg_out (w2.drewN n) g (-1) (.inl (by decide)))
    have hpc : (s.pc == s.pc) = true := by simp
    go_wp2
    go_quiet ((first | (go_at_call 20; exact quiet_retD (HP.out _)) | (go_at_call 27; exact quiet_retDD (HQ.out _)) | (go_at_call 28; first | with_reducible exact quiet_retD (HR1.out _) | with_reducible exact quiet_retD (HR2.out _))))
    go_wp2
    go_ret
    exact ⟨ret_b (by first | rfl | simp), below_drewN HB2.out _⟩

theorem mb_none {g gm gw : Nat} {k B : Nat} (h1 : B ≤ g) (h2 : B ≤ gm) (h3 : B ≤ gw) (h : MB g gm gw (.slice none 0 0) k) : B ≤ k := by
  rcases h with rfl | rfl | rfl | h
  · exact h1
  · exact h2
  · exact h3
  · simp [Value.ownBlock] at h

/-- The two machines, newly made. -/
theorem duet_new {w0 w2 w3 : World} {g gm gw cap g2 gm2 gw2 cap2 : Nat} {rest2 : List Value} {s : M.St} {st : Int} (hM : Own w2 w0.heap.size g gm gw cap (.slice none 0 0) s) (hD : DMach w3 g2 gm2 gw2 cap2 rest2 (.slice none 0 0) st s)
    (hb2 : Below w0.heap.size w0 w2) (hb3 : Below w2.heap.size w2 w3) (k1 : w2.heap.size ≤ g2) (k2 : w2.heap.size ≤ gm2) (k3 : w2.heap.size ≤ gw2) : Duet w0 w3 g gm gw cap (.slice none 0 0) s g2 gm2 gw2 cap2 rest2 (.slice none 0 0) st s :=
  ⟨hM.below hb3, hD, hM.wf, fun k hk => Nat.le_trans hb2.size (mb_none k1 k2 k3 hk), fun k ha hb => by have h1 := hM.lt ha; have h2 := mb_none k1 k2 k3 hb; omega, hb2.trans (hb3.mono hb2.size)⟩

/-- Where the rounds of CpuRuns stand. -/
def CrAt (w : World) (g gm gw cap g2 gm2 gw2 cap2 : Nat) (rest2 : List Value) (wr : World) : Prop := ∃ ov s ov2 st, Duet w wr g gm gw cap ov s g2 gm2 gw2 cap2 rest2 ov2 st s
theorem cr_1 {w W : World} {g gm gw cap g2 gm2 gw2 cap2 : Nat} {rest2 : List Value} {ov s ov2 st} (h : Duet w W g gm gw cap ov s g2 gm2 gw2 cap2 rest2 ov2 st s) : CrAt w g gm gw cap g2 gm2 gw2 cap2 rest2 W := ⟨ov, s, ov2, st, h⟩

/-- What a Run at whatever fuel answers. -/
def CrO (s : M.St) (x : Int) (O : Value) (E : Int) (s' : M.St) : Prop :=
  (∃ k : Nat, x = (k : Int) ∧ k ≤ 4194304 ∧ O = ocV (M.runs k s) (M.steps k s) ∧ E = 0 ∧ s' = M.runs k s) ∨ ((x < 0 ∨ 4194304 < x) ∧ O = .agg #[.int .i64 0, .int .i64 0, .string ⟨#[]⟩, .int .i64 0, .int .i64 0] ∧ E = 1 ∧ s' = s)
theorem cro_some (s : M.St) (x : Int) : ∃ e t S n r E s', CrO s x (.agg #[.int .i64 e, .int .i64 t, .string S, .int .i64 n, .int .i64 r]) E s' := by
  by_cases hk : x < 0 ∨ 4194304 < x
  · exact ⟨0, 0, ⟨#[]⟩, 0, 0, 1, s, .inr ⟨hk, rfl, rfl, rfl⟩⟩
  · obtain ⟨k, rfl⟩ := Int.eq_ofNat_of_zero_le (show 0 ≤ x by omega)
    exact ⟨_, _, _, _, _, 0, _, .inl ⟨k, rfl, by omega, rfl, rfl, rfl⟩⟩

theorem duet_any1 {w0 w : World} {g gm gw cap g2 gm2 gw2 cap2 : Nat} {rest2 : List Value} {ov ov2 : Value} {s s2 s' : M.St} {st x E : Int} {O : Value} (h : Duet w0 w g gm gw cap ov s g2 gm2 gw2 cap2 rest2 ov2 st s2) (hO : CrO s x O E s') :
    Calls Try.prog 19 #[.pointer (some ⟨g, 0, none⟩), .int .i64 x] w (fun e w' => e = .returned (.tuple #[O, .int .i64 E]) ∧
      ∃ ov', Duet w0 w' g gm gw cap ov' s' g2 gm2 gw2 cap2 rest2 ov2 st s2 ∧ Fr (MB g gm gw ov) w w') := by
  rcases hO with ⟨k, hx, hk, rfl, rfl, rfl⟩ | ⟨hx, rfl, rfl, rfl⟩
  · exact duet_run1 x k hx hk h
  · refine (run_bad w g x hx).mono ?_
    rintro e w' ⟨he, hb⟩
    exact ⟨he, ov, h.below hb, Fr.of_below hb⟩
theorem duet_any2 {w0 w : World} {g gm gw cap g2 gm2 gw2 cap2 : Nat} {rest2 : List Value} {ov ov2 : Value} {s s2 s' : M.St} {st x E : Int} {O : Value} (h : Duet w0 w g gm gw cap ov s g2 gm2 gw2 cap2 rest2 ov2 st s2) (hO : CrO s2 x O E s') :
    Calls Try.prog 33 #[.pointer (some ⟨g2, 0, none⟩), .int .i64 x] w (fun e w' => e = .returned (.tuple #[O, .int .i64 E]) ∧
      ∃ ov' st', Duet w0 w' g gm gw cap ov s g2 gm2 gw2 cap2 rest2 ov' st' s' ∧ Fr (MB g2 gm2 gw2 ov2) w w') := by
  rcases hO with ⟨k, hx, hk, rfl, rfl, rfl⟩ | ⟨hx, rfl, rfl, rfl⟩
  · exact duet_run2 x k hx hk h
  · refine (rrunm_bad w g2 x hx).mono ?_
    rintro e w' ⟨he, hb⟩
    exact ⟨he, ov2, st, h.below hb, Fr.of_below hb⟩

end Go.Proofs.Ytmlmjkojhfjjlaa
