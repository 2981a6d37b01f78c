/- The document's run; how its machine is made. -/
import Derived.Test.YtmlmjkojhfjjlaaDocStep
import Derived.Test.YtmlmjkojhfjjlaaRReckA
import Derived.Test.YtmlmjkojhfjjlaaRReckB
import Derived.Test.YtmlmjkojhfjjlaaRun
import Derived.Deep.LoopGhost
import Derived.Test.YtmlmjkojhfjjlaaPieces

/- RRun: The contract of the document's step and of its Run. -/
namespace Go.Proofs.Ytmlmjkojhfjjlaa
set_option linter.unusedVariables false
set_option linter.unusedSimpArgs false
open Go.RowKit

theorem rregister_any (g gm : Nat) (ov : Value) (st : Int) (s : M.St) (f : Int) (u v : Bool) (a b c op im : Int) (w : World) (hC : Cel w g DT (dc s gm ov st)) (hw : Wf s) (hG : M.Good f u v a b c op im) (hf : f ≠ 2) (hf' : f ≠ 3) :
    Calls Try.prog 62 #[.pointer (some ⟨g, 0, none⟩), iv f u v a b c op im] w (RetR (.tuple #[]) (· = g) g gm ov st (M.reckons s ⟨f, u, v, a, b, c, op, im⟩) w) := by
  obtain ⟨⟨ha, ha', hb, hb', hc, hc', ho, ho'⟩, h | h | h | h⟩ := hG
  · obtain ⟨rfl, hu, hv, rfl⟩ := h
    by_cases h0 : op = 0
    · subst h0
      cases u
      · exact rreck_r2 g gm ov st s v a b c w hC hw.rl hw.rb hw.hb ha ha' hb hb' hc hc'
      · cases v
        · exact rreck_r1 g gm ov st s a b c w hC hw.rl hw.rb hw.hb ha ha' hb hb' hc hc'
        · exact rreck_fl g gm ov st s a b c w hC hw.rl ha ha' hc hc'
    · exact rreck_r3 g gm ov st s u v a b c op w hC hw.rl hw.rb hw.hb ha ha' hb hb' hc hc' ho ho' hu h0
  · obtain ⟨rfl, hu, rfl, hi, hi'⟩ := h
    by_cases h0 : op = 0
    · subst h0
      cases u
      · cases v
        · exact rreck_i2f g gm ov st s a b im w hC hw.rl hw.rb hw.hb ha ha' hb hb' hi hi'
        · exact rreck_i2t g gm ov st s a b im w hC hw.rl hw.rb hw.hb ha ha' hb hb' hi hi'
      · exact rreck_im g gm ov st s v a b im w hC hw.rl ha ha' hi hi'
    · cases v
      · exact rreck_i3f g gm ov st s u a b op im w hC hw.rl hw.rb hw.hb ha ha' hb hb' ho ho' hu h0 hi hi'
      · exact rreck_i3t g gm ov st s u a b op im w hC hw.rl hw.rb hw.hb ha ha' hb hb' ho ho' hu h0 hi hi'
  · exact absurd h.1 hf
  · exact absurd h.1 hf'
theorem rdec_yes {W : Int} (h : M.decOk W = true) (w : World) (h0 : 0 ≤ W) (h1 : W < 4294967296) :
    Calls Try.prog 61 #[.int .u32 W] w (RetB (.tuple #[iv (M.fields W).f (M.fields W).u (M.fields W).v (M.fields W).a (M.fields W).b (M.fields W).c (M.fields W).op (M.fields W).im, .int .i64 0]) w) := by
  have := rdec_any W w h0 h1
  unfold decV M.dec M.decE at this
  simp only [h, if_true] at this
  exact this
theorem rdec_none {W : Int} (h : ¬ M.decOk W = true) (w : World) (h0 : 0 ≤ W) (h1 : W < 4294967296) :
    Calls Try.prog 61 #[.int .u32 W] w (RetB (.tuple #[iv 0 false false 0 0 0 0 0, .int .i64 20]) w) := by
  have := rdec_any W w h0 h1
  unfold decV M.dec M.decE at this
  simp only [h, if_false] at this
  exact this

theorem rstep_any (w : World) (g gm gw cap : Nat) (rest : List Value) (ov : Value) (st : Int) (s : M.St) (h : DMach w g gm gw cap rest ov st s) (hw : Wf s) (hs : 0 ≤ st) (hs' : st < 4194304) :
    Calls Try.prog 44 #[.pointer (some ⟨g, 0, none⟩)] w (RetRR (.tuple #[]) g gm gw cap rest ov (st + 1) (M.step s) w) := by
  unfold M.step
  by_cases hp : s.pc < s.mem.length
  · rw [if_pos hp]
    have hb := h.mm.bd s.pc
    by_cases hd : M.decOk (M.at_ s.mem s.pc) = true
    · rw [if_pos hd]
      have ht := hw.pc1 h.mm.le hp
      have hG := ok_good hd
      have hdec := fun w0 => rdec_yes hd w0 hb.1 hb.2
      show Calls _ _ _ _ (RetRR (.tuple #[]) g gm gw cap rest ov (st + 1) (if (M.fields (M.at_ s.mem s.pc)).f = 2 then _ else if (M.fields (M.at_ s.mem s.pc)).f = 3 then _ else _) w)
      generalize M.fields (M.at_ s.mem s.pc) = x at hG hdec
      obtain ⟨f, u, v, a, b, c, op, im⟩ := x
      simp only at hG hdec ⊢
      have hG' := hG
      obtain ⟨⟨ha, ha', hb, hb', hc, hc', ho, ho'⟩, hk⟩ := hG'
      by_cases h2 : f = 2
      · subst h2
        rw [if_pos rfl]
        have hk' : c = 0 ∧ op = 0 ∧ -524288 ≤ im ∧ im < 524288 := by
          rcases hk with hk | hk | hk | hk
          · omega
          · omega
          · exact hk.2
          · omega
        obtain ⟨rfl, rfl, hi, hi'⟩ := hk'
        refine rstep_m w g gm gw cap rest ov st s _ rfl u v a b 0 0 im hdec _ (fun w0 h0 => ?_) h hw hs hs' hp
        cases u
        · refine (rmem_load w0 g gm gw cap rest ov (st + 1) _ v a b im h0 ht ha ha' hb hb' hi hi').mono fun e w' hh => hh.mm h0 ?_ ?_
          · unfold M.moves M.loads M.sets; (repeat' split) <;> first | rfl | contradiction
          · unfold M.moves M.loads M.sets; (repeat' split) <;> first | rfl | contradiction
        · exact rmem_store w0 g gm gw cap rest ov (st + 1) _ v a b im h0 ht ha ha' hb hb' hi hi'
      rw [if_neg h2]
      by_cases h3 : f = 3
      · subst h3
        rw [if_pos rfl]
        have hk' : b = 0 ∧ op = 0 ∧ -8388608 ≤ im ∧ im < 8388608 := by
          rcases hk with hk | hk | hk | hk
          · omega
          · omega
          · omega
          · obtain ⟨_, e1, e2, e3⟩ := hk
            rcases e3 with e3 | e3
            · exact ⟨e1, e2, e3.2.2.1, e3.2.2.2⟩
            · exact ⟨e1, e2, by omega, by omega⟩
        obtain ⟨rfl, rfl, hi, hi'⟩ := hk'
        refine rstep_j w g gm gw cap rest ov st s _ rfl u v a 0 c 0 im hdec _ (fun w0 h0 => ?_) h hw hs hs' hp
        refine (rjump_any g gm ov (st + 1) _ u v a c im w0 h0.mc ht.rl ht.rb ht.pc.1 (Int.le_of_lt ht.pc.2) ha ha' hc hc' hi hi').mono fun e w' hh => hh.mm h0 ?_ ?_
        · unfold M.jumps; split <;> rfl
        · unfold M.jumps; split <;> rfl
      rw [if_neg h3]
      have hfin : ∀ w0, DMach w0 g gm gw cap rest ov (st + 1) { s with pc := s.pc + 1 } → Calls Try.prog 62 #[.pointer (some ⟨g, 0, none⟩), iv f u v a b c op im] w0 (RetRR (.tuple #[]) g gm gw cap rest ov (st + 1) (M.reckons { s with pc := s.pc + 1 } ⟨f, u, v, a, b, c, op, im⟩) w0) := fun w0 h0 => by
        refine (rregister_any g gm ov (st + 1) _ f u v a b c op im w0 h0.mc ht hG h2 h3).mono fun e w' hh => hh.mm h0 ?_ ?_
        · unfold M.reckons; (repeat' split) <;> rfl
        · unfold M.reckons; (repeat' split) <;> rfl
      have hf01 : f = 0 ∨ f = 1 := by
        rcases hk with hk | hk | hk | hk
        · exact .inl hk.1
        · exact .inr hk.1
        · exact absurd hk.1 h2
        · exact absurd hk.1 h3
      rcases hf01 with rfl | rfl
      · exact rstep_r0 w g gm gw cap rest ov st s _ rfl u v a b c op im hdec _ hfin h hw hs hs' hp
      · exact rstep_r1 w g gm gw cap rest ov st s _ rfl u v a b c op im hdec _ hfin h hw hs hs' hp
    · rw [if_neg hd]
      exact rstep_ill w g gm gw cap rest ov st s _ rfl (fun w0 => rdec_none hd w0 hb.1 hb.2) h hw hs hs' hp
  · rw [if_neg hp]
    exact rstep_out w g gm gw cap rest ov st s h hw hs hs' hp

/-- Where the loop of the document's run stands. -/
def RAt (w0 : World) (g gm gw cap : Nat) (rest : List Value) (ov : Value) (s : M.St) (k n : Nat) (wr : World) : Prop :=
  n ≤ k ∧ ∃ ovr sn, Wf sn ∧ DMach wr g gm gw cap rest ovr (n : Int) sn ∧ M.runs k s = M.runs (k - n) sn ∧ M.steps k s = n + M.steps (k - n) sn ∧
    Fr (foot g gw ov) w0 wr ∧ (ovr.ownBlock = ov.ownBlock ∨ ∃ b, ovr.ownBlock = some b ∧ w0.heap.size ≤ b)

theorem rat_next {w0 wr w2 : World} {g gm gw cap : Nat} {rest : List Value} {ov ovr : Value} {s sn : M.St} {k n : Nat} {e : Ending} {v : Value} (hle : n < k) (hM : DMach wr g gm gw cap rest ovr (n : Int) sn) (hw : Wf sn) (he : sn.en = 0) (hr : M.runs k s = M.runs (k - n) sn) (hs : M.steps k s = n + M.steps (k - n) sn)
    (hF : Fr (foot g gw ov) w0 wr) (hA : ovr.ownBlock = ov.ownBlock ∨ ∃ b, ovr.ownBlock = some b ∧ w0.heap.size ≤ b)
    (hR : RetRR v g gm gw cap rest ovr ((n : Int) + 1) (M.step sn) wr e w2) : e = .returned v ∧ RAt w0 g gm gw cap rest ov s k (n + 1) w2 := by
  obtain ⟨rfl, ov2, hM2, hF2, hA2⟩ := hR
  have hg := runs_go ⟨he, hle⟩
  refine ⟨rfl, hle, ov2, M.step sn, hw.step hM.mm.le hM.mm.bd, by simpa using hM2, hr.trans hg.1, by rw [hs, hg.2]; omega, ?_, ?_⟩
  · refine hF.trans' hF2 ?_
    rintro i (h | h | h)
    · exact .inl (.inl h)
    · exact .inl (.inr (.inl h))
    · rcases hA with hA | ⟨b, hb, hle⟩
      · exact .inl (.inr (.inr (hA ▸ h)))
      · rw [hb] at h
        injection h with h
        exact .inr (by omega)
  · rcases hA2 with h2 | ⟨b, hb, hle2⟩
    · rw [h2]; exact hA
    · exact .inr ⟨b, hb, Nat.le_trans hF.size hle2⟩

end Go.Proofs.Ytmlmjkojhfjjlaa


/- RRunM: The contract of the document's Run. -/
namespace Go.Proofs.Ytmlmjkojhfjjlaa
set_option linter.unusedVariables false
set_option linter.unusedSimpArgs false
open Go.RowKit

theorem rrun_end {w wr w2 : World} {g gm gw cap : Nat} {rest : List Value} {ov ovr : Value} {st : Int} {s sn : M.St} {k n : Nat} {o : Obj} {x : Int} (h : DMach w g gm gw cap rest ov st s) (hM : DMach wr g gm gw cap rest ovr (n : Int) sn) (hwn : Wf sn)
    (hF : Fr (foot g gw ov) (w.alloc o) wr) (hA : ovr.ownBlock = ov.ownBlock ∨ ∃ b, ovr.ownBlock = some b ∧ (w.alloc o).heap.size ≤ b) (hr : M.runs k s = sn) (hs : M.steps k s = n + 0) (hx : x = if sn.en = 0 then 3 else sn.en)
    (hF2 : Fr (fun k => k = w.heap.size) wr w2) :
    RetRR (.tuple #[ocV (M.runs k s) (M.steps k s), .int .i64 0]) g gm gw cap rest ov (M.steps k s : Nat) (M.runs k s) w (.returned (.tuple #[.agg #[.int .i64 x, .int .i64 sn.tr, .string (strOfNums sn.out), .int .i64 (n : Int), .int .i64 sn.rd], .int .i64 0])) w2 := by
  have hsz : (w.alloc o).heap.size = w.heap.size + 1 := by simp
  refine ⟨?_, ovr, ?_, ?_, ?_⟩
  · rw [hr, hs, hx]; rfl
  · rw [hr, hs]
    refine hM.fr hF2 ?_ ?_ ?_ ?_
    · have := h.mc.lt; omega
    · have := h.mm.hd.lt; omega
    · have := h.mm.ws.lt; omega
    · intro k hk e
      rcases hA with hA | ⟨b, hb, hle⟩
      · have := own_lt h.ow (hA ▸ hk); omega
      · rw [hb] at hk; injection hk with hk; omega
  · exact (((Fr.refl _ w).alloc o).trans hF).trans' hF2 (fun i hi => .inr (by omega))
  · rcases hA with hA | ⟨b, hb, hle⟩
    · exact .inl hA
    · exact .inr ⟨b, hb, by omega⟩

theorem fr_setalloc (w : World) (g i : Nat) (v : Value) (o : Obj) : Fr (fun k => k = g) (w.alloc o) ((w.setCell ⟨g, i, none⟩ v).alloc o) := by
  have hs : (w.setCell ⟨g, i, none⟩ v).heap.size = w.heap.size := by simp
  refine ⟨rfl, rfl, rfl, by simp, fun k hk hn => ?_⟩
  rw [World.size_alloc] at hk
  by_cases e : k = w.heap.size
  · subst e
    rw [heap_alloc_new]
    conv => lhs; rw [← hs]
    rw [heap_alloc_new]
  · rw [Below.heap_alloc _ _ _ (by omega), Below.heap_alloc _ _ _ (by omega)]
    exact Below.heap_setCell w ⟨g, i, none⟩ v k hn

theorem rat_start {w : World} {g gm gw cap : Nat} {rest : List Value} {ov : Value} {st : Int} {s : M.St} {k : Nat} (h : DMach w g gm gw cap rest ov st s) (hw : Wf s) (o : Obj) :
    RAt (w.alloc o) g gm gw cap rest ov s k 0 ((w.setCell ⟨g, 26, none⟩ (.int .i64 0)).alloc o) :=
  ⟨Nat.zero_le _, ov, s, hw, (dmach_st h hw.rl 0).alloc o, rfl, by simp, (fr_setalloc w g 26 _ o).mono (fun k hk => .inl hk), .inl rfl⟩

set_option maxHeartbeats 4000000 in
set_option maxRecDepth 100000 in
theorem rrunm_any (w : World) (g gm gw cap : Nat) (rest : List Value) (ov : Value) (st : Int) (s : M.St) (k : Nat) (hk : k ≤ 4194304) (h : DMach w g gm gw cap rest ov st s) (hw : Wf s) :
    Calls Try.prog 33 #[.pointer (some ⟨g, 0, none⟩), .int .i64 (k : Int)] w (fun e w' => RetRR (.tuple #[ocV (M.runs k s) (M.steps k s), .int .i64 0]) g gm gw cap rest ov (M.steps k s : Nat) (M.runs k s) w e w' ∧ Wf (M.runs k s)) := by
  have c26 := (h.mc.cell 26).trans (dc_fld hw.rl 10)
  have f := h.mc.frozen
  have hg := h.mc.lt
  have hg1 : g < w.heap.size + 1 := by omega
  have hne : g ≠ w.heap.size := by omega
  have hne' : w.heap.size ≠ g := by omega
  have hz := Lib.hid (rat_start (k := k) h hw (.cells #[.int .i64 0, .int .i64 0, .string ⟨#[]⟩, .int .i64 0, .int .i64 0] OCT))
  go_enter Try.func33, Try.ntmps33
  go_wp2
  have hB0 : ¬ foot g gw ov w.heap.size := by
    rintro (e | e | e)
    · have := h.mc.lt; omega
    · have := h.mm.ws.lt; omega
    · have := own_lt h.ow e; omega
  go_loopg [21] k (fun (gk : Nat) _ wr => ∃ n : Nat, n + gk = k ∧ RAt (w.alloc (.cells #[.int .i64 0, .int .i64 0, .string ⟨#[]⟩, .int .i64 0, .int .i64 0] OCT)) g gm gw cap rest ov s k n wr)
  case atStart => exact ⟨0, by omega, hz.out⟩
  case round =>
    obtain ⟨n, hn, hle, ovr, sn, hwn, hM, hr, hs, hF, hA⟩ := hrel
    have c27 := (hM.mc.cell 27).trans (dc_fld hwn.rl 11)
    have c26 := (hM.mc.cell 26).trans (dc_fld hwn.rl 10)
    have hg := hM.mc.lt
    have hH := Lib.hid (And.intro hr (And.intro hs (And.intro hF hA)))
    clear hr hs hF hA
    by_cases hgo : sn.en = 0 ∧ n < k
    · have HG := Lib.hid hgo
      have e1 : (sn.en == 0) = true := by simpa using hgo.1
      have e2 : (n : Int) < (k : Int) := by omega
      clear hgo
      go_wp2_with (first
        | (go_at_call 44; refine (rstep_any _ g gm gw cap rest ovr (n : Int) sn hM hwn (by omega) (by omega)).mono ?_; intro e w2 hR; obtain ⟨rfl, hAt⟩ := rat_next HG.out.2 hM hwn HG.out.1 hH.out.1 hH.out.2.1 hH.out.2.2.1 hH.out.2.2.2 hR)
        | fail)
      go_roundg (gk - 1)
      case measure => omega
      case rel => exact ⟨n + 1, by omega, hAt⟩
    · obtain ⟨r1, r2⟩ := runs_stop hgo hle
      have HR := Lib.hid (And.intro (hH.out.1.trans r1) (hH.out.2.1.trans (congrArg (n + ·) r2)))
      clear r1 r2
      have hol : ∀ k, ovr.ownBlock = some k → k < wr.heap.size := fun k hk => own_lt hM.ow hk
      have hcv0 := conv_any (w' := wr) hM.ow (fun _ _ => rfl)
      have hcv1 := conv_any (w' := wr.drew) hM.ow (fun _ _ => rfl)
      have hcv2 := conv_any (w' := wr.alloc (.cells #[.int .i64 0, .int .i64 0, .string ⟨#[]⟩, .int .i64 0, .int .i64 0] 28)) hM.ow (fun k hk => Below.heap_alloc _ _ _ (hol k hk))
      have hcv3 := conv_any (w' := (wr.alloc (.cells #[.int .i64 0, .int .i64 0, .string ⟨#[]⟩, .int .i64 0, .int .i64 0] 28)).drew) hM.ow (fun k hk => Below.heap_alloc _ _ _ (hol k hk))
      have hB : Cel wr w.heap.size 28 #[.int .i64 0, .int .i64 0, .string ⟨#[]⟩, .int .i64 0, .int .i64 0] := hH.out.2.2.1.cel (Cel.new _ _ _) hB0
      obtain ⟨c16, c17, c18, c19, c20, c21, c22, c23, c24, c25, _, _, c28⟩ := dmach_fld hM.mc hwn.rl
      have f := hM.mc.frozen
      have bf := hB.frozen
      have bz := hB.lt
      have b0 := hB.cell 0
      have b1 := hB.cell 1
      have b2 := hB.cell 2
      have b3 := hB.cell 3
      have b4 := hB.cell 4
      have bz1 : w.heap.size < wr.heap.size + 1 := by omega
      have bn1 : w.heap.size ≠ wr.heap.size := by omega
      have bn2 : wr.heap.size ≠ w.heap.size := by omega
      have HB := Lib.hid hB
      clear hB
      have hg1 : g < wr.heap.size + 1 := by omega
      have hne : g ≠ wr.heap.size := by omega
      have hne' : wr.heap.size ≠ g := by omega
      clear hol c16 c17 c18 c19 c20 c21 c22 c23 hB0
      by_cases hen : sn.en = 0
      · have e2 : ¬ (n : Int) < (k : Int) := by
          have : ¬ n < k := fun h => hgo ⟨hen, h⟩
          omega
        have e1 : (sn.en == 0) = true := by simpa using hen
        have hen0 := hen
        clear hgo hen
        have HE := Lib.hid hen0
        clear hen0
        go_wp2
        go_region
        all_goals go_wp2
        all_goals refine bodyPost_ret (res_cell_tmp rfl rfl ((((((HB.out.set 0 _).set 1 _).set 2 _).set 3 _).set 4 _).drew) Try.underlying28 rfl (by kernel_rfl) rfl) rfl ?_
        all_goals exact ⟨rrun_end h hM hwn hH.out.2.2.1 hH.out.2.2.2 HR.out.1 HR.out.2 (by rw [HE.out]; rfl) ((fr_set (fr_set (fr_set (fr_set (fr_set (Fr.refl _ _) _ _) _ _) _ _) _ _) _ _).drew), by rw [HR.out.1]; exact hwn⟩
      · have e1 : (sn.en == 0) = false := by simpa using hen
        have HE := Lib.hid hen
        clear hgo hen
        go_wp2
        go_region
        all_goals go_wp2
        all_goals refine bodyPost_ret (res_cell_tmp rfl rfl ((((((HB.out.set 0 _).set 1 _).set 2 _).set 3 _).set 4 _).drew) Try.underlying28 rfl (by kernel_rfl) rfl) rfl ?_
        all_goals exact ⟨rrun_end h hM hwn hH.out.2.2.1 hH.out.2.2.2 HR.out.1 HR.out.2 (by rw [if_neg HE.out]) ((fr_set (fr_set (fr_set (fr_set (fr_set (Fr.refl _ _) _ _) _ _) _ _) _ _) _ _).drew), by rw [HR.out.1]; exact hwn⟩

end Go.Proofs.Ytmlmjkojhfjjlaa


/- RNew: How the document's memory and machine are made. -/
namespace Go.Proofs.Ytmlmjkojhfjjlaa
set_option linter.unusedVariables false
set_option linter.unusedSimpArgs false
open Go.RowKit

theorem run_append_none {P : Program} (w : World) (t ty e : TypeId) (i : TypeInfo) (ht : P.underlying t = some (.slice e)) (hi : P.info? e = some i) (g c : Nat) (sp : Option Addr) :
    (Builtin.append_ #[t, t] ty #[.slice (some ⟨g, 0, none⟩) 0 0, .slice sp 0 c]).run P w = .ok (.slice (some ⟨g, 0, none⟩) 0 0) w := by
  cases sp <;> simp [loadCells, loadCellsFrom, Builtin.append_, run_underlying ht, sizeOf, typeInfo, hi, Builtin.lenOf, Builtin.firstCells, storeCells]

/-- 'append([]uint32{}, words...)': a block of its own. -/
theorem run_copy_words2 (w : World) (ty : TypeId) (g n c : Nat) (sp : Option Addr) (ws : List Int) (hn : n = ws.length) (hg : Cel w g U32T #[]) (h : Src w (.slice sp n c) sp c ws) (hl : ws.length ≤ 1000000) :
    ∃ gw cap rest w', (Builtin.append_ #[32, 32] ty #[.slice (some ⟨g, 0, none⟩) 0 0, .slice sp n c]).run Try.prog w = .ok (.slice (some ⟨gw, 0, none⟩) ws.length cap) w' ∧ Cel w' gw U32T (wds ws rest) ∧ ws.length ≤ cap ∧ g ≤ gw ∧ Below g w w' := by
  by_cases h0 : ws.length = 0
  · have hnil : ws = [] := List.eq_nil_of_length_eq_zero h0
    subst hnil
    subst hn
    obtain ⟨i0, hi, hz0, hz1, hz2⟩ := info_parts info32
    exact ⟨g, 0, [], w, run_append_none w _ ty _ i0 Try.underlying32 hi g c sp, hg.to (by simp [wds]), Nat.le_refl _, Nat.le_refl _, Below.refl _ _⟩
  · obtain ⟨v', w', hrun, hown, hb⟩ := run_copy_words w ty g n c sp ws hn hg h hl
    rcases hown.2 with ⟨rfl, he⟩ | ⟨g', cap, cur, rfl, hle, hgg, rest⟩
    · exact absurd he h0
    · obtain ⟨hcap, _, hsz, htk⟩ := rest
      refine ⟨g', cap, cur.toList.drop ws.length, w', hrun, (show Cel w' g' U32T cur from hgg).to ?_, by omega, hle, hb⟩
      unfold wds
      rw [Nat.mul_one] at htk
      rw [← htk, List.take_append_drop]

theorem wpList_copy_words2 {ops : Array Oper} {rest : List Oper} {o : Oper} {a : Act} {w : World} {Q : Exit → Act → World → Prop} (hgd : o.guard = none) (s x : Operand)
    (ho : o.op = .call { callee := .builtin .append, args := #[s, x], argTypes := #[32, 32] }) (g n c : Nat) (sp : Option Addr) (ws : List Int)
    (hs : a.eval s = .slice (some ⟨g, 0, none⟩) 0 0) (hx : a.eval x = .slice sp n c) (hn : n = ws.length) (hg : Cel w g U32T #[]) (hr : Src w (.slice sp n c) sp c ws) (hl : ws.length ≤ 1000000)
    (h : ∀ gw cap rst w', Cel w' gw U32T (wds ws rst) → ws.length ≤ cap → g ≤ gw → Below g w w' → wpList Try.prog ops Q rest (a.put o.dst (.slice (some ⟨gw, 0, none⟩) ws.length cap)) w') : wpList Try.prog ops Q (o :: rest) a w :=
  wpList_plain hgd fun _ hK => by
    obtain ⟨gw, cap, rst, w', hrun, h2, h3, h4, h5⟩ := run_copy_words2 w o.type g n c sp ws hn hg hr hl
    unfold Oper.wp execOp
    simp only [ho, resolve, invoke, builtin, Sem.run_bind, Sem.run_pure, Result.andThen_ok, List.map_toArray, List.map_cons, List.map_nil, hs, hx, hrun]
    exact hK _ _ (h gw cap rst w' h2 h3 h4 h5)

/-- What a new memory of the document's is. -/
def RRetNew (ws : List Int) (w : World) (e : Ending) (w' : World) : Prop :=
  ∃ gm gw cap rest, e = .returned (.tuple #[.pointer (some ⟨gm, 0, none⟩), .int .i64 0]) ∧ RMemAt w' gm gw cap ws rest ∧ Below w.heap.size w w' ∧ w.heap.size ≤ gm ∧ w.heap.size ≤ gw ∧ gm < w'.heap.size
/-- What a new machine of the document's is. -/
def RRetMach (ws : List Int) (start : Int) (inp : ByteArray) (w : World) (e : Ending) (w' : World) : Prop :=
  ∃ g gm gw cap rest, e = .returned (.tuple #[.pointer (some ⟨g, 0, none⟩), .int .i64 0]) ∧
      DMach w' g gm gw cap rest (.slice none 0 0) 0 (st0 ws start inp) ∧ Below w.heap.size w w' ∧ w.heap.size ≤ g ∧ w.heap.size ≤ gm ∧ w.heap.size ≤ gw

set_option maxHeartbeats 1000000 in
set_option maxRecDepth 100000 in
theorem rmemnew_any (w : World) (sp : Option Addr) (c : Nat) (ws : List Int) (v : Value) (h : Src w v sp c ws) (hl : ws.length ≤ 65536) :
    Calls Try.prog 43 #[v] w (RRetNew ws w) := by
  have HH := Lib.hid h
  obtain rfl := h.v
  have hbd := Lib.hid h.bd
  clear h
  have n1 : ¬ (65536 : Int) < (ws.length : Int) := by omega
  go_enter Try.func43, Try.ntmps43
  go_wp2_with (first
    | (at_builtin; refine wpList_copy_words2 rfl _ _ rfl w.heap.size _ _ _ ws rfl rfl rfl (Cel.new w _ _) (HH.out.below ((Below.refl _ w).alloc (Nat.le_refl _) _)) (by omega) ?_; intro gw cap rst w1 hC hcap hgw hb; have HC := Lib.hid hC; have HB := Lib.hid (((Below.refl _ w).alloc (Nat.le_refl _) (.cells #[] U32T)).trans hb); clear hC hb)
    | fail)
  go_ret2
  exact ⟨w1.heap.size, gw, cap, rst, rfl, ⟨Cel.new w1 _ _, HC.out.alloc _, hl, hcap, hbd.out⟩, HB.out.alloc HB.out.size _, HB.out.size, hgw, by simp⟩

set_option maxHeartbeats 1000000 in
set_option maxRecDepth 100000 in
theorem rmemnew_big (w : World) (sp : Option Addr) (n c : Nat) (hn : 65536 < n) :
    Calls Try.prog 43 #[.slice sp n c] w (Ret (.tuple #[.pointer none, .int .i64 3]) w) := by
  have n1 : (65536 : Int) < (n : Int) := by omega
  go_enter Try.func43, Try.ntmps43
  go_wp2
  go_ret2
  exact ⟨rfl, rfl⟩

theorem newE_err {n m : Nat} {start : Int} (h : newE n start m ≠ 0) : 65536 < n ∨ n ≤ 65536 ∧ (4096 < m ∨ m ≤ 4096 ∧ (start < 0 ∨ (n : Int) < start)) := by
  unfold newE at h
  by_cases h1 : 65536 < n
  · exact .inl h1
  · rw [if_neg h1] at h
    by_cases h2 : 4096 < m
    · exact .inr ⟨by omega, .inl h2⟩
    · rw [if_neg h2] at h
      by_cases h3 : start < 0 ∨ (n : Int) < start
      · exact .inr ⟨by omega, .inr ⟨by omega, h3⟩⟩
      · rw [if_neg h3] at h
        exact absurd rfl h

set_option maxHeartbeats 1000000 in
set_option maxRecDepth 100000 in
theorem rcpunew_any (w : World) (sp : Option Addr) (c : Nat) (ws : List Int) (v : Value) (start : Int) (inp : ByteArray) (h : Src w v sp c ws) (hl : ws.length ≤ 65536) (hi : inp.size ≤ 4096) (h0 : 0 ≤ start) (h1 : start ≤ ws.length) :
    Calls Try.prog 32 #[v, .int .i64 start, .string inp] w (RRetMach ws start inp w) := by
  have HN := Lib.hid (rmemnew_any w sp c ws v h hl)
  obtain rfl := h.v
  clear h
  have n2 : ¬ (4096 : Int) < (inp.size : Int) := by omega
  have n3 : ¬ start < 0 := by omega
  have n4 : ¬ (ws.length : Int) < start := by omega
  go_enter Try.func32, Try.ntmps32
  go_wp2_with (first
    | (go_at_call 43; refine HN.out.mono ?_; rintro e w1 ⟨gm, gw, cap, rest, rfl, hM, hB, hg1, hg2, hg3⟩; have HM := Lib.hid hM; have HB := Lib.hid hB; clear hM hB)
    | fail)
  go_ret2
  exact ⟨w1.heap.size, gm, gw, cap, rest, rfl, ⟨(Cel.new w1 _ _).to rfl, HM.out.fr ((Fr.refl (fun _ => False) w1).alloc _) id id, ⟨rfl, .inl ⟨rfl, rfl⟩⟩⟩, HB.out.trans ((Below.refl _ _).alloc HB.out.size _), HB.out.size, hg1, hg2⟩

set_option maxHeartbeats 1000000 in
set_option maxRecDepth 100000 in
theorem rcpunew_err (w : World) (sp : Option Addr) (c : Nat) (ws : List Int) (v : Value) (start : Int) (inp : ByteArray) (h : Src w v sp c ws) (he : newE ws.length start inp.size ≠ 0) :
    Calls Try.prog 32 #[v, .int .i64 start, .string inp] w (RetB (.tuple #[.pointer none, .int .i64 (newE ws.length start inp.size)]) w) := by
  obtain rfl := h.v
  rcases newE_err he with hb | ⟨hl, hb | ⟨hi, hb⟩⟩
  · have e : newE ws.length start inp.size = 3 := by unfold newE; rw [if_pos hb]
    rw [e]
    have HN := Lib.hid (rmemnew_big w sp ws.length c hb)
    clear he e h
    go_enter Try.func32, Try.ntmps32
    go_wp2_with (first
      | (go_at_call 43; refine HN.out.mono ?_; rintro e w1 ⟨rfl, rfl⟩)
      | fail)
    go_ret2
    exact ⟨rfl, Below.refl _ _⟩
  · have e : newE ws.length start inp.size = 2 := by unfold newE; rw [if_neg (by omega), if_pos hb]
    rw [e]
    have HN := Lib.hid (rmemnew_any w sp c ws _ h hl)
    have n2 : (4096 : Int) < (inp.size : Int) := by omega
    clear he e h
    go_enter Try.func32, Try.ntmps32
    go_wp2_with (first
      | (go_at_call 43; refine HN.out.mono ?_; rintro e w1 ⟨gm, gw, cap, rest, rfl, hM, hB, hg1, hg2, hg3⟩; have HB := Lib.hid hB; clear hM hB)
      | fail)
    go_ret2
    exact ⟨rfl, HB.out⟩
  · have e : newE ws.length start inp.size = 1 := by unfold newE; rw [if_neg (by omega), if_neg (by omega), if_pos hb]
    rw [e]
    have HN := Lib.hid (rmemnew_any w sp c ws _ h hl)
    have n2 : ¬ (4096 : Int) < (inp.size : Int) := by omega
    clear he e h
    by_cases h0 : start < 0
    · clear hb
      go_enter Try.func32, Try.ntmps32
      go_wp2_with (first
        | (go_at_call 43; refine HN.out.mono ?_; rintro e w1 ⟨gm, gw, cap, rest, rfl, hM, hB, hg1, hg2, hg3⟩; have HB := Lib.hid hB; clear hM hB)
        | fail)
      go_ret2
      exact ⟨rfl, HB.out⟩
    · have h1 : (ws.length : Int) < start := by omega
      clear hb
      go_enter Try.func32, Try.ntmps32
      go_wp2_with (first
        | (go_at_call 43; refine HN.out.mono ?_; rintro e w1 ⟨gm, gw, cap, rest, rfl, hM, hB, hg1, hg2, hg3⟩; have HB := Lib.hid hB; clear hM hB)
        | fail)
      go_ret2
      exact ⟨rfl, HB.out⟩

set_option maxHeartbeats 1000000 in
set_option maxRecDepth 100000 in
theorem rrunm_bad (w : World) (g : Nat) (k : Int) (hk : k < 0 ∨ 4194304 < k) :
    Calls Try.prog 33 #[.pointer (some ⟨g, 0, none⟩), .int .i64 k] w (RetB (.tuple #[.agg #[.int .i64 0, .int .i64 0, .string ⟨#[]⟩, .int .i64 0, .int .i64 0], .int .i64 1]) w) := by
  by_cases h0 : k < 0
  · clear hk
    go_enter Try.func33, Try.ntmps33
    go_wp2
    exact bodyPost_ret (res_cell_tmp rfl rfl (Cel.new w _ _) Try.underlying28 rfl (by kernel_rfl) rfl) rfl ⟨rfl, (Below.refl _ _).alloc (Nat.le_refl _) _⟩
  · have h1 : 4194304 < k := by omega
    clear hk
    go_enter Try.func33, Try.ntmps33
    go_wp2
    exact bodyPost_ret (res_cell_tmp rfl rfl (Cel.new w _ _) Try.underlying28 rfl (by kernel_rfl) rfl) rfl ⟨rfl, (Below.refl _ _).alloc (Nat.le_refl _) _⟩

end Go.Proofs.Ytmlmjkojhfjjlaa
