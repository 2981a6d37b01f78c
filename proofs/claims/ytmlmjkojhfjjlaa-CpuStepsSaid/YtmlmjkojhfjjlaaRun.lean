/- The contract of a run. -/
import Derived.Test.YtmlmjkojhfjjlaaStep
import Derived.LoopTactic
import Derived.Laws.BytesArg
import Derived.BigRegion
namespace Go.Proofs.Ytmlmjkojhfjjlaa
set_option linter.unusedVariables false
set_option linter.unusedSimpArgs false
open Go.RowKit

/-- How a run ended. -/
def ocV (s : M.St) (n : Nat) : Value := .agg #[.int .i64 (if s.en = 0 then 3 else s.en), .int .i64 s.tr, .string (strOfNums s.out), .int .i64 n, .int .i64 s.rd]
abbrev OCT : TypeId := 28

theorem conv_any {w w' : World} {base : Nat} {ov : Value} {xs : List Int} (h : w.ownsRow base U8T 1 ov xs.length (xs.map (Value.int .u8))) (hx : ∀ k, ov.ownBlock = some k → w'.heap[k]? = w.heap[k]?) :
    (convert 75 9 ov).run Try.prog w' = .ok (.string (strOfNums xs)) w' := by
  have hs := Try.underlying75
  have hd := Try.underlying9
  have he := Try.underlying5
  rcases h.2 with ⟨rfl, hn⟩ | ⟨g, cap, cur, rfl, hb, hgg, rest⟩
  · have : xs = [] := by simpa using hn
    subst this
    exact run_convert_bytes_nil w' _ _ hs he _ _ _ hd
  · have hcur : ∀ i, i < xs.length → w'.cell? ⟨g, 0 + i, none⟩ = some (.int .u8 (xs.getD i 0)) := by
      intro i hi
      have hk : w'.heap[g]? = some (.cells cur U8T (0, 0)) := (hx g rfl).trans hgg
      rw [Nat.zero_add, cell_of_row w' g i cur U8T (0, 0) hk]
      obtain ⟨_, _, hsz, htk⟩ := rest
      have h1 : (cur.toList.take (xs.length * 1))[i]? = (xs.map (Value.int .u8))[i]? := by rw [htk]
      rw [List.getElem?_take, if_pos (by omega), Array.getElem?_toList, List.getElem?_map] at h1
      rw [h1]
      simp [hi]
    exact run_convert_bytes_arg w' _ _ hs he g 0 _ _ xs rfl hcur _ hd

theorem own_lt {w : World} {base size n : Nat} {e : TypeId} {v : Value} {xs : List Value} (h : w.ownsRow base e size v n xs) {k : Nat} (hk : v.ownBlock = some k) : k < w.heap.size := by
  rcases h.2 with ⟨rfl, _⟩ | ⟨g, cap, cur, rfl, hb, hgg, rest⟩
  · simp [Value.ownBlock] at hk
  · simp [Value.ownBlock] at hk
    subst hk
    exact (Array.getElem?_eq_some_iff.1 hgg).1

/-- Where the loop of a run stands. -/
def At (w0 : World) (g gm gw cap : Nat) (rest : List Value) (ov : Value) (s : M.St) (k n : Nat) (wr : World) : Prop :=
  n ≤ k ∧ ∃ ovr sn, Wf sn ∧ Mach wr g gm gw cap rest ovr sn ∧ M.runs k s = M.runs (k - n) sn ∧ M.steps k s = n + M.steps (k - n) sn ∧
    Fr (foot g gw ov) w0 wr ∧ (ovr.ownBlock = ov.ownBlock ∨ ∃ b, ovr.ownBlock = some b ∧ w0.heap.size ≤ b)

theorem runs_stop {k n : Nat} {s : M.St} (h : ¬ (s.en = 0 ∧ n < k)) (hle : n ≤ k) : M.runs (k - n) s = s ∧ M.steps (k - n) s = 0 := by
  cases hm : k - n with
  | zero => exact ⟨rfl, rfl⟩
  | succ m =>
    have he : ¬ s.en = 0 := fun e => h ⟨e, by omega⟩
    unfold M.runs M.steps
    rw [if_neg he, if_neg he]
    exact ⟨rfl, rfl⟩
theorem runs_go {k n : Nat} {s : M.St} (h : s.en = 0 ∧ n < k) : M.runs (k - n) s = M.runs (k - (n + 1)) (M.step s) ∧ M.steps (k - n) s = M.steps (k - (n + 1)) (M.step s) + 1 := by
  have hm : k - n = (k - (n + 1)) + 1 := by omega
  rw [hm]
  constructor
  · conv => lhs; unfold M.runs
    rw [if_pos h.1]
  · conv => lhs; unfold M.steps
    rw [if_pos h.1]

theorem at_next {w0 wr w2 : World} {g gm gw cap : Nat} {rest : List Value} {ov ovr : Value} {s sn : M.St} {k n : Nat} {e : Ending} {v : Value} (hle : n < k) (hM : Mach wr g gm gw cap rest ovr sn) (hw : Wf sn) (he : sn.en = 0) (hr : M.runs k s = M.runs (k - n) sn) (hs : M.steps k s = n + M.steps (k - n) sn)
    (hF : Fr (foot g gw ov) w0 wr) (hA : ovr.ownBlock = ov.ownBlock ∨ ∃ b, ovr.ownBlock = some b ∧ w0.heap.size ≤ b)
    (hR : RetMM v g gm gw cap rest ovr (M.step sn) wr e w2) : e = .returned v ∧ At w0 g gm gw cap rest ov s k (n + 1) w2 := by
  obtain ⟨rfl, ov2, hM2, hF2, hA2⟩ := hR
  have hg := runs_go ⟨he, hle⟩
  refine ⟨rfl, hle, ov2, M.step sn, hw.step hM.mm.le hM.mm.bd, hM2, hr.trans hg.1, by rw [hs, hg.2]; omega, ?_, ?_⟩
  · refine hF.trans' hF2 ?_
    rintro i (h | h | h)
    · exact .inl (.inl h)
    · exact .inl (.inr (.inl h))
    · rcases hA with hA | ⟨b, hb, hle⟩
      · exact .inl (.inr (.inr (hA ▸ h)))
      · rw [hb] at h
        injection h with h
        exact .inr (by omega)
  · rcases hA2 with h2 | ⟨b, hb, hle2⟩
    · rw [h2]; exact hA
    · exact .inr ⟨b, hb, Nat.le_trans hF.size hle2⟩

theorem fr_five (w : World) (B : Nat) (a b c d e : Value) (o : Obj) :
    Fr (fun k => k = B) w (((((((w.setCell ⟨B, 0, none⟩ a).setCell ⟨B, 1, none⟩ b).setCell ⟨B, 2, none⟩ c).setCell ⟨B, 3, none⟩ d).setCell ⟨B, 4, none⟩ e).alloc o).drew) :=
  ((fr_set (fr_set (fr_set (fr_set (fr_set (Fr.refl _ _) _ _) _ _) _ _) _ _) _ _).alloc _).drew

theorem run_end {w wr w2 : World} {g gm gw cap : Nat} {rest : List Value} {ov ovr : Value} {s sn : M.St} {k n : Nat} {o : Obj} {x : Int} (h : Mach w g gm gw cap rest ov s) (hM : Mach wr g gm gw cap rest ovr sn) (hwn : Wf sn)
    (hF : Fr (foot g gw ov) (w.alloc o) wr) (hA : ovr.ownBlock = ov.ownBlock ∨ ∃ b, ovr.ownBlock = some b ∧ (w.alloc o).heap.size ≤ b) (hr : M.runs k s = sn) (hs : M.steps k s = n + 0) (hx : x = if sn.en = 0 then 3 else sn.en)
    (hF2 : Fr (fun k => k = w.heap.size) wr w2) :
    RetMM (.tuple #[ocV (M.runs k s) (M.steps k s), .int .i64 0]) g gm gw cap rest ov (M.runs k s) w (.returned (.tuple #[.agg #[.int .i64 x, .int .i64 sn.tr, .string (strOfNums sn.out), .int .i64 (n : Int), .int .i64 sn.rd], .int .i64 0])) w2 := by
  have hsz : (w.alloc o).heap.size = w.heap.size + 1 := by simp
  refine ⟨?_, ovr, ?_, ?_, ?_⟩
  · rw [hr, hs, hx]; rfl
  · rw [hr]
    refine hM.fr hF2 ?_ ?_ ?_ ?_
    · have := h.mc.lt; omega
    · have := h.mm.hd.lt; omega
    · have := h.mm.ws.lt; omega
    · intro k hk e
      rcases hA with hA | ⟨b, hb, hle⟩
      · have := own_lt h.ow (hA ▸ hk); omega
      · rw [hb] at hk; injection hk with hk; omega
  · exact (((Fr.refl _ w).alloc o).trans hF).trans' hF2 (fun i hi => .inr (by omega))
  · rcases hA with hA | ⟨b, hb, hle⟩
    · exact .inl hA
    · exact .inr ⟨b, hb, by omega⟩

set_option maxHeartbeats 2000000 in
set_option maxRecDepth 100000 in
theorem run_any (w : World) (g gm gw cap : Nat) (rest : List Value) (ov : Value) (s : M.St) (k : Nat) (hk : k ≤ 4194304) (h : Mach w g gm gw cap rest ov s) (hw : Wf s) :
    Calls Try.prog 19 #[.pointer (some ⟨g, 0, none⟩), .int .i64 (k : Int)] w (fun e w' => RetMM (.tuple #[ocV (M.runs k s) (M.steps k s), .int .i64 0]) g gm gw cap rest ov (M.runs k s) w e w' ∧ Wf (M.runs k s)) := by
  go_enter Try.func19, Try.ntmps19
  go_wp2
  have hz := Lib.hid (show At (w.alloc (.cells #[.int .i64 0, .int .i64 0, .string ⟨#[]⟩, .int .i64 0, .int .i64 0] OCT)) g gm gw cap rest ov s k 0 (w.alloc (.cells #[.int .i64 0, .int .i64 0, .string ⟨#[]⟩, .int .i64 0, .int .i64 0] OCT)) from
    ⟨Nat.zero_le _, ov, s, hw, h.fr ((Fr.refl (fun _ => False) w).alloc _) id id id (fun _ _ => id), rfl, by simp, Fr.refl _ _, .inl rfl⟩)
  have hB0 : ¬ foot g gw ov w.heap.size := by
    rintro (e | e | e)
    · have := h.mc.lt; omega
    · have := h.mm.ws.lt; omega
    · have := own_lt h.ow e; omega
  go_loopw [6] (fun i wr => ∃ n : Nat, i = .int .i64 (n : Int) ∧ At (w.alloc (.cells #[.int .i64 0, .int .i64 0, .string ⟨#[]⟩, .int .i64 0, .int .i64 0] OCT)) g gm gw cap rest ov s k n wr) (fun i _ => k - (intOf i).toNat)
  · exact ⟨0, rfl, hz.out⟩
  obtain ⟨n, rfl, hle, ovr, sn, hwn, hM, hr, hs, hF, hA⟩ := hrel
  have c26 := (mach_fld hM.mc hwn.rl).2.2.2.2.2.2.2.2.2.2.1
  have hg := hM.mc.lt
  have hH := Lib.hid (And.intro hr (And.intro hs (And.intro hF hA)))
  clear hr hs hF hA
  by_cases hgo : sn.en = 0 ∧ n < k
  · have HG := Lib.hid hgo
    have e1 : (sn.en == 0) = true := by simpa using hgo.1
    have e2 : (n : Int) < (k : Int) := by omega
    clear hgo
    go_wp2_with (go_at_call 42; refine (step_any _ g gm gw cap rest ovr sn hM hwn).mono ?_; intro e w2 hR; obtain ⟨rfl, hAt⟩ := at_next HG.out.2 hM hwn HG.out.1 hH.out.1 hH.out.2.1 hH.out.2.2.1 hH.out.2.2.2 hR)
    go_roundw
    case rel => exact ⟨n + 1, by go_num, hAt⟩
    case measure => simp [intOf]; omega
  · obtain ⟨r1, r2⟩ := runs_stop hgo hle
    have HR := Lib.hid (And.intro (hH.out.1.trans r1) (hH.out.2.1.trans (congrArg (n + ·) r2)))
    clear r1 r2
    have hol : ∀ k, ovr.ownBlock = some k → k < wr.heap.size := fun k hk => own_lt hM.ow hk
    have hcv0 := conv_any (w' := wr) hM.ow (fun _ _ => rfl)
    have hcv1 := conv_any (w' := wr.drew) hM.ow (fun _ _ => rfl)
    have hcv2 := conv_any (w' := wr.alloc (.cells #[.int .i64 0, .int .i64 0, .string ⟨#[]⟩, .int .i64 0, .int .i64 0] 28)) hM.ow (fun k hk => Below.heap_alloc _ _ _ (hol k hk))
    have hcv3 := conv_any (w' := (wr.alloc (.cells #[.int .i64 0, .int .i64 0, .string ⟨#[]⟩, .int .i64 0, .int .i64 0] 28)).drew) hM.ow (fun k hk => Below.heap_alloc _ _ _ (hol k hk))
    have hB : Cel wr w.heap.size 28 #[.int .i64 0, .int .i64 0, .string ⟨#[]⟩, .int .i64 0, .int .i64 0] := hH.out.2.2.1.cel (Cel.new _ _ _) hB0
    obtain ⟨c16, c17, c18, c19, c20, c21, c22, c23, c24, c25, _, c27⟩ := mach_fld hM.mc hwn.rl
    have f := hM.mc.frozen
    have bf := hB.frozen
    have bz := hB.lt
    have b0 := hB.cell 0
    have b1 := hB.cell 1
    have b2 := hB.cell 2
    have b3 := hB.cell 3
    have b4 := hB.cell 4
    have bz1 : w.heap.size < wr.heap.size + 1 := by omega
    have bn1 : w.heap.size ≠ wr.heap.size := by omega
    have bn2 : wr.heap.size ≠ w.heap.size := by omega
    have HB := Lib.hid hB
    clear hB
    have hg1 : g < wr.heap.size + 1 := by omega
    have hne : g ≠ wr.heap.size := by omega
    have hne' : wr.heap.size ≠ g := by omega
    clear hol c16 c17 c18 c19 c20 c21 c22 c23 hB0
    by_cases hen : sn.en = 0
    · have e2 : ¬ (n : Int) < (k : Int) := by
        have : ¬ n < k := fun h => hgo ⟨hen, h⟩
        omega
      have e1 : (sn.en == 0) = true := by simpa using hen
      have hen0 := hen
      clear hgo hen
      have HE := Lib.hid hen0
      clear hen0
      go_wp2
      go_region
      all_goals go_wp2
      all_goals refine bodyPost_ret (res_cell_tmp rfl rfl ((((((HB.out.set 0 _).set 1 _).set 2 _).set 3 _).set 4 _).alloc _).drew Try.underlying28 rfl (by kernel_rfl) rfl) rfl ?_
      all_goals exact ⟨run_end h hM hwn hH.out.2.2.1 hH.out.2.2.2 HR.out.1 HR.out.2 (by rw [HE.out]; rfl) (fr_five wr _ _ _ _ _ _ _), by rw [HR.out.1]; exact hwn⟩
    · have e1 : (sn.en == 0) = false := by simpa using hen
      have HE := Lib.hid hen
      clear hgo hen
      go_wp2
      go_region
      all_goals go_wp2
      all_goals refine bodyPost_ret (res_cell_tmp rfl rfl ((((((HB.out.set 0 _).set 1 _).set 2 _).set 3 _).set 4 _).alloc _).drew Try.underlying28 rfl (by kernel_rfl) rfl) rfl ?_
      all_goals exact ⟨run_end h hM hwn hH.out.2.2.1 hH.out.2.2.2 HR.out.1 HR.out.2 (by rw [if_neg HE.out]) (fr_five wr _ _ _ _ _ _ _), by rw [HR.out.1]; exact hwn⟩

end Go.Proofs.Ytmlmjkojhfjjlaa
