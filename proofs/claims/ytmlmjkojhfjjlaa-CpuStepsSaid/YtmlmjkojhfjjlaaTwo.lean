/- Machines side by side; Reg and PC of a live machine; the words that an append copies. -/
import Derived.Test.YtmlmjkojhfjjlaaWake
import Derived.Test.YtmlmjkojhfjjlaaNewE
import Derived.Test.YtmlmjkojhfjjlaaExt
import Derived.Maps.AppendAt
namespace Go.Proofs.Ytmlmjkojhfjjlaa
set_option linter.unusedVariables false
set_option linter.unusedSimpArgs false
open Go.RowKit

/-- A machine's blocks. -/
def MB (g gm gw : Nat) (ov : Value) (k : Nat) : Prop := k = g ∨ k = gm ∨ k = gw ∨ ov.ownBlock = some k

/-- A machine in memory, with blocks from base on. -/
structure Own (w : World) (base g gm gw cap : Nat) (ov : Value) (s : M.St) : Prop where
  m : Mach w g gm gw cap [] ov s
  wf : Wf s
  lo : ∀ k, MB g gm gw ov k → base ≤ k

section
variable {w w' : World} {base g gm gw cap : Nat} {ov : Value} {s s' : M.St}
theorem Own.lt (h : Own w base g gm gw cap ov s) {k : Nat} (hk : MB g gm gw ov k) : k < w.heap.size := by
  rcases hk with rfl | rfl | rfl | hk
  · exact h.m.mc.lt
  · exact h.m.mm.hd.lt
  · exact h.m.mm.ws.lt
  · exact own_lt h.m.ow hk
theorem Own.fr {S : Nat → Prop} (h : Own w base g gm gw cap ov s) (hF : Fr S w w') (hS : ∀ k, MB g gm gw ov k → ¬ S k) : Own w' base g gm gw cap ov s :=
  ⟨h.m.fr hF (hS _ (.inl rfl)) (hS _ (.inr (.inl rfl))) (hS _ (.inr (.inr (.inl rfl)))) (fun k hk => hS k (.inr (.inr (.inr hk)))), h.wf, h.lo⟩
theorem Own.alloc (h : Own w base g gm gw cap ov s) (o : Obj) : Own (w.alloc o) base g gm gw cap ov s := h.fr (S := fun _ => False) ((Fr.refl _ w).alloc o) (fun _ _ => id)
theorem Own.drewN (h : Own w base g gm gw cap ov s) (n : Nat) : Own (w.drewN n) base g gm gw cap ov s := h.fr (S := fun _ => False) ((Fr.refl _ w).drewN n) (fun _ _ => id)
theorem Own.drew (h : Own w base g gm gw cap ov s) : Own w.drew base g gm gw cap ov s := h.fr (S := fun _ => False) ((Fr.refl _ w).drew) (fun _ _ => id)
theorem Own.below (h : Own w base g gm gw cap ov s) (hb : Below w.heap.size w w') : Own w' base g gm gw cap ov s := h.fr (Fr.of_below (S := fun _ => False) hb) (fun _ _ => id)
theorem Own.mono (h : Own w base g gm gw cap ov s) {base' : Nat} (hb : base' ≤ base) : Own w base' g gm gw cap ov s := ⟨h.m, h.wf, fun k hk => Nat.le_trans hb (h.lo k hk)⟩
/-- A block of another type is none of the machine's. -/
theorem Own.not_cel {B : Nat} {cs : Array Value} (h : Own w base g gm gw cap ov s) (hc : Cel w B 28 cs) : ¬ MB g gm gw ov B := by
  rintro (e | e | e | e)
  · exact h.m.mc.ne hc (by decide) e.symm
  · exact h.m.mm.hd.ne hc (by decide) e.symm
  · exact h.m.mm.ws.ne hc (by decide) e.symm
  · exact own_cel_ne h.m.ow hc (by decide) e
/-- Behind a method. -/
theorem Own.did {v : Value} {e : Ending} (h : Own w base g gm gw cap ov s) (hb : base ≤ w.heap.size) (hR : RetMM v g gm gw cap [] ov s' w e w') (hw : Wf s') :
    e = .returned v ∧ ∃ ov', Own w' base g gm gw cap ov' s' ∧ Fr (MB g gm gw ov) w w' ∧ (∀ k, MB g gm gw ov' k → MB g gm gw ov k ∨ w.heap.size ≤ k) := by
  obtain ⟨he, ov', hM, hF, hA⟩ := hR
  have key : ∀ k, MB g gm gw ov' k → MB g gm gw ov k ∨ w.heap.size ≤ k := by
    rintro k (e | e | e | e)
    · exact .inl (.inl e)
    · exact .inl (.inr (.inl e))
    · exact .inl (.inr (.inr (.inl e)))
    · rcases hA with hA | ⟨b, hb', hle⟩
      · exact .inl (.inr (.inr (.inr (hA ▸ e))))
      · rw [hb'] at e; injection e with e; exact .inr (by omega)
  refine ⟨he, ov', ⟨hM, hw, fun k hk => ?_⟩, hF.mono ?_, key⟩
  · rcases key k hk with h1 | h1
    · exact h.lo k h1
    · omega
  · rintro k (e | e | e)
    · exact .inl e
    · exact .inr (.inr (.inl e))
    · exact .inr (.inr (.inr e))
end

theorem own_run (w : World) (base g gm gw cap : Nat) (ov : Value) (s : M.St) (k : Nat) (hk : k ≤ 4194304) (h : Own w base g gm gw cap ov s) (hb : base ≤ w.heap.size) :
    Calls Try.prog 19 #[.pointer (some ⟨g, 0, none⟩), .int .i64 (k : Int)] w (fun e w' => e = .returned (.tuple #[ocV (M.runs k s) (M.steps k s), .int .i64 0]) ∧
      ∃ ov', Own w' base g gm gw cap ov' (M.runs k s) ∧ Fr (MB g gm gw ov) w w' ∧ (∀ k, MB g gm gw ov' k → MB g gm gw ov k ∨ w.heap.size ≤ k)) :=
  (run_any w g gm gw cap [] ov s k hk h.m h.wf).mono fun _ _ ⟨hR, hw⟩ => h.did hb hR hw

theorem own_new (w : World) (sp : Option Addr) (c : Nat) (ws : List Int) (v : Value) (start : Int) (inp : ByteArray) (h : Src w v sp c ws) (he : newE ws.length start inp.size = 0) :
    Calls Try.prog 18 #[v, .int .i64 start, .string inp] w (fun e w' => ∃ g gm gw, e = .returned (.tuple #[.pointer (some ⟨g, 0, none⟩), .int .i64 0]) ∧
      Own w' w.heap.size g gm gw ws.length (.slice none 0 0) (st0 ws start inp) ∧ Below w.heap.size w w') := by
  obtain ⟨hl, hi, h0, h1⟩ := newE_ok he
  refine (cpunew_any w sp c ws v start inp h hl hi h0 h1).mono ?_
  rintro e w' ⟨g, gm, gw, he, hM, hB, k1, k2, k3⟩
  refine ⟨g, gm, gw, he, ⟨hM, wf_st0 _ _ _ h0 (by omega) hi, ?_⟩, hB⟩
  rintro k (rfl | rfl | rfl | hk)
  · exact k1
  · exact k2
  · exact k3
  · simp [Value.ownBlock] at hk

set_option maxHeartbeats 1000000 in
set_option maxRecDepth 100000 in
theorem reg_any (w : World) (base g gm gw cap : Nat) (ov : Value) (s : M.St) (n : Int) (h : Own w base g gm gw cap ov s) (h0 : 0 ≤ n) (h1 : n < 16) :
    Calls Try.prog 28 #[.pointer (some ⟨g, 0, none⟩), .int .i64 n] w (Ret (.int .u32 (M.at_ s.r n)) w) := by
  have hc := mach_reg h.m.mc h.wf.rl n h0 h1
  clear h
  go_enter Try.func28, Try.ntmps28
  go_wp2
  go_ret
  exact ⟨rfl, rfl⟩

theorem reg_is (w : World) (base g gm gw cap : Nat) (ov : Value) (s : M.St) (n v : Int) (h : Own w base g gm gw cap ov s) (h0 : 0 ≤ n) (h1 : n < 16) (hv : M.at_ s.r n = v) :
    Calls Try.prog 28 #[.pointer (some ⟨g, 0, none⟩), .int .i64 n] w (Ret (.int .u32 v) w) := hv ▸ reg_any w base g gm gw cap ov s n h h0 h1

set_option maxHeartbeats 1000000 in
set_option maxRecDepth 100000 in
theorem reg_out (w : World) (g : Nat) (n : Int) (h0 : n < 0 ∨ 15 < n) :
    Calls Try.prog 28 #[.pointer (some ⟨g, 0, none⟩), .int .i64 n] w (Ret (.int .u32 0) w) := by
  by_cases hn : n < 0
  · clear h0
    go_enter Try.func28, Try.ntmps28
    go_wp2
    go_ret
    exact ⟨rfl, rfl⟩
  · have h1 : 15 < n := by omega
    clear h0
    go_enter Try.func28, Try.ntmps28
    go_wp2
    go_ret
    exact ⟨rfl, rfl⟩

set_option maxHeartbeats 1000000 in
set_option maxRecDepth 100000 in
theorem pc_any (w : World) (base g gm gw cap : Nat) (ov : Value) (s : M.St) (h : Own w base g gm gw cap ov s) :
    Calls Try.prog 20 #[.pointer (some ⟨g, 0, none⟩)] w (Ret (.int .i64 s.pc) w) := by
  obtain ⟨c16, c17, c18, c19, c20, c21, c22, c23, c24, c25, c26, c27⟩ := mach_fld h.m.mc h.wf.rl
  clear h c16 c17 c18 c19 c20 c22 c23 c24 c25 c26 c27
  go_enter Try.func20, Try.ntmps20
  go_wp2
  go_ret
  exact ⟨rfl, rfl⟩

theorem pc_is (w : World) (base g gm gw cap : Nat) (ov : Value) (s : M.St) (v : Int) (h : Own w base g gm gw cap ov s) (hv : s.pc = v) :
    Calls Try.prog 20 #[.pointer (some ⟨g, 0, none⟩)] w (Ret (.int .i64 v) w) := hv ▸ pc_any w base g gm gw cap ov s h

theorem run_append_nothing {P : Program} (w : World) (t ty e : TypeId) (i : TypeInfo) (ht : P.underlying t = some (.slice e)) (hi : P.info? e = some i) (g c : Nat) :
    (Builtin.append_ #[t, t] ty #[.slice (some ⟨g, 0, none⟩) 0 0, .slice none 0 c]).run P w = .ok (.slice (some ⟨g, 0, none⟩) 0 0) w := by
  simp [Builtin.append_, run_underlying ht, sizeOf, typeInfo, hi, Builtin.lenOf, Builtin.firstCells, storeCells]
set_option maxRecDepth 100000 in
/-- 'append([]uint32{}, words...)'. -/
theorem run_copy_words (w : World) (ty : TypeId) (g n c : Nat) (sp : Option Addr) (ws : List Int) (hn : n = ws.length) (hg : Cel w g U32T #[]) (h : Src w (.slice sp n c) sp c ws) (hl : ws.length ≤ 1000000) :
    ∃ v' w', (Builtin.append_ #[32, 32] ty #[.slice (some ⟨g, 0, none⟩) 0 0, .slice sp n c]).run Try.prog w = .ok v' w' ∧ w'.ownsRow g U32T 1 v' ws.length (ws.map (Value.int .u32)) ∧ Below g w w' := by
  subst hn
  obtain ⟨i0, hi, hz0, hz1, hz2⟩ := info_parts info32
  have hown : w.ownsRow g U32T 1 (.slice (some ⟨g, 0, none⟩) 0 0) 0 [] := ⟨by simp, .inr ⟨g, 0, #[], rfl, Nat.le_refl _, hg, by simp⟩⟩
  rcases sp with _ | ad
  · have h0 : ws.length = 0 := by
      rcases Nat.eq_zero_or_pos ws.length with e | e
      · exact e
      · obtain ⟨ad, e, _⟩ := h.at_ e
        cases e
    have hnil : ws = [] := List.eq_nil_of_length_eq_zero h0
    subst hnil
    refine ⟨.slice (some ⟨g, 0, none⟩) 0 0, w, ?_, hown, Below.refl _ _⟩
    exact run_append_nothing w _ ty _ i0 Try.underlying32 hi g c
  · have hcells : ∀ j u, (ws.map (Value.int .u32))[j]? = some u → w.cell? (ad.add j) = some u := by
      intro j u hj
      obtain ⟨ad', e, hc⟩ := h.at_ (by have := (List.getElem?_eq_some_iff.1 hj).1; simp at this; omega)
      injection e with e
      subst e
      exact hc j u hj
    obtain ⟨v', w', hrun, h2, h3, _, h5⟩ := run_append_own_at (P := Try.prog) w g 32 ty U32T i0 (.int .u32 0) 1 4 Try.underlying32 hi hz0 hz1 hz2 rfl (by omega) _ 0 [] hown ad ws.length c (ws.map (Value.int .u32)) (by simp) hcells
      (by intro u hu; obtain ⟨x, _, rfl⟩ := List.mem_map.1 hu; rfl) (by unfold maxLen; omega) (by omega) (by have := hg.lt; omega)
    refine ⟨v', w', hrun, by simpa using h2, (Below.refl g w).grown h3 (by have := hg.lt; omega) (fun k hk => ?_)⟩
    simp [Value.ownBlock] at hk
    omega


theorem below_fr {B : Nat} {S : Nat → Prop} {w0 w w' : World} (hb : Below B w0 w) (hF : Fr S w w') (hB : B ≤ w.heap.size) (hS : ∀ k, S k → B ≤ k) : Below B w0 w' := hb.trans (hF.below hB hS)

/-- Two machines side by side, made since w0. -/
structure Duo (w0 w : World) (g1 gm1 gw1 cap1 : Nat) (ov1 : Value) (s1 : M.St) (g2 gm2 gw2 cap2 : Nat) (ov2 : Value) (s2 : M.St) : Prop where
  m : Own w w0.heap.size g1 gm1 gw1 cap1 ov1 s1
  n : Own w w0.heap.size g2 gm2 gw2 cap2 ov2 s2
  ap : ∀ k, MB g1 gm1 gw1 ov1 k → ¬ MB g2 gm2 gw2 ov2 k
  b : Below w0.heap.size w0 w

section
variable {w0 w w' : World} {g1 gm1 gw1 cap1 g2 gm2 gw2 cap2 : Nat} {ov1 ov2 : Value} {s1 s2 : M.St}
theorem Duo.swap (h : Duo w0 w g1 gm1 gw1 cap1 ov1 s1 g2 gm2 gw2 cap2 ov2 s2) : Duo w0 w g2 gm2 gw2 cap2 ov2 s2 g1 gm1 gw1 cap1 ov1 s1 := ⟨h.n, h.m, fun k a b => h.ap k b a, h.b⟩
theorem Duo.alloc (h : Duo w0 w g1 gm1 gw1 cap1 ov1 s1 g2 gm2 gw2 cap2 ov2 s2) (o : Obj) : Duo w0 (w.alloc o) g1 gm1 gw1 cap1 ov1 s1 g2 gm2 gw2 cap2 ov2 s2 := ⟨h.m.alloc o, h.n.alloc o, h.ap, h.b.alloc h.b.size o⟩
theorem Duo.below (h : Duo w0 w g1 gm1 gw1 cap1 ov1 s1 g2 gm2 gw2 cap2 ov2 s2) (hb : Below w.heap.size w w') : Duo w0 w' g1 gm1 gw1 cap1 ov1 s1 g2 gm2 gw2 cap2 ov2 s2 := ⟨h.m.below hb, h.n.below hb, h.ap, h.b.trans (hb.mono h.b.size)⟩
theorem Duo.drewN (h : Duo w0 w g1 gm1 gw1 cap1 ov1 s1 g2 gm2 gw2 cap2 ov2 s2) (n : Nat) : Duo w0 (w.drewN n) g1 gm1 gw1 cap1 ov1 s1 g2 gm2 gw2 cap2 ov2 s2 := ⟨h.m.drewN n, h.n.drewN n, h.ap, below_drewN h.b n⟩
/-- An outcome's block stays while a machine works. -/
theorem Own.keeps {base g gm gw cap B : Nat} {ov : Value} {s : M.St} {cs : Array Value} (h : Own w base g gm gw cap ov s) (hF : Fr (MB g gm gw ov) w w') (hc : Cel w B 28 cs) : Cel w' B 28 cs := hF.cel hc (h.not_cel hc)
end

theorem duo_run {w0 w : World} {g1 gm1 gw1 cap1 g2 gm2 gw2 cap2 : Nat} {ov1 ov2 : Value} {s1 s2 : M.St} (kv : Int) (k : Nat) (hkv : kv = (k : Int)) (hk : k ≤ 4194304) (h : Duo w0 w g1 gm1 gw1 cap1 ov1 s1 g2 gm2 gw2 cap2 ov2 s2) :
    Calls Try.prog 19 #[.pointer (some ⟨g1, 0, none⟩), .int .i64 kv] w (fun e w' => e = .returned (.tuple #[ocV (M.runs k s1) (M.steps k s1), .int .i64 0]) ∧
      ∃ ov', Duo w0 w' g1 gm1 gw1 cap1 ov' (M.runs k s1) g2 gm2 gw2 cap2 ov2 s2 ∧ Fr (MB g1 gm1 gw1 ov1) w w') := by
  subst hkv
  refine (own_run w _ g1 gm1 gw1 cap1 ov1 s1 k hk h.m h.b.size).mono ?_
  rintro e w' ⟨he, ov', hM, hF, hkeep⟩
  refine ⟨he, ov', ⟨hM, h.n.fr hF (fun k a b => h.ap k b a), fun k a b => ?_, below_fr h.b hF h.b.size (fun k hk => h.m.lo k hk)⟩, hF⟩
  rcases hkeep k a with h1 | h1
  · exact h.ap k h1 b
  · have := h.n.lt b; omega

end Go.Proofs.Ytmlmjkojhfjjlaa
