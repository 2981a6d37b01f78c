/- The whole machine in memory; the contract of its stores. -/
import Derived.Test.YtmlmjkojhfjjlaaMach
import Derived.Test.YtmlmjkojhfjjlaaMem
import Derived.Deep.AppendLies
import Derived.OwnWalk
namespace Go.Proofs.Ytmlmjkojhfjjlaa
set_option linter.unusedVariables false
set_option linter.unusedSimpArgs false
open Go.RowKit

abbrev U8T : TypeId := 5
theorem info8 : (Try.prog.info? 5).map (fun i => (i.zero, i.size, i.bytes)) = some (some (.int .u8 0), 1, 1) := by kernel_rfl

/-- A machine: its block, its memory's two, what it has put out. -/
structure Mach (w : World) (g gm gw cap : Nat) (rest : List Value) (ov : Value) (s : M.St) : Prop where
  mc : Cel w g MT (mc s gm ov)
  mm : MemAt w gm gw cap s.mem rest
  ow : w.ownsRow 0 U8T 1 ov s.out.length (s.out.map (Value.int .u8))

/-- What a state is like. -/
structure Wf (s : M.St) : Prop where
  rl : s.r.length = 16
  rb : ∀ i, 0 ≤ M.at_ s.r i ∧ M.at_ s.r i < 4294967296
  hb : 0 ≤ s.h ∧ s.h < 4294967296
  pc : 0 ≤ s.pc ∧ s.pc < 1073741824
  il : s.inp.size ≤ 4096
  rd : 0 ≤ s.rd ∧ s.rd ≤ s.inp.size
  ol : s.out.length ≤ 4096

theorem Cel.ne {w : World} {g g' : Nat} {t t' : TypeId} {cs cs' : Array Value} (h : Cel w g t cs) (h' : Cel w g' t' cs') (hne : t ≠ t') : g ≠ g' := by
  rintro rfl
  unfold Cel at h h'
  rw [h] at h'
  injection h' with h'
  injection h' with _ ht
  exact hne ht
theorem own_cel_ne {w : World} {g : Nat} {t e : TypeId} {cs : Array Value} {base size n : Nat} {v : Value} {xs : List Value} (h : w.ownsRow base e size v n xs) (hg : Cel w g t cs) (hne : e ≠ t) : v.ownBlock ≠ some g := by
  rcases h.2 with ⟨rfl, _⟩ | ⟨g', cap, cur, rfl, _, hh, _⟩
  · simp [Value.ownBlock]
  · intro he
    have : g' = g := by simpa [Value.ownBlock] using he
    subst this
    exact Cel.ne (t := e) (cs := cur) hh hg hne rfl
theorem own_form {w : World} {base size n : Nat} {e : TypeId} {v : Value} {xs : List Value} (h : w.ownsRow base e size v n xs) : ∃ A c, v = .slice A n c := by
  rcases h.2 with ⟨rfl, rfl⟩ | ⟨g', cap, cur, rfl, _⟩
  · exact ⟨_, _, rfl⟩
  · exact ⟨_, _, rfl⟩
theorem own_fr {S : Nat → Prop} {w w' : World} {base size n : Nat} {e : TypeId} {v : Value} {xs : List Value} (h : w.ownsRow base e size v n xs) (hf : Fr S w w') (hS : ∀ k, v.ownBlock = some k → ¬ S k) : w'.ownsRow base e size v n xs := by
  refine ⟨h.1, ?_⟩
  rcases h.2 with hn | ⟨g, cap, cur, rfl, hb, hgg, rest⟩
  · exact .inl hn
  · exact .inr ⟨g, cap, cur, rfl, hb, (hf.block g (Array.getElem?_eq_some_iff.1 hgg).1 (hS g rfl)).trans hgg, rest⟩

section
variable {w w' : World} {g gm gw cap : Nat} {rest : List Value} {ov : Value} {s : M.St}
theorem Mach.g_gm (h : Mach w g gm gw cap rest ov s) : g ≠ gm := h.mc.ne h.mm.hd (by decide)
theorem Mach.g_gw (h : Mach w g gm gw cap rest ov s) : g ≠ gw := h.mc.ne h.mm.ws (by decide)
theorem Mach.gm_gw (h : Mach w g gm gw cap rest ov s) : gm ≠ gw := h.mm.hd.ne h.mm.ws (by decide)
theorem Mach.o_g (h : Mach w g gm gw cap rest ov s) : ov.ownBlock ≠ some g := own_cel_ne h.ow h.mc (by decide)
theorem Mach.o_gm (h : Mach w g gm gw cap rest ov s) : ov.ownBlock ≠ some gm := own_cel_ne h.ow h.mm.hd (by decide)
theorem Mach.o_gw (h : Mach w g gm gw cap rest ov s) : ov.ownBlock ≠ some gw := own_cel_ne h.ow h.mm.ws (by decide)
theorem MemAt.fr {S : Nat → Prop} {mem : List Int} (h : MemAt w gm gw cap mem rest) (hf : Fr S w w') (h1 : ¬ S gm) (h2 : ¬ S gw) : MemAt w' gm gw cap mem rest :=
  ⟨hf.cel h.hd h1, hf.cel h.ws h2, h.le, h.lc, h.bd⟩
end

theorem Mach.fr {w w' : World} {g gm gw cap : Nat} {rest : List Value} {ov : Value} {s : M.St} {S : Nat → Prop} (h : Mach w g gm gw cap rest ov s) (hF : Fr S w w') (h1 : ¬ S g) (h2 : ¬ S gm) (h3 : ¬ S gw) (h4 : ∀ k, ov.ownBlock = some k → ¬ S k) : Mach w' g gm gw cap rest ov s :=
  ⟨hF.cel h.mc h1, h.mm.fr hF h2 h3, own_fr h.ow hF h4⟩
theorem fr_box0 {S : Nat → Prop} (w : World) (o : Obj) (n : Nat) : Fr S w ((w.alloc o).drewN n) := ((Fr.refl S w).alloc o).drewN n
theorem mach_box {w : World} {g gm gw cap : Nat} {rest : List Value} {ov : Value} {s : M.St} (h : Mach w g gm gw cap rest ov s) (o : Obj) (n : Nat) : Mach ((w.alloc o).drewN n) g gm gw cap rest ov s :=
  h.fr (fr_box0 (S := fun _ => False) w o n) id id id (fun _ _ => id)

/-- What may turn when the machine works. -/
def foot (g gw : Nat) (ov : Value) (k : Nat) : Prop := k = g ∨ k = gw ∨ ov.ownBlock = some k

/-- What a method of the machine leaves. -/
def RetMM (v : Value) (g gm gw cap : Nat) (rest : List Value) (ov : Value) (s : M.St) (w : World) (e : Ending) (w' : World) : Prop :=
  e = .returned v ∧ ∃ ov', Mach w' g gm gw cap rest ov' s ∧ Fr (foot g gw ov) w w' ∧ (ov'.ownBlock = ov.ownBlock ∨ ∃ b, ov'.ownBlock = some b ∧ w.heap.size ≤ b)

/-- Out of a method that writes the machine's block alone. -/
theorem RetM.mm {g gm gw cap : Nat} {rest : List Value} {ov : Value} {s s' : M.St} {w : World} {e : Ending} {w' : World} (h : RetM (· = g) g gm ov s' w e w') (hm : Mach w g gm gw cap rest ov s) (e1 : s'.mem = s.mem) (e2 : s'.out = s.out) :
    RetMM (.tuple #[]) g gm gw cap rest ov s' w e w' := by
  obtain ⟨he, hC, hF⟩ := h
  refine ⟨he, ov, ⟨hC, ?_, ?_⟩, hF.mono (fun k hk => .inl hk), .inl rfl⟩
  · rw [e1]; exact hm.mm.fr hF (fun h => hm.g_gm h.symm) (fun h => hm.g_gw h.symm)
  · rw [e2]; exact own_fr hm.ow hF (fun k hk h => hm.o_g (by rw [hk, h]))

set_option maxHeartbeats 1000000 in
set_option maxRecDepth 100000 in
theorem st_full (w : World) (g gm gw cap : Nat) (rest : List Value) (ov : Value) (s : M.St) (v : Int) (small : Bool) (h : Mach w g gm gw cap rest ov s) (hw : Wf s) (hf : s.out.length = 4096) :
    Calls Try.prog 76 #[.pointer (some ⟨g, 0, none⟩), .int .u32 4294967240, .int .u32 v, .bool small] w (RetM (· = g) g gm ov { s with en := 6 } w) := by
  have hC := h.mc
  obtain ⟨A, c, rfl⟩ := own_form h.ow
  obtain ⟨c16, c17, c18, c19, c20, c21, c22, c23, c24, c25, c26, c27⟩ := mach_fld hC hw.rl
  have f := hC.frozen
  have hm := cel_en hC hw.rl 6
  have HM := Lib.hid hm
  have hf' : ((s.out.length : Int) == 4096) = true := by simp; omega
  clear hm hf
  go_enter Try.func76, Try.ntmps76
  go_wp2
  exact bodyPost_ret (results_none rfl _ _ _) rfl ⟨rfl, HM.out, fr_set (Fr.refl _ _) _ _⟩

set_option maxHeartbeats 1000000 in
set_option maxRecDepth 100000 in
theorem st_trap (w : World) (g gm gw cap : Nat) (rest : List Value) (ov : Value) (s : M.St) (v : Int) (small : Bool) (h : Mach w g gm gw cap rest ov s) (hw : Wf s) (hv : 0 ≤ v ∧ v < 4294967296) :
    Calls Try.prog 76 #[.pointer (some ⟨g, 0, none⟩), .int .u32 4294967236, .int .u32 v, .bool small] w (RetM (· = g) g gm ov { s with en := 2, tr := M.sg v } w) := by
  have hC := h.mc
  obtain ⟨c16, c17, c18, c19, c20, c21, c22, c23, c24, c25, c26, c27⟩ := mach_fld hC hw.rl
  have f := hC.frozen
  have hm := cel_tr (cel_en hC hw.rl 2) hw.rl (M.sg v)
  have HM := Lib.hid hm
  clear hm
  go_enter Try.func76, Try.ntmps76
  go_wp2_with (go_at_call 91; refine (signed_any _ _ (by omega) (by omega)).mono ?_; rintro e w' ⟨rfl, rfl⟩)
  go_end0
  exact ⟨rfl, HM.out, fr_set (fr_set (Fr.refl _ _) _ _) _ _⟩

set_option maxHeartbeats 1000000 in
set_option maxRecDepth 100000 in
theorem st_halt (w : World) (g gm gw cap : Nat) (rest : List Value) (ov : Value) (s : M.St) (v : Int) (small : Bool) (h : Mach w g gm gw cap rest ov s) (hw : Wf s) :
    Calls Try.prog 76 #[.pointer (some ⟨g, 0, none⟩), .int .u32 4294967232, .int .u32 v, .bool small] w (RetM (· = g) g gm ov { s with en := 1 } w) := by
  have hC := h.mc
  obtain ⟨c16, c17, c18, c19, c20, c21, c22, c23, c24, c25, c26, c27⟩ := mach_fld hC hw.rl
  have f := hC.frozen
  have hm := cel_en hC hw.rl 1
  have HM := Lib.hid hm
  clear hm
  go_enter Try.func76, Try.ntmps76
  go_wp2
  go_end0
  exact ⟨rfl, HM.out, fr_set (Fr.refl _ _) _ _⟩

set_option maxHeartbeats 1000000 in
set_option maxRecDepth 100000 in
theorem st_bad (w : World) (g gm gw cap : Nat) (rest : List Value) (ov : Value) (s : M.St) (p v : Int) (small : Bool) (h : Mach w g gm gw cap rest ov s) (hw : Wf s) (hp : 0 ≤ p) (hp' : p < 4294967296) (hv : 0 ≤ v ∧ v < 4294967296)
    (h1 : (p == 4294967240) = false) (h2 : (p == 4294967236) = false) (h3 : (p == 4294967232) = false) (hb : if small = true then ¬ p / 4 < s.mem.length else ¬ (p % 4 = 0 ∧ p / 4 < s.mem.length)) :
    Calls Try.prog 76 #[.pointer (some ⟨g, 0, none⟩), .int .u32 p, .int .u32 v, .bool small] w (RetM (· = g) g gm ov { s with en := 5 } w) := by
  have hC := h.mc
  obtain ⟨c16, c17, c18, c19, c20, c21, c22, c23, c24, c25, c26, c27⟩ := mach_fld hC hw.rl
  have f := hC.frozen
  have hm := cel_en hC hw.rl 5
  have HM := Lib.hid hm
  have HB := Lib.hid hb
  clear hm hb
  cases small
  · go_enter Try.func76, Try.ntmps76
    go_wp2_with (go_at_call 93; refine (store_no _ gm gw cap s.mem rest h.mm _ _ (by omega) (by omega) (by simpa using HB.out)).mono ?_; rintro e w' ⟨rfl, rfl⟩)
    go_end0
    exact ⟨rfl, HM.out, fr_set (Fr.refl _ _) _ _⟩
  · go_enter Try.func76, Try.ntmps76
    go_wp2_with (go_at_call 92; refine (putbyte_no _ gm gw cap s.mem rest h.mm _ _ (by omega) (by omega) (by simpa using HB.out)).mono ?_; rintro e w' ⟨rfl, rfl⟩)
    go_end0
    exact ⟨rfl, HM.out, fr_set (Fr.refl _ _) _ _⟩

theorem mach_mem {w w' : World} {g gm gw cap : Nat} {rest : List Value} {ov : Value} {s : M.St} {mem' : List Int} (h : Mach w g gm gw cap rest ov s) (hm : MemAt w' gm gw cap mem' rest) (hF : Fr (fun k => k = gw) w w') : Mach w' g gm gw cap rest ov { s with mem := mem' } :=
  ⟨hF.cel h.mc h.g_gw, hm, own_fr h.ow hF (fun k hk e => h.o_gw (by rw [hk, e]))⟩

set_option maxHeartbeats 1000000 in
set_option maxRecDepth 100000 in
theorem st_word (w : World) (g gm gw cap : Nat) (rest : List Value) (ov : Value) (s : M.St) (p v : Int) (h : Mach w g gm gw cap rest ov s) (hw : Wf s) (hp : 0 ≤ p) (hp' : p < 4294967296) (hv : 0 ≤ v ∧ v < 4294967296)
    (h1 : (p == 4294967240) = false) (h2 : (p == 4294967236) = false) (h3 : (p == 4294967232) = false) (h4 : p % 4 = 0) (ht : p / 4 < s.mem.length) :
    Calls Try.prog 76 #[.pointer (some ⟨g, 0, none⟩), .int .u32 p, .int .u32 v, .bool false] w (RetMM (.tuple #[]) g gm gw cap rest ov { s with mem := M.put_ s.mem (p / 4) v } w) := by
  have hC := h.mc
  obtain ⟨c16, c17, c18, c19, c20, c21, c22, c23, c24, c25, c26, c27⟩ := mach_fld hC hw.rl
  have hst := store_yes w gm gw cap s.mem rest h.mm h.gm_gw p v hp hp' hv h4 ht
  have HS := Lib.hid hst
  clear hst h4
  go_enter Try.func76, Try.ntmps76
  go_wp2_with (go_at_call 93; refine HS.out.mono ?_; rintro e w' ⟨rfl, hm', hF'⟩)
  go_end0
  exact ⟨rfl, ov, mach_mem h hm' hF', hF'.mono (fun k hk => .inr (.inl hk)), .inl rfl⟩

set_option maxHeartbeats 1000000 in
set_option maxRecDepth 100000 in
theorem st_byte (w : World) (g gm gw cap : Nat) (rest : List Value) (ov : Value) (s : M.St) (p v : Int) (h : Mach w g gm gw cap rest ov s) (hw : Wf s) (hp : 0 ≤ p) (hp' : p < 4294967296) (hv : 0 ≤ v ∧ v < 4294967296)
    (h1 : (p == 4294967240) = false) (h2 : (p == 4294967236) = false) (h3 : (p == 4294967232) = false) (ht : p / 4 < s.mem.length) :
    Calls Try.prog 76 #[.pointer (some ⟨g, 0, none⟩), .int .u32 p, .int .u32 v, .bool true] w (RetMM (.tuple #[]) g gm gw cap rest ov { s with mem := M.putByte s.mem p v } w) := by
  have hC := h.mc
  obtain ⟨c16, c17, c18, c19, c20, c21, c22, c23, c24, c25, c26, c27⟩ := mach_fld hC hw.rl
  have hst := putbyte_yes w gm gw cap s.mem rest h.mm h.gm_gw p v hp hp' hv ht
  have HS := Lib.hid hst
  clear hst
  go_enter Try.func76, Try.ntmps76
  go_wp2_with (go_at_call 92; refine HS.out.mono ?_; rintro e w' ⟨rfl, hm', hF'⟩)
  go_end0
  exact ⟨rfl, ov, mach_mem h hm' hF', hF'.mono (fun k hk => .inr (.inl hk)), .inl rfl⟩

theorem grown_cel {w w' : World} {row : Option Nat} {g : Nat} {t : TypeId} {cs : Array Value} (hg : w.grownBy w' row) (h : Cel w g t cs) (hne : row ≠ some g) : Cel w' g t cs := (hg.block g h.lt (fun e => hne e.symm)).trans h
theorem fr_grown {w w' : World} {row : Option Nat} (hg : w.grownBy w' row) : Fr (fun k => row = some k) w w' := ⟨hg.os, hg.tape, hg.output, hg.size, fun k hk hn => hg.block k hk (fun e => hn e.symm)⟩

set_option maxHeartbeats 1000000 in
set_option maxRecDepth 100000 in
theorem st_out (w : World) (g gm gw cap : Nat) (rest : List Value) (ov : Value) (s : M.St) (v : Int) (small : Bool) (hM : Mach w g gm gw cap rest ov s) (hw : Wf s) (hv : 0 ≤ v ∧ v < 4294967296) (hf : s.out.length ≠ 4096) :
    Calls Try.prog 76 #[.pointer (some ⟨g, 0, none⟩), .int .u32 4294967240, .int .u32 v, .bool small] w (RetMM (.tuple #[]) g gm gw cap rest ov { s with out := s.out ++ [v % 256] } w) := by
  have hC := hM.mc
  have hol := hw.ol
  obtain ⟨A, c, rfl⟩ := own_form hM.ow
  obtain ⟨c16, c17, c18, c19, c20, c21, c22, c23, c24, c25, c26, c27⟩ := mach_fld hC hw.rl
  have f := hC.frozen
  have hg := hC.lt
  have hg1 : g < w.heap.size + 1 := by omega
  have hne : g ≠ w.heap.size := by omega
  have hf' : ((s.out.length : Int) == 4096) = false := by simp; omega
  obtain ⟨i0, hi, hz0, hz1, hz2⟩ := info_parts info8
  have hown := hM.ow.alloc (.cells #[.int .u8 (v % 256)] U8T)
  go_enter Try.func76, Try.ntmps76
  go_wp2_with (at_builtin; refine wpList_append_lies _ (by rfl) _ _ _ (by rfl) 0 U8T i0 (.int .u8 0) 1 1 Try.underlying75 hi hz0 hz1 hz2 rfl (by omega) _ _ _ (by rfl) hown ⟨w.heap.size, 0, none⟩ 1 1 [.int .u8 (v % 256)] (by rfl) rfl (World.news_of_block (heap_alloc_new w _)) (by simp [Value.oneCell']) (by omega) (by unfold maxLen; omega) (by omega) (by omega) (w.heap.size + 1) (by simp) ?_; intro b cp w1 hown1 hgrow hat hlt; have hC1 := grown_cel hgrow (hC.alloc _) hM.o_g; have d25 := (hC1.cell 25).trans (mc_fld hw.rl 9); have df := hC1.frozen)
  go_end0
  have hb := own_cel_ne hown1 hC1 (by decide)
  have hF1 : Fr (fun k => (Value.slice A s.out.length c).ownBlock = some k ∨ k = g) w w1 := ((Fr.refl _ w).alloc _).trans ((fr_grown hgrow).mono (fun k hk => .inl hk))
  have hF2 := hF1.setCell (p := ⟨g, 25, none⟩) (.inl (.inr rfl)) (.slice (some ⟨b, 0, none⟩) (s.out.length + 1) cp)
  refine ⟨rfl, .slice (some ⟨b, 0, none⟩) (s.out.length + 1) cp, ⟨cel_ov hC1 hw.rl _, ?_, ?_⟩, ?_, ?_⟩
  · exact hM.mm.fr hF2 (fun h => h.elim hM.o_gm (fun e => hM.g_gm e.symm)) (fun h => h.elim hM.o_gw (fun e => hM.g_gw e.symm))
  · have := own_fr hown1 (fr_set (Fr.refl (fun k => k = g) w1) 25 (.slice (some ⟨b, 0, none⟩) (s.out.length + 1) cp)) (fun k hk e => hb (by rw [hk, e]))
    simpa using this
  · exact hF2.mono (fun k hk => hk.elim (fun h => .inr (.inr h)) .inl)
  · rcases hat with hat | hat
    · exact .inl (by rw [hat]; rfl)
    · exact .inr ⟨b, rfl, by omega⟩

/-- What stood ahead of the call. -/
theorem RetMM.pre {v : Value} {g gm gw cap : Nat} {rest : List Value} {ov : Value} {s : M.St} {w w0 : World} {e : Ending} {w' : World} (h : RetMM v g gm gw cap rest ov s w0 e w') (hF : Fr (foot g gw ov) w w0) : RetMM v g gm gw cap rest ov s w e w' := by
  obtain ⟨he, ov', hM, hF', hA⟩ := h
  refine ⟨he, ov', hM, hF.trans hF', hA.imp id ?_⟩
  rintro ⟨b, hb, hle⟩
  exact ⟨b, hb, Nat.le_trans hF.size hle⟩

theorem stores_any (w : World) (g gm gw cap : Nat) (rest : List Value) (ov : Value) (s : M.St) (p v : Int) (small : Bool) (h : Mach w g gm gw cap rest ov s) (hw : Wf s) (hp : 0 ≤ p) (hp' : p < 4294967296) (hv : 0 ≤ v ∧ v < 4294967296) :
    Calls Try.prog 76 #[.pointer (some ⟨g, 0, none⟩), .int .u32 p, .int .u32 v, .bool small] w (RetMM (.tuple #[]) g gm gw cap rest ov (M.stores s p v small) w) := by
  unfold M.stores
  by_cases e1 : p = 4294967240
  · subst e1
    rw [if_pos rfl]
    by_cases hf : s.out.length = 4096
    · rw [if_pos hf]
      exact (st_full w g gm gw cap rest ov s v small h hw hf).mono fun e w' hh => hh.mm h rfl rfl
    · rw [if_neg hf]
      exact st_out w g gm gw cap rest ov s v small h hw hv hf
  rw [if_neg e1]
  by_cases e2 : p = 4294967236
  · subst e2
    rw [if_pos rfl]
    exact (st_trap w g gm gw cap rest ov s v small h hw hv).mono fun e w' hh => hh.mm h rfl rfl
  rw [if_neg e2]
  by_cases e3 : p = 4294967232
  · subst e3
    rw [if_pos rfl]
    exact (st_halt w g gm gw cap rest ov s v small h hw).mono fun e w' hh => hh.mm h rfl rfl
  rw [if_neg e3]
  have h1 : (p == 4294967240) = false := by simpa using e1
  have h2 : (p == 4294967236) = false := by simpa using e2
  have h3 : (p == 4294967232) = false := by simpa using e3
  cases small
  · rw [if_neg (by simp)]
    by_cases ht : p % 4 = 0 ∧ M.there s.mem p
    · rw [if_pos ht]
      exact st_word w g gm gw cap rest ov s p v h hw hp hp' hv h1 h2 h3 ht.1 ht.2
    · rw [if_neg ht]
      exact (st_bad w g gm gw cap rest ov s p v false h hw hp hp' hv h1 h2 h3 (by rw [if_neg (by simp)]; exact ht)).mono fun e w' hh => hh.mm h rfl rfl
  · rw [if_pos rfl]
    by_cases ht : M.there s.mem p
    · rw [if_pos ht]
      exact st_byte w g gm gw cap rest ov s p v h hw hp hp' hv h1 h2 h3 ht
    · rw [if_neg ht]
      exact (st_bad w g gm gw cap rest ov s p v true h hw hp hp' hv h1 h2 h3 (by rw [if_pos rfl]; exact ht)).mono fun e w' hh => hh.mm h rfl rfl

end Go.Proofs.Ytmlmjkojhfjjlaa
