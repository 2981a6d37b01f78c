/- The document's memory and machine: contracts of its methods. -/
import Derived.Test.YtmlmjkojhfjjlaaMem
import Derived.Test.YtmlmjkojhfjjlaaRefA
import Derived.LoopTactic
import Derived.StillTailTactics
import Derived.Test.YtmlmjkojhfjjlaaRAlu
import Derived.Test.YtmlmjkojhfjjlaaStores
import Derived.Test.YtmlmjkojhfjjlaaMoves
import Derived.Deep.RegionWith

/- RMem: The document's memory in memory: contracts of Size, there, Load, Store, scale, Byte, PutByte. -/
namespace Go.Proofs.Ytmlmjkojhfjjlaa
set_option linter.unusedVariables false
set_option linter.unusedSimpArgs false
open Go.RowKit

abbrev RMMT : TypeId := 112

/-- The document's memory's two blocks. -/
structure RMemAt (w : World) (gm gw cap : Nat) (mem : List Int) (rest : List Value) : Prop where
  hd : Cel w gm RMMT #[.slice (some ⟨gw, 0, none⟩) mem.length cap]
  ws : Cel w gw U32T (wds mem rest)
  le : mem.length ≤ 65536
  lc : mem.length ≤ cap
  bd : ∀ i, 0 ≤ M.at_ mem i ∧ M.at_ mem i < 4294967296

set_option maxHeartbeats 1000000 in
theorem rsize_any (w : World) (gm gw cap : Nat) (mem : List Int) (rest : List Value) (h : RMemAt w gm gw cap mem rest) :
    Calls Try.prog 48 #[.pointer (some ⟨gm, 0, none⟩)] w (Ret (.int .i64 (mem.length : Int)) w) := by
  have c0 := h.hd.cell 0
  have hlt := h.hd.lt
  go_enter Try.func48, Try.ntmps48
  go_wp2
  go_ret
  exact ⟨rfl, rfl⟩

set_option maxHeartbeats 1000000 in
theorem rthere_any (w : World) (gm gw cap : Nat) (mem : List Int) (rest : List Value) (h : RMemAt w gm gw cap mem rest) (p : Int) (hp : 0 ≤ p) (hp' : p < 4294967296) (b : Bool) (hb : decide (p / 4 < (mem.length : Int)) = b) :
    Calls Try.prog 112 #[.pointer (some ⟨gm, 0, none⟩), .int .u32 p] w (Ret (.bool b) w) := by
  have HS := Lib.hid (fun w0 (e : w0 = w) => (e ▸ rsize_any w gm gw cap mem rest h : Calls Try.prog 48 #[.pointer (some ⟨gm, 0, none⟩)] w0 (Ret (.int .i64 (mem.length : Int)) w0)))
  have HB := Lib.hid hb
  clear hb
  go_enter Try.func112, Try.ntmps112
  go_wp2_with (first
    | (go_at_call 48; refine (HS.out _ rfl).mono ?_; rintro e w' ⟨rfl, rfl⟩)
    | fail)
  go_ret
  exact ⟨ret_b HB.out, rfl⟩

theorem RMemAt.word {w : World} {gm gw cap : Nat} {mem : List Int} {rest : List Value} (h : RMemAt w gm gw cap mem rest) (i : Int) (h0 : 0 ≤ i) (h1 : i < mem.length) : w.cell? ⟨gw, i.toNat, none⟩ = some (.int .u32 (M.at_ mem i)) := by
  rw [h.ws.cell, wds_at _ (by omega)]; rfl

set_option maxHeartbeats 1000000 in
theorem rload_ok (w : World) (gm gw cap : Nat) (mem : List Int) (rest : List Value) (h : RMemAt w gm gw cap mem rest) (p : Int) (hp : 0 ≤ p) (hp' : p < 4294967296) (ht : p % 4 = 0 ∧ M.there mem p) :
    Calls Try.prog 110 #[.pointer (some ⟨gm, 0, none⟩), .int .u32 p] w (Ret (.tuple #[.int .u32 (M.at_ mem (p / 4)), .bool true]) w) := by
  have hlt : p / 4 < mem.length := ht.2
  have cw := h.word (p / 4) (by omega) hlt
  have c0 := h.hd.cell 0
  have hle := h.le
  have h4' : (p % 4 != 0) = false := by simp [ht.1]
  have HT := Lib.hid (rthere_any w gm gw cap mem rest h p hp hp' true (decide_eq_true hlt))
  clear ht
  go_enter Try.func110, Try.ntmps110
  go_wp2_with (first
    | (go_at_call 112; refine HT.out.mono ?_; rintro e w' ⟨rfl, rfl⟩)
    | fail)
  go_ret2
  exact ⟨rfl, rfl⟩

set_option maxHeartbeats 1000000 in
theorem rload_no (w : World) (gm gw cap : Nat) (mem : List Int) (rest : List Value) (h : RMemAt w gm gw cap mem rest) (p : Int) (hp : 0 ≤ p) (hp' : p < 4294967296) (ht : ¬ (p % 4 = 0 ∧ M.there mem p)) :
    Calls Try.prog 110 #[.pointer (some ⟨gm, 0, none⟩), .int .u32 p] w (Ret (.tuple #[.int .u32 0, .bool false]) w) := by
  by_cases h4 : p % 4 = 0
  · have hn : ¬ p / 4 < (mem.length : Int) := fun hh => ht ⟨h4, hh⟩
    have h4' : (p % 4 != 0) = false := by simp [h4]
    have HT := Lib.hid (rthere_any w gm gw cap mem rest h p hp hp' false (decide_eq_false hn))
    clear ht h4
    go_enter Try.func110, Try.ntmps110
    go_wp2_with (first
      | (go_at_call 112; refine HT.out.mono ?_; rintro e w' ⟨rfl, rfl⟩)
      | fail)
    go_ret2
    exact ⟨rfl, rfl⟩
  · have h4' : (p % 4 != 0) = true := by simp [h4]
    clear ht h4
    go_enter Try.func110, Try.ntmps110
    go_wp2
    go_ret2
    exact ⟨rfl, rfl⟩

theorem RMemAt.put {w : World} {gm gw cap : Nat} {mem : List Int} {rest : List Value} (h : RMemAt w gm gw cap mem rest) (i : Int) (h0 : 0 ≤ i) (h1 : i < mem.length) (v : Int) (hv : 0 ≤ v ∧ v < 4294967296) (hne : gm ≠ gw) :
    RMemAt (w.setCell ⟨gw, i.toNat, none⟩ (.int .u32 v)) gm gw cap (M.put_ mem i v) rest := by
  have hl : (M.put_ mem i v).length = mem.length := by unfold M.put_; simp
  refine ⟨by rw [hl]; exact h.hd.far hne _, (h.ws.set _ _).to (wds_set _ (by omega) v), by rw [hl]; exact h.le, by rw [hl]; exact h.lc, fun j => ?_⟩
  have hb := h.bd j
  unfold M.put_ M.at_ at *
  rw [List.getD_eq_getElem?_getD, List.getElem?_set] at *
  split
  · split
    · simpa using hv
    · simp
  · exact hb

/-- What a store leaves: the memory's words; some draws. -/
def RRetW (v : Value) (gm gw cap : Nat) (mem : List Int) (rest : List Value) (w : World) (e : Ending) (w' : World) : Prop := e = .returned v ∧ RMemAt w' gm gw cap mem rest ∧ Fr (fun k => k = gw) w w'

theorem RMemAt.drewN {w : World} {gm gw cap : Nat} {mem : List Int} {rest : List Value} (h : RMemAt w gm gw cap mem rest) (n : Nat) : RMemAt (w.drewN n) gm gw cap mem rest := ⟨h.hd.drewN n, h.ws.drewN n, h.le, h.lc, h.bd⟩
theorem RMemAt.drew {w : World} {gm gw cap : Nat} {mem : List Int} {rest : List Value} (h : RMemAt w gm gw cap mem rest) : RMemAt w.drew gm gw cap mem rest := ⟨h.hd.drew, h.ws.drew, h.le, h.lc, h.bd⟩

set_option maxHeartbeats 1000000 in
theorem rstore_yes (w : World) (gm gw cap : Nat) (mem : List Int) (rest : List Value) (h : RMemAt w gm gw cap mem rest) (hne : gm ≠ gw) (p v : Int) (hp : 0 ≤ p) (hp' : p < 4294967296) (hv : 0 ≤ v ∧ v < 4294967296) (h4 : p % 4 = 0) (ht : p / 4 < mem.length) :
    Calls Try.prog 108 #[.pointer (some ⟨gm, 0, none⟩), .int .u32 p, .int .u32 v] w (RRetW (.bool true) gm gw cap (M.put_ mem (p / 4) v) rest w) := by
  have cw := h.word (p / 4) (by omega) ht
  have c0 := h.hd.cell 0
  have fw := h.ws.frozen
  have hle := h.le
  have h4' : (p % 4 != 0) = false := by simp [h4]
  have HT := Lib.hid (rthere_any w gm gw cap mem rest h p hp hp' true (decide_eq_true ht))
  have HM := Lib.hid (h.put (p / 4) (by omega) ht v hv hne)
  clear h4
  go_enter Try.func108, Try.ntmps108
  go_wp2_with (first
    | (go_at_call 112; refine HT.out.mono ?_; rintro e w' ⟨rfl, rfl⟩)
    | fail)
  go_ret
  exact ⟨rfl, HM.out, fr_set1 (Fr.refl _ _) _ _⟩

set_option maxHeartbeats 1000000 in
theorem rstore_no (w : World) (gm gw cap : Nat) (mem : List Int) (rest : List Value) (h : RMemAt w gm gw cap mem rest) (p v : Int) (hp : 0 ≤ p) (hp' : p < 4294967296) (hn : ¬ (p % 4 = 0 ∧ p / 4 < mem.length)) :
    Calls Try.prog 108 #[.pointer (some ⟨gm, 0, none⟩), .int .u32 p, .int .u32 v] w (Ret (.bool false) w) := by
  by_cases h4 : p % 4 = 0
  · have hn' : ¬ p / 4 < (mem.length : Int) := fun hh => hn ⟨h4, hh⟩
    have h4' : (p % 4 != 0) = false := by simp [h4]
    have HT := Lib.hid (rthere_any w gm gw cap mem rest h p hp hp' false (decide_eq_false hn'))
    clear hn h4
    go_enter Try.func108, Try.ntmps108
    go_wp2_with (first
      | (go_at_call 112; refine HT.out.mono ?_; rintro e w' ⟨rfl, rfl⟩)
      | fail)
    go_ret
    exact ⟨rfl, rfl⟩
  · have h4' : (p % 4 != 0) = true := by simp [h4]
    clear hn h4
    go_enter Try.func108, Try.ntmps108
    go_wp2
    go_ret
    exact ⟨rfl, rfl⟩

theorem pow256 (k : Nat) (h : k ≤ 3) : (256 : Int) ^ k ≤ 16777216 ∧ 1 ≤ (256 : Int) ^ k := by
  have : k = 0 ∨ k = 1 ∨ k = 2 ∨ k = 3 := by omega
  rcases this with rfl | rfl | rfl | rfl <;> decide
theorem sc_256 (p : Int) (k : Nat) (hk : p % 4 = (k : Int)) : (256 : Int) ^ k = M.sc p := by
  have h : k = 0 ∨ k = 1 ∨ k = 2 ∨ k = 3 := by omega
  unfold M.sc
  rcases h with rfl | rfl | rfl | rfl
  all_goals
    have hk' := hk
    simp at hk'
    simp [hk']

set_option maxHeartbeats 1000000 in
theorem rscale_any (p : Int) (w : World) (hp : 0 ≤ p) (hp' : p < 4294967296) : Calls Try.prog 113 #[.int .u32 p] w (Ret (.int .u32 (M.sc p)) w) := by
  obtain ⟨m, hk⟩ := Int.eq_ofNat_of_zero_le (show 0 ≤ p % 4 by omega)
  have hm3 : m ≤ 3 := by omega
  have hm : p.tmod 4 = (m : Int) := by rw [Int.tmod_eq_emod_of_nonneg hp, hk]
  have HS := Lib.hid (sc_256 p m hk)
  have HK := Lib.hid hk
  clear hk
  go_enter Try.func113, Try.ntmps113
  go_wp2
  go_loop [3, 4] (fun s i => ∃ k : Nat, k ≤ m ∧ i = .int .u32 (k : Int) ∧ s = .int .u32 (256 ^ k)) (fun _ i => m - (intOf i).toNat)
  · exact ⟨0, by omega, by simp, by simp⟩
  obtain ⟨k, hk, rfl, rfl⟩ := hrel
  have hk' := HK.out
  by_cases hlt : k < m
  · have h1 := (pow256 (k + 1) (by omega)).1
    have h0 := (pow256 k (by omega)).2
    have e : (256 : Int) ^ (k + 1) = 256 ^ k * 256 := Int.pow_succ 256 k
    have hz : ((k : Int) < (m : Int)) := by omega
    generalize (256 : Int) ^ k = q at *
    go_wp2
    go_round
    case rel => exact ⟨k + 1, by omega, by go_num, by rw [e]⟩
    case measure => simp [intOf]; omega
  · have : k = m := by omega
    subst this
    go_wp2
    go_ret
    exact ⟨ret_i HS.out, rfl⟩

set_option maxHeartbeats 1000000 in
theorem rbyte_ok (w : World) (gm gw cap : Nat) (mem : List Int) (rest : List Value) (h : RMemAt w gm gw cap mem rest) (p : Int) (hp : 0 ≤ p) (hp' : p < 4294967296) (ht : M.there mem p) :
    Calls Try.prog 109 #[.pointer (some ⟨gm, 0, none⟩), .int .u32 p] w (RetD (.tuple #[.int .u32 (M.byteAt mem p), .bool true]) w) := by
  have hlt : p / 4 < mem.length := ht
  have cw := h.word (p / 4) (by omega) hlt
  have c0 := h.hd.cell 0
  have hle := h.le
  have hbd := h.bd (p / 4)
  have hsc : M.sc p = 1 ∨ M.sc p = 256 ∨ M.sc p = 65536 ∨ M.sc p = 16777216 := by unfold M.sc; split; simp; split; simp; split; simp; simp
  have hs1 : 1 ≤ M.sc p := by omega
  have hs2 : M.sc p < 4294967296 := by omega
  have hsz : (M.sc p == 0) = false := beq_false_of_ne (by omega)
  have hd0 : 0 ≤ M.at_ mem (p / 4) / M.sc p := Int.ediv_nonneg hbd.1 (by omega)
  have hd1 : M.at_ mem (p / 4) / M.sc p < 4294967296 := Int.lt_of_le_of_lt (Int.ediv_le_self _ hbd.1) hbd.2
  have HT := Lib.hid (fun w0 (e : w0 = w) => (e ▸ rthere_any w gm gw cap mem rest h p hp hp' true (decide_eq_true hlt) : Calls Try.prog 112 #[.pointer (some ⟨gm, 0, none⟩), .int .u32 p] w0 (Ret (.bool true) w0)))
  have HS := Lib.hid (fun w0 => rscale_any p w0 hp hp')
  have HV : Hid (M.byteAt mem p = M.at_ mem (p / 4) / M.sc p % 256) := Lib.hid rfl
  have q1 : p.tdiv 4 = p / 4 := Int.tdiv_eq_ediv_of_nonneg hp
  have q2 : (M.at_ mem (p / 4)).tdiv (M.sc p) = M.at_ mem (p / 4) / M.sc p := Int.tdiv_eq_ediv_of_nonneg hbd.1
  have q3 : (M.at_ mem (p / 4) / M.sc p).tmod 256 = M.at_ mem (p / 4) / M.sc p % 256 := Int.tmod_eq_emod_of_nonneg hd0
  have q4 : 0 ≤ p / 4 := by omega
  generalize M.byteAt mem p = R at *
  generalize M.sc p = S at *
  clear hsc ht
  go_enter Try.func109, Try.ntmps109
  go_wp2_with (first
    | (go_at_call 112; refine (HT.out _ rfl).mono ?_; rintro e w' ⟨rfl, rfl⟩)
    | fail)
  refine wp_region_quiet_lit (by kernel_rfl) (by kernel_rfl) ?_
  repeat (first | go_big_quiet_step ((go_at_call 113; exact quiet_retD (HS.out _))) | quiet_step ((go_at_call 113; exact quiet_retD (HS.out _))))
  refine wpQuiet_nil ?_
  intro _ hw'
  obtain ⟨nq, hw''⟩ := hw'
  subst hw''
  go_wp2
  go_ret2
  exact ⟨by rw [HV.out]; rfl, nq, rfl⟩

set_option maxHeartbeats 1000000 in
theorem rbyte_no (w : World) (gm gw cap : Nat) (mem : List Int) (rest : List Value) (h : RMemAt w gm gw cap mem rest) (p : Int) (hp : 0 ≤ p) (hp' : p < 4294967296) (ht : ¬ M.there mem p) :
    Calls Try.prog 109 #[.pointer (some ⟨gm, 0, none⟩), .int .u32 p] w (Ret (.tuple #[.int .u32 0, .bool false]) w) := by
  have hn : ¬ p / 4 < (mem.length : Int) := ht
  have HT := Lib.hid (rthere_any w gm gw cap mem rest h p hp hp' false (decide_eq_false hn))
  clear ht
  go_enter Try.func109, Try.ntmps109
  go_wp2_with (first
    | (go_at_call 112; refine HT.out.mono ?_; rintro e w' ⟨rfl, rfl⟩)
    | fail)
  go_ret2
  exact ⟨rfl, rfl⟩

set_option maxHeartbeats 1000000 in
theorem rputbyte_no (w : World) (gm gw cap : Nat) (mem : List Int) (rest : List Value) (h : RMemAt w gm gw cap mem rest) (p v : Int) (hp : 0 ≤ p) (hp' : p < 4294967296) (ht : ¬ p / 4 < (mem.length : Int)) :
    Calls Try.prog 107 #[.pointer (some ⟨gm, 0, none⟩), .int .u32 p, .int .u32 v] w (Ret (.bool false) w) := by
  have HT := Lib.hid (rthere_any w gm gw cap mem rest h p hp hp' false (decide_eq_false ht))
  go_enter Try.func107, Try.ntmps107
  go_wp2_with (first
    | (go_at_call 112; refine HT.out.mono ?_; rintro e w' ⟨rfl, rfl⟩)
    | fail)
  go_ret
  exact ⟨rfl, rfl⟩

theorem rputbyte_math (x v sc : Int) (hx : 0 ≤ x) (hx' : x < 4294967296) (hv : 0 ≤ v) (hs : sc = 1 ∨ sc = 256 ∨ sc = 65536 ∨ sc = 16777216) :
    ((x - x / sc % 256 * sc % 4294967296) % 4294967296 + v % 256 * sc % 4294967296) % 4294967296 = x - x / sc % 256 * sc + v % 256 * sc ∧ 0 ≤ x - x / sc % 256 * sc + v % 256 * sc ∧ x - x / sc % 256 * sc + v % 256 * sc < 4294967296 := by
  rcases hs with rfl | rfl | rfl | rfl <;> omega

set_option maxHeartbeats 2000000 in
set_option maxRecDepth 100000 in
theorem rputbyte_yes (w : World) (gm gw cap : Nat) (mem : List Int) (rest : List Value) (h : RMemAt w gm gw cap mem rest) (hne : gm ≠ gw) (p v : Int) (hp : 0 ≤ p) (hp' : p < 4294967296) (hv : 0 ≤ v ∧ v < 4294967296) (ht : p / 4 < mem.length) :
    Calls Try.prog 107 #[.pointer (some ⟨gm, 0, none⟩), .int .u32 p, .int .u32 v] w (RRetW (.bool true) gm gw cap (M.putByte mem p v) rest w) := by
  have cw := fun n => (h.drewN n).word (p / 4) (by omega) ht
  have c0 := fun n => (h.drewN n).hd.cell 0
  have fw := fun n => (h.drewN n).ws.frozen
  have hle := h.le
  have hbd := h.bd (p / 4)
  have hsc : M.sc p = 1 ∨ M.sc p = 256 ∨ M.sc p = 65536 ∨ M.sc p = 16777216 := by unfold M.sc; split; simp; split; simp; split; simp; simp
  have hs1 : 1 ≤ M.sc p := by omega
  have hs2 : M.sc p < 4294967296 := by omega
  obtain ⟨m1, m2, m3⟩ := rputbyte_math (M.at_ mem (p / 4)) v (M.sc p) hbd.1 hbd.2 hv.1 hsc
  have HT := Lib.hid (fun w0 (e : w0 = w) => (e ▸ rthere_any w gm gw cap mem rest h p hp hp' true (decide_eq_true ht) : Calls Try.prog 112 #[.pointer (some ⟨gm, 0, none⟩), .int .u32 p] w0 (Ret (.bool true) w0)))
  have HY := Lib.hid (fun w0 (e : w0 = w) => (e ▸ rbyte_ok w gm gw cap mem rest h p hp hp' ht : Calls Try.prog 109 #[.pointer (some ⟨gm, 0, none⟩), .int .u32 p] w0 (RetD (.tuple #[.int .u32 (M.byteAt mem p), .bool true]) w0)))
  have HS := Lib.hid (fun w0 => rscale_any p w0 hp hp')
  have HM := Lib.hid (fun n => (h.drewN n).put (p / 4) (by omega) ht _ ⟨m2, m3⟩ hne)
  have HE : Hid (M.byteAt mem p = M.at_ mem (p / 4) / M.sc p % 256) := Lib.hid rfl
  have HP : Hid (M.putByte mem p v = M.put_ mem (p / 4) (M.at_ mem (p / 4) - M.byteAt mem p * M.sc p + v % 256 * M.sc p)) := Lib.hid rfl
  have H1 := Lib.hid m1
  have q1 : p.tdiv 4 = p / 4 := Int.tdiv_eq_ediv_of_nonneg hp
  have q3 : v.tmod 256 = v % 256 := Int.tmod_eq_emod_of_nonneg hv.1
  have q4 : 0 ≤ p / 4 := by omega
  have w4 : IntKind.u32.wrap (p / 4) = p / 4 := by rw [IntKind.wrap_u32]; omega
  have w5 : IntKind.u32.wrap (v % 256) = v % 256 := by rw [IntKind.wrap_u32]; omega
  clear m1 m2 m3 hsc
  generalize M.byteAt mem p = R at *
  generalize M.sc p = S at *
  go_enter Try.func107, Try.ntmps107
  go_wp2_with (first
    | (go_at_call 112; refine (HT.out _ rfl).mono ?_; rintro e w' ⟨rfl, rfl⟩)
    | (go_at_call 109; refine (HY.out _ rfl).mono ?_; rintro e w' ⟨rfl, n, rfl⟩)
    | fail)
  refine wp_region_still_tail 26 (by kernel_rfl) (by kernel_rfl) ?_
  simp only [List.take_succ_cons, List.take_zero, List.drop_succ_cons, List.drop_zero]
  change wpStill _ _ (World.drewN w (n + 1)) _ _ _
  repeat (first | still_step | still_call ((HS.out _).mono fun _ _ h => ⟨h.1, h.2.symm⟩))
  refine wpStill_nil ?_
  change wpList _ _ _ _ _ (World.drewN w (n + 1))
  go_wp2
  go_ret
  refine ⟨rfl, ?_, fr_set1 ((Fr.refl _ _).drewN _) _ _⟩
  rw [HP.out, HE.out, H1.out]
  exact HM.out (n + 1)

end Go.Proofs.Ytmlmjkojhfjjlaa


/- RMach: The document's machine in memory: how a state lies in a block; contracts of set and jump. Printed by gen_rmach.py. -/
namespace Go.Proofs.Ytmlmjkojhfjjlaa
set_option linter.unusedVariables false
set_option linter.unusedSimpArgs false
open Go.RowKit

/-- The document's machine's cells. -/
def dc (s : M.St) (gm : Nat) (ov : Value) (st : Int) : Array Value :=
  (s.r.map (Value.int .u32) ++ [.int .u32 s.h, .bool s.fn, .bool s.fz, .bool s.fc, .bool s.fv, .int .i64 s.pc, .pointer (some ⟨gm, 0, none⟩), .string s.inp, ov, .int .i64 s.rd, .int .i64 st, .int .i64 s.en, .int .i64 s.tr]).toArray

theorem dc_reg {s : M.St} {gm : Nat} {ov : Value} {st : Int} (hl : s.r.length = 16) (i : Nat) (hi : i < 16) : (dc s gm ov st)[i]? = some (.int .u32 (s.r.getD i 0)) := by
  unfold dc
  rw [List.getElem?_toArray, List.getElem?_append_left (by simp; omega), List.getElem?_map]
  have : i < s.r.length := by omega
  simp [this]
theorem dc_fld {s : M.St} {gm : Nat} {ov : Value} {st : Int} (hl : s.r.length = 16) (j : Nat) : (dc s gm ov st)[16 + j]? = [.int .u32 s.h, .bool s.fn, .bool s.fz, .bool s.fc, .bool s.fv, .int .i64 s.pc, .pointer (some ⟨gm, 0, none⟩), .string s.inp, ov, .int .i64 s.rd, .int .i64 st, .int .i64 s.en, .int .i64 s.tr][j]? := by
  unfold dc
  rw [List.getElem?_toArray, List.getElem?_append_right (by simp; omega)]
  simp [hl]
theorem dc_setreg {s : M.St} {gm : Nat} {ov : Value} {st : Int} (hl : s.r.length = 16) (i : Nat) (hi : i < 16) (v : Int) : (dc s gm ov st).setIfInBounds i (.int .u32 v) = dc { s with r := s.r.set i v } gm ov st := by
  unfold dc
  rw [List.setIfInBounds_toArray, List.set_append_left _ _ (by simp; omega), List.map_set]
theorem dc_set {s s' : M.St} {gm : Nat} {ov ov' : Value} {st st' : Int} (hl : s.r.length = 16) (j : Nat) (v : Value) (hr : s'.r = s.r)
    (h : [.int .u32 s.h, .bool s.fn, .bool s.fz, .bool s.fc, .bool s.fv, .int .i64 s.pc, .pointer (some ⟨gm, 0, none⟩), .string s.inp, ov, .int .i64 s.rd, .int .i64 st, .int .i64 s.en, .int .i64 s.tr].set j v =
      [.int .u32 s'.h, .bool s'.fn, .bool s'.fz, .bool s'.fc, .bool s'.fv, .int .i64 s'.pc, .pointer (some ⟨gm, 0, none⟩), .string s'.inp, ov', .int .i64 s'.rd, .int .i64 st', .int .i64 s'.en, .int .i64 s'.tr]) :
    (dc s gm ov st).setIfInBounds (16 + j) v = dc s' gm ov' st' := by
  unfold dc
  rw [List.setIfInBounds_toArray, List.set_append_right _ _ (by simp; omega)]
  simp only [List.length_map, hl, Nat.add_sub_cancel_left]
  rw [h, hr]

section
variable {w : World} {g gm : Nat} {s : M.St} {ov : Value} {st : Int}
abbrev DT : TypeId := 96
/-- The machine's facts, as the walk wants them. -/
theorem dmach_fld (h : Cel w g DT (dc s gm ov st)) (hl : s.r.length = 16) :
    w.cell? ⟨g, 16, none⟩ = some (.int .u32 s.h) ∧ w.cell? ⟨g, 17, none⟩ = some (.bool s.fn) ∧ w.cell? ⟨g, 18, none⟩ = some (.bool s.fz) ∧ w.cell? ⟨g, 19, none⟩ = some (.bool s.fc) ∧ w.cell? ⟨g, 20, none⟩ = some (.bool s.fv) ∧ w.cell? ⟨g, 21, none⟩ = some (.int .i64 s.pc) ∧ w.cell? ⟨g, 22, none⟩ = some (.pointer (some ⟨gm, 0, none⟩)) ∧ w.cell? ⟨g, 23, none⟩ = some (.string s.inp) ∧ w.cell? ⟨g, 24, none⟩ = some (ov) ∧ w.cell? ⟨g, 25, none⟩ = some (.int .i64 s.rd) ∧ w.cell? ⟨g, 26, none⟩ = some (.int .i64 st) ∧ w.cell? ⟨g, 27, none⟩ = some (.int .i64 s.en) ∧ w.cell? ⟨g, 28, none⟩ = some (.int .i64 s.tr) := by
  refine ⟨?_, ?_, ?_, ?_, ?_, ?_, ?_, ?_, ?_, ?_, ?_, ?_, ?_⟩
  · rw [h.cell]; exact dc_fld hl 0
  · rw [h.cell]; exact dc_fld hl 1
  · rw [h.cell]; exact dc_fld hl 2
  · rw [h.cell]; exact dc_fld hl 3
  · rw [h.cell]; exact dc_fld hl 4
  · rw [h.cell]; exact dc_fld hl 5
  · rw [h.cell]; exact dc_fld hl 6
  · rw [h.cell]; exact dc_fld hl 7
  · rw [h.cell]; exact dc_fld hl 8
  · rw [h.cell]; exact dc_fld hl 9
  · rw [h.cell]; exact dc_fld hl 10
  · rw [h.cell]; exact dc_fld hl 11
  · rw [h.cell]; exact dc_fld hl 12
theorem dmach_reg (h : Cel w g DT (dc s gm ov st)) (hl : s.r.length = 16) (i : Int) (h0 : 0 ≤ i) (h1 : i < 16) : w.cell? ⟨g, i.toNat, none⟩ = some (.int .u32 (M.at_ s.r i)) := by
  rw [h.cell, dc_reg hl _ (by omega)]; rfl
end

/-- What a method of the machine leaves: the state s'; nothing else has turned but what is let go. -/
def RetR (v : Value) (S : Nat → Prop) (g gm : Nat) (ov : Value) (st : Int) (s : M.St) (w : World) (e : Ending) (w' : World) : Prop :=
  e = .returned v ∧ Cel w' g DT (dc s gm ov st) ∧ Fr S w w'

theorem dcel_reg {w : World} {g gm : Nat} {s : M.St} {ov : Value} {st : Int} (h : Cel w g DT (dc s gm ov st)) (hl : s.r.length = 16) (i v : Int) (h0 : 0 ≤ i) (h1 : i < 16) :
    Cel (w.setCell ⟨g, i.toNat, none⟩ (.int .u32 v)) g DT (dc { s with r := M.put_ s.r i v } gm ov st) := (h.set _ _).to (dc_setreg hl _ (by omega) v)
theorem dcel_h {w : World} {g gm : Nat} {s : M.St} {ov : Value} {st : Int} (h : Cel w g DT (dc s gm ov st)) (hl : s.r.length = 16) (v : Int) : Cel (w.setCell ⟨g, 16, none⟩ (.int .u32 v)) g DT (dc { s with h := v } gm ov st) := (h.set _ _).to (dc_set hl 0 _ rfl rfl)
theorem dcel_fn {w : World} {g gm : Nat} {s : M.St} {ov : Value} {st : Int} (h : Cel w g DT (dc s gm ov st)) (hl : s.r.length = 16) (v : Bool) : Cel (w.setCell ⟨g, 17, none⟩ (.bool v)) g DT (dc { s with fn := v } gm ov st) := (h.set _ _).to (dc_set hl 1 _ rfl rfl)
theorem dcel_fz {w : World} {g gm : Nat} {s : M.St} {ov : Value} {st : Int} (h : Cel w g DT (dc s gm ov st)) (hl : s.r.length = 16) (v : Bool) : Cel (w.setCell ⟨g, 18, none⟩ (.bool v)) g DT (dc { s with fz := v } gm ov st) := (h.set _ _).to (dc_set hl 2 _ rfl rfl)
theorem dcel_fc {w : World} {g gm : Nat} {s : M.St} {ov : Value} {st : Int} (h : Cel w g DT (dc s gm ov st)) (hl : s.r.length = 16) (v : Bool) : Cel (w.setCell ⟨g, 19, none⟩ (.bool v)) g DT (dc { s with fc := v } gm ov st) := (h.set _ _).to (dc_set hl 3 _ rfl rfl)
theorem dcel_fv {w : World} {g gm : Nat} {s : M.St} {ov : Value} {st : Int} (h : Cel w g DT (dc s gm ov st)) (hl : s.r.length = 16) (v : Bool) : Cel (w.setCell ⟨g, 20, none⟩ (.bool v)) g DT (dc { s with fv := v } gm ov st) := (h.set _ _).to (dc_set hl 4 _ rfl rfl)
theorem dcel_pc {w : World} {g gm : Nat} {s : M.St} {ov : Value} {st : Int} (h : Cel w g DT (dc s gm ov st)) (hl : s.r.length = 16) (v : Int) : Cel (w.setCell ⟨g, 21, none⟩ (.int .i64 v)) g DT (dc { s with pc := v } gm ov st) := (h.set _ _).to (dc_set hl 5 _ rfl rfl)
theorem dcel_ov {w : World} {g gm : Nat} {s : M.St} {ov : Value} {st : Int} (h : Cel w g DT (dc s gm ov st)) (hl : s.r.length = 16) (v : Value) : Cel (w.setCell ⟨g, 24, none⟩ v) g DT (dc s gm v st) := (h.set _ _).to (dc_set hl 8 _ rfl rfl)
theorem dcel_rd {w : World} {g gm : Nat} {s : M.St} {ov : Value} {st : Int} (h : Cel w g DT (dc s gm ov st)) (hl : s.r.length = 16) (v : Int) : Cel (w.setCell ⟨g, 25, none⟩ (.int .i64 v)) g DT (dc { s with rd := v } gm ov st) := (h.set _ _).to (dc_set hl 9 _ rfl rfl)
theorem dcel_st {w : World} {g gm : Nat} {s : M.St} {ov : Value} {st : Int} (h : Cel w g DT (dc s gm ov st)) (hl : s.r.length = 16) (v : Int) : Cel (w.setCell ⟨g, 26, none⟩ (.int .i64 v)) g DT (dc s gm ov v) := (h.set _ _).to (dc_set hl 10 _ rfl rfl)
theorem dcel_en {w : World} {g gm : Nat} {s : M.St} {ov : Value} {st : Int} (h : Cel w g DT (dc s gm ov st)) (hl : s.r.length = 16) (v : Int) : Cel (w.setCell ⟨g, 27, none⟩ (.int .i64 v)) g DT (dc { s with en := v } gm ov st) := (h.set _ _).to (dc_set hl 11 _ rfl rfl)
theorem dcel_tr {w : World} {g gm : Nat} {s : M.St} {ov : Value} {st : Int} (h : Cel w g DT (dc s gm ov st)) (hl : s.r.length = 16) (v : Int) : Cel (w.setCell ⟨g, 28, none⟩ (.int .i64 v)) g DT (dc { s with tr := v } gm ov st) := (h.set _ _).to (dc_set hl 12 _ rfl rfl)

set_option maxHeartbeats 1000000 in
theorem rset_any (g gm : Nat) (ov : Value) (st : Int) (s : M.St) (a v : Int) (w : World) (hC : Cel w g DT (dc s gm ov st)) (hl : s.r.length = 16) (ha : 0 ≤ a) (ha' : a < 16) (hv : 0 ≤ v) (hv' : v < 4294967296) :
    Calls Try.prog 84 #[.pointer (some ⟨g, 0, none⟩), .int .i64 a, .int .u32 v] w (RetR (.tuple #[]) (· = g) g gm ov st (M.sets s a v) w) := by
  obtain ⟨c16, c17, c18, c19, c20, c21, c22, c23, c24, c25, c26, c27, c28⟩ := dmach_fld hC hl
  have ca := dmach_reg hC hl a ha ha'
  have f := hC.frozen
  go_enter Try.func84, Try.ntmps84
  go_wp2
  go_end0
  rw [z_eq v]
  exact ⟨rfl, dcel_fz (dcel_fn (dcel_reg hC hl a v ha ha') (put_len hl _ _) _) (put_len hl _ _) _, fr_set (fr_set (fr_set (Fr.refl _ _) _ _) _ _) _ _⟩

theorem jump_math (p im : Int) (h0 : 0 ≤ p) (h1 : p ≤ 1073741824) (hi : -8388608 ≤ im) (hi' : im < 8388608) :
    ∃ T, (p + im).tmod 1073741824 = T ∧ IntKind.i64.wrap (p + im) = p + im ∧ IntKind.i64.wrap (T + 1073741824) = T + 1073741824 ∧ 0 ≤ T + 1073741824 ∧ T + 1073741824 < 4294967296 ∧ (T + 1073741824).tmod 1073741824 = (p + im) % 1073741824 ∧ (T + 1073741824) % 1073741824 = (p + im) % 1073741824 := by
  refine ⟨_, rfl, by rw [IntKind.wrap_i64]; omega, ?_⟩
  have e : (p + im).tmod 1073741824 = if 0 ≤ p + im then (p + im) % 1073741824 else -((-(p + im)) % 1073741824) := by
    split
    · exact Int.tmod_eq_emod_of_nonneg (by omega)
    · have := Int.neg_tmod (a := -(p + im)) (b := 1073741824)
      rw [Int.neg_neg] at this
      rw [this, Int.tmod_eq_emod_of_nonneg (by omega)]
  have hb : -1073741824 < (p + im).tmod 1073741824 ∧ (p + im).tmod 1073741824 < 1073741824 := by rw [e]; split <;> omega
  have hm : ((p + im).tmod 1073741824 + 1073741824) % 1073741824 = (p + im) % 1073741824 := by rw [e]; split <;> omega
  refine ⟨by rw [IntKind.wrap_i64]; omega, by omega, by omega, ?_, hm⟩
  rw [Int.tmod_eq_emod_of_nonneg (by omega)]; exact hm

set_option maxHeartbeats 4000000 in
set_option maxRecDepth 100000 in
theorem rjump_any (g gm : Nat) (ov : Value) (st : Int) (s : M.St) (u v : Bool) (a c im : Int) (w : World) (hC : Cel w g DT (dc s gm ov st)) (hl : s.r.length = 16) (hrb : ∀ i, 0 ≤ M.at_ s.r i ∧ M.at_ s.r i < 4294967296)
    (hp : 0 ≤ s.pc) (hp' : s.pc ≤ 1073741824) (ha : 0 ≤ a) (ha' : a < 16) (hc : 0 ≤ c) (hc' : c < 16) (hi : -8388608 ≤ im) (hi' : im < 8388608) :
    Calls Try.prog 64 #[.pointer (some ⟨g, 0, none⟩), iv 3 u v a 0 c 0 im] w (RetR (.tuple #[]) (· = g) g gm ov st (M.jumps s ⟨3, u, v, a, 0, c, 0, im⟩) w) := by
  obtain ⟨c16, c17, c18, c19, c20, c21, c22, c23, c24, c25, c26, c27, c28⟩ := dmach_fld hC hl
  have cc := dmach_reg hC hl c hc hc'
  have hcb := hrb c
  have f := hC.frozen
  have hg := hC.lt
  have hg1 : g < w.heap.size + 1 := by omega
  have hne : g ≠ w.heap.size := by omega
  have hne' : w.heap.size ≠ g := by omega
  obtain ⟨T, t1, t2, t3, t4, t5, t6, t7⟩ := jump_math s.pc im hp hp' hi hi'
  have m0 : 0 ≤ s.pc * 4 := by omega
  have m1 : IntKind.i64.wrap (4 * s.pc) = 4 * s.pc := by rw [IntKind.wrap_i64]; omega
  have m2 : 4 * s.pc % 4294967296 = s.pc * 4 % 4294967296 := by rw [Int.mul_comm]
  have M2 := Lib.hid m2
  clear m2
  cases hh : M.holds a s.fn s.fz s.fc s.fv <;> cases u <;> cases v
  all_goals
    go_enter Try.func64, Try.ntmps64
    go_wp2
    go_region_held3 (fun w' => w'.cell? ⟨w.heap.size, 3, none⟩ = some (.int .i64 a) ∧ w'.cell? ⟨g, 17, none⟩ = some (.bool s.fn) ∧ w'.cell? ⟨g, 18, none⟩ = some (.bool s.fz) ∧ w'.cell? ⟨g, 19, none⟩ = some (.bool s.fc) ∧ w'.cell? ⟨g, 20, none⟩ = some (.bool s.fv))
      (first | go_keep | (obtain ⟨hcx, hfx⟩ := bcell hb1; go_keep))
      (first | (go_at_call 88; refine (rholds_any _ _ _ _ _ _ (by omega) (by omega)).mono ?_; rintro e w1 ⟨rfl, hb1⟩))
    have hC1 : Cel w1 g DT (dc s gm ov st) := (hC.alloc _).drew.below hb1 (by simp <;> omega)
    have hB1 := (Cel.new w _ _).drew.below hb1 (by simp <;> omega)
    have hF1 : Fr (fun k => k = g) w w1 := Fr.of_below (((Below.refl _ _).alloc (Nat.le_refl _) _).drew.trans (hb1.mono (by simp)))
    have hz1 := hb1.size
    clear c16 c17 c18 c19 c20 c21 c22 c23 c24 c25 c26 c27 c28 cc f
    obtain ⟨c16, c17, c18, c19, c20, c21, c22, c23, c24, c25, c26, c27, c28⟩ := dmach_fld hC1 hl
    have cc := dmach_reg hC1 hl c hc hc'
    have c15 := (hC1.cell 15).trans (dc_reg hl 15 (by decide))
    have f := hC1.frozen
    have b := hB1.cell
    go_wp2
  iterate 4
    refine bodyPost_ret (results_none rfl _ _ _) rfl ⟨rfl, hC1.to (by unfold M.jumps; simp only [hh]; rfl), hF1⟩
  · go_region
    go_wp2
    go_end0
    exact ⟨rfl, ((dcel_pc hC1 hl (M.at_ s.r c / 4)).to (by unfold M.jumps; simp only [hh]; rfl)).drew, (fr_set hF1 _ _).drew⟩
  · go_region
    go_wp2
    go_region_with (go_at_call 52; refine (rword_any _ _ (by omega) (by omega)).mono ?_; rintro e w2 ⟨rfl, rfl⟩)
    all_goals
      go_wp2
      go_end0
      refine ⟨rfl, ?_, (fr_set (fr_set hF1 _ _).drew _ _).drew⟩
      rw [M2.out]
      exact ((dcel_reg (dcel_pc hC1 hl (M.at_ s.r c / 4)).drew hl 15 _ (by decide) (by decide)).to (by unfold M.jumps; simp only [hh]; rfl)).drew
  · go_region
    go_wp2
    go_end0
    exact ⟨rfl, ((dcel_pc hC1 hl ((s.pc + im) % 1073741824)).to (by unfold M.jumps; simp only [hh]; rfl)).drew, (fr_set hF1 _ _).drew⟩
  · go_region
    go_wp2
    go_region_with (go_at_call 52; refine (rword_any _ _ (by omega) (by omega)).mono ?_; rintro e w2 ⟨rfl, rfl⟩)
    all_goals
      go_wp2
      go_end0
      refine ⟨rfl, ?_, (fr_set (fr_set hF1 _ _).drew _ _).drew⟩
      rw [M2.out]
      exact ((dcel_reg (dcel_pc hC1 hl ((s.pc + im) % 1073741824)).drew hl 15 _ (by decide) (by decide)).to (by unfold M.jumps; simp only [hh]; rfl)).drew

end Go.Proofs.Ytmlmjkojhfjjlaa


/- RStores: The document's whole machine in memory; contracts of its load and store. -/
namespace Go.Proofs.Ytmlmjkojhfjjlaa
set_option linter.unusedVariables false
set_option linter.unusedSimpArgs false
open Go.RowKit

/-- The document's machine: its block, its memory's two, what it has put out. -/
structure DMach (w : World) (g gm gw cap : Nat) (rest : List Value) (ov : Value) (st : Int) (s : M.St) : Prop where
  mc : Cel w g DT (dc s gm ov st)
  mm : RMemAt w gm gw cap s.mem rest
  ow : w.ownsRow 0 U8T 1 ov s.out.length (s.out.map (Value.int .u8))

section
variable {w w' : World} {g gm gw cap : Nat} {rest : List Value} {ov : Value} {st : Int} {s : M.St}
theorem DMach.g_gm (h : DMach w g gm gw cap rest ov st s) : g ≠ gm := h.mc.ne h.mm.hd (by decide)
theorem DMach.g_gw (h : DMach w g gm gw cap rest ov st s) : g ≠ gw := h.mc.ne h.mm.ws (by decide)
theorem DMach.gm_gw (h : DMach w g gm gw cap rest ov st s) : gm ≠ gw := h.mm.hd.ne h.mm.ws (by decide)
theorem DMach.o_g (h : DMach w g gm gw cap rest ov st s) : ov.ownBlock ≠ some g := own_cel_ne h.ow h.mc (by decide)
theorem DMach.o_gm (h : DMach w g gm gw cap rest ov st s) : ov.ownBlock ≠ some gm := own_cel_ne h.ow h.mm.hd (by decide)
theorem DMach.o_gw (h : DMach w g gm gw cap rest ov st s) : ov.ownBlock ≠ some gw := own_cel_ne h.ow h.mm.ws (by decide)
theorem RMemAt.fr {S : Nat → Prop} {mem : List Int} (h : RMemAt w gm gw cap mem rest) (hf : Fr S w w') (h1 : ¬ S gm) (h2 : ¬ S gw) : RMemAt w' gm gw cap mem rest :=
  ⟨hf.cel h.hd h1, hf.cel h.ws h2, h.le, h.lc, h.bd⟩
end

theorem DMach.fr {w w' : World} {g gm gw cap : Nat} {rest : List Value} {ov : Value} {st : Int} {s : M.St} {S : Nat → Prop} (h : DMach w g gm gw cap rest ov st s) (hF : Fr S w w') (h1 : ¬ S g) (h2 : ¬ S gm) (h3 : ¬ S gw) (h4 : ∀ k, ov.ownBlock = some k → ¬ S k) : DMach w' g gm gw cap rest ov st s :=
  ⟨hF.cel h.mc h1, h.mm.fr hF h2 h3, own_fr h.ow hF h4⟩
theorem dmach_box {w : World} {g gm gw cap : Nat} {rest : List Value} {ov : Value} {st : Int} {s : M.St} (h : DMach w g gm gw cap rest ov st s) (o : Obj) (n : Nat) : DMach ((w.alloc o).drewN n) g gm gw cap rest ov st s :=
  h.fr (fr_box0 (S := fun _ => False) w o n) id id id (fun _ _ => id)
theorem DMach.drewN {w : World} {g gm gw cap : Nat} {rest : List Value} {ov : Value} {st : Int} {s : M.St} (h : DMach w g gm gw cap rest ov st s) (n : Nat) : DMach (w.drewN n) g gm gw cap rest ov st s :=
  h.fr ((Fr.refl (fun _ => False) w).drewN n) id id id (fun _ _ => id)

/-- What a method of the machine leaves. -/
def RetRR (v : Value) (g gm gw cap : Nat) (rest : List Value) (ov : Value) (st : Int) (s : M.St) (w : World) (e : Ending) (w' : World) : Prop :=
  e = .returned v ∧ ∃ ov', DMach w' g gm gw cap rest ov' st s ∧ Fr (foot g gw ov) w w' ∧ (ov'.ownBlock = ov.ownBlock ∨ ∃ b, ov'.ownBlock = some b ∧ w.heap.size ≤ b)

/-- Out of a method that writes the machine's block alone. -/
theorem RetR.mm {v : Value} {g gm gw cap : Nat} {rest : List Value} {ov : Value} {st : Int} {s s' : M.St} {w : World} {e : Ending} {w' : World} {st0 : Int} (h : RetR v (· = g) g gm ov st s' w e w') (hm : DMach w g gm gw cap rest ov st0 s) (e1 : s'.mem = s.mem) (e2 : s'.out = s.out) :
    RetRR v g gm gw cap rest ov st s' w e w' := by
  obtain ⟨he, hC, hF⟩ := h
  refine ⟨he, ov, ⟨hC, ?_, ?_⟩, hF.mono (fun k hk => .inl hk), .inl rfl⟩
  · rw [e1]; exact hm.mm.fr hF (fun h => hm.g_gm h.symm) (fun h => hm.g_gw h.symm)
  · rw [e2]; exact own_fr hm.ow hF (fun k hk h => hm.o_g (by rw [hk, h]))
/-- What stood ahead of the call. -/
theorem RetRR.pre {v : Value} {g gm gw cap : Nat} {rest : List Value} {ov : Value} {st : Int} {s : M.St} {w w0 : World} {e : Ending} {w' : World} (h : RetRR v g gm gw cap rest ov st s w0 e w') (hF : Fr (foot g gw ov) w w0) : RetRR v g gm gw cap rest ov st s w e w' := by
  obtain ⟨he, ov', hM, hF', hA⟩ := h
  refine ⟨he, ov', hM, hF.trans hF', hA.imp id ?_⟩
  rintro ⟨b, hb, hle⟩
  exact ⟨b, hb, Nat.le_trans hF.size hle⟩

set_option maxHeartbeats 1000000 in
set_option maxRecDepth 100000 in
theorem rst_full (w : World) (g gm gw cap : Nat) (rest : List Value) (ov : Value) (st : Int) (s : M.St) (v : Int) (small : Bool) (h : DMach w g gm gw cap rest ov st s) (hw : Wf s) (hf : s.out.length = 4096) :
    Calls Try.prog 86 #[.pointer (some ⟨g, 0, none⟩), .int .u32 4294967240, .int .u32 v, .bool small] w (RetR (.bool true) (· = g) g gm ov st { s with en := 6 } w) := by
  have hC := h.mc
  obtain ⟨A, c, rfl⟩ := own_form h.ow
  obtain ⟨c16, c17, c18, c19, c20, c21, c22, c23, c24, c25, c26, c27, c28⟩ := dmach_fld hC hw.rl
  have f := hC.frozen
  have HM := Lib.hid (dcel_en hC hw.rl 6)
  have hf' : ((s.out.length : Int) == 4096) = true := by simp; omega
  clear hf
  go_enter Try.func86, Try.ntmps86
  go_wp2
  go_ret
  exact ⟨rfl, HM.out, fr_set (Fr.refl _ _) _ _⟩

set_option maxHeartbeats 1000000 in
set_option maxRecDepth 100000 in
theorem rst_trap (w : World) (g gm gw cap : Nat) (rest : List Value) (ov : Value) (st : Int) (s : M.St) (v : Int) (small : Bool) (h : DMach w g gm gw cap rest ov st s) (hw : Wf s) (hv : 0 ≤ v ∧ v < 4294967296) :
    Calls Try.prog 86 #[.pointer (some ⟨g, 0, none⟩), .int .u32 4294967236, .int .u32 v, .bool small] w (RetR (.bool true) (· = g) g gm ov st { s with en := 2, tr := M.sg v } w) := by
  have hC := h.mc
  obtain ⟨c16, c17, c18, c19, c20, c21, c22, c23, c24, c25, c26, c27, c28⟩ := dmach_fld hC hw.rl
  have f := hC.frozen
  have HM := Lib.hid (dcel_tr (dcel_en hC hw.rl 2) hw.rl (M.sg v))
  go_enter Try.func86, Try.ntmps86
  go_wp2_with (first
    | (go_at_call 101; refine (rsigned_any _ _ (by omega) (by omega)).mono ?_; rintro e w' ⟨rfl, rfl⟩)
    | fail)
  go_ret
  exact ⟨rfl, HM.out, fr_set (fr_set (Fr.refl _ _) _ _) _ _⟩

set_option maxHeartbeats 1000000 in
set_option maxRecDepth 100000 in
theorem rst_halt (w : World) (g gm gw cap : Nat) (rest : List Value) (ov : Value) (st : Int) (s : M.St) (v : Int) (small : Bool) (h : DMach w g gm gw cap rest ov st s) (hw : Wf s) :
    Calls Try.prog 86 #[.pointer (some ⟨g, 0, none⟩), .int .u32 4294967232, .int .u32 v, .bool small] w (RetR (.bool true) (· = g) g gm ov st { s with en := 1 } w) := by
  have hC := h.mc
  obtain ⟨c16, c17, c18, c19, c20, c21, c22, c23, c24, c25, c26, c27, c28⟩ := dmach_fld hC hw.rl
  have f := hC.frozen
  have HM := Lib.hid (dcel_en hC hw.rl 1)
  go_enter Try.func86, Try.ntmps86
  go_wp2
  go_ret
  exact ⟨rfl, HM.out, fr_set (Fr.refl _ _) _ _⟩

set_option maxHeartbeats 1000000 in
set_option maxRecDepth 100000 in
theorem rst_bad (w : World) (g gm gw cap : Nat) (rest : List Value) (ov : Value) (st : Int) (s : M.St) (p v : Int) (small : Bool) (h : DMach w g gm gw cap rest ov st s) (hw : Wf s) (hp : 0 ≤ p) (hp' : p < 4294967296) (hv : 0 ≤ v ∧ v < 4294967296)
    (h1 : (p == 4294967240) = false) (h2 : (p == 4294967236) = false) (h3 : (p == 4294967232) = false) (hb : if small = true then ¬ p / 4 < s.mem.length else ¬ (p % 4 = 0 ∧ p / 4 < s.mem.length)) :
    Calls Try.prog 86 #[.pointer (some ⟨g, 0, none⟩), .int .u32 p, .int .u32 v, .bool small] w (RetR (.bool false) (· = g) g gm ov st s w) := by
  have hC := h.mc
  obtain ⟨c16, c17, c18, c19, c20, c21, c22, c23, c24, c25, c26, c27, c28⟩ := dmach_fld hC hw.rl
  have HC := Lib.hid hC
  have HB := Lib.hid hb
  have HMM := Lib.hid h.mm
  clear hb
  cases small
  · go_enter Try.func86, Try.ntmps86
    go_wp2_with (first
      | (go_at_call 108; refine (rstore_no _ gm gw cap s.mem rest HMM.out _ _ (by omega) (by omega) (by simpa using HB.out)).mono ?_; rintro e w' ⟨rfl, rfl⟩)
      | fail)
    go_ret
    exact ⟨rfl, HC.out, Fr.refl _ _⟩
  · go_enter Try.func86, Try.ntmps86
    go_wp2_with (first
      | (go_at_call 107; refine (rputbyte_no _ gm gw cap s.mem rest HMM.out _ _ (by omega) (by omega) (by simpa using HB.out)).mono ?_; rintro e w' ⟨rfl, rfl⟩)
      | fail)
    go_ret
    exact ⟨rfl, HC.out, Fr.refl _ _⟩

theorem dmach_mem {w w' : World} {g gm gw cap : Nat} {rest : List Value} {ov : Value} {st : Int} {s : M.St} {mem' : List Int} (h : DMach w g gm gw cap rest ov st s) (hm : RMemAt w' gm gw cap mem' rest) (hF : Fr (fun k => k = gw) w w') : DMach w' g gm gw cap rest ov st { s with mem := mem' } :=
  ⟨hF.cel h.mc h.g_gw, hm, own_fr h.ow hF (fun k hk e => h.o_gw (by rw [hk, e]))⟩

set_option maxHeartbeats 1000000 in
set_option maxRecDepth 100000 in
theorem rst_word (w : World) (g gm gw cap : Nat) (rest : List Value) (ov : Value) (st : Int) (s : M.St) (p v : Int) (h : DMach w g gm gw cap rest ov st s) (hw : Wf s) (hp : 0 ≤ p) (hp' : p < 4294967296) (hv : 0 ≤ v ∧ v < 4294967296)
    (h1 : (p == 4294967240) = false) (h2 : (p == 4294967236) = false) (h3 : (p == 4294967232) = false) (h4 : p % 4 = 0) (ht : p / 4 < s.mem.length) :
    Calls Try.prog 86 #[.pointer (some ⟨g, 0, none⟩), .int .u32 p, .int .u32 v, .bool false] w (RetRR (.bool true) g gm gw cap rest ov st { s with mem := M.put_ s.mem (p / 4) v } w) := by
  have hC := h.mc
  obtain ⟨c16, c17, c18, c19, c20, c21, c22, c23, c24, c25, c26, c27, c28⟩ := dmach_fld hC hw.rl
  have HS := Lib.hid (rstore_yes w gm gw cap s.mem rest h.mm h.gm_gw p v hp hp' hv h4 ht)
  clear h4
  go_enter Try.func86, Try.ntmps86
  go_wp2_with (first
    | (go_at_call 108; refine HS.out.mono ?_; rintro e w' ⟨rfl, hm', hF'⟩)
    | fail)
  go_ret
  exact ⟨rfl, ov, dmach_mem h hm' hF', hF'.mono (fun k hk => .inr (.inl hk)), .inl rfl⟩

set_option maxHeartbeats 1000000 in
set_option maxRecDepth 100000 in
theorem rst_byte (w : World) (g gm gw cap : Nat) (rest : List Value) (ov : Value) (st : Int) (s : M.St) (p v : Int) (h : DMach w g gm gw cap rest ov st s) (hw : Wf s) (hp : 0 ≤ p) (hp' : p < 4294967296) (hv : 0 ≤ v ∧ v < 4294967296)
    (h1 : (p == 4294967240) = false) (h2 : (p == 4294967236) = false) (h3 : (p == 4294967232) = false) (ht : p / 4 < s.mem.length) :
    Calls Try.prog 86 #[.pointer (some ⟨g, 0, none⟩), .int .u32 p, .int .u32 v, .bool true] w (RetRR (.bool true) g gm gw cap rest ov st { s with mem := M.putByte s.mem p v } w) := by
  have hC := h.mc
  obtain ⟨c16, c17, c18, c19, c20, c21, c22, c23, c24, c25, c26, c27, c28⟩ := dmach_fld hC hw.rl
  have HS := Lib.hid (rputbyte_yes w gm gw cap s.mem rest h.mm h.gm_gw p v hp hp' hv ht)
  go_enter Try.func86, Try.ntmps86
  go_wp2_with (first
    | (go_at_call 107; refine HS.out.mono ?_; rintro e w' ⟨rfl, hm', hF'⟩)
    | fail)
  go_ret
  exact ⟨rfl, ov, dmach_mem h hm' hF', hF'.mono (fun k hk => .inr (.inl hk)), .inl rfl⟩

set_option maxHeartbeats 1000000 in
set_option maxRecDepth 100000 in
theorem rst_out (w : World) (g gm gw cap : Nat) (rest : List Value) (ov : Value) (st : Int) (s : M.St) (v : Int) (small : Bool) (hM : DMach w g gm gw cap rest ov st s) (hw : Wf s) (hv : 0 ≤ v ∧ v < 4294967296) (hf : s.out.length ≠ 4096) :
    Calls Try.prog 86 #[.pointer (some ⟨g, 0, none⟩), .int .u32 4294967240, .int .u32 v, .bool small] w (RetRR (.bool true) g gm gw cap rest ov st { s with out := s.out ++ [v % 256] } w) := by
  have hC := hM.mc
  have hol := hw.ol
  obtain ⟨A, c, rfl⟩ := own_form hM.ow
  obtain ⟨c16, c17, c18, c19, c20, c21, c22, c23, c24, c25, c26, c27, c28⟩ := dmach_fld hC hw.rl
  have f := hC.frozen
  have hg := hC.lt
  have hg1 : g < w.heap.size + 1 := by omega
  have hne : g ≠ w.heap.size := by omega
  have hf' : ((s.out.length : Int) == 4096) = false := by simp; omega
  have q3 : v.tmod 256 = v % 256 := Int.tmod_eq_emod_of_nonneg hv.1
  have q4 : v % 256 % 256 = v % 256 := by omega
  obtain ⟨i0, hi, hz0, hz1, hz2⟩ := info_parts info8
  have hown := hM.ow.alloc (.cells #[.int .u8 (v % 256)] U8T)
  go_enter Try.func86, Try.ntmps86
  go_wp2_with (at_builtin; refine wpList_append_lies _ (by rfl) _ _ _ (by rfl) 0 U8T i0 (.int .u8 0) 1 1 Try.underlying75 hi hz0 hz1 hz2 rfl (by omega) _ _ _ (by rfl) hown ⟨w.heap.size, 0, none⟩ 1 1 [.int .u8 (v % 256)] (by rfl) rfl (World.news_of_block (heap_alloc_new w _)) (by simp [Value.oneCell']) (by omega) (by unfold maxLen; omega) (by omega) (by omega) (w.heap.size + 1) (by simp) ?_; intro b cp w1 hown1 hgrow hat hlt; have hC1 := grown_cel hgrow (hC.alloc _) hM.o_g; have d24 := (hC1.cell 24).trans (dc_fld hw.rl 8); have df := hC1.frozen)
  go_ret
  have hb := own_cel_ne hown1 hC1 (by decide)
  have hF1 : Fr (fun k => (Value.slice A s.out.length c).ownBlock = some k ∨ k = g) w w1 := ((Fr.refl _ w).alloc _).trans ((fr_grown hgrow).mono (fun k hk => .inl hk))
  have hF2 := hF1.setCell (p := ⟨g, 24, none⟩) (.inl (.inr rfl)) (.slice (some ⟨b, 0, none⟩) (s.out.length + 1) cp)
  refine ⟨rfl, .slice (some ⟨b, 0, none⟩) (s.out.length + 1) cp, ⟨dcel_ov hC1 hw.rl _, ?_, ?_⟩, ?_, ?_⟩
  · exact hM.mm.fr hF2 (fun h => h.elim hM.o_gm (fun e => hM.g_gm e.symm)) (fun h => h.elim hM.o_gw (fun e => hM.g_gw e.symm))
  · have := own_fr hown1 (fr_set (Fr.refl (fun k => k = g) w1) 24 (.slice (some ⟨b, 0, none⟩) (s.out.length + 1) cp)) (fun k hk e => hb (by rw [hk, e]))
    simpa using this
  · exact hF2.mono (fun k hk => hk.elim (fun h => .inr (.inr h)) .inl)
  · rcases hat with hat | hat
    · exact .inl (by rw [hat]; rfl)
    · exact .inr ⟨b, rfl, by omega⟩

/-- Whether a store may be; what it leaves. -/
def stOk (s : M.St) (p : Int) (small : Bool) : Bool := p == 4294967240 || p == 4294967236 || p == 4294967232 || (if small = true then decide (M.there s.mem p) else decide (p % 4 = 0 ∧ M.there s.mem p))
def stS (s : M.St) (p v : Int) (small : Bool) : M.St := if stOk s p small = true then M.stores s p v small else s

theorem rstore_any (w : World) (g gm gw cap : Nat) (rest : List Value) (ov : Value) (st : Int) (s : M.St) (p v : Int) (small : Bool) (h : DMach w g gm gw cap rest ov st s) (hw : Wf s) (hp : 0 ≤ p) (hp' : p < 4294967296) (hv : 0 ≤ v ∧ v < 4294967296) :
    Calls Try.prog 86 #[.pointer (some ⟨g, 0, none⟩), .int .u32 p, .int .u32 v, .bool small] w (RetRR (.bool (stOk s p small)) g gm gw cap rest ov st (stS s p v small) w) := by
  unfold stS stOk M.stores
  by_cases e1 : p = 4294967240
  · subst e1
    simp only [beq_self_eq_true, Bool.true_or, if_true]
    by_cases hf : s.out.length = 4096
    · rw [if_pos hf]
      exact (rst_full w g gm gw cap rest ov st s v small h hw hf).mono fun e w' hh => hh.mm h rfl rfl
    · rw [if_neg hf]
      exact rst_out w g gm gw cap rest ov st s v small h hw hv hf
  by_cases e2 : p = 4294967236
  · subst e2
    simp only [beq_self_eq_true, Bool.true_or, Bool.or_true, if_true, if_neg e1]
    exact (rst_trap w g gm gw cap rest ov st s v small h hw hv).mono fun e w' hh => hh.mm h rfl rfl
  by_cases e3 : p = 4294967232
  · subst e3
    simp only [beq_self_eq_true, Bool.true_or, Bool.or_true, if_true, if_neg e1, if_neg e2]
    exact (rst_halt w g gm gw cap rest ov st s v small h hw).mono fun e w' hh => hh.mm h rfl rfl
  have h1 : (p == 4294967240) = false := by simpa using e1
  have h2 : (p == 4294967236) = false := by simpa using e2
  have h3 : (p == 4294967232) = false := by simpa using e3
  simp only [h1, h2, h3, Bool.false_or, if_neg e1, if_neg e2, if_neg e3]
  cases small
  · simp only [Bool.false_eq_true, if_false, decide_eq_true_eq]
    by_cases ht : p % 4 = 0 ∧ M.there s.mem p
    · simp only [if_pos ht, decide_eq_true ht]
      exact rst_word w g gm gw cap rest ov st s p v h hw hp hp' hv h1 h2 h3 ht.1 ht.2
    · simp only [if_neg ht, decide_eq_false ht]
      exact (rst_bad w g gm gw cap rest ov st s p v false h hw hp hp' hv h1 h2 h3 (by rw [if_neg (by simp)]; exact ht)).mono fun e w' hh => hh.mm h rfl rfl
  · simp only [if_true, decide_eq_true_eq]
    by_cases ht : M.there s.mem p
    · simp only [if_pos ht, decide_eq_true ht]
      exact rst_byte w g gm gw cap rest ov st s p v h hw hp hp' hv h1 h2 h3 ht
    · simp only [if_neg ht, decide_eq_false ht]
      exact (rst_bad w g gm gw cap rest ov st s p v true h hw hp hp' hv h1 h2 h3 (by rw [if_pos rfl]; exact ht)).mono fun e w' hh => hh.mm h rfl rfl

theorem st_same {s : M.St} {p v : Int} {small : Bool} : M.stores s p v small = if stOk s p small = true then stS s p v small else { s with en := 5 } := by
  unfold stS
  by_cases hk : stOk s p small = true
  · rw [if_pos hk, if_pos hk]
  · rw [if_neg hk]
    unfold stOk at hk
    simp only [Bool.or_eq_true, beq_iff_eq, not_or] at hk
    obtain ⟨⟨⟨e1, e2⟩, e3⟩, e4⟩ := hk
    unfold M.stores
    rw [if_neg e1, if_neg e2, if_neg e3]
    cases small
    · simp only [Bool.false_eq_true, if_false, decide_eq_true_eq] at e4 ⊢
      rw [if_neg e4]
    · simp only [if_true, decide_eq_true_eq] at e4 ⊢
      rw [if_neg e4]

end Go.Proofs.Ytmlmjkojhfjjlaa


/- RMoves: The contracts of the document's load and memory. -/
namespace Go.Proofs.Ytmlmjkojhfjjlaa
set_option linter.unusedVariables false
set_option linter.unusedSimpArgs false
open Go.RowKit

/-- Whether a load may be, what it tells, what it leaves. -/
def ldOk (s : M.St) (p : Int) (small : Bool) : Bool := p == 4294967240 || p == 4294967244 || (if small = true then decide (M.there s.mem p) else decide (p % 4 = 0 ∧ M.there s.mem p))
def ldW (s : M.St) (p : Int) (small : Bool) : Int :=
  if p = 4294967240 then (if s.rd < s.inp.size then M.inAt s else 0) else if p = 4294967244 then (if s.rd < s.inp.size then 1 else 0)
  else if small = true then (if M.there s.mem p then M.byteAt s.mem p else 0) else if p % 4 = 0 ∧ M.there s.mem p then M.at_ s.mem (p / 4) else 0
def ldS (s : M.St) (p : Int) : M.St := if p = 4294967240 ∧ s.rd < s.inp.size then { s with rd := s.rd + 1 } else s

set_option maxHeartbeats 1000000 in
set_option maxRecDepth 100000 in
theorem rld_in (w : World) (g gm : Nat) (ov : Value) (st : Int) (s : M.St) (small : Bool) (hC : Cel w g DT (dc s gm ov st)) (hw : Wf s) (hr : s.rd < s.inp.size) :
    Calls Try.prog 87 #[.pointer (some ⟨g, 0, none⟩), .int .u32 4294967240, .bool small] w (RetR (.tuple #[.int .u32 (M.inAt s), .bool true]) (· = g) g gm ov st { s with rd := s.rd + 1 } w) := by
  obtain ⟨c16, c17, c18, c19, c20, c21, c22, c23, c24, c25, c26, c27, c28⟩ := dmach_fld hC hw.rl
  have f := hC.frozen
  have hil := hw.il
  have hrd := hw.rd
  have q1 : IntKind.i64.wrap (s.rd + 1) = s.rd + 1 := by rw [IntKind.wrap_i64]; omega
  have q2 : IntKind.i64.wrap (s.rd + 1 - 1) = s.rd := by rw [IntKind.wrap_i64]; omega
  have q3 : s.rd + 1 - 1 = s.rd := by omega
  go_enter Try.func87, Try.ntmps87
  go_wp2
  go_quiet (fail)
  go_wp2_with fail
  go_quiet (fail)
  go_wp2
  go_ret2
  exact ⟨by rw [← inp_at s hrd.1 hr]; rfl, (dcel_rd (hC.drewN _) hw.rl (s.rd + 1)).drewN _, (fr_set ((Fr.refl _ _).drewN _) _ _).drewN _⟩

set_option maxHeartbeats 1000000 in
set_option maxRecDepth 100000 in
theorem rld_in0 (w : World) (g gm : Nat) (ov : Value) (st : Int) (s : M.St) (small : Bool) (hC : Cel w g DT (dc s gm ov st)) (hw : Wf s) (hr : ¬ s.rd < s.inp.size) :
    Calls Try.prog 87 #[.pointer (some ⟨g, 0, none⟩), .int .u32 4294967240, .bool small] w (RetR (.tuple #[.int .u32 0, .bool true]) (· = g) g gm ov st s w) := by
  obtain ⟨c16, c17, c18, c19, c20, c21, c22, c23, c24, c25, c26, c27, c28⟩ := dmach_fld hC hw.rl
  have hil := hw.il
  have hrd := hw.rd
  have HC := Lib.hid hC
  clear hC
  go_enter Try.func87, Try.ntmps87
  go_wp2
  go_quiet (fail)
  go_wp2
  go_ret2
  exact ⟨rfl, HC.out.drewN _, (Fr.refl _ _).drewN _⟩

set_option maxHeartbeats 1000000 in
set_option maxRecDepth 100000 in
theorem rld_st (w : World) (g gm : Nat) (ov : Value) (st : Int) (s : M.St) (small : Bool) (hC : Cel w g DT (dc s gm ov st)) (hw : Wf s) :
    Calls Try.prog 87 #[.pointer (some ⟨g, 0, none⟩), .int .u32 4294967244, .bool small] w (RetR (.tuple #[.int .u32 (if s.rd < s.inp.size then 1 else 0), .bool true]) (· = g) g gm ov st s w) := by
  obtain ⟨c16, c17, c18, c19, c20, c21, c22, c23, c24, c25, c26, c27, c28⟩ := dmach_fld hC hw.rl
  have hil := hw.il
  have hrd := hw.rd
  have HC := Lib.hid hC
  clear hC
  by_cases hr : s.rd < s.inp.size
  · rw [if_pos hr]
    go_enter Try.func87, Try.ntmps87
    go_wp2
    go_quiet (fail)
    go_wp2
    go_ret2
    exact ⟨rfl, HC.out.drewN _, (Fr.refl _ _).drewN _⟩
  · rw [if_neg hr]
    go_enter Try.func87, Try.ntmps87
    go_wp2
    go_quiet (fail)
    go_wp2
    go_ret2
    exact ⟨rfl, HC.out.drewN _, (Fr.refl _ _).drewN _⟩

set_option maxHeartbeats 1000000 in
set_option maxRecDepth 100000 in
theorem rld_byte (w : World) (g gm gw cap : Nat) (rest : List Value) (ov : Value) (st : Int) (s : M.St) (p : Int) (h : DMach w g gm gw cap rest ov st s) (hw : Wf s) (hp : 0 ≤ p) (hp' : p < 4294967296)
    (h1 : (p == 4294967240) = false) (h2 : (p == 4294967244) = false) :
    Calls Try.prog 87 #[.pointer (some ⟨g, 0, none⟩), .int .u32 p, .bool true] w (RetR (.tuple #[.int .u32 (if M.there s.mem p then M.byteAt s.mem p else 0), .bool (decide (M.there s.mem p))]) (· = g) g gm ov st s w) := by
  obtain ⟨c16, c17, c18, c19, c20, c21, c22, c23, c24, c25, c26, c27, c28⟩ := dmach_fld h.mc hw.rl
  have HC := Lib.hid h.mc
  by_cases ht : M.there s.mem p
  · rw [if_pos ht, decide_eq_true ht]
    have HY := Lib.hid (rbyte_ok w gm gw cap s.mem rest h.mm p hp hp' ht)
    clear ht h
    go_enter Try.func87, Try.ntmps87
    go_wp2_with (first
      | (go_at_call 109; refine HY.out.mono ?_; rintro e w' ⟨rfl, n, rfl⟩)
      | fail)
    go_ret2
    exact ⟨rfl, HC.out.drewN _, (Fr.refl _ _).drewN _⟩
  · rw [if_neg ht, decide_eq_false ht]
    have HY := Lib.hid (rbyte_no w gm gw cap s.mem rest h.mm p hp hp' ht)
    clear ht h
    go_enter Try.func87, Try.ntmps87
    go_wp2_with (first
      | (go_at_call 109; refine HY.out.mono ?_; rintro e w' ⟨rfl, rfl⟩)
      | fail)
    go_ret2
    exact ⟨rfl, HC.out, Fr.refl _ _⟩

set_option maxHeartbeats 1000000 in
set_option maxRecDepth 100000 in
theorem rld_word (w : World) (g gm gw cap : Nat) (rest : List Value) (ov : Value) (st : Int) (s : M.St) (p : Int) (h : DMach w g gm gw cap rest ov st s) (hw : Wf s) (hp : 0 ≤ p) (hp' : p < 4294967296)
    (h1 : (p == 4294967240) = false) (h2 : (p == 4294967244) = false) :
    Calls Try.prog 87 #[.pointer (some ⟨g, 0, none⟩), .int .u32 p, .bool false] w (RetR (.tuple #[.int .u32 (if p % 4 = 0 ∧ M.there s.mem p then M.at_ s.mem (p / 4) else 0), .bool (decide (p % 4 = 0 ∧ M.there s.mem p))]) (· = g) g gm ov st s w) := by
  obtain ⟨c16, c17, c18, c19, c20, c21, c22, c23, c24, c25, c26, c27, c28⟩ := dmach_fld h.mc hw.rl
  have HC := Lib.hid h.mc
  by_cases ht : p % 4 = 0 ∧ M.there s.mem p
  · rw [if_pos ht, decide_eq_true ht]
    have HY := Lib.hid (rload_ok w gm gw cap s.mem rest h.mm p hp hp' ht)
    clear ht h
    go_enter Try.func87, Try.ntmps87
    go_wp2_with (first
      | (go_at_call 110; refine HY.out.mono ?_; rintro e w' ⟨rfl, rfl⟩)
      | fail)
    go_ret2
    exact ⟨rfl, HC.out, Fr.refl _ _⟩
  · rw [if_neg ht, decide_eq_false ht]
    have HY := Lib.hid (rload_no w gm gw cap s.mem rest h.mm p hp hp' ht)
    clear ht h
    go_enter Try.func87, Try.ntmps87
    go_wp2_with (first
      | (go_at_call 110; refine HY.out.mono ?_; rintro e w' ⟨rfl, rfl⟩)
      | fail)
    go_ret2
    exact ⟨rfl, HC.out, Fr.refl _ _⟩

theorem rload_any (w : World) (g gm gw cap : Nat) (rest : List Value) (ov : Value) (st : Int) (s : M.St) (p : Int) (small : Bool) (h : DMach w g gm gw cap rest ov st s) (hw : Wf s) (hp : 0 ≤ p) (hp' : p < 4294967296) :
    Calls Try.prog 87 #[.pointer (some ⟨g, 0, none⟩), .int .u32 p, .bool small] w (RetR (.tuple #[.int .u32 (ldW s p small), .bool (ldOk s p small)]) (· = g) g gm ov st (ldS s p) w) := by
  unfold ldW ldOk ldS
  by_cases e1 : p = 4294967240
  · subst e1
    simp only [beq_self_eq_true, Bool.true_or, if_true, true_and]
    by_cases hr : s.rd < s.inp.size
    · simp only [if_pos hr]
      exact rld_in w g gm ov st s small h.mc hw hr
    · simp only [if_neg hr]
      exact rld_in0 w g gm ov st s small h.mc hw hr
  have h1 : (p == 4294967240) = false := by simpa using e1
  by_cases e2 : p = 4294967244
  · subst e2
    simp only [beq_self_eq_true, Bool.true_or, Bool.or_true, if_true, if_neg e1, false_and, if_false]
    exact rld_st w g gm ov st s small h.mc hw
  have h2 : (p == 4294967244) = false := by simpa using e2
  simp only [h1, h2, Bool.false_or, if_neg e1, if_neg e2, e1, false_and, if_false]
  cases small
  · simp only [Bool.false_eq_true, if_false]
    exact rld_word w g gm gw cap rest ov st s p h hw hp hp' h1 h2
  · simp only [if_true]
    exact rld_byte w g gm gw cap rest ov st s p h hw hp hp' h1 h2

theorem ld_same (s : M.St) (p a : Int) (small : Bool) : M.loads s p a small = if ldOk s p small = true then M.sets (ldS s p) a (ldW s p small) else { ldS s p with en := 5 } := by
  unfold M.loads ldOk ldS ldW
  by_cases e1 : p = 4294967240
  · subst e1
    simp only [beq_self_eq_true, Bool.true_or, if_true, true_and]
    split <;> rfl
  by_cases e2 : p = 4294967244
  · subst e2
    simp only [beq_self_eq_true, Bool.true_or, Bool.or_true, if_true, if_neg e1, false_and, if_false]
    split <;> rfl
  have h1 : (p == 4294967240) = false := by simpa using e1
  have h2 : (p == 4294967244) = false := by simpa using e2
  simp only [h1, h2, Bool.false_or, if_neg e1, if_neg e2, e1, false_and, if_false]
  cases small
  · simp only [Bool.false_eq_true, if_false, decide_eq_true_eq]
    split <;> rfl
  · simp only [if_true, decide_eq_true_eq]
    split <;> rfl

theorem st_same2 (s : M.St) (p v : Int) (small : Bool) : M.stores s p v small = if stOk s p small = true then stS s p v small else { stS s p v small with en := 5 } := by
  rw [st_same]
  by_cases hk : stOk s p small = true
  · rw [if_pos hk, if_pos hk]
  · rw [if_neg hk, if_neg hk]
    unfold stS
    rw [if_neg hk]
theorem stS_r (s : M.St) (p v : Int) (small : Bool) : (stS s p v small).r = s.r := by
  unfold stS
  split
  · unfold M.stores
    (repeat' split) <;> rfl
  · rfl
theorem ldS_r (s : M.St) (p : Int) : (ldS s p).r = s.r := by unfold ldS; split <;> rfl
theorem ldS_mem (s : M.St) (p : Int) : (ldS s p).mem = s.mem := by unfold ldS; split <;> rfl
theorem ldS_out (s : M.St) (p : Int) : (ldS s p).out = s.out := by unfold ldS; split <;> rfl
theorem ldW_bd (s : M.St) (p : Int) (small : Bool) (hm : ∀ i, 0 ≤ M.at_ s.mem i ∧ M.at_ s.mem i < 4294967296) : 0 ≤ ldW s p small ∧ ldW s p small < 4294967296 := by
  have h1 := inAt_bd s
  have h2 := hm (p / 4)
  unfold ldW M.byteAt
  repeat' split
  all_goals first | exact h1 | exact h2 | omega

theorem DMach.endp {w : World} {g gm gw cap : Nat} {rest : List Value} {ov : Value} {st : Int} {s : M.St} (h : DMach w g gm gw cap rest ov st s) (hl : s.r.length = 16) (v : Int) : DMach (w.setCell ⟨g, 27, none⟩ (.int .i64 v)) g gm gw cap rest ov st { s with en := v } :=
  ⟨dcel_en h.mc hl v, h.mm.fr (fr_set (Fr.refl (fun k => k = g) w) _ _) (fun e => h.g_gm e.symm) (fun e => h.g_gw e.symm), own_fr h.ow (fr_set (Fr.refl (fun k => k = g) w) _ _) (fun k hk e => h.o_g (by rw [hk, e]))⟩

theorem sum_u32 (x im : Int) (hx : 0 ≤ x) (hx' : x < 4294967296) : IntKind.u32.wrap (x + im % 4294967296) = (x + im) % 4294967296 ∧ (x + im % 4294967296) % 4294967296 = (x + im) % 4294967296 := by
  constructor
  · rw [IntKind.wrap_u32]; omega
  · omega

set_option maxHeartbeats 2000000 in
set_option maxRecDepth 100000 in
theorem rmem_store (w : World) (g gm gw cap : Nat) (rest : List Value) (ov : Value) (st : Int) (s : M.St) (v : Bool) (a b im : Int) (h : DMach w g gm gw cap rest ov st s) (hw : Wf s)
    (ha : 0 ≤ a) (ha' : a < 16) (hb : 0 ≤ b) (hb' : b < 16) (hi : -524288 ≤ im) (hi' : im < 524288) :
    Calls Try.prog 63 #[.pointer (some ⟨g, 0, none⟩), iv 2 true v a b 0 0 im] w (RetRR (.tuple #[]) g gm gw cap rest ov st (M.moves s ⟨2, true, v, a, b, 0, 0, im⟩) w) := by
  have hC := h.mc
  have ca := dmach_reg hC hw.rl a ha ha'
  have cb := dmach_reg hC hw.rl b hb hb'
  have hra := hw.rb a
  have hrb := hw.rb b
  have hg := hC.lt
  have hg1 : g < w.heap.size + 1 := by omega
  have hne : g ≠ w.heap.size := by omega
  have hne' : w.heap.size ≠ g := by omega
  obtain ⟨e1, e2⟩ := sum_u32 (M.at_ s.r b) im hrb.1 hrb.2
  have hmod : M.moves s ⟨2, true, v, a, b, 0, 0, im⟩ = if stOk s ((M.at_ s.r b + im) % 4294967296) v = true then stS s ((M.at_ s.r b + im) % 4294967296) (M.at_ s.r a) v else { stS s ((M.at_ s.r b + im) % 4294967296) (M.at_ s.r a) v with en := 5 } := by
    unfold M.moves
    simp only [if_true]
    exact st_same2 _ _ _ _
  rw [hmod]
  clear hmod
  have hrl : (stS s ((M.at_ s.r b + im) % 4294967296) (M.at_ s.r a) v).r.length = 16 := by rw [stS_r]; exact hw.rl
  have HS := Lib.hid (fun w0 (h0 : DMach w0 g gm gw cap rest ov st s) => rstore_any w0 g gm gw cap rest ov st s ((M.at_ s.r b + im) % 4294967296) (M.at_ s.r a) v h0 hw (by omega) (by omega) hra)
  have HW : ∀ w0, Calls Try.prog 52 #[.int .i64 im] w0 (Ret (.int .u32 (im % 4294967296)) w0) := fun w0 => rword_any im w0 (by omega) (by omega)
  have HW := Lib.hid HW
  have hpb : 0 ≤ (M.at_ s.r b + im) % 4294967296 ∧ (M.at_ s.r b + im) % 4294967296 < 4294967296 := by omega
  generalize stS s ((M.at_ s.r b + im) % 4294967296) (M.at_ s.r a) v = s1 at *
  generalize (M.at_ s.r b + im) % 4294967296 = p at *
  cases hk : stOk s p v
  all_goals
    rw [hk] at HS
    try simp only [Bool.false_eq_true, if_false, if_true]
    have HK := Lib.hid hk
    clear hk
    go_enter Try.func63, Try.ntmps63
    go_wp2
    go_quiet ((go_at_call 52; exact quiet_retD (HW.out _)))
    go_wp2
    go_region_with (go_at_call 86; refine (HS.out _ (dmach_box h _ _)).mono ?_; rintro e w1 ⟨rfl, ov', hM1, hF1, hA1⟩; have hz1 := hM1.mc.lt; have d27 := (hM1.mc.cell 27).trans (dc_fld hrl 11); have df := hM1.mc.frozen)
    all_goals
      go_wp2
      go_end0
      first
        | exact RetRR.pre ⟨rfl, ov', hM1, hF1, hA1⟩ (fr_box0 w _ _)
        | (refine ⟨rfl, ov', hM1.endp hrl 5, (fr_box0 w _ _).trans (hF1.trans ((Fr.refl (foot g gw ov) w1).setCell (.inl (.inl rfl)) _)), hA1.imp id ?_⟩
           rintro ⟨b, hb, hle⟩
           exact ⟨b, hb, Nat.le_trans (fr_box0 (S := fun _ => False) w _ _).size hle⟩)

set_option maxHeartbeats 2000000 in
set_option maxRecDepth 100000 in
theorem rmem_load (w : World) (g gm gw cap : Nat) (rest : List Value) (ov : Value) (st : Int) (s : M.St) (v : Bool) (a b im : Int) (h : DMach w g gm gw cap rest ov st s) (hw : Wf s)
    (ha : 0 ≤ a) (ha' : a < 16) (hb : 0 ≤ b) (hb' : b < 16) (hi : -524288 ≤ im) (hi' : im < 524288) :
    Calls Try.prog 63 #[.pointer (some ⟨g, 0, none⟩), iv 2 false v a b 0 0 im] w (RetR (.tuple #[]) (· = g) g gm ov st (M.moves s ⟨2, false, v, a, b, 0, 0, im⟩) w) := by
  have hC := h.mc
  have cb := dmach_reg hC hw.rl b hb hb'
  have hrb := hw.rb b
  have hg := hC.lt
  have hg1 : g < w.heap.size + 1 := by omega
  have hne : g ≠ w.heap.size := by omega
  have hne' : w.heap.size ≠ g := by omega
  obtain ⟨e1, e2⟩ := sum_u32 (M.at_ s.r b) im hrb.1 hrb.2
  have hmod : M.moves s ⟨2, false, v, a, b, 0, 0, im⟩ = if ldOk s ((M.at_ s.r b + im) % 4294967296) v = true then M.sets (ldS s ((M.at_ s.r b + im) % 4294967296)) a (ldW s ((M.at_ s.r b + im) % 4294967296) v) else { ldS s ((M.at_ s.r b + im) % 4294967296) with en := 5 } := by
    unfold M.moves
    simp only [Bool.false_eq_true, if_false]
    exact ld_same _ _ _ _
  rw [hmod]
  clear hmod
  have hrl : (ldS s ((M.at_ s.r b + im) % 4294967296)).r.length = 16 := by rw [ldS_r]; exact hw.rl
  have HS := Lib.hid (fun w0 (h0 : DMach w0 g gm gw cap rest ov st s) => rload_any w0 g gm gw cap rest ov st s ((M.at_ s.r b + im) % 4294967296) v h0 hw (by omega) (by omega))
  have hwb := ldW_bd s ((M.at_ s.r b + im) % 4294967296) v h.mm.bd
  have HW : ∀ w0, Calls Try.prog 52 #[.int .i64 im] w0 (Ret (.int .u32 (im % 4294967296)) w0) := fun w0 => rword_any im w0 (by omega) (by omega)
  have HW := Lib.hid HW
  generalize ldS s ((M.at_ s.r b + im) % 4294967296) = s1 at *
  generalize ldW s ((M.at_ s.r b + im) % 4294967296) v = x at *
  generalize (M.at_ s.r b + im) % 4294967296 = p at *
  have HC1 : Hid (∀ w1 : World, Cel w1 g DT (dc s1 gm ov st) → Calls Try.prog 84 #[.pointer (some ⟨g, 0, none⟩), .int .i64 a, .int .u32 x] w1 (RetR (.tuple #[]) (· = g) g gm ov st (M.sets s1 a x) w1)) := Lib.hid (fun w1 h1 => rset_any g gm ov st s1 a x w1 h1 hrl ha ha' hwb.1 hwb.2)
  cases hk : ldOk s p v
  all_goals
    rw [hk] at HS
    try simp only [Bool.false_eq_true, if_false, if_true]
    have HK := Lib.hid hk
    clear hk
    go_enter Try.func63, Try.ntmps63
    go_wp2
    go_quiet ((go_at_call 52; exact quiet_retD (HW.out _)))
    go_wp2_with (first
      | (go_at_call 87; refine (HS.out _ (dmach_box h _ _)).mono ?_; rintro e w1 ⟨rfl, hM1, hF1⟩; have hz1 := hM1.lt; have d27 := (hM1.cell 27).trans (dc_fld hrl 11); have df := hM1.frozen; have bI := (hF1.cel ((Cel.new w _ _).drewN _) hne').cell)
      | (go_at_call 84; refine (HC1.out _ hM1).mono ?_; rintro e w2 ⟨rfl, hM2, hF2⟩)
      | fail)
    go_end0
  · exact ⟨rfl, dcel_en hM1 hrl 5, fr_set ((fr_box0 w _ _).trans hF1) _ _⟩
  · exact ⟨rfl, hM2, ((fr_box0 w _ _).trans hF1).trans hF2⟩

end Go.Proofs.Ytmlmjkojhfjjlaa


/- RReck: The contracts of the document's register instructions: MOV with U. -/
namespace Go.Proofs.Ytmlmjkojhfjjlaa
set_option linter.unusedVariables false
set_option linter.unusedSimpArgs false
open Go.RowKit

theorem cel7 {w : World} {g : Nat} {t : TypeId} {x0 x1 x2 x3 x4 x5 x6 : Value} (h : Cel w g t #[x0, x1, x2, x3, x4, x5, x6]) (a b c d e f k : Value) :
    Cel (((((((w.setCell ⟨g, 0, none⟩ a).setCell ⟨g, 1, none⟩ b).setCell ⟨g, 2, none⟩ c).setCell ⟨g, 3, none⟩ d).setCell ⟨g, 4, none⟩ e).setCell ⟨g, 5, none⟩ f).setCell ⟨g, 6, none⟩ k) g t #[a, b, c, d, e, f, k] :=
  (((((((h.set 0 a).set 1 b).set 2 c).set 3 d).set 4 e).set 5 f).set 6 k).to (by simp)

set_option maxHeartbeats 2000000 in
set_option maxRecDepth 100000 in
/-- MOV with U of FormIm. -/
theorem rreck_im (g gm : Nat) (ov : Value) (st : Int) (s : M.St) (v : Bool) (a b im : Int) (w : World) (hC : Cel w g DT (dc s gm ov st)) (hl : s.r.length = 16)
    (ha : 0 ≤ a) (ha' : a < 16) (hi : 0 ≤ im) (hi' : im < 65536) :
    Calls Try.prog 62 #[.pointer (some ⟨g, 0, none⟩), iv 1 true v a b 0 0 im] w (RetR (.tuple #[]) (· = g) g gm ov st (M.reckons s ⟨1, true, v, a, b, 0, 0, im⟩) w) := by
  have c0 := (hC.cell 0).trans (dc_reg hl 0 (by decide))
  have hg := hC.lt
  have hg1 : g < w.heap.size + 1 := by omega
  have hne : g ≠ w.heap.size := by omega
  have hne' : w.heap.size ≠ g := by omega
  have hS : M.reckons s ⟨1, true, v, a, b, 0, 0, im⟩ = M.sets s a (im * 65536) := by unfold M.reckons; rw [if_pos ⟨rfl, rfl, rfl⟩]
  rw [hS]
  clear hS
  cases v
  all_goals
    go_enter Try.func62, Try.ntmps62
    go_wp2
    go_quiet (fail)
    go_wp2_with fail
    refine (rset_any g gm ov st s _ _ _ ((hC.alloc _).drewN _) hl ha ha' (by omega) (by omega)).mono ?_
    rintro e w1 ⟨rfl, hC1, hF1⟩
    go_wp2
    exact bodyPost_ret (results_none rfl _ _ _) rfl ⟨rfl, hC1, (((Fr.refl _ w).alloc _).drewN _).trans hF1⟩

/-- The flags' word, flag by flag. -/
def pkd (a b c d : Bool) (k : Nat) : Int :=
  (if 0 < k then M.bit a 2147483648 else 0) + (if 1 < k then M.bit b 1073741824 else 0) + (if 2 < k then M.bit c 536870912 else 0) + (if 3 < k then M.bit d 268435456 else 0)
def flg (a b c d : Bool) (k : Nat) : Bool := if k = 0 then a else if k = 1 then b else if k = 2 then c else d
theorem pkd_bd (a b c d : Bool) (k : Nat) : 0 ≤ pkd a b c d k ∧ pkd a b c d k < 4294967296 := by
  have h : ∀ (x : Bool) (n : Int), M.bit x n = 0 ∨ M.bit x n = n := fun x n => by cases x <;> simp [M.bit]
  have h1 := h a 2147483648
  have h2 := h b 1073741824
  have h3 := h c 536870912
  have h4 := h d 268435456
  unfold pkd
  split <;> split <;> split <;> split <;> omega
theorem pkd_next (a b c d : Bool) (k : Nat) (hk : k < 4) : (flg a b c d k = true → putM (pkd a b c d k) (31 - k) 1 1 = pkd a b c d (k + 1)) ∧ (flg a b c d k = false → pkd a b c d k = pkd a b c d (k + 1)) := by
  have : k = 0 ∨ k = 1 ∨ k = 2 ∨ k = 3 := by omega
  rcases this with rfl | rfl | rfl | rfl <;> cases a <;> cases b <;> cases c <;> cases d <;> decide

end Go.Proofs.Ytmlmjkojhfjjlaa


/- RFlag: The contract of the document's register instruction that reads the flags. -/
namespace Go.Proofs.Ytmlmjkojhfjjlaa
set_option linter.unusedVariables false
set_option linter.unusedSimpArgs false
open Go.RowKit

set_option maxHeartbeats 4000000 in
set_option maxRecDepth 100000 in
/-- MOV with U and V of FormReg: the flags. -/
theorem rreck_fl (g gm : Nat) (ov : Value) (st : Int) (s : M.St) (a b c : Int) (w : World) (hC : Cel w g DT (dc s gm ov st)) (hl : s.r.length = 16)
    (ha : 0 ≤ a) (ha' : a < 16) (hc : 0 ≤ c) (hc' : c < 16) :
    Calls Try.prog 62 #[.pointer (some ⟨g, 0, none⟩), iv 0 true true a b c 0 0] w (RetR (.tuple #[]) (· = g) g gm ov st (M.reckons s ⟨0, true, true, a, b, c, 0, 0⟩) w) := by
  have cc := dmach_reg hC hl c hc hc'
  obtain ⟨c16, c17, c18, c19, c20, c21, c22, c23, c24, c25, c26, c27, c28⟩ := dmach_fld hC hl
  have hg := hC.lt
  have hg1 : g < w.heap.size + 1 := by omega
  have hne : g ≠ w.heap.size := by omega
  have hne' : w.heap.size ≠ g := by omega
  have hS : M.reckons s ⟨0, true, true, a, b, c, 0, 0⟩ = M.sets s a (pkd s.fn s.fz s.fc s.fv 4) := by
    unfold M.reckons
    rw [if_neg (by simp), if_pos ⟨rfl, rfl, rfl⟩]
    rfl
  rw [hS]
  clear hS c16 c21 c22 c23 c24 c25 c26 c27 c28
  go_enter Try.func62, Try.ntmps62
  go_wp2
  go_quiet (fail)
  go_wp2_with fail
  refine wp_region_still_tail 20 (by kernel_rfl) (by kernel_rfl) ?_
  simp only [List.take_succ_cons, List.take_zero, List.drop_succ_cons, List.drop_zero]
  change wpStill _ _ (World.drewN (w.alloc _) (nq + 1)) _ _ _
  repeat still_step
  refine wpStill_nil ?_
  change wpList _ _ _ _ _ (World.drewN (w.alloc _) (nq + 1))
  go_wp2
  have hCL : Cel (((w.alloc (.cells #[.int .i64 0, .bool true, .bool true, .int .i64 a, .int .i64 b, .int .i64 c, .int .i64 0, .int .i64 0] 24)).drewN (nq + 1)).alloc (.cells #[.bool s.fn, .bool s.fz, .bool s.fc, .bool s.fv] 4)) g DT (dc s gm ov st) := ((hC.alloc _).drewN _).alloc _
  have hBL : Cel (((w.alloc (.cells #[.int .i64 0, .bool true, .bool true, .int .i64 a, .int .i64 b, .int .i64 c, .int .i64 0, .int .i64 0] 24)).drewN (nq + 1)).alloc (.cells #[.bool s.fn, .bool s.fz, .bool s.fc, .bool s.fv] 4)) w.heap.size 24 #[.int .i64 0, .bool true, .bool true, .int .i64 a, .int .i64 b, .int .i64 c, .int .i64 0, .int .i64 0] := ((Cel.new w _ _).drewN _).alloc _
  have hFL : Cel (((w.alloc (.cells #[.int .i64 0, .bool true, .bool true, .int .i64 a, .int .i64 b, .int .i64 c, .int .i64 0, .int .i64 0] 24)).drewN (nq + 1)).alloc (.cells #[.bool s.fn, .bool s.fz, .bool s.fc, .bool s.fv] 4)) (w.heap.size + 1) 4 #[.bool s.fn, .bool s.fz, .bool s.fc, .bool s.fv] := by
    have h := Cel.new ((w.alloc (.cells #[.int .i64 0, .bool true, .bool true, .int .i64 a, .int .i64 b, .int .i64 c, .int .i64 0, .int .i64 0] 24)).drewN (nq + 1)) 4 #[.bool s.fn, .bool s.fz, .bool s.fc, .bool s.fv]
    have e : ((w.alloc (.cells #[.int .i64 0, .bool true, .bool true, .int .i64 a, .int .i64 b, .int .i64 c, .int .i64 0, .int .i64 0] 24)).drewN (nq + 1)).heap.size = w.heap.size + 1 := World.size_alloc w _
    rw [e] at h
    exact h
  have hRL : Fr (fun k => k = g) w (((w.alloc (.cells #[.int .i64 0, .bool true, .bool true, .int .i64 a, .int .i64 b, .int .i64 c, .int .i64 0, .int .i64 0] 24)).drewN (nq + 1)).alloc (.cells #[.bool s.fn, .bool s.fz, .bool s.fc, .bool s.fv] 4)) := (((Fr.refl _ w).alloc _).drewN _).alloc _
  generalize (((w.alloc (.cells #[.int .i64 0, .bool true, .bool true, .int .i64 a, .int .i64 b, .int .i64 c, .int .i64 0, .int .i64 0] 24)).drewN (nq + 1)).alloc (.cells #[.bool s.fn, .bool s.fz, .bool s.fc, .bool s.fv] 4)) = W at *
  have HCL := Lib.hid hCL
  have HRL := Lib.hid hRL
  have HBL := Lib.hid hBL
  have HFL := Lib.hid hFL
  clear c17 c18 c19 c20 cc hC hCL hRL hBL hFL
  generalize w.heap.size = B at *
  go_loopw [5, 7] (fun v i wr => ∃ k q : Nat, k ≤ 4 ∧ i = .int .i64 (k : Int) ∧ v = .int .u32 (pkd s.fn s.fz s.fc s.fv k) ∧ wr = W.drewN q) (fun _ i _ => 4 - (intOf i).toNat)
  · exact ⟨0, 0, by omega, by simp, by simp [pkd], rfl⟩
  obtain ⟨k, q, hk, rfl, rfl, rfl⟩ := hrel
  by_cases hlt : k < 4
  · obtain ⟨n1, n2⟩ := pkd_next s.fn s.fz s.fc s.fv k hlt
    obtain ⟨b1, b2⟩ := pkd_bd s.fn s.fz s.fc s.fv k
    have hfl : (W.drewN q).cell? ⟨B + 1, k, none⟩ = some (.bool (flg s.fn s.fz s.fc s.fv k)) := by
      rw [(HFL.out.drewN q).cell]
      have : k = 0 ∨ k = 1 ∨ k = 2 ∨ k = 3 := by omega
      rcases this with rfl | rfl | rfl | rfl <;> rfl
    have N1 := Lib.hid n1
    have N2 := Lib.hid n2
    clear n1 n2
    generalize pkd s.fn s.fz s.fc s.fv k = x at *
    have HP := Lib.hid (fun w0 => rput_any x (31 - k) 1 1 w0 b1 b2 (by decide) (by decide) (by omega) (by decide) (by omega) (by omega))
    cases hf : flg s.fn s.fz s.fc s.fv k
    all_goals
      have HF := Lib.hid hf
      rw [hf] at hfl
      clear hf
      go_wp2_with (first
        | (go_at_call 50; refine (HP.out _).mono ?_; rintro e w' ⟨rfl, nd, rfl⟩)
        | fail)
      go_roundw
      case rel => first | exact ⟨k + 1, q, by omega, by go_num, by rw [N2.out HF.out], rfl⟩ | exact ⟨k + 1, q + nd, by omega, by go_num, by rw [N1.out HF.out], by simp⟩
      case measure => simp [intOf]; omega
  · have : k = 4 := by omega
    subst this
    have hCq := HCL.out.drewN q
    have bI := (HBL.out.drewN q).cell
    have hz := hCq.lt
    obtain ⟨p1, p2⟩ := pkd_bd s.fn s.fz s.fc s.fv 4
    obtain ⟨x, hx⟩ : ∃ x, pkd s.fn s.fz s.fc s.fv 4 = x := ⟨_, rfl⟩
    rw [hx] at p1 p2
    have HX := Lib.hid hx
    rw [hx]
    clear hx
    have HS := Lib.hid (rset_any g gm ov st s a x (W.drewN q) hCq hl ha ha' p1 p2)
    go_wp2_with (first
      | (go_at_call 84; refine HS.out.mono ?_; rintro e w2 ⟨rfl, hC2, hF2⟩)
      | fail)
    exact bodyPost_ret (results_none rfl _ _ _) rfl ⟨rfl, by rw [HX.out]; exact hC2, (HRL.out.drewN _).trans hF2⟩

end Go.Proofs.Ytmlmjkojhfjjlaa
