/- The program's memory in memory: contracts of Size, word, Load, Store, Byte, PutByte. -/
import Derived.Test.YtmlmjkojhfjjlaaState
import Derived.Test.YtmlmjkojhfjjlaaBits
namespace Go.Proofs.Ytmlmjkojhfjjlaa
set_option linter.unusedVariables false
set_option linter.unusedSimpArgs false
open Go.RowKit

theorem or_comm32 (x y : Int) : bits .or .u32 x y = bits .or .u32 y x := by
  unfold bits
  simp only [BitVec.or_comm]
theorem bits_ofInt (x : BitVec 32) : BitVec.ofInt 32 (IntKind.u32.wrap (x.toNat : Int)) = x := by
  rw [IntKind.wrap_u32]
  have h : ((x.toNat : Int) % 4294967296) = ((x.toNat : Nat) : Int) := by have := x.isLt; omega
  rw [h, BitVec.ofInt_natCast, BitVec.ofNat_toNat]
  simp
theorem or_assoc32 (x y z : Int) : bits .or .u32 (bits .or .u32 x y) z = bits .or .u32 x (bits .or .u32 y z) := by
  show IntKind.u32.wrap ((BitVec.ofInt 32 (IntKind.u32.wrap ((BitVec.ofInt 32 x ||| BitVec.ofInt 32 y).toNat : Int)) ||| BitVec.ofInt 32 z).toNat : Int) =
    IntKind.u32.wrap ((BitVec.ofInt 32 x ||| BitVec.ofInt 32 (IntKind.u32.wrap ((BitVec.ofInt 32 y ||| BitVec.ofInt 32 z).toNat : Int))).toNat : Int)
  rw [bits_ofInt, bits_ofInt, BitVec.or_assoc]
theorem nat_and255 (a k : Nat) : a &&& (255 * 2 ^ k) = a / 2 ^ k % 256 * 2 ^ k := by
  apply Nat.eq_of_testBit_eq
  intro i
  rw [Nat.testBit_and, Nat.testBit_mul_two_pow, Nat.testBit_mul_two_pow, show (256 : Nat) = 2 ^ 8 from rfl, Nat.testBit_mod_two_pow, Nat.testBit_div_two_pow, show (255 : Nat) = 2 ^ 8 - 1 from rfl, Nat.testBit_two_pow_sub_one]
  by_cases hk : k ≤ i
  · simp only [hk, decide_true, Bool.true_and, Nat.sub_add_cancel hk]
    rw [Bool.and_comm]
  · simp [hk]

theorem andNot_sub (a m : Nat) (ha : a < 2 ^ 32) (hm : m < 2 ^ 32) : bits .andNot .u32 (a : Int) (m : Int) = ((a - (a &&& m) : Nat) : Int) := by
  show IntKind.u32.wrap ((BitVec.ofInt 32 (a : Int) &&& ~~~(BitVec.ofInt 32 (m : Int))).toNat : Int) = _
  rw [BitVec.ofInt_natCast, BitVec.ofInt_natCast]
  have e : BitVec.ofNat 32 a &&& ~~~(BitVec.ofNat 32 m) = BitVec.ofNat 32 a - (BitVec.ofNat 32 a &&& BitVec.ofNat 32 m) := by
    rw [BitVec.eq_sub_iff_add_eq, BitVec.add_eq_or_of_and_eq_zero]
    · apply BitVec.eq_of_getLsbD_eq
      intro i hi
      simp only [BitVec.getLsbD_or, BitVec.getLsbD_and, BitVec.getLsbD_not, hi, decide_true, Bool.true_and]
      cases (BitVec.ofNat 32 a).getLsbD i <;> cases (BitVec.ofNat 32 m).getLsbD i <;> rfl
    · apply BitVec.eq_of_getLsbD_eq
      intro i hi
      simp only [BitVec.getLsbD_and, BitVec.getLsbD_not, hi, decide_true, Bool.true_and]
      cases (BitVec.ofNat 32 a).getLsbD i <;> cases (BitVec.ofNat 32 m).getLsbD i <;> simp
  have hle : a &&& m ≤ a := Nat.and_le_left
  have h1 : (BitVec.ofNat 32 a).toNat = a := by rw [BitVec.toNat_ofNat, Nat.mod_eq_of_lt ha]
  have h2 : (BitVec.ofNat 32 m).toNat = m := by rw [BitVec.toNat_ofNat, Nat.mod_eq_of_lt hm]
  have h3 : (BitVec.ofNat 32 a - (BitVec.ofNat 32 a &&& BitVec.ofNat 32 m)).toNat = a - (a &&& m) := by
    rw [BitVec.toNat_sub_of_le (by rw [BitVec.le_def, BitVec.toNat_and, h1, h2]; exact hle), BitVec.toNat_and, h1, h2]
  rw [e, h3, IntKind.wrap_u32]
  omega

theorem putbyte_math (x v sc : Int) (hx : 0 ≤ x) (hx' : x < 4294967296) (hv : 0 ≤ v) (hs : sc = 1 ∨ sc = 256 ∨ sc = 65536 ∨ sc = 16777216) :
    bits .or .u32 (bits .andNot .u32 x (255 * sc)) (v % 256 * sc % 4294967296) = x - x / sc % 256 * sc + v % 256 * sc := by
  obtain ⟨a, rfl⟩ := Int.eq_ofNat_of_zero_le hx
  have ha : a < 2 ^ 32 := by omega
  have key : ∀ k : Nat, (k = 0 ∨ k = 8 ∨ k = 16 ∨ k = 24) → sc = ((2 ^ k : Nat) : Int) → bits .or .u32 (bits .andNot .u32 (a : Int) (255 * sc)) (v % 256 * sc % 4294967296) = (a : Int) - a / sc % 256 * sc + v % 256 * sc := by
    intro k hk e
    have em : (255 * sc : Int) = ((255 * 2 ^ k : Nat) : Int) := by rw [e]; simp
    have hm : 255 * 2 ^ k < 2 ^ 32 := by rcases hk with rfl | rfl | rfl | rfl <;> decide
    rw [em, andNot_sub a _ ha hm, nat_and255]
    have e5 : (((a - a / 2 ^ k % 256 * 2 ^ k : Nat)) : Int) = (a : Int) - a / sc % 256 * sc := by
      have : a / 2 ^ k % 256 * 2 ^ k ≤ a := by rw [← nat_and255]; exact Nat.and_le_left
      rw [Int.ofNat_sub this, e]
      simp
    rw [e5]
    have hb : v % 256 * sc % 4294967296 = v % 256 * sc := by rcases hs with rfl | rfl | rfl | rfl <;> omega
    rw [hb]
    clear e5 em hm
    -- the lower part, the byte's place, the upper part
    have hq : bits .or .u32 ((a : Int) - a / sc % 256 * sc) (v % 256 * sc) = (a : Int) - a / sc % 256 * sc + v % 256 * sc := by
      have hlo : bits .or .u32 ((a : Int) / (sc * 256) * (sc * 256)) ((a : Int) % sc) = (a : Int) / (sc * 256) * (sc * 256) + (a : Int) % sc := by
        rcases hs with h | h | h | h <;> subst h
        · exact u32_join 8 _ _ (by omega) (by omega) (by omega) (by omega) (by omega) (by omega)
        · exact u32_join 16 _ _ (by omega) (by omega) (by omega) (by omega) (by omega) (by omega)
        · exact u32_join 24 _ _ (by omega) (by omega) (by omega) (by omega) (by omega) (by omega)
        · exact u32_join 32 _ _ (by omega) (by omega) (by omega) (by omega) (by omega) (by omega)
      have hmid : bits .or .u32 ((a : Int) / (sc * 256) * (sc * 256)) (v % 256 * sc + (a : Int) % sc) = (a : Int) / (sc * 256) * (sc * 256) + (v % 256 * sc + (a : Int) % sc) := by
        rcases hs with h | h | h | h <;> subst h
        · exact u32_join 8 _ _ (by omega) (by omega) (by omega) (by omega) (by omega) (by omega)
        · exact u32_join 16 _ _ (by omega) (by omega) (by omega) (by omega) (by omega) (by omega)
        · exact u32_join 24 _ _ (by omega) (by omega) (by omega) (by omega) (by omega) (by omega)
        · exact u32_join 32 _ _ (by omega) (by omega) (by omega) (by omega) (by omega) (by omega)
      have hb2 : bits .or .u32 (v % 256 * sc) ((a : Int) % sc) = v % 256 * sc + (a : Int) % sc := by
        rcases hs with h | h | h | h <;> subst h
        · exact u32_join 0 _ _ (by omega) (by omega) (by omega) (by omega) (by omega) (by omega)
        · exact u32_join 8 _ _ (by omega) (by omega) (by omega) (by omega) (by omega) (by omega)
        · exact u32_join 16 _ _ (by omega) (by omega) (by omega) (by omega) (by omega) (by omega)
        · exact u32_join 24 _ _ (by omega) (by omega) (by omega) (by omega) (by omega) (by omega)
      have es : (a : Int) - a / sc % 256 * sc = (a : Int) / (sc * 256) * (sc * 256) + (a : Int) % sc := by
        rcases hs with h | h | h | h <;> subst h <;> omega
      rw [es, ← hlo, or_assoc32, or_comm32 ((a : Int) % sc), hb2, hmid, hlo]
      omega
    exact hq
  rcases hs with e | e | e | e
  · exact key 0 (by simp) e
  · exact key 8 (by simp) e
  · exact key 16 (by simp) e
  · exact key 24 (by simp) e

/-- A row of words, with whatever stands behind it. -/
def wds (mem : List Int) (rest : List Value) : Array Value := (mem.map (Value.int .u32) ++ rest).toArray
abbrev MMT : TypeId := 105
abbrev U32T : TypeId := 54

theorem wds_at {mem : List Int} {rest : List Value} (i : Nat) (h : i < mem.length) : (wds mem rest)[i]? = some (.int .u32 (mem.getD i 0)) := by
  unfold wds
  rw [List.getElem?_toArray, List.getElem?_append_left (by simp; omega), List.getElem?_map]
  simp [h]
theorem wds_set {mem : List Int} {rest : List Value} (i : Nat) (h : i < mem.length) (v : Int) : (wds mem rest).setIfInBounds i (.int .u32 v) = wds (mem.set i v) rest := by
  unfold wds
  rw [List.setIfInBounds_toArray, List.set_append_left _ _ (by simp; omega), List.map_set]

/-- The memory's two blocks. -/
structure MemAt (w : World) (gm gw cap : Nat) (mem : List Int) (rest : List Value) : Prop where
  hd : Cel w gm MMT #[.slice (some ⟨gw, 0, none⟩) mem.length cap]
  ws : Cel w gw U32T (wds mem rest)
  le : mem.length ≤ 65536
  lc : mem.length ≤ cap
  bd : ∀ i, 0 ≤ M.at_ mem i ∧ M.at_ mem i < 4294967296

set_option maxHeartbeats 1000000 in
theorem size_any (w : World) (gm gw cap : Nat) (mem : List Int) (rest : List Value) (h : MemAt w gm gw cap mem rest) :
    Calls Try.prog 46 #[.pointer (some ⟨gm, 0, none⟩)] w (Ret (.int .i64 (mem.length : Int)) w) := by
  have c0 := h.hd.cell 0
  have hlt := h.hd.lt
  go_enter Try.func46, Try.ntmps46
  go_wp2
  go_ret
  exact ⟨rfl, rfl⟩

set_option maxHeartbeats 1000000 in
theorem word_yes (w : World) (gm gw cap : Nat) (mem : List Int) (rest : List Value) (h : MemAt w gm gw cap mem rest) (p : Int) (hp : 0 ≤ p) (hp' : p < 4294967296) (ht : p / 4 < mem.length) :
    Calls Try.prog 73 #[.pointer (some ⟨gm, 0, none⟩), .int .u32 p] w (Ret (.pointer (some ⟨gw, (p / 4).toNat, none⟩)) w) := by
  have c0 := h.hd.cell 0
  have hle := h.le
  have hlt := h.hd.lt
  go_enter Try.func73, Try.ntmps73
  go_wp2_with (go_at_call 46; refine (size_any _ _ _ _ _ _ h).mono ?_; rintro e w' ⟨rfl, rfl⟩)
  go_ret
  exact ⟨rfl, rfl⟩

set_option maxHeartbeats 1000000 in
theorem word_no (w : World) (gm gw cap : Nat) (mem : List Int) (rest : List Value) (h : MemAt w gm gw cap mem rest) (p : Int) (hp : 0 ≤ p) (hp' : p < 4294967296) (ht : ¬ p / 4 < mem.length) :
    Calls Try.prog 73 #[.pointer (some ⟨gm, 0, none⟩), .int .u32 p] w (Ret (.pointer none) w) := by
  have hle := h.le
  go_enter Try.func73, Try.ntmps73
  go_wp2_with (go_at_call 46; refine (size_any _ _ _ _ _ _ h).mono ?_; rintro e w' ⟨rfl, rfl⟩)
  go_ret
  exact ⟨rfl, rfl⟩

theorem MemAt.word {w : World} {gm gw cap : Nat} {mem : List Int} {rest : List Value} (h : MemAt w gm gw cap mem rest) (i : Int) (h0 : 0 ≤ i) (h1 : i < mem.length) : w.cell? ⟨gw, i.toNat, none⟩ = some (.int .u32 (M.at_ mem i)) := by
  rw [h.ws.cell, wds_at _ (by omega)]; rfl

/-- What Load tells. -/
def ldV (mem : List Int) (p : Int) : Value := if p % 4 = 0 ∧ M.there mem p then .tuple #[.int .u32 (M.at_ mem (p / 4)), .bool true] else .tuple #[.int .u32 0, .bool false]

set_option maxHeartbeats 1000000 in
theorem load_any (w : World) (gm gw cap : Nat) (mem : List Int) (rest : List Value) (h : MemAt w gm gw cap mem rest) (p : Int) (hp : 0 ≤ p) (hp' : p < 4294967296) :
    Calls Try.prog 56 #[.pointer (some ⟨gm, 0, none⟩), .int .u32 p] w (Ret (ldV mem p) w) := by
  by_cases ht : p / 4 < mem.length
  · have cw := h.word (p / 4) (by omega) ht
    by_cases h4 : p % 4 = 0
    · have hv : Value.tuple #[.int .u32 (M.at_ mem (p / 4)), .bool true] = ldV mem p := by unfold ldV M.there; rw [if_pos ⟨h4, ht⟩]
      have HV := Lib.hid hv
      have h4' : (p % 4 != 0) = false := by simp [h4]
      clear hv h4
      go_enter Try.func56, Try.ntmps56
      go_wp2_with (go_at_call 73; refine (word_yes _ _ _ _ _ _ h _ (by omega) (by omega) ht).mono ?_; rintro e w' ⟨rfl, rfl⟩)
      go_ret2
      exact ⟨congrArg Ending.returned HV.out, rfl⟩
    · have hv : Value.tuple #[.int .u32 0, .bool false] = ldV mem p := by unfold ldV M.there; rw [if_neg (by omega)]
      have HV := Lib.hid hv
      have h4' : (p % 4 != 0) = true := by simp [h4]
      clear hv h4
      go_enter Try.func56, Try.ntmps56
      go_wp2_with (go_at_call 73; refine (word_yes _ _ _ _ _ _ h _ (by omega) (by omega) ht).mono ?_; rintro e w' ⟨rfl, rfl⟩)
      go_ret2
      exact ⟨congrArg Ending.returned HV.out, rfl⟩
  · have hv : Value.tuple #[.int .u32 0, .bool false] = ldV mem p := by unfold ldV M.there; rw [if_neg (by omega)]
    have HV := Lib.hid hv
    clear hv
    go_enter Try.func56, Try.ntmps56
    go_wp2_with (go_at_call 73; refine (word_no _ _ _ _ _ _ h _ (by omega) (by omega) ht).mono ?_; rintro e w' ⟨rfl, rfl⟩)
    go_ret2
    exact ⟨congrArg Ending.returned HV.out, rfl⟩

/-- What Byte tells. -/
def btV (mem : List Int) (p : Int) : Value := if M.there mem p then .tuple #[.int .u32 (M.byteAt mem p), .bool true] else .tuple #[.int .u32 0, .bool false]
theorem sc_pow (p : Int) (hp : 0 ≤ p) : (2 : Int) ^ (8 * (p % 4)).toNat = M.sc p := by
  unfold M.sc
  have : p % 4 = 0 ∨ p % 4 = 1 ∨ p % 4 = 2 ∨ p % 4 = 3 := by omega
  rcases this with e | e | e | e <;> simp [e]

set_option maxHeartbeats 1000000 in
theorem byte_any (w : World) (gm gw cap : Nat) (mem : List Int) (rest : List Value) (h : MemAt w gm gw cap mem rest) (p : Int) (hp : 0 ≤ p) (hp' : p < 4294967296) :
    Calls Try.prog 77 #[.pointer (some ⟨gm, 0, none⟩), .int .u32 p] w (Ret (btV mem p) w) := by
  by_cases ht : p / 4 < mem.length
  · have cw := h.word (p / 4) (by omega) ht
    have hbd := h.bd (p / 4)
    have hv : Value.tuple #[.int .u32 (M.at_ mem (p / 4) / M.sc p % 256), .bool true] = btV mem p := by unfold btV; rw [if_pos (show M.there mem p from ht)]; rfl
    have HV := Lib.hid hv
    have hs := sc_pow p hp
    clear hv
    go_enter Try.func77, Try.ntmps77
    go_wp2_with (go_at_call 73; refine (word_yes _ _ _ _ _ _ h _ (by omega) (by omega) ht).mono ?_; rintro e w' ⟨rfl, rfl⟩)
    go_ret2
    exact ⟨congrArg Ending.returned HV.out, rfl⟩
  · have hv : Value.tuple #[.int .u32 0, .bool false] = btV mem p := by unfold btV; rw [if_neg (show ¬ M.there mem p from ht)]
    have HV := Lib.hid hv
    clear hv
    go_enter Try.func77, Try.ntmps77
    go_wp2_with (go_at_call 73; refine (word_no _ _ _ _ _ _ h _ (by omega) (by omega) ht).mono ?_; rintro e w' ⟨rfl, rfl⟩)
    go_ret2
    exact ⟨congrArg Ending.returned HV.out, rfl⟩

/-- What a store leaves: the memory's words. -/
def RetW (v : Value) (gm gw cap : Nat) (mem : List Int) (rest : List Value) (w : World) (e : Ending) (w' : World) : Prop := e = .returned v ∧ MemAt w' gm gw cap mem rest ∧ Fr (fun k => k = gw) w w'

theorem MemAt.put {w : World} {gm gw cap : Nat} {mem : List Int} {rest : List Value} (h : MemAt w gm gw cap mem rest) (i : Int) (h0 : 0 ≤ i) (h1 : i < mem.length) (v : Int) (hv : 0 ≤ v ∧ v < 4294967296) (hne : gm ≠ gw) :
    MemAt (w.setCell ⟨gw, i.toNat, none⟩ (.int .u32 v)) gm gw cap (M.put_ mem i v) rest := by
  have hl : (M.put_ mem i v).length = mem.length := by unfold M.put_; simp
  refine ⟨by rw [hl]; exact h.hd.far hne _, (h.ws.set _ _).to (wds_set _ (by omega) v), by rw [hl]; exact h.le, by rw [hl]; exact h.lc, fun j => ?_⟩
  have hb := h.bd j
  unfold M.put_ M.at_ at *
  rw [List.getD_eq_getElem?_getD, List.getElem?_set] at *
  split
  · split
    · simpa using hv
    · simp
  · exact hb

theorem fr_set1 {g : Nat} {a b : World} (h : Fr (fun k => k = g) a b) (i : Nat) (v : Value) : Fr (fun k => k = g) a (b.setCell ⟨g, i, none⟩ v) := h.setCell (.inl rfl) v

set_option maxHeartbeats 1000000 in
theorem store_yes (w : World) (gm gw cap : Nat) (mem : List Int) (rest : List Value) (h : MemAt w gm gw cap mem rest) (hne : gm ≠ gw) (p v : Int) (hp : 0 ≤ p) (hp' : p < 4294967296) (hv : 0 ≤ v ∧ v < 4294967296) (h4 : p % 4 = 0) (ht : p / 4 < mem.length) :
    Calls Try.prog 93 #[.pointer (some ⟨gm, 0, none⟩), .int .u32 p, .int .u32 v] w (RetW (.bool true) gm gw cap (M.put_ mem (p / 4) v) rest w) := by
  have cw := h.word (p / 4) (by omega) ht
  have fw := h.ws.frozen
  have h4' : (p % 4 != 0) = false := by simp [h4]
  have hm := h.put (p / 4) (by omega) ht v hv hne
  have HM := Lib.hid hm
  clear hm h4
  go_enter Try.func93, Try.ntmps93
  go_wp2_with (go_at_call 73; refine (word_yes _ _ _ _ _ _ h _ (by omega) (by omega) ht).mono ?_; rintro e w' ⟨rfl, rfl⟩)
  go_ret
  exact ⟨rfl, HM.out, fr_set1 (Fr.refl _ _) _ _⟩

set_option maxHeartbeats 1000000 in
theorem store_no (w : World) (gm gw cap : Nat) (mem : List Int) (rest : List Value) (h : MemAt w gm gw cap mem rest) (p v : Int) (hp : 0 ≤ p) (hp' : p < 4294967296) (hn : ¬ (p % 4 = 0 ∧ p / 4 < mem.length)) :
    Calls Try.prog 93 #[.pointer (some ⟨gm, 0, none⟩), .int .u32 p, .int .u32 v] w (Ret (.bool false) w) := by
  by_cases ht : p / 4 < mem.length
  · have h4' : (p % 4 != 0) = true := by simp; omega
    clear hn
    go_enter Try.func93, Try.ntmps93
    go_wp2_with (go_at_call 73; refine (word_yes _ _ _ _ _ _ h _ (by omega) (by omega) ht).mono ?_; rintro e w' ⟨rfl, rfl⟩)
    go_ret
    exact ⟨rfl, rfl⟩
  · clear hn
    go_enter Try.func93, Try.ntmps93
    go_wp2_with (go_at_call 73; refine (word_no _ _ _ _ _ _ h _ (by omega) (by omega) ht).mono ?_; rintro e w' ⟨rfl, rfl⟩)
    go_ret
    exact ⟨rfl, rfl⟩

set_option maxHeartbeats 1000000 in
theorem putbyte_no (w : World) (gm gw cap : Nat) (mem : List Int) (rest : List Value) (h : MemAt w gm gw cap mem rest) (p v : Int) (hp : 0 ≤ p) (hp' : p < 4294967296) (ht : ¬ p / 4 < mem.length) :
    Calls Try.prog 92 #[.pointer (some ⟨gm, 0, none⟩), .int .u32 p, .int .u32 v] w (Ret (.bool false) w) := by
  go_enter Try.func92, Try.ntmps92
  go_wp2_with (go_at_call 73; refine (word_no _ _ _ _ _ _ h _ (by omega) (by omega) ht).mono ?_; rintro e w' ⟨rfl, rfl⟩)
  go_ret
  exact ⟨rfl, rfl⟩

set_option maxHeartbeats 1000000 in
theorem putbyte_yes (w : World) (gm gw cap : Nat) (mem : List Int) (rest : List Value) (h : MemAt w gm gw cap mem rest) (hne : gm ≠ gw) (p v : Int) (hp : 0 ≤ p) (hp' : p < 4294967296) (hv : 0 ≤ v ∧ v < 4294967296) (ht : p / 4 < mem.length) :
    Calls Try.prog 92 #[.pointer (some ⟨gm, 0, none⟩), .int .u32 p, .int .u32 v] w (RetW (.bool true) gm gw cap (M.putByte mem p v) rest w) := by
  have cw := h.word (p / 4) (by omega) ht
  have hbd := h.bd (p / 4)
  have fw := h.ws.frozen
  have hs := sc_pow p hp
  have hsc : M.sc p = 1 ∨ M.sc p = 256 ∨ M.sc p = 65536 ∨ M.sc p = 16777216 := by unfold M.sc; split; simp; split; simp; split; simp; simp
  go_enter Try.func92, Try.ntmps92
  go_wp2_with (go_at_call 73; refine (word_yes _ _ _ _ _ _ h _ (by omega) (by omega) ht).mono ?_; rintro e w' ⟨rfl, rfl⟩)
  go_ret
  rw [putbyte_math (M.at_ mem (p / 4)) v (M.sc p) hbd.1 hbd.2 hv.1 hsc]
  refine ⟨rfl, h.put (p / 4) (by omega) ht _ ?_ hne, fr_set1 (Fr.refl _ _) _ _⟩
  rcases hsc with e | e | e | e <;> rw [e] <;> omega

theorem byte_ok (w : World) (gm gw cap : Nat) (mem : List Int) (rest : List Value) (h : MemAt w gm gw cap mem rest) (p : Int) (hp : 0 ≤ p) (hp' : p < 4294967296) (ht : M.there mem p) :
    Calls Try.prog 77 #[.pointer (some ⟨gm, 0, none⟩), .int .u32 p] w (Ret (.tuple #[.int .u32 (M.byteAt mem p), .bool true]) w) := by
  have := byte_any w gm gw cap mem rest h p hp hp'
  unfold btV at this
  rwa [if_pos ht] at this
theorem byte_no (w : World) (gm gw cap : Nat) (mem : List Int) (rest : List Value) (h : MemAt w gm gw cap mem rest) (p : Int) (hp : 0 ≤ p) (hp' : p < 4294967296) (ht : ¬ M.there mem p) :
    Calls Try.prog 77 #[.pointer (some ⟨gm, 0, none⟩), .int .u32 p] w (Ret (.tuple #[.int .u32 0, .bool false]) w) := by
  have := byte_any w gm gw cap mem rest h p hp hp'
  unfold btV at this
  rwa [if_neg ht] at this
theorem load_ok (w : World) (gm gw cap : Nat) (mem : List Int) (rest : List Value) (h : MemAt w gm gw cap mem rest) (p : Int) (hp : 0 ≤ p) (hp' : p < 4294967296) (ht : p % 4 = 0 ∧ M.there mem p) :
    Calls Try.prog 56 #[.pointer (some ⟨gm, 0, none⟩), .int .u32 p] w (Ret (.tuple #[.int .u32 (M.at_ mem (p / 4)), .bool true]) w) := by
  have := load_any w gm gw cap mem rest h p hp hp'
  unfold ldV at this
  rwa [if_pos ht] at this
theorem load_no (w : World) (gm gw cap : Nat) (mem : List Int) (rest : List Value) (h : MemAt w gm gw cap mem rest) (p : Int) (hp : 0 ≤ p) (hp' : p < 4294967296) (ht : ¬ (p % 4 = 0 ∧ M.there mem p)) :
    Calls Try.prog 56 #[.pointer (some ⟨gm, 0, none⟩), .int .u32 p] w (Ret (.tuple #[.int .u32 0, .bool false]) w) := by
  have := load_any w gm gw cap mem rest h p hp hp'
  unfold ldV at this
  rwa [if_neg ht] at this

end Go.Proofs.Ytmlmjkojhfjjlaa
