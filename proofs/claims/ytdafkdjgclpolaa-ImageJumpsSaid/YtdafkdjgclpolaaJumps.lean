/- ImageJumps: the walk. -/
import Derived.Test.YtdafkdjgclpolaaBoots
import Derived.Test.YtdafkdjgclpolaaExt
import Derived.Test.YtdafkdjgclpolaaStep
import Derived.RegionTactic
namespace Go.Proofs.Ytdafkdjgclpolaa
set_option linter.unusedVariables false
set_option linter.unusedSimpArgs false
open Go.RowKit

theorem own_stored {w : World} {base n c g K : Nat} {e : TypeId} {xs : List Value} (h : w.ownsRow base e 1 (.slice (some ⟨g, 0, none⟩) n c) n xs) (hK : K < n) (u : Value) : (w.setCell ⟨g, K, none⟩ u).ownsRow base e 1 (.slice (some ⟨g, 0, none⟩) n c) n (xs.set K u) := by
  refine ⟨by rw [List.length_set]; exact h.1, ?_⟩
  rcases h.2 with ⟨hv, _⟩ | ⟨g', cap, cur, hv, hb, hg, h1, h2, h3, h4⟩
  · cases hv
  · injection hv with e1 e2 e3
    injection e1 with e1
    injection e1 with e1
    subst e1 e3
    refine .inr ⟨g, c, cur.setIfInBounds K u, rfl, hb, Cel.set (w := w) (g := g) (t := e) (cs := cur) hg K u, h1, h2, by simpa using h3, ?_⟩
    rw [Array.toList_setIfInBounds, List.take_set, h4]

theorem modK (n : Int) (l : Nat) (h0 : 0 < l) (h1 : l ≤ 16) : ∃ K : Nat, wrap64 ((IntKind.u64.wrap n).tmod (l : Int)) = (K : Int) ∧ K < l := by
  have h2 := Int.emod_nonneg (n % 18446744073709551616) (show (l : Int) ≠ 0 by omega)
  have h3 := Int.emod_lt_of_pos (n % 18446744073709551616) (show (0 : Int) < l by omega)
  refine ⟨((n % 18446744073709551616) % (l : Int)).toNat, ?_, by omega⟩
  rw [IntKind.wrap_u64, Int.tmod_eq_emod_of_nonneg (by omega)]
  unfold wrap64
  omega

set_option maxHeartbeats 4000000 in
set_option maxRecDepth 100000 in
theorem jumps_early (w : World) (sp : Option Addr) (n c : Nat) (size a b : Int) (h : n = 0 ∨ 0 < n ∧ (16 < n ∨ n ≤ 16 ∧ (size < 256 ∨ 256 ≤ size ∧ (65536 < size ∨ size ≤ 65536 ∧ (b < 0 ∨ 0 ≤ b ∧ size ≤ b))))) :
    Calls Try.prog 4 #[.int .i64 size, .slice sp n c, .agg #[.int .i64 a, .int .i64 b]] w (RetB (.bool true) w) := by
  have B0 := Lib.hid (((Below.refl _ w).alloc (Nat.le_refl _) (.cells #[.int .i64 a, .int .i64 b] 34)).drew)
  rcases h with h | ⟨h0, h | ⟨h1, h | ⟨h2, h | ⟨h3, h | ⟨h4, h⟩⟩⟩⟩⟩
  · have hn : ((n : Int) == 0) = true := by simp [h]
    clear h
    go_enter Try.func4, Try.ntmps4
    go_wp2
    go_region
    go_wp2_with (first
      | (go_at_call 7; refine (wakesI_any _).mono ?_; rintro e w5 ⟨rfl, hB5⟩)
      | fail)
    go_ret
    exact ⟨ret_b (by first | rfl | simp), B0.out.trans (hB5.mono B0.out.size)⟩
  all_goals
    have hn : ((n : Int) == 0) = false := by simp; omega
    go_enter Try.func4, Try.ntmps4
    go_wp2
    go_region
    go_wp2_with (first
      | (go_at_call 7; refine (wakesI_any _).mono ?_; rintro e w5 ⟨rfl, hB5⟩)
      | fail)
    go_ret
    exact ⟨ret_b (by first | rfl | simp), B0.out.trans (hB5.mono B0.out.size)⟩

theorem dec_jump (p e : Int) (hp : 0 ≤ p) (hp' : p ≤ 100) (he : 0 ≤ e) (he' : e < 65536) (w : World) :
    Calls Try.prog 14 #[.int .u32 (M.encI (jumpI p e))] w (RetB (.tuple #[iv 3 true true 7 0 0 0 (e - p - 1), .int .i64 0]) w) := by
  have hg := jump_good p e hp hp' he he'
  obtain ⟨h1, h2⟩ := M.decOk_enc hg
  obtain ⟨b0, b1⟩ := M.enc_bd (of_decide_eq_true hg)
  have := dec_yes h1 w b0 b1
  rw [h2] at this
  exact this

/-- Where the two differ. -/
theorem bootW_at {size : Int} {es : List Int} (i : Nat) (hi : i < 13 + es.length) : ∃ x, (bootW size es)[i]? = some x := by
  have : (bootW size es).length = 13 + es.length := by
    unfold bootW
    rw [List.length_append, List.length_replicate]
    unfold encs
    rw [List.length_map, bootI_len]
    omega
  exact ⟨_, List.getElem?_eq_getElem (by omega)⟩
theorem bootW_jump {size : Int} {es : List Int} (i : Nat) (hi : i < es.length) (e : Int) (he : es[i] = e) : (bootW size es)[10 + i]? = some (M.encI (jumpI (10 + (i : Int)) e)) := by
  unfold bootW bootI
  rw [List.getElem?_append_right (by simp; omega), List.length_replicate]
  unfold encs
  rw [List.getElem?_map, List.getElem?_append_left (by rw [List.length_append, jumpsI_len]; show 10 + i - 8 < 2 + es.length; omega), List.getElem?_append_right (by show 2 ≤ 10 + i - 8; omega)]
  show Option.map M.encI (jumpsI 10 es)[10 + i - 8 - 2]? = _
  rw [show 10 + i - 8 - 2 = i by omega, jumpsI_at 10 es i hi, he]
  rfl
theorem jumps_set : ∀ (p : Int) (es : List Int) (K : Nat) (t : Int) (j : Nat), j ≠ K → (jumpsI p (es.set K t))[j]? = (jumpsI p es)[j]?
  | p, [], K, t, j, _ => by simp
  | p, e :: r, 0, t, 0, h => absurd rfl h
  | p, e :: r, 0, t, j + 1, _ => by simp [jumpsI]
  | p, e :: r, K + 1, t, 0, _ => by simp [jumpsI]
  | p, e :: r, K + 1, t, j + 1, h => by
    simp only [List.set_cons_succ, jumpsI, List.getElem?_cons_succ]
    exact jumps_set (p + 1) r K t j (by omega)
theorem bootW_set {size : Int} {es : List Int} (K : Nat) (t : Int) (i : Nat) (h : i ≠ 10 + K) : (bootW size (es.set K t))[i]? = (bootW size es)[i]? := by
  unfold bootW bootI
  by_cases h8 : i < 8
  · rw [List.getElem?_append_left (by simpa using h8), List.getElem?_append_left (by simpa using h8)]
  · rw [List.getElem?_append_right (by simpa using h8), List.getElem?_append_right (by simpa using h8)]
    unfold encs
    rw [List.getElem?_map, List.getElem?_map]
    congr 1
    rw [List.length_replicate]
    have hl : (headI size ++ jumpsI 10 (es.set K t)).length = (headI size ++ jumpsI 10 es).length := by rw [List.length_append, List.length_append, jumpsI_len, jumpsI_len, List.length_set]
    by_cases h1 : i - 8 < (headI size ++ jumpsI 10 es).length
    · rw [List.getElem?_append_left (by rw [hl]; exact h1), List.getElem?_append_left h1]
      by_cases h2 : i - 8 < 2
      · rw [List.getElem?_append_left (by exact h2), List.getElem?_append_left (by exact h2)]
      · rw [List.getElem?_append_right (by show 2 ≤ i - 8; omega), List.getElem?_append_right (by show 2 ≤ i - 8; omega)]
        exact jumps_set 10 es K t (i - 8 - 2) (by omega)
    · rw [List.getElem?_append_right (by rw [hl]; omega), List.getElem?_append_right (by omega), hl]

/-- An own row of numbers, with another number in one place. -/
theorem nums_stored {w : World} {base c g K n : Nat} {es : List Int} (h : w.ownsRow base I64T 1 (.slice (some ⟨g, 0, none⟩) n c) n (es.map (Value.int .i64))) (hn : n = es.length) (hK : K < n) (t : Int) (hb : ∀ e ∈ es, -9223372036854775808 ≤ e ∧ e < 9223372036854775808) (ht : -9223372036854775808 ≤ t ∧ t < 9223372036854775808) :
    Nums (w.setCell ⟨g, K, none⟩ (.int .i64 t)) (.slice (some ⟨g, 0, none⟩) n c) (some ⟨g, 0, none⟩) c (es.set K t) := by
  have h2 := own_stored h hK (.int .i64 t)
  have h3 := h2.cells (g := g) rfl
  refine ⟨by rw [List.length_set, hn], fun _ => ⟨_, rfl, fun j u hj => h3 j u ?_⟩, fun e he => ?_⟩
  · rw [← List.map_set]; exact hj
  · rcases List.mem_or_eq_of_mem_set he with h4 | h4
    · exact hb e h4
    · rw [h4]; exact ht

theorem boot_ok_parts {size : Int} {es : List Int} (h : bootOk size es = true) : 256 ≤ size ∧ size ≤ 65536 ∧ es.length ≤ 16 ∧ ∀ e ∈ es, 0 ≤ e ∧ e < size := by
  unfold bootOk at h
  rw [Bool.and_eq_true] at h
  obtain ⟨h0, h1, h2⟩ := of_decide_eq_true h.1
  exact ⟨h0, h1, h2, fun e he => of_decide_eq_true (List.all_eq_true.1 h.2 e he)⟩
theorem boot_ok_set {size : Int} {es : List Int} {K : Nat} {t : Int} (h : bootOk size es = true) (h0 : 0 ≤ t) (h1 : t < size) : bootOk size (es.set K t) = true := by
  obtain ⟨k0, k1, k2, k3⟩ := boot_ok_parts h
  unfold bootOk
  rw [Bool.and_eq_true]
  refine ⟨decide_eq_true ⟨k0, k1, by rw [List.length_set]; exact k2⟩, List.all_eq_true.2 fun e he => decide_eq_true ?_⟩
  rcases List.mem_or_eq_of_mem_set he with h4 | h4
  · exact k3 e h4
  · rw [h4]; exact ⟨h0, h1⟩

theorem own_get {w : World} {base n : Nat} {e : TypeId} {v : Value} {xs : List Value} (h : w.ownsRow base e 1 v n xs) (h0 : 0 < n) : ∃ g c, v = .slice (some ⟨g, 0, none⟩) n c ∧ base ≤ g := by
  rcases h.2 with ⟨_, e⟩ | ⟨g, cap, cur, rfl, hb, _⟩
  · omega
  · exact ⟨g, cap, rfl, hb⟩
theorem own_frozen {w : World} {base n g c : Nat} {e : TypeId} {xs : List Value} (h : w.ownsRow base e 1 (.slice (some ⟨g, 0, none⟩) n c) n xs) (k : Nat) : w.frozen? ⟨g, k, none⟩ = false := by
  rcases h.2 with ⟨hv, _⟩ | ⟨g', cap, cur, hv, hb, hg, _⟩
  · cases hv
  · injection hv with e1 e2 e3
    injection e1 with e1
    injection e1 with e1
    subst e1
    exact Cel.frozen (w := w) (g := g) (t := e) (cs := cur) hg k
theorem own_cell {w : World} {base n g c : Nat} {es : List Int} (h : w.ownsRow base I64T 1 (.slice (some ⟨g, 0, none⟩) n c) n (es.map (Value.int .i64))) (k : Nat) (x : Int) (hx : es[k]? = some x) : w.cell? ⟨g, k, none⟩ = some (.int .i64 x) := by
  have := h.cells (g := g) rfl k (.int .i64 x) (by rw [List.getElem?_map, hx]; rfl)
  have hplain : (⟨g, 0, none⟩ : Addr).add k = ⟨g, k, none⟩ := by unfold Addr.add; split <;> simp_all
  rwa [hplain] at this

set_option maxHeartbeats 8000000 in
set_option maxRecDepth 100000 in
theorem jumps_bad (w : World) (sp : Option Addr) (c : Nat) (es : List Int) (size a b : Int) (K : Nat) (hN : Nums w (.slice sp es.length c) sp c es) (hK : wrap64 ((IntKind.u64.wrap a).tmod (es.length : Int)) = (K : Int)) (hKl : K < es.length)
    (h0 : 0 < es.length) (h1 : es.length ≤ 16) (h2 : 256 ≤ size) (h3 : size ≤ 65536) (h4 : 0 ≤ b) (h5 : b < size) (hbad : bootOk size es = false) :
    Calls Try.prog 4 #[.int .i64 size, .slice sp es.length c, .agg #[.int .i64 a, .int .i64 b]] w (RetB (.bool true) w) := by
  have HBad := Lib.hid hbad
  clear hbad
  have HN := Lib.hid hN
  have B0 := Lib.hid ((((Below.refl _ w).alloc (Nat.le_refl _) (.cells #[.int .i64 a, .int .i64 b] 34)).alloc (by simp) (.cells #[] I64T)).drew)
  have hn : ((es.length : Int) == 0) = false := beq_false_of_ne (by omega)
  have hb64 : -9223372036854775808 ≤ b ∧ b < 9223372036854775808 := by omega
  clear hN
  go_enter Try.func4, Try.ntmps4
  go_wp2
  go_region
  go_wp2_with (first
    | (at_builtin; (have tok := HB2; refine wpList_copy_nums rfl _ _ rfl w1.heap.size _ _ _ es rfl rfl rfl (by have hh := Cel.new (w1.setCell ⟨g1, K, none⟩ (.int .i64 b)) I64T #[]; rwa [show (w1.setCell ⟨g1, K, none⟩ (.int .i64 b)).heap.size = w1.heap.size from by simp] at hh) (HN.out.below (HB2.out.alloc HB2.out.size _)) (by omega) ?_; intro v3 w3 hown3 hb3; have hN3 := nums_own hown3 HN.out.bd; have hb3' := (((Below.refl w1.heap.size (w1.setCell ⟨g1, K, none⟩ (.int .i64 b))).alloc (by simp) (.cells #[] I64T)).trans hb3); have HB3 := Lib.hid (HB2.out.trans (hb3'.mono HB1.out.size)); have HO3 := Lib.hid (HO2.out.below (hb3'.mono (by simp))); clear hb3 hb3' hown3; obtain ⟨sp3, c3, hN3⟩ := hN3; have HN3 := Lib.hid hN3; clear hN3))
    | (at_builtin; (refine wpList_copy_nums rfl _ _ rfl (w.heap.size + 1) _ _ _ es rfl rfl rfl (by have := Cel.new1 w (.cells #[.int .i64 a, .int .i64 b] 34) #[] I64T; exact this.drew) (HN.out.below B0.out) (by omega) ?_; intro v1 w1 hown1 hb1; obtain ⟨g1, c1, rfl, hg1⟩ := own_get hown1 h0; have cK := own_cell hown1 K es[K] (by simp [hKl]); have fK := own_frozen hown1 K; have HB1 := Lib.hid (B0.out.trans (hb1.mono (by omega))); have HO2 := Lib.hid (nums_stored hown1 rfl hKl b HN.out.bd hb64); have HB2 := Lib.hid (HB1.out.setCell (p := ⟨g1, K, none⟩) (show w.heap.size ≤ g1 by omega) (.int .i64 b)); clear hb1 hown1))
    | (go_at_call 8; have tok := HB4; refine (boot_any _ (some ⟨g1, 0, none⟩) c1 (es.set K b) _ size HO4.out).mono ?_; rintro e w5 hr; obtain ⟨v5, W5, E5, rfl, _, hB5, _, _⟩ := boot_both hr; have HB5 := Lib.hid (HB4.out.trans (hB5.mono HB4.out.size)); clear hr hB5)
    | (go_at_call 8; refine (boot_any _ sp3 c3 es _ size HN3.out).mono ?_; rintro e w4 ⟨hB4, hr⟩; obtain rfl : e = .returned (.tuple #[.slice none 0 0, .int .i64 1]) := (by rcases hr with ⟨k1, _⟩ | ⟨_, k1⟩; rw [HBad.out] at k1; cases k1; exact k1); have HB4 := Lib.hid (HB3.out.trans (hB4.mono HB3.out.size)); have HO4 := Lib.hid (HO3.out.below hB4); clear hr hB4)
    | (go_at_call 7; refine (wakesI_any _).mono ?_; rintro e w6 ⟨rfl, hB6⟩)
    | fail)
  all_goals
    go_ret
    exact ⟨ret_b (by first | rfl | simp), HB5.out.trans (hB6.mono HB5.out.size)⟩


theorem bootW_len (size : Int) (es : List Int) : (bootW size es).length = 13 + es.length := by
  unfold bootW
  rw [List.length_append, List.length_replicate]
  unfold encs
  rw [List.length_map, bootI_len]
  omega
theorem addr_plain (g k : Nat) : (⟨g, 0, none⟩ : Addr).add k = ⟨g, k, none⟩ := by unfold Addr.add; split <;> simp_all
def RowAt (w : World) (sp : Option Addr) (N : Nat) (ws : List Int) : Prop := ∀ k, k < N → ∃ ad x, sp = some ad ∧ w.cell? (ad.add k) = some (.int .u32 x) ∧ ws[k]? = some x
theorem RowAt.below {w w' : World} {sp : Option Addr} {N : Nat} {ws : List Int} (h : RowAt w sp N ws) (hb : Below w.heap.size w w') : RowAt w' sp N ws :=
  fun k hk => let ⟨ad, x, e1, h1, h2⟩ := h k hk; ⟨ad, x, e1, (hb.cell (World.block_lt_of_cell? w _ h1)).trans h1, h2⟩
theorem row_at {w : World} {v : Value} {ws : List Int} {N : Nat} (h : wordsAt w v ws) (hl : ws.length = N) : ∃ sp c, v = .slice sp N c ∧ RowAt w sp N ws := by
  subst hl
  obtain ⟨sp, c, e, hc⟩ := h
  exact ⟨sp, c, e, fun k hk => let ⟨ad, e1, h1⟩ := hc k hk; ⟨ad, _, e1, h1, List.getElem?_eq_getElem hk⟩⟩

end Go.Proofs.Ytdafkdjgclpolaa
