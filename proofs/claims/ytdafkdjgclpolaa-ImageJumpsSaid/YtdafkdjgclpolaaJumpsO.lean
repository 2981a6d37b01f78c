/- ImageJumps: the walk, where both are laid out. -/
import Derived.Test.YtdafkdjgclpolaaJumps
import Derived.RegionTactic
namespace Go.Proofs.Ytdafkdjgclpolaa
set_option linter.unusedVariables false
set_option linter.unusedSimpArgs false
open Go.RowKit

theorem wrap_sum (a b c : Int) (h : a + b = c) (h0 : 0 ≤ c) (h1 : c ≤ 26) : wrap64 (a + b) = c := by
  rw [h]
  unfold wrap64
  omega

set_option maxHeartbeats 8000000 in
set_option maxRecDepth 100000 in
theorem jumps_ok (w : World) (sp : Option Addr) (c : Nat) (es : List Int) (size a b : Int) (K N : Nat) (hN : Nums w (.slice sp es.length c) sp c es) (hK : wrap64 ((IntKind.u64.wrap a).tmod (es.length : Int)) = (K : Int)) (hKl : K < es.length)
    (h0 : 0 < es.length) (h1 : es.length ≤ 16) (h2 : 256 ≤ size) (h3 : size ≤ 65536) (h4 : 0 ≤ b) (h5 : b < size) (hOk : bootOk size es = true) (hNl : N = 13 + es.length) :
    Calls Try.prog 4 #[.int .i64 size, .slice sp es.length c, .agg #[.int .i64 a, .int .i64 b]] w (RetB (.bool true) w) := by
  have HOk := Lib.hid hOk
  have HOk2 := Lib.hid (boot_ok_set (K := K) (t := b) hOk h4 h5)
  have HL := Lib.hid ((bootW_len size es).trans hNl.symm)
  have HL2 := Lib.hid (show (bootW size (es.set K b)).length = N by rw [bootW_len, List.length_set, hNl])
  have HNl := Lib.hid hNl
  clear hOk hNl
  have HN := Lib.hid hN
  have B0 := Lib.hid ((((Below.refl _ w).alloc (Nat.le_refl _) (.cells #[.int .i64 a, .int .i64 b] 34)).alloc (by simp) (.cells #[] I64T)).drew)
  have hn : ((es.length : Int) == 0) = false := beq_false_of_ne (by omega)
  have hb64 : -9223372036854775808 ≤ b ∧ b < 9223372036854775808 := by omega
  have hlen : (N : Int) = 13 + (es.length : Int) := by have := HNl.out; omega
  clear hN
  go_enter Try.func4, Try.ntmps4
  go_wp2
  go_region
  go_wp2_with (first
    | (at_builtin; have tok := HB2; refine wpList_copy_nums rfl _ _ rfl w1.heap.size _ _ _ es rfl rfl rfl (by have hh := Cel.new (w1.setCell ⟨g1, K, none⟩ (.int .i64 b)) I64T #[]; rwa [show (w1.setCell ⟨g1, K, none⟩ (.int .i64 b)).heap.size = w1.heap.size from by simp] at hh) (HN.out.below (HB2.out.alloc HB2.out.size _)) (by omega) ?_; intro v3 w3 hown3 hb3; have hN3 := nums_own hown3 HN.out.bd; have hb3' := (((Below.refl w1.heap.size (w1.setCell ⟨g1, K, none⟩ (.int .i64 b))).alloc (by simp) (.cells #[] I64T)).trans hb3); have HB3 := Lib.hid (HB2.out.trans (hb3'.mono HB1.out.size)); have HO3 := Lib.hid (HO2.out.below (hb3'.mono (by simp))); clear hb3 hb3' hown3; obtain ⟨sp3, c3, hN3⟩ := hN3; have HN3 := Lib.hid hN3; clear hN3)
    | (at_builtin; refine wpList_copy_nums rfl _ _ rfl (w.heap.size + 1) _ _ _ es rfl rfl rfl (by have := Cel.new1 w (.cells #[.int .i64 a, .int .i64 b] 34) #[] I64T; exact this.drew) (HN.out.below B0.out) (by omega) ?_; intro v1 w1 hown1 hb1; obtain ⟨g1, c1, rfl, hg1⟩ := own_get hown1 h0; have cK := own_cell hown1 K es[K] (by simp [hKl]); have fK := own_frozen hown1 K; have HB1 := Lib.hid (B0.out.trans (hb1.mono (by omega))); have HO2 := Lib.hid (nums_stored hown1 rfl hKl b HN.out.bd hb64); have HB2 := Lib.hid (HB1.out.setCell (p := ⟨g1, K, none⟩) (show w.heap.size ≤ g1 by omega) (.int .i64 b)); clear hb1 hown1)
    | (go_at_call 8; have tok := HB4; refine (boot_any _ (some ⟨g1, 0, none⟩) c1 (es.set K b) _ size HO4.out).mono ?_; rintro e w5 hr; obtain ⟨v5, W5, E5, rfl, hw5, hB5, hW5, hE5⟩ := boot_both hr; rw [if_pos HOk2.out] at hW5 hE5; subst hW5 hE5; obtain ⟨sp5, c5, rfl, hr5⟩ := row_at hw5 HL2.out; have HR5 := Lib.hid hr5; have HB5 := Lib.hid (HB4.out.trans (hB5.mono HB4.out.size)); have HA5 := Lib.hid (HR4.out.below hB5); have HO5 := Lib.hid (HO4.out.below hB5); clear hr hw5 hB5 hr5)
    | (go_at_call 8; refine (boot_any _ sp3 c3 es _ size HN3.out).mono ?_; rintro e w4 hr; obtain ⟨v4, W4, E4, rfl, hw4, hB4, hW4, hE4⟩ := boot_both hr; rw [if_pos HOk.out] at hW4 hE4; subst hW4 hE4; obtain ⟨sp4, c4, rfl, hr4⟩ := row_at hw4 HL.out; have HR4 := Lib.hid hr4; have HB4 := Lib.hid (HB3.out.trans (hB4.mono HB3.out.size)); have HO4 := Lib.hid (HO3.out.below hB4); clear hr hw4 hB4 hr4)
    | fail)
  go_loopw [15] (fun i wr => ∃ k q : Nat, k ≤ N ∧ i = .int .i64 (k : Int) ∧ wr = w5.drewN q) (fun i _ => N - (intOf i).toNat)
  · exact ⟨0, 0, Nat.zero_le _, rfl, rfl⟩
  obtain ⟨k, q, hk, rfl, rfl⟩ := hrel
  by_cases hlt : k < N
  · obtain ⟨ad, x, rfl, hc, hx⟩ := HA5.out k hlt
    obtain ⟨ad2, y, rfl, hc2, hy⟩ := HR5.out k hlt
    have hlt' : (k : Int) < (N : Int) := by omega
    have hN16 : (N : Int) ≤ 29 := by omega
    by_cases hKk : k = 10 + K
    · have e1 : ((k : Int) != 10 + (K : Int)) = false := by simp; omega
      have hKb : (K : Int) ≤ 16 := by omega
      go_wp2
      go_quiet (fail)
      go_wp2
      go_roundw
      case rel => exact ⟨k + 1, _, by omega, by go_num, rfl⟩
      case measure => simp [intOf]; omega
    · have e1 : ((k : Int) != 10 + (K : Int)) = true := by simp; omega
      have hKb : (K : Int) ≤ 16 := by omega
      rw [bootW_set K b k hKk, hx] at hy
      obtain rfl := Option.some.inj hy
      go_wp2
      go_quiet (fail)
      go_wp2
      go_roundw
      case rel => exact ⟨k + 1, _, by omega, by go_num, rfl⟩
      case measure => simp [intOf]; omega
  · go_wp2
    clear hK
    have HBq := Lib.hid (below_drewN HB5.out q)
    go_loopw [16] (fun i wr => ∃ k : Nat, k ≤ es.length ∧ i = .int .i64 (k : Int) ∧ Below w5.heap.size w5 wr) (fun i _ => es.length - (intOf i).toNat)
    · exact ⟨0, Nat.zero_le _, rfl, below_drewN (Below.refl _ w5) q⟩
    obtain ⟨k2, hk2, rfl, hb6⟩ := hrel
    have HB6 := Lib.hid hb6
    clear hb6
    by_cases hlt2 : k2 < es.length
    · obtain ⟨M10, hM⟩ : ∃ M10 : Nat, M10 = 10 + k2 := ⟨_, rfl⟩
      obtain ⟨ad2, y, rfl, hc2, hy⟩ := (HR5.out.below HB6.out) M10 (by have := HNl.out; omega)
      obtain ⟨e, he⟩ : ∃ e, (es.set K b)[k2]'(by rw [List.length_set]; exact hlt2) = e := ⟨_, rfl⟩
      obtain ⟨ad3, ead3, hc3, hb3⟩ := (HO5.out.below HB6.out).at_k k2 (by rw [List.length_set]; exact hlt2) e he
      injection ead3 with ead3
      subst ead3
      rw [hM, bootW_jump k2 (by rw [List.length_set]; exact hlt2) e he] at hy
      have hy2 := (Option.some.inj hy).symm
      rw [show (10 : Int) + (k2 : Int) = (M10 : Int) by omega] at hy2
      have HY := Lib.hid hy2
      have hMb : (M10 : Int) ≤ 26 := by omega
      have he3 := (boot_ok_parts HOk2.out).2.2.2 e (he ▸ List.getElem_mem _)
      have hlt2' : (k2 : Int) < (es.length : Int) := by omega
      have hk16 : (k2 : Int) ≤ 16 := by omega
      have hMN : (M10 : Int) < (N : Int) := by omega
      have hN16 : (N : Int) ≤ 29 := by omega
      have hp0 : 0 ≤ (M10 : Int) := by omega
      have hp1 : (M10 : Int) ≤ 100 := by omega
      have hp2 : e < 65536 := by omega
      have hMe : (10 : Int) + (k2 : Int) = (M10 : Int) := by omega
      have e2 : ((10 + (k2 : Int) + 1 + (e - (10 + (k2 : Int)) - 1)) != e) = false := by simp; omega
      have HMe := Lib.hid hMe
      clear hMe
      have hplain := addr_plain g1 k2
      rw [hplain] at hc3
      rw [hM] at hc2
      have HMM := Lib.hid hM
      clear hy he hy2 hplain hM
      have HD : Hid (∀ wr, Calls Try.prog 14 #[.int .u32 y] wr (RetB (.tuple #[iv 3 true true 7 0 0 0 (e - (10 + (k2 : Int)) - 1), .int .i64 0]) wr)) := Lib.hid (fun wr => by rw [HY.out, show (10 : Int) + (k2 : Int) = (M10 : Int) from HMe.out]; exact dec_jump (M10 : Int) e hp0 hp1 he3.1 hp2 wr)
      go_wp2_with (first
        | (go_at_call 14; have hd := HD.out wr; refine hd.mono ?_; clear hd; rintro e7 w7 ⟨rfl, hB7⟩; have hc7 := (hB7.cell (World.block_lt_of_cell? wr _ hc3)).trans hc3; have HB7 := Lib.hid (HB6.out.trans (hB7.mono HB6.out.size)); have hg7 := World.block_lt_of_cell? w7 _ hc7; have hg7 : g1 < w7.heap.size := hg7; have hg8 : g1 ≠ w7.heap.size := (by omega); have hg9 : w7.heap.size ≠ g1 := (by omega); have hc8 := (((Below.refl w7.heap.size w7).alloc (Nat.le_refl _) (.cells #[.int .i64 3, .bool true, .bool true, .int .i64 7, .int .i64 0, .int .i64 0, .int .i64 0, .int .i64 (e - (10 + (k2 : Int)) - 1)] IT)).cell hg7).trans hc7; clear hB7 hc3 hc2)
        | fail)
      go_quiet (fail)
      go_wp2
      go_roundw
      case rel => exact ⟨k2 + 1, by omega, by go_num, below_drewN (HB7.out.alloc HB7.out.size _) _⟩
      case measure => simp [intOf]; omega
    · go_wp2_with (first
        | (go_at_call 7; refine (wakesI_any _).mono ?_; rintro e w6 ⟨rfl, hB6⟩)
        | fail)
      go_ret
      exact ⟨ret_b (by first | rfl | simp), HB5.out.trans ((HB6.out.mono HB5.out.size).trans (hB6.mono (Nat.le_trans HB5.out.size HB6.out.size)))⟩

theorem imgjumps_any (w : World) (sp : Option Addr) (c : Nat) (es : List Int) (v : Value) (size a b : Int) (hN : Nums w v sp c es) : Calls Try.prog 4 #[.int .i64 size, v, .agg #[.int .i64 a, .int .i64 b]] w (RetB (.bool true) w) := by
  obtain rfl := hN.v
  by_cases h : es.length = 0 ∨ 0 < es.length ∧ (16 < es.length ∨ es.length ≤ 16 ∧ (size < 256 ∨ 256 ≤ size ∧ (65536 < size ∨ size ≤ 65536 ∧ (b < 0 ∨ 0 ≤ b ∧ size ≤ b))))
  · exact jumps_early w sp _ c size a b h
  · obtain ⟨K, hK, hKl⟩ := modK a es.length (by omega) (by omega)
    by_cases hOk : bootOk size es = true
    · exact jumps_ok w sp c es size a b K _ hN hK hKl (by omega) (by omega) (by omega) (by omega) (by omega) (by omega) hOk rfl
    · exact jumps_bad w sp c es size a b K hN hK hKl (by omega) (by omega) (by omega) (by omega) (by omega) (by omega) (by simpa using hOk)

end Go.Proofs.Ytdafkdjgclpolaa
