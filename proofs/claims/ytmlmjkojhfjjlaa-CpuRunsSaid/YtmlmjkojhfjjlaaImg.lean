/- How a run begins: image.words, image.Boot. -/
import Derived.Test.YtmlmjkojhfjjlaaRuns3
import Derived.RegionTactic
namespace Go.Proofs.Ytmlmjkojhfjjlaa
set_option linter.unusedVariables false
set_option linter.unusedSimpArgs false
open Go.RowKit

/-- The program's Encode at any instruction that there is. -/
theorem penc_yes (f : Int) (u v : Bool) (a b c op im : Int) (w : World) (hG : M.Good f u v a b c op im) :
    Calls Try.prog 38 #[iv f u v a b c op im] w (RetB (.tuple #[.int .u32 (M.enc f u v a b c op im), .int .i64 0]) w) := by
  have hg : M.good f u v a b c op im = true := decide_eq_true hG
  have e1 : M.encW f u v a b c op im = M.enc f u v a b c op im := (encW_yes hg rfl).symm
  have e2 : M.encE f u v a b c op im = 0 := (encE_yes hg).symm
  rw [← e1, ← e2]
  obtain ⟨⟨ha, ha', hb, hb', hc, hc', ho, ho'⟩, hk⟩ := hG
  rcases hk with ⟨rfl, _, _, rfl⟩ | ⟨rfl, _, rfl, h0, h1⟩ | ⟨rfl, rfl, rfl, h0, h1⟩ | ⟨rfl, rfl, rfl, ⟨rfl, rfl, h0, h1⟩ | ⟨rfl, rfl⟩⟩
  · exact enc0 u v a b c op w ha ha' hb hb' hc hc' ho (by omega)
  · exact enc1 u v a b op im w ha ha' hb hb' ho (by omega) h0 h1
  · exact enc2 u v a b im w ha ha' hb hb' h0 h1
  · exact enc3u v a im w ha ha' h0 h1
  · exact enc3 v a c w ha ha' hc hc'

set_option maxHeartbeats 4000000 in
set_option maxRecDepth 100000 in
theorem words_any (w : World) (g n c : Nat) (is : List M.I) (hnl : n = is.length) (hI : Ins w g is) (hg : ∀ (k : Nat) (hk : k < is.length), M.goodI is[k] = true) (hn0 : 0 < n) (hn : n ≤ 500) :
    Calls Try.prog 55 #[.slice (some ⟨g, 0, none⟩) n c] w (fun e w' => ∃ g' c', e = .returned (.slice (some ⟨g', 0, none⟩) n c') ∧ w'.ownsRow w.heap.size U32T 1 (.slice (some ⟨g', 0, none⟩) n c') n ((encs is).map (Value.int .u32)) ∧ w.heap.size ≤ g' ∧ Below w.heap.size w w') := by
  subst hnl
  obtain ⟨i0, hi0, hz0, hz1, hz2⟩ := info_parts info32
  have HI := Lib.hid hI
  have HG := Lib.hid hg
  clear hI hg
  go_enter Try.func55, Try.ntmps55
  go_wp2
  go_loopw [3, 6, 7, 10] (fun v _ _ i wr => ∃ k : Nat, k ≤ is.length ∧ i = .int .i64 (k : Int) ∧ PlayAt w is k v wr) (fun _ _ _ i _ => is.length - (intOf i).toNat)
  · exact ⟨0, Nat.zero_le _, rfl, ⟨rfl, .inl ⟨rfl, rfl⟩⟩, Below.refl _ _⟩
  obtain ⟨k, hk, rfl, hP⟩ := hrel
  have HP := Lib.hid hP
  clear hP
  by_cases hlt : k < is.length
  · have hJ := HI.out.below HP.out.2
    obtain ⟨x, hx⟩ : ∃ x, is[k] = x := ⟨_, rfl⟩
    obtain ⟨e0, e1, e2, e3, e4, e5, e6, e7⟩ := hJ.cells k hlt x hx
    have HG1 := Lib.hid (show M.Good x.f x.u x.v x.a x.b x.c x.op x.im from of_decide_eq_true (hx ▸ HG.out k hlt))
    have HX := Lib.hid hx
    have HJl := hJ.lt
    clear hJ hx
    go_wp2_with (first
      | (go_at_call 38; refine (penc_yes _ _ _ _ _ _ _ _ _ HG1.out).mono ?_; rintro e w1 ⟨rfl, hb1⟩; have hb2 := Lib.hid (((Below.refl _ wr).alloc (Nat.le_refl _) (.cells (iC x).toArray IT)).trans (hb1.mono (by simp))); have hown1 := own_fr HP.out.1 (Fr.of_below (S := fun _ => False) hb2.out) (fun _ _ => id); have hs1 := hb2.out.size; have hs0 := HP.out.2.size; clear hb1)
      | (at_builtin; refine wpList_append_lies _ (by rfl) _ _ _ (by rfl) w.heap.size U32T i0 (.int .u32 0) 1 4 Try.underlying32 hi0 hz0 hz1 hz2 rfl (by omega) _ k _ (by rfl) (hown1.alloc _) ⟨w1.heap.size, 0, none⟩ 1 1 [.int .u32 (M.enc x.f x.u x.v x.a x.b x.c x.op x.im)] (by rfl) rfl (World.news_of_block (heap_alloc_new w1 _)) (by simp [Value.oneCell']) (by omega) (by unfold maxLen; omega) (by omega) (by simp at hs0 ⊢; omega) (w1.heap.size + 1) (by simp) ?_; intro b2 cp w2 hown2 hgrow hat hlt2))
    have hnx := play_next HP.out hlt HX.out hb2.out hgrow hown2
    go_roundw
    case rel => exact ⟨k + 1, by omega, by go_num, hnx⟩
    case measure => simp [intOf]; omega
  · obtain rfl : k = is.length := by omega
    have hall : (encs is).take is.length = encs is := List.take_of_length_le (by simp [encs])
    have hown := HP.out.1
    rw [hall] at hown
    have HO := Lib.hid hown
    have HB := Lib.hid HP.out.2
    clear hown hall HP
    go_wp2
    go_ret
    rcases HO.out.2 with ⟨_, h0⟩ | ⟨g', cap, cur, hv, hb, _⟩
    · omega
    · have ho := HO.out
      simp only [Array.getD_eq_getD_getElem?] at hv ⊢
      refine ⟨g', cap, ?_, ?_, hb, HB.out⟩
      · exact congrArg Ending.returned hv
      · rw [← hv]; exact ho

/-- How a run begins, as instructions. -/
def headI (size : Int) : List M.I := [⟨1, true, false, 14, 0, 0, 0, 4 * size / 65536⟩, ⟨1, false, false, 14, 14, 0, 6, 4 * size % 65536⟩]
def tailI : List M.I := [⟨1, true, false, 1, 0, 0, 0, 65535⟩, ⟨1, false, false, 1, 1, 0, 8, 65472⟩, ⟨2, true, false, 0, 1, 0, 0, 0⟩]
def jumpI (at_ e : Int) : M.I := ⟨3, true, true, 7, 0, 0, 0, e - at_ - 1⟩
def jumpsI : Int → List Int → List M.I
  | _, [] => []
  | p, e :: r => jumpI p e :: jumpsI (p + 1) r
def bootI (size : Int) (es : List Int) : List M.I := headI size ++ jumpsI 10 es ++ tailI
def bootW (size : Int) (es : List Int) : List Int := List.replicate 8 0 ++ encs (bootI size es)
def entB (size e : Int) : Bool := decide (0 ≤ e ∧ e < size)
def bootOk (size : Int) (es : List Int) : Bool := decide (256 ≤ size ∧ size ≤ 65536 ∧ es.length ≤ 16) && es.all (entB size)

theorem jumpsI_append : ∀ (p : Int) (a : List Int) (e : Int), jumpsI p (a ++ [e]) = jumpsI p a ++ [jumpI (p + a.length) e]
  | p, [], e => by simp [jumpsI]
  | p, x :: a, e => by
    have e1 : p + 1 + (a.length : Int) = p + ((x :: a).length : Int) := by simp only [List.length_cons]; omega
    simp only [List.cons_append, jumpsI, jumpsI_append (p + 1) a e, e1]
theorem jumpsI_len : ∀ (p : Int) (a : List Int), (jumpsI p a).length = a.length
  | _, [] => rfl
  | p, x :: a => by simp [jumpsI, jumpsI_len (p + 1) a]
theorem jumpsI_at : ∀ (p : Int) (a : List Int) (k : Nat) (hk : k < a.length), (jumpsI p a)[k]? = some (jumpI (p + k) a[k])
  | p, [], k, hk => by simp at hk
  | p, x :: a, 0, hk => by simp [jumpsI]
  | p, x :: a, k + 1, hk => by
    simp only [jumpsI, List.getElem?_cons_succ, List.getElem_cons_succ]
    rw [jumpsI_at (p + 1) a k (by simpa using hk)]
    congr 2
    omega

theorem head_good (size : Int) (h0 : 256 ≤ size) (h1 : size ≤ 65536) : ∀ x ∈ headI size, M.goodI x = true := by
  intro x hx
  simp only [headI, List.mem_cons, List.not_mem_nil, or_false] at hx
  rcases hx with rfl | rfl
  · exact decide_eq_true (by show M.Good 1 true false 14 0 0 0 (4 * size / 65536); unfold M.Good; simp; omega)
  · exact decide_eq_true (by show M.Good 1 false false 14 14 0 6 (4 * size % 65536); unfold M.Good; simp; omega)
theorem tail_good : ∀ x ∈ tailI, M.goodI x = true := by decide
theorem jump_good (p e : Int) (hp : 0 ≤ p) (hp' : p ≤ 100) (he : 0 ≤ e) (he' : e < 65536) : M.goodI (jumpI p e) = true :=
  decide_eq_true (by show M.Good 3 true true 7 0 0 0 (e - p - 1); unfold M.Good; simp; omega)

theorem boot_good (size : Int) (es : List Int) (h : bootOk size es = true) : ∀ x ∈ bootI size es, M.goodI x = true := by
  unfold bootOk at h
  rw [Bool.and_eq_true] at h
  obtain ⟨h0, h1, h2⟩ := of_decide_eq_true h.1
  have hall := List.all_eq_true.1 h.2
  intro x hx
  unfold bootI at hx
  rw [List.mem_append, List.mem_append] at hx
  rcases hx with (hx | hx) | hx
  · exact head_good size h0 h1 x hx
  · obtain ⟨k, hk, hkx⟩ := List.getElem_of_mem hx
    have hk' : k < es.length := by rw [jumpsI_len] at hk; exact hk
    have h3 := jumpsI_at 10 es k hk'
    rw [List.getElem?_eq_getElem hk, hkx] at h3
    injection h3 with h3
    rw [h3]
    have hr := of_decide_eq_true (hall _ (List.getElem_mem hk'))
    exact jump_good _ _ (by omega) (by omega) hr.1 (by omega)
  · exact tail_good x hx

/-- A slice of numbers, as it lies in memory. -/
structure Nums (w : World) (v : Value) (sp : Option Addr) (c : Nat) (es : List Int) : Prop where
  v : v = .slice sp es.length c
  at_ : 0 < es.length → ∃ ad, sp = some ad ∧ ∀ j u, (es.map (Value.int .i64))[j]? = some u → w.cell? (ad.add j) = some u
  bd : ∀ e ∈ es, -9223372036854775808 ≤ e ∧ e < 9223372036854775808
theorem Nums.below {w w' : World} {v : Value} {sp : Option Addr} {c : Nat} {es : List Int} (h : Nums w v sp c es) (hb : Below w.heap.size w w') : Nums w' v sp c es :=
  ⟨h.v, fun hl => let ⟨ad, e, hc⟩ := h.at_ hl; ⟨ad, e, fun j u hj => (hb.cell (World.block_lt_of_cell? w _ (hc j u hj))).trans (hc j u hj)⟩, h.bd⟩
theorem Nums.at_k {w : World} {v : Value} {sp : Option Addr} {c : Nat} {es : List Int} (h : Nums w v sp c es) (k : Nat) (hk : k < es.length) (e : Int) (he : es[k] = e) : ∃ ad, sp = some ad ∧ w.cell? (ad.add k) = some (.int .i64 e) ∧ -9223372036854775808 ≤ e ∧ e < 9223372036854775808 := by
  obtain ⟨ad, e1, hc⟩ := h.at_ (by omega)
  subst he
  exact ⟨ad, e1, hc k _ (by simp [hk]), h.bd _ (List.getElem_mem hk)⟩

theorem and16 (x : Int) (h0 : 0 ≤ x) (h1 : x < 9223372036854775808) : bits .and .i64 x 65535 = x % 65536 := by
  show IntKind.i64.wrap ((BitVec.ofInt 64 x &&& BitVec.ofInt 64 65535).toNat : Int) = _
  have e1 : (BitVec.ofInt 64 x).toNat = (x % 18446744073709551616).toNat := by rw [BitVec.toNat_ofInt]; rfl
  have e2 : (BitVec.ofInt 64 65535).toNat = 2 ^ 16 - 1 := by decide
  rw [BitVec.toNat_and, e1, e2, Nat.and_two_pow_sub_one_eq_mod, IntKind.wrap_i64]
  show (((x % 18446744073709551616).toNat % 65536 : Nat) + 9223372036854775808 : Int) % 18446744073709551616 - 9223372036854775808 = _
  omega

/-- What image.Boot answers. -/
def RetBoot (size : Int) (es : List Int) (w : World) (e : Ending) (w' : World) : Prop :=
  Below w.heap.size w w' ∧ ((bootOk size es = true ∧ ∃ g c, e = .returned (.tuple #[.slice (some ⟨g, 0, none⟩) (13 + es.length) c, .int .i64 0]) ∧ w.heap.size ≤ g ∧ w'.ownsRow w.heap.size U32T 1 (.slice (some ⟨g, 0, none⟩) (13 + es.length) c) (13 + es.length) ((bootW size es).map (Value.int .u32))) ∨
    (bootOk size es = false ∧ e = .returned (.tuple #[.slice none 0 0, .int .i64 1])))

theorem made8 : madeCells #[Value.int .u32 0] 8 = (List.replicate 8 (Value.int .u32 0)).toArray := by kernel_rfl

/-- Behind k entries. -/
def BootAt (w : World) (size : Int) (es : List Int) (k g c : Nat) (wr : World) : Prop :=
  Below w.heap.size w wr ∧ w.heap.size ≤ g ∧ wr.ownsRow w.heap.size U32T 1 (.slice (some ⟨g, 0, none⟩) (10 + k) c) (10 + k) ((List.replicate 8 0 ++ encs (headI size ++ jumpsI 10 (es.take k))).map (Value.int .u32)) ∧ (es.take k).all (entB size) = true

set_option maxHeartbeats 4000000 in
set_option maxRecDepth 100000 in
theorem boot_no (w : World) (sp : Option Addr) (n c : Nat) (size : Int) (h : ¬ (256 ≤ size ∧ size ≤ 65536 ∧ n ≤ 16)) :
    Calls Try.prog 39 #[.int .i64 size, .slice sp n c] w (Ret (.tuple #[.slice none 0 0, .int .i64 1]) w) := by
  by_cases h0 : size < 256
  · clear h
    go_enter Try.func39, Try.ntmps39
    go_wp2
    go_ret2
    exact ⟨rfl, rfl⟩
  · by_cases h1 : 65536 < size
    · clear h
      go_enter Try.func39, Try.ntmps39
      go_wp2
      go_ret2
      exact ⟨rfl, rfl⟩
    · have h2 : 16 < n := by omega
      clear h
      go_enter Try.func39, Try.ntmps39
      go_wp2
      go_ret2
      exact ⟨rfl, rfl⟩

theorem boot_start {w w1 w2 : World} {size : Int} {es : List Int} {g2 c2 : Nat} (h1 : 8 + 2 = 10 + 0) (B1 : Below w.heap.size w w1) (R1 : w1.ownsRow w.heap.size U32T 1 (.slice (some ⟨w.heap.size, 0, none⟩) 8 8) 8 ((List.replicate 8 (0 : Int)).map (Value.int .u32)))
    (hown2 : w2.ownsRow w.heap.size U32T 1 (.slice (some ⟨g2, 0, none⟩) (8 + 2) c2) (8 + 2) ((List.replicate 8 (0 : Int)).map (Value.int .u32) ++ (encs (headI size)).map (Value.int .u32)))
    (hgrow : w1.grownBy w2 (Value.ownBlock (.slice (some ⟨w.heap.size, 0, none⟩) 8 8))) : BootAt w size es 0 g2 c2 w2 := by
  refine ⟨B1.grown hgrow B1.size (fun j hj => own_base R1 hj), own_base hown2 rfl, ?_, by simp⟩
  rw [← h1]
  have e : (List.replicate 8 (0 : Int) ++ encs (headI size ++ jumpsI 10 (es.take 0))).map (Value.int .u32) = (List.replicate 8 (0 : Int)).map (Value.int .u32) ++ (encs (headI size)).map (Value.int .u32) := by
    rw [List.map_append, List.take_zero]
    simp [jumpsI]
  rw [e]
  exact hown2

theorem boot_next {w wr w1 w2 : World} {size e0 : Int} {es : List Int} {k g c g2 c2 : Nat} (h : BootAt w size es k g c wr) (hk : k < es.length) (he : es[k] = e0) (hr : entB size e0 = true) (B1 : Below wr.heap.size wr w1)
    (R1 : w1.ownsRow w.heap.size U32T 1 (.slice (some ⟨g, 0, none⟩) (10 + k) c) (10 + k) ((List.replicate 8 0 ++ encs (headI size ++ jumpsI 10 (es.take k))).map (Value.int .u32)))
    (hown2 : w2.ownsRow w.heap.size U32T 1 (.slice (some ⟨g2, 0, none⟩) (10 + k + 1) c2) (10 + k + 1) ((List.replicate 8 0 ++ encs (headI size ++ jumpsI 10 (es.take k))).map (Value.int .u32) ++ (encs [jumpI (10 + (k : Int)) e0]).map (Value.int .u32)))
    (hgrow : w1.grownBy w2 (Value.ownBlock (.slice (some ⟨g, 0, none⟩) (10 + k) c))) : BootAt w size es (k + 1) g2 c2 w2 := by
  obtain ⟨hB, hg, hown, hall⟩ := h
  have B2 := hB.trans (B1.mono hB.size)
  refine ⟨B2.grown hgrow B2.size (fun j hj => own_base R1 hj), own_base hown2 rfl, ?_, ?_⟩
  · have e : (List.replicate 8 0 ++ encs (headI size ++ jumpsI 10 (es.take (k + 1)))).map (Value.int .u32) = (List.replicate 8 0 ++ encs (headI size ++ jumpsI 10 (es.take k))).map (Value.int .u32) ++ (encs [jumpI (10 + (k : Int)) e0]).map (Value.int .u32) := by
      rw [List.take_succ_eq_append_getElem hk, he, jumpsI_append]
      have hl : (es.take k).length = k := by rw [List.length_take]; omega
      rw [hl]
      simp [encs]
    rw [e]
    exact hown2
  · rw [List.take_succ_eq_append_getElem hk, he, List.all_append, hall]
    simp [hr]

theorem boot_end {w wr w1 w2 : World} {size : Int} {es : List Int} {g c g2 c2 : Nat} (h : BootAt w size es es.length g c wr) (B1 : Below wr.heap.size wr w1) (h0 : 256 ≤ size ∧ size ≤ 65536 ∧ es.length ≤ 16)
    (R1 : w1.ownsRow w.heap.size U32T 1 (.slice (some ⟨g, 0, none⟩) (10 + es.length) c) (10 + es.length) ((List.replicate 8 0 ++ encs (headI size ++ jumpsI 10 (es.take es.length))).map (Value.int .u32)))
    (hown2 : w2.ownsRow w.heap.size U32T 1 (.slice (some ⟨g2, 0, none⟩) (10 + es.length + 3) c2) (10 + es.length + 3) ((List.replicate 8 0 ++ encs (headI size ++ jumpsI 10 (es.take es.length))).map (Value.int .u32) ++ (encs tailI).map (Value.int .u32)))
    (hgrow : w1.grownBy w2 (Value.ownBlock (.slice (some ⟨g, 0, none⟩) (10 + es.length) c))) : RetBoot size es w (.returned (.tuple #[.slice (some ⟨g2, 0, none⟩) (10 + es.length + 3) c2, .int .i64 0])) w2 := by
  obtain ⟨hB, hg, hown, hall⟩ := h
  have B2 := hB.trans (B1.mono hB.size)
  have en : 10 + es.length + 3 = 13 + es.length := by omega
  rw [en] at hown2 ⊢
  refine ⟨B2.grown hgrow B2.size (fun j hj => own_base R1 hj), .inl ⟨?_, g2, c2, rfl, own_base hown2 rfl, ?_⟩⟩
  · unfold bootOk
    rw [List.take_length] at hall
    rw [hall, Bool.and_true]
    exact decide_eq_true h0
  · have e : (bootW size es).map (Value.int .u32) = (List.replicate 8 0 ++ encs (headI size ++ jumpsI 10 (es.take es.length))).map (Value.int .u32) ++ (encs tailI).map (Value.int .u32) := by
      rw [List.take_length]
      unfold bootW bootI
      simp [encs]
    rw [e]
    exact hown2

theorem boot_bad {size e0 : Int} {es : List Int} {k : Nat} (hk : k < es.length) (he : es[k] = e0) (hr : entB size e0 = false) : bootOk size es = false := by
  unfold bootOk
  have : es.all (entB size) = false := by
    rw [List.all_eq_false]
    exact ⟨e0, he ▸ List.getElem_mem hk, by rw [hr]; decide⟩
  rw [this, Bool.and_false]

set_option maxHeartbeats 4000000 in
set_option maxRecDepth 100000 in
theorem boot_walk (w : World) (sp : Option Addr) (c : Nat) (es : List Int) (size : Int) (hN : Nums w (.slice sp es.length c) sp c es) (h0 : 256 ≤ size) (h1 : size ≤ 65536) (h2 : es.length ≤ 16) :
    Calls Try.prog 39 #[.int .i64 size, .slice sp es.length c] w (RetBoot size es w) := by
  obtain ⟨i0, hi0, hz0, hz1, hz2⟩ := info_parts info32
  have HN := Lib.hid hN
  have e16 := and16 (4 * size) (by omega) (by omega)
  clear hN
  go_enter Try.func39, Try.ntmps39
  go_wp2_with (first
    | (at_make; refine wpList_make_row _ rfl _ _ 32 rfl 54 i0 (.int .u32 0) Try.underlying32 hi0 hz0 hz1 rfl .i64 .i64 8 rfl rfl (by rw [hz2]; omega) (by omega) ?_; have R0 := Lib.hid (show (w.alloc (.cells (madeCells #[.int .u32 0] 8) U32T)).ownsRow w.heap.size U32T 1 (.slice (some ⟨w.heap.size, 0, none⟩) 8 8) 8 ((List.replicate 8 (0 : Int)).map (Value.int .u32)) from ⟨rfl, .inr ⟨w.heap.size, 8, _, rfl, Nat.le_refl _, Cel.new w U32T _, Nat.le_refl _, by unfold maxLen; omega, by rw [made8]; rfl, by rw [made8]; rfl⟩⟩))
    | (go_at_call 55; refine (words_any _ (w.heap.size + 1) 2 2 (headI size) rfl (Ins.of_cel (Cel.new1 w (.cells (madeCells #[.int .u32 0] 8) U32T) (rowC (headI size)).toArray 24)) (M.good_at (head_good size h0 h1)) (by decide) (by decide)).mono ?_; rintro e w1 ⟨g1, c1, rfl, ho1, hg1, hb1⟩; have hb1' := (((Below.refl _ (w.alloc (.cells (madeCells #[.int .u32 0] 8) U32T))).alloc (Nat.le_refl _) (.cells (rowC (headI size)).toArray 24)).trans (hb1.mono (by simp))); have R1 := Lib.hid (own_fr R0.out (Fr.of_below (S := fun _ => False) hb1') (fun _ _ => id)); have B1 := Lib.hid (((Below.refl _ w).alloc (Nat.le_refl _) (.cells (madeCells #[.int .u32 0] 8) U32T)).trans (hb1'.mono (by simp))); have O1 := Lib.hid ho1; clear ho1 hg1 hb1 hb1')
    | (at_builtin; refine wpList_append_lies _ (by rfl) _ _ _ (by rfl) w.heap.size U32T i0 (.int .u32 0) 1 4 Try.underlying32 hi0 hz0 hz1 hz2 rfl (by omega) _ 8 _ (by rfl) R1.out ⟨g1, 0, none⟩ 2 c1 ((encs (headI size)).map (Value.int .u32)) (by rfl) rfl (O1.out.cells (g := g1) rfl) (by simp [Value.oneCell']) (by omega) (by unfold maxLen; omega) (by omega) B1.out.size w1.heap.size rfl ?_; intro g2 c2 w2 hown2 hgrow hat hlt2; have HP0 := Lib.hid (boot_start (es := es) rfl B1.out R1.out hown2 hgrow); clear hown2 hgrow hat hlt2)
    | fail)
  go_loopw [6, 9, 36] (fun v _ i wr => ∃ k g c : Nat, k ≤ es.length ∧ i = .int .i64 (k : Int) ∧ v = .slice (some ⟨g, 0, none⟩) (10 + k) c ∧ BootAt w size es k g c wr) (fun _ _ i _ => es.length - (intOf i).toNat)
  · exact ⟨0, g2, c2, Nat.zero_le _, rfl, rfl, HP0.out⟩
  obtain ⟨k, g, cc, hk, rfl, rfl, hP⟩ := hrel
  have HP := Lib.hid hP
  clear hP
  by_cases hlt : k < es.length
  · obtain ⟨e0, he0⟩ : ∃ e0, es[k] = e0 := ⟨_, rfl⟩
    obtain ⟨ad, rfl, hce, hbe, hbe'⟩ := (HN.out.below HP.out.1).at_k k hlt e0 he0
    have HE := Lib.hid he0
    clear he0
    by_cases hin : 0 ≤ e0 ∧ e0 < size
    · obtain ⟨hin1, hin2⟩ := hin
      have HR := Lib.hid (show entB size e0 = true from decide_eq_true ⟨hin1, hin2⟩)
      go_wp2_with (first
        | (go_at_call 55; refine (words_any _ _ 1 1 [jumpI (10 + (k : Int)) e0] rfl (Ins.of_cel (Cel.new wr 24 (rowC [jumpI (10 + (k : Int)) e0]).toArray)) (M.good_at (by intro x hx; rw [List.mem_singleton.1 hx]; exact jump_good _ _ (by omega) (by omega) hin1 (by omega))) (by decide) (by decide)).mono ?_; rintro e w3 ⟨g3, c3, rfl, ho3, hg3, hb3⟩; have B3 := Lib.hid (((Below.refl _ wr).alloc (Nat.le_refl _) (.cells (rowC [jumpI (10 + (k : Int)) e0]).toArray 24)).trans (hb3.mono (by simp))); have R3 := Lib.hid (own_fr HP.out.2.2.1 (Fr.of_below (S := fun _ => False) B3.out) (fun _ _ => id)); have O3 := Lib.hid ho3; clear ho3 hg3 hb3)
        | (at_builtin; refine wpList_append_lies _ (by rfl) _ _ _ (by rfl) w.heap.size U32T i0 (.int .u32 0) 1 4 Try.underlying32 hi0 hz0 hz1 hz2 rfl (by omega) _ (10 + k) _ (by rfl) R3.out ⟨g3, 0, none⟩ 1 c3 ((encs [jumpI (10 + (k : Int)) e0]).map (Value.int .u32)) (by rfl) rfl (O3.out.cells (g := g3) rfl) (by simp [Value.oneCell']) (by omega) (by unfold maxLen; omega) (by omega) (Nat.le_trans HP.out.1.size B3.out.size) w3.heap.size rfl ?_; intro g4 c4 w4 hown4 hgrow hat hlt4; have HP4 := Lib.hid (boot_next HP.out hlt HE.out HR.out B3.out R3.out hown4 hgrow); clear hown4 hgrow hat hlt4)
        | fail)
      go_roundw
      case rel => exact ⟨k + 1, g4, c4, by omega, by go_num, rfl, HP4.out⟩
      case measure => simp [intOf]; omega
    · have HB := Lib.hid (boot_bad hlt HE.out (show entB size e0 = false from decide_eq_false hin))
      by_cases hneg : e0 < 0
      · clear hin
        go_wp2
        go_ret2
        exact ⟨HP.out.1, .inr ⟨HB.out, rfl⟩⟩
      · have hge : size ≤ e0 := by omega
        clear hin
        go_wp2
        go_ret2
        exact ⟨HP.out.1, .inr ⟨HB.out, rfl⟩⟩
  · obtain rfl : k = es.length := by omega
    go_wp2_with (first
      | (go_at_call 55; refine (words_any _ _ 3 3 tailI rfl (Ins.of_cel (Cel.new wr 24 (rowC tailI).toArray)) (M.good_at tail_good) (by decide) (by decide)).mono ?_; rintro e w3 ⟨g3, c3, rfl, ho3, hg3, hb3⟩; have B3 := Lib.hid (((Below.refl _ wr).alloc (Nat.le_refl _) (.cells (rowC tailI).toArray 24)).trans (hb3.mono (by simp))); have R3 := Lib.hid (own_fr HP.out.2.2.1 (Fr.of_below (S := fun _ => False) B3.out) (fun _ _ => id)); have O3 := Lib.hid ho3; clear ho3 hg3 hb3)
      | (at_builtin; refine wpList_append_lies _ (by rfl) _ _ _ (by rfl) w.heap.size U32T i0 (.int .u32 0) 1 4 Try.underlying32 hi0 hz0 hz1 hz2 rfl (by omega) _ (10 + es.length) _ (by rfl) R3.out ⟨g3, 0, none⟩ 3 c3 ((encs tailI).map (Value.int .u32)) (by rfl) rfl (O3.out.cells (g := g3) rfl) (by simp [Value.oneCell']) (by omega) (by unfold maxLen; omega) (by omega) (Nat.le_trans HP.out.1.size B3.out.size) w3.heap.size rfl ?_; intro g4 c4 w4 hown4 hgrow hat hlt4; have HP4 := Lib.hid (boot_end HP.out B3.out ⟨h0, h1, h2⟩ R3.out hown4 hgrow); clear hown4 hgrow hat hlt4)
      | fail)
    go_ret2
    exact HP4.out

theorem boot_any (w : World) (sp : Option Addr) (c : Nat) (es : List Int) (v : Value) (size : Int) (hN : Nums w v sp c es) : Calls Try.prog 39 #[.int .i64 size, v] w (RetBoot size es w) := by
  obtain rfl := hN.v
  by_cases h : 256 ≤ size ∧ size ≤ 65536 ∧ es.length ≤ 16
  · exact boot_walk w sp c es size hN h.1 h.2.1 h.2.2
  · refine (boot_no w sp es.length c size h).mono ?_
    rintro e w' ⟨rfl, rfl⟩
    refine ⟨Below.refl _ _, .inr ⟨?_, rfl⟩⟩
    unfold bootOk
    rw [decide_eq_false h, Bool.false_and]

end Go.Proofs.Ytmlmjkojhfjjlaa
