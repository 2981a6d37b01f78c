/- The halting program's words. -/
import Derived.Test.YtmlmjkojhfjjlaaRefF
import Derived.Test.YtmlmjkojhfjjlaaNew
import Derived.LoopTactic
namespace Go.Proofs.Ytmlmjkojhfjjlaa
set_option linter.unusedVariables false
set_option linter.unusedSimpArgs false
open Go.RowKit

/-- The words of Halt. -/
def haltW (b : Int) : List Int := [M.enc 1 true false 1 0 0 0 65535, M.enc 1 false false 1 1 0 8 65472, M.enc 1 false false 0 0 0 0 b, M.enc 2 true false 0 1 0 0 8, M.enc 2 true false 0 1 0 0 0]

theorem own_base {w : World} {base size n : Nat} {e : TypeId} {v : Value} {xs : List Value} (h : w.ownsRow base e size v n xs) {k : Nat} (hk : v.ownBlock = some k) : base ≤ k := by
  rcases h.2 with ⟨rfl, _⟩ | ⟨g, cap, cur, rfl, hb, hgg, rest⟩
  · simp [Value.ownBlock] at hk
  · simp [Value.ownBlock] at hk
    omega

/-- The instructions of Halt, as they lie. -/
def haltC (b : Int) : Array Value := #[.int .i64 1, .bool true, .bool false, .int .i64 1, .int .i64 0, .int .i64 0, .int .i64 0, .int .i64 65535, .int .i64 1, .bool false, .bool false, .int .i64 1, .int .i64 1, .int .i64 0, .int .i64 8, .int .i64 65472, .int .i64 1, .bool false, .bool false, .int .i64 0, .int .i64 0, .int .i64 0, .int .i64 0, .int .i64 b, .int .i64 2, .bool true, .bool false, .int .i64 0, .int .i64 1, .int .i64 0, .int .i64 0, .int .i64 8, .int .i64 2, .bool true, .bool false, .int .i64 0, .int .i64 1, .int .i64 0, .int .i64 0, .int .i64 0]

/-- Behind k rounds. -/
def HaltAt (w : World) (b : Int) (k : Nat) (v : Value) (wr : World) : Prop :=
  wr.ownsRow w.heap.size U32T 1 v k (((haltW b).take k).map (Value.int .u32)) ∧ Cel wr w.heap.size 24 (haltC b) ∧ Fr (fun k => w.heap.size ≤ k) w wr

theorem halt_next {w wr w1 w2 : World} {b : Int} {k : Nat} {v v2 : Value} {W : Int} {o : Obj} (h : HaltAt w b k v wr) (hb1 : Below wr.heap.size wr w1) (hg : (w1.alloc o).grownBy w2 v.ownBlock)
    (hown2 : w2.ownsRow w.heap.size U32T 1 v2 (k + 1) (((haltW b).take k).map (Value.int .u32) ++ [.int .u32 W])) (hW : ((haltW b).take k).map (Value.int .u32) ++ [.int .u32 W] = ((haltW b).take (k + 1)).map (Value.int .u32)) : HaltAt w b (k + 1) v2 w2 := by
  obtain ⟨hown, hC, hF⟩ := h
  have hF1 : Fr (fun _ => False) wr (w1.alloc o) := (Fr.of_below hb1).alloc o
  refine ⟨hW ▸ hown2, grown_cel hg (hF1.cel hC id) (own_cel_ne hown hC (by decide)), (hF.trans (hF1.mono (fun _ h => h.elim))).trans ((fr_grown hg).mono (fun k hk => own_base hown hk))⟩

set_option maxHeartbeats 8000000 in
set_option maxRecDepth 100000 in
theorem halt_any (b : Int) (w : World) (h0 : 0 ≤ b) (h1 : b < 65536) :
    Calls Try.prog 40 #[.int .i64 b] w (fun e w' => ∃ v, e = .returned v ∧ w'.ownsRow w.heap.size U32T 1 v 5 ((haltW b).map (Value.int .u32)) ∧ Below w.heap.size w w') := by
  obtain ⟨i0, hi, hz0, hz1, hz2⟩ := info_parts info32
  go_enter Try.func40, Try.ntmps40
  go_wp2
  go_loopw [4, 5] (fun v i wr => ∃ k : Nat, k ≤ 5 ∧ i = .int .i64 (k : Int) ∧ HaltAt w b k v wr) (fun _ i _ => 5 - (intOf i).toNat)
  · exact ⟨0, by decide, rfl, ⟨rfl, .inl ⟨rfl, rfl⟩⟩, Cel.new _ _ _, (Fr.refl _ _).alloc _⟩
  obtain ⟨k, hk, rfl, hH⟩ := hrel
  have hC := hH.2.1
  have c := hC.cell
  unfold haltC at c
  have f := hC.frozen
  have hlt := hC.lt
  have HH := Lib.hid hH
  clear hH hC
  obtain rfl | rfl | rfl | rfl | rfl | rfl : k = 0 ∨ k = 1 ∨ k = 2 ∨ k = 3 ∨ k = 4 ∨ k = 5 := by omega
  · go_wp2_with (first
      | (go_at_call 35; refine (renc1 true false 1 0 0 65535 _ (by unfold M.Good; simp <;> omega)).mono ?_; rintro e w1 ⟨rfl, hb1⟩; have hown1 := own_fr HH.out.1 (Fr.of_below (S := fun _ => False) hb1) (fun _ _ => id); have hs1 := hb1.size)
      | (at_builtin; refine wpList_append_lies _ (by rfl) _ _ _ (by rfl) w.heap.size U32T i0 (.int .u32 0) 1 4 Try.underlying32 hi hz0 hz1 hz2 rfl (by omega) _ 0 _ (by rfl) (hown1.alloc _) ⟨w1.heap.size, 0, none⟩ 1 1 [.int .u32 (M.enc 1 true false 1 0 0 0 65535)] (by rfl) rfl (World.news_of_block (heap_alloc_new w1 _)) (by simp [Value.oneCell']) (by omega) (by unfold maxLen; omega) (by omega) (by simp; omega) (w1.heap.size + 1) (by simp) ?_; intro b2 cp w2 hown2 hgrow hat hlt2))
    have hnx := halt_next HH.out hb1 hgrow hown2 rfl
    go_roundw
    case rel => exact ⟨1, by decide, by go_num, hnx⟩
    case measure => simp [intOf]
  · go_wp2_with (first
      | (go_at_call 35; refine (renc1 false false 1 1 8 65472 _ (by unfold M.Good; simp <;> omega)).mono ?_; rintro e w1 ⟨rfl, hb1⟩; have hown1 := own_fr HH.out.1 (Fr.of_below (S := fun _ => False) hb1) (fun _ _ => id); have hs1 := hb1.size)
      | (at_builtin; refine wpList_append_lies _ (by rfl) _ _ _ (by rfl) w.heap.size U32T i0 (.int .u32 0) 1 4 Try.underlying32 hi hz0 hz1 hz2 rfl (by omega) _ 1 _ (by rfl) (hown1.alloc _) ⟨w1.heap.size, 0, none⟩ 1 1 [.int .u32 (M.enc 1 false false 1 1 0 8 65472)] (by rfl) rfl (World.news_of_block (heap_alloc_new w1 _)) (by simp [Value.oneCell']) (by omega) (by unfold maxLen; omega) (by omega) (by simp; omega) (w1.heap.size + 1) (by simp) ?_; intro b2 cp w2 hown2 hgrow hat hlt2))
    have hnx := halt_next HH.out hb1 hgrow hown2 rfl
    go_roundw
    case rel => exact ⟨2, by decide, by go_num, hnx⟩
    case measure => simp [intOf]
  · go_wp2_with (first
      | (go_at_call 35; refine (renc1 false false 0 0 0 b _ (by unfold M.Good; simp <;> omega)).mono ?_; rintro e w1 ⟨rfl, hb1⟩; have hown1 := own_fr HH.out.1 (Fr.of_below (S := fun _ => False) hb1) (fun _ _ => id); have hs1 := hb1.size)
      | (at_builtin; refine wpList_append_lies _ (by rfl) _ _ _ (by rfl) w.heap.size U32T i0 (.int .u32 0) 1 4 Try.underlying32 hi hz0 hz1 hz2 rfl (by omega) _ 2 _ (by rfl) (hown1.alloc _) ⟨w1.heap.size, 0, none⟩ 1 1 [.int .u32 (M.enc 1 false false 0 0 0 0 b)] (by rfl) rfl (World.news_of_block (heap_alloc_new w1 _)) (by simp [Value.oneCell']) (by omega) (by unfold maxLen; omega) (by omega) (by simp; omega) (w1.heap.size + 1) (by simp) ?_; intro b2 cp w2 hown2 hgrow hat hlt2))
    have hnx := halt_next HH.out hb1 hgrow hown2 rfl
    go_roundw
    case rel => exact ⟨3, by decide, by go_num, hnx⟩
    case measure => simp [intOf]
  · go_wp2_with (first
      | (go_at_call 35; refine (renc2 true false 0 1 8 _ (by unfold M.Good; simp <;> omega)).mono ?_; rintro e w1 ⟨rfl, hb1⟩; have hown1 := own_fr HH.out.1 (Fr.of_below (S := fun _ => False) hb1) (fun _ _ => id); have hs1 := hb1.size)
      | (at_builtin; refine wpList_append_lies _ (by rfl) _ _ _ (by rfl) w.heap.size U32T i0 (.int .u32 0) 1 4 Try.underlying32 hi hz0 hz1 hz2 rfl (by omega) _ 3 _ (by rfl) (hown1.alloc _) ⟨w1.heap.size, 0, none⟩ 1 1 [.int .u32 (M.enc 2 true false 0 1 0 0 8)] (by rfl) rfl (World.news_of_block (heap_alloc_new w1 _)) (by simp [Value.oneCell']) (by omega) (by unfold maxLen; omega) (by omega) (by simp; omega) (w1.heap.size + 1) (by simp) ?_; intro b2 cp w2 hown2 hgrow hat hlt2))
    have hnx := halt_next HH.out hb1 hgrow hown2 rfl
    go_roundw
    case rel => exact ⟨4, by decide, by go_num, hnx⟩
    case measure => simp [intOf]
  · go_wp2_with (first
      | (go_at_call 35; refine (renc2 true false 0 1 0 _ (by unfold M.Good; simp <;> omega)).mono ?_; rintro e w1 ⟨rfl, hb1⟩; have hown1 := own_fr HH.out.1 (Fr.of_below (S := fun _ => False) hb1) (fun _ _ => id); have hs1 := hb1.size)
      | (at_builtin; refine wpList_append_lies _ (by rfl) _ _ _ (by rfl) w.heap.size U32T i0 (.int .u32 0) 1 4 Try.underlying32 hi hz0 hz1 hz2 rfl (by omega) _ 4 _ (by rfl) (hown1.alloc _) ⟨w1.heap.size, 0, none⟩ 1 1 [.int .u32 (M.enc 2 true false 0 1 0 0 0)] (by rfl) rfl (World.news_of_block (heap_alloc_new w1 _)) (by simp [Value.oneCell']) (by omega) (by unfold maxLen; omega) (by omega) (by simp; omega) (w1.heap.size + 1) (by simp) ?_; intro b2 cp w2 hown2 hgrow hat hlt2))
    have hnx := halt_next HH.out hb1 hgrow hown2 rfl
    go_roundw
    case rel => exact ⟨5, by decide, by go_num, hnx⟩
    case measure => simp [intOf]
  · go_wp2
    go_ret
    exact ⟨u4, rfl, HH.out.1, HH.out.2.2.below (Nat.le_refl _) (fun _ h => h)⟩

end Go.Proofs.Ytmlmjkojhfjjlaa
