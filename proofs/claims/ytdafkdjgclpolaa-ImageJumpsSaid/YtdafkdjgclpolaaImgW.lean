/- Numbers that are copied; the sample of law 25; Words, Same; how numbers open. -/
import Derived.Test.YtdafkdjgclpolaaImg
import Derived.Test.YtdafkdjgclpolaaOpen
namespace Go.Proofs.Ytdafkdjgclpolaa
set_option linter.unusedVariables false
set_option linter.unusedSimpArgs false
open Go.RowKit

abbrev I64T : TypeId := 3
theorem info64 : (Try.prog.info? 3).map (fun i => (i.zero, i.size, i.bytes)) = some (some (.int .i64 0), 1, 8) := by kernel_rfl

set_option maxRecDepth 100000 in
/-- 'append([]int{}, numbers...)'. -/
theorem run_copy_nums (w : World) (ty : TypeId) (g n c : Nat) (sp : Option Addr) (ws : List Int) (hn : n = ws.length) (hg : Cel w g I64T #[]) (h : Nums w (.slice sp n c) sp c ws) (hl : ws.length ≤ 1000000) :
    ∃ v' w', (Builtin.append_ #[22, 22] ty #[.slice (some ⟨g, 0, none⟩) 0 0, .slice sp n c]).run Try.prog w = .ok v' w' ∧ w'.ownsRow g I64T 1 v' ws.length (ws.map (Value.int .i64)) ∧ Below g w w' := by
  subst hn
  obtain ⟨i0, hi, hz0, hz1, hz2⟩ := info_parts info64
  have hown : w.ownsRow g I64T 1 (.slice (some ⟨g, 0, none⟩) 0 0) 0 [] := ⟨by simp, .inr ⟨g, 0, #[], rfl, Nat.le_refl _, hg, by simp⟩⟩
  rcases sp with _ | ad
  · have h0 : ws.length = 0 := by
      rcases Nat.eq_zero_or_pos ws.length with e | e
      · exact e
      · obtain ⟨ad, e, _⟩ := h.at_ e
        cases e
    have hnil : ws = [] := List.eq_nil_of_length_eq_zero h0
    subst hnil
    refine ⟨.slice (some ⟨g, 0, none⟩) 0 0, w, ?_, hown, Below.refl _ _⟩
    exact run_append_nothing w _ ty _ i0 Try.underlying22 hi g c
  · have hcells : ∀ j u, (ws.map (Value.int .i64))[j]? = some u → w.cell? (ad.add j) = some u := by
      intro j u hj
      obtain ⟨ad', e, hc⟩ := h.at_ (by have := (List.getElem?_eq_some_iff.1 hj).1; simp at this; omega)
      injection e with e
      subst e
      exact hc j u hj
    obtain ⟨v', w', hrun, h2, h3, _, h5⟩ := run_append_own_at (P := Try.prog) w g 22 ty I64T i0 (.int .i64 0) 1 8 Try.underlying22 hi hz0 hz1 hz2 rfl (by omega) _ 0 [] hown ad ws.length c (ws.map (Value.int .i64)) (by simp) hcells
      (by intro u hu; obtain ⟨x, _, rfl⟩ := List.mem_map.1 hu; rfl) (by unfold maxLen; omega) (by omega) (by have := hg.lt; omega)
    refine ⟨v', w', hrun, by simpa using h2, (Below.refl g w).grown h3 (by have := hg.lt; omega) (fun k hk => ?_)⟩
    simp [Value.ownBlock] at hk
    omega


theorem wpList_copy_nums {ops : Array Oper} {rest : List Oper} {o : Oper} {a : Act} {w : World} {Q : Exit → Act → World → Prop} (hgd : o.guard = none) (s x : Operand)
    (ho : o.op = .call { callee := .builtin .append, args := #[s, x], argTypes := #[22, 22] }) (g n c : Nat) (sp : Option Addr) (ws : List Int)
    (hs : a.eval s = .slice (some ⟨g, 0, none⟩) 0 0) (hx : a.eval x = .slice sp n c) (hn : n = ws.length) (hg : Cel w g I64T #[]) (hr : Nums w (.slice sp n c) sp c ws) (hl : ws.length ≤ 1000000)
    (h : ∀ v' w', w'.ownsRow g I64T 1 v' ws.length (ws.map (Value.int .i64)) → Below g w w' → wpList Try.prog ops Q rest (a.put o.dst v') w') : wpList Try.prog ops Q (o :: rest) a w :=
  wpList_plain hgd fun _ hK => by
    obtain ⟨v', w', hrun, h2, h3⟩ := run_copy_nums w o.type g n c sp ws hn hg hr hl
    unfold Oper.wp execOp
    simp only [ho, resolve, invoke, builtin, Sem.run_bind, Sem.run_pure, Result.andThen_ok, List.map_toArray, List.map_cons, List.map_nil, hs, hx, hrun]
    exact hK _ _ (h v' w' h2 h3)

theorem step_copy_nums {ops : Array Oper} {o : Oper} {a : Act} {w : World} {K : Act → World → Prop} {Q : Exit → Act → World → Prop} {X : Prop} (hgd : o.guard = none) (s x : Operand)
    (ho : o.op = .call { callee := .builtin .append, args := #[s, x], argTypes := #[22, 22] }) (g n c : Nat) (sp : Option Addr) (ws : List Int)
    (hs : a.eval s = .slice (some ⟨g, 0, none⟩) 0 0) (hx : a.eval x = .slice sp n c) (hn : n = ws.length) (hg : Cel w g I64T #[]) (hr : Nums w (.slice sp n c) sp c ws) (hl : ws.length ≤ 1000000)
    (h : ∀ v' w', w'.ownsRow g I64T 1 v' ws.length (ws.map (Value.int .i64)) → Below g w w' → K (a.put o.dst v') w') : if Region.wanted o (yielded ops a.tmps) = true then Oper.wp Try.prog o a w K Q else X := by
  have hw : Region.wanted o (yielded ops a.tmps) = true := by simp [Region.wanted, hgd]
  rw [if_pos hw]
  obtain ⟨v', w', hrun, h2, h3⟩ := run_copy_nums w o.type g n c sp ws hn hg hr hl
  unfold Oper.wp execOp
  simp only [ho, resolve, invoke, builtin, Sem.run_bind, Sem.run_pure, Result.andThen_ok, List.map_toArray, List.map_cons, List.map_nil, hs, hx, hrun]
  exact h v' w' h2 h3


/-- Numbers that a row owns. -/
theorem nums_own {w : World} {base : Nat} {v : Value} {es : List Int} (h : w.ownsRow base I64T 1 v es.length (es.map (Value.int .i64))) (hb : ∀ e ∈ es, -9223372036854775808 ≤ e ∧ e < 9223372036854775808) : ∃ sp c, Nums w v sp c es := by
  rcases h.2 with ⟨rfl, hn⟩ | ⟨g, cap, cur, rfl, hbb, hgg, rest⟩
  · exact ⟨none, 0, by rw [hn], fun h => by omega, hb⟩
  · exact ⟨some ⟨g, 0, none⟩, cap, rfl, fun _ => ⟨_, rfl, h.cells (g := g) rfl⟩, hb⟩

/-- Words that a row owns, read at one place. -/
theorem own_at {w : World} {base n c g : Nat} {ws : List Int} (h : w.ownsRow base U32T 1 (.slice (some ⟨g, 0, none⟩) n c) n (ws.map (Value.int .u32))) (k : Nat) (x : Int) (hx : ws[k]? = some x) : w.cell? ⟨g, k, none⟩ = some (.int .u32 x) := by
  have := h.cells (g := g) rfl k (.int .u32 x) (by rw [List.getElem?_map, hx]; rfl)
  have hplain : (⟨g, 0, none⟩ : Addr).add k = ⟨g, k, none⟩ := by unfold Addr.add; split <;> simp_all
  rwa [hplain] at this

/-- Where the first module is placed. -/
def firstW (m : Int) : Int := if m < 0 ∨ 16 < m then 0 else 13 + m
set_option maxHeartbeats 1000000 in
set_option maxRecDepth 100000 in
theorem first_any (w : World) (m : Int) : Calls Try.prog 12 #[.int .i64 m] w (Ret (.int .i64 (firstW m)) w) := by
  have e : firstW m = if m < 0 ∨ 16 < m then 0 else 13 + m := rfl
  have E := Lib.hid e
  clear e
  by_cases h0 : m < 0
  · go_enter Try.func12, Try.ntmps12
    go_wp2
    go_ret
    exact ⟨ret_i (by rw [E.out, if_pos (.inl h0)]), rfl⟩
  · by_cases h1 : 16 < m
    · go_enter Try.func12, Try.ntmps12
      go_wp2
      go_ret
      exact ⟨ret_i (by rw [E.out, if_pos (.inr h1)]), rfl⟩
    · go_enter Try.func12, Try.ntmps12
      go_wp2
      go_ret
      exact ⟨ret_i (by rw [E.out, if_neg (by omega)]), rfl⟩

theorem boot100 : bootOk 256 [100] = true := by decide
theorem boot100_7 : (bootW 256 [100])[7]? = some 0 := by decide
theorem boot100_8 : (bootW 256 [100])[8]? = some 1845493760 := by decide

set_option maxHeartbeats 4000000 in
set_option maxRecDepth 100000 in
theorem wakesI_any (w : World) : Calls Try.prog 7 #[] w (RetB (.bool true) w) := by
  have N0 := Lib.hid (show Nums (w.alloc (.cells #[.int .i64 100] I64T)) (.slice (some ⟨w.heap.size, 0, none⟩) 1 1) (some ⟨w.heap.size, 0, none⟩) 1 [100] from
    ⟨rfl, fun _ => ⟨_, rfl, fun j u hj => by
      have hplain : (⟨w.heap.size, 0, none⟩ : Addr).add j = ⟨w.heap.size, j, none⟩ := by unfold Addr.add; split <;> simp_all
      rw [hplain, (Cel.new w I64T #[.int .i64 100]).cell]
      simpa using hj⟩, by simp⟩)
  go_enter Try.func7, Try.ntmps7
  go_wp2_with (first
    | (go_at_call 8; refine (boot_any _ _ _ [100] _ 256 N0.out).mono ?_; rintro e w1 ⟨hB, hr⟩; obtain ⟨g, c, rfl, hg, ho⟩ : ∃ g c, e = .returned (.tuple #[.slice (some ⟨g, 0, none⟩) 14 c, .int .i64 0]) ∧ w.heap.size ≤ g ∧ w1.ownsRow (w.alloc (.cells #[.int .i64 100] I64T)).heap.size U32T 1 (.slice (some ⟨g, 0, none⟩) 14 c) 14 ((bootW 256 [100]).map (Value.int .u32)) := (by rcases hr with ⟨_, g, c, h1, h2, h3⟩ | ⟨h1, _⟩; exact ⟨g, c, h1, Nat.le_trans (by simp) h2, h3⟩; exact absurd h1 (by decide)); have x7 := own_at ho 7 _ boot100_7; have x8 := own_at ho 8 _ boot100_8; have HB := Lib.hid (((Below.refl _ w).alloc (Nat.le_refl _) (.cells #[.int .i64 100] I64T)).trans (hB.mono (by simp))); clear hB hr hg ho)
    | (go_at_call 12; refine (first_any _ _).mono ?_; rintro e w' ⟨rfl, rfl⟩)
    | fail)
  go_ret
  exact ⟨ret_b (by first | rfl | simp), HB.out⟩

end Go.Proofs.Ytdafkdjgclpolaa
