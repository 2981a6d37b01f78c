/- The contract of the document's Decode. Printed by gen_rdec.py. -/
import Derived.Test.YtmlmjkojhfjjlaaRefD
import Derived.Test.YtmlmjkojhfjjlaaDec
namespace Go.Proofs.Ytmlmjkojhfjjlaa
set_option linter.unusedVariables false
set_option linter.unusedSimpArgs false
open Go.RowKit

abbrev PartIs (W lo n v : Int) : Prop := ∀ w0 : World, Calls Try.prog 82 #[.int .u32 W, .int .i64 lo, .int .i64 n] w0 (RetD (.int .i64 v) w0)
abbrev GetIs (W lo n v : Int) : Prop := ∀ w0 : World, Calls Try.prog 69 #[.int .u32 W, .int .i64 lo, .int .i64 n] w0 (RetD (.int .u32 v) w0)
abbrev ExtIs (x n v : Int) : Prop := ∀ w0 : World, Calls Try.prog 83 #[.int .u32 x, .int .i64 n] w0 (Ret (.int .i64 v) w0)
abbrev EncIs (x : Value) (X E : Int) : Prop := ∀ w0 : World, Calls Try.prog 35 #[x] w0 (RetB (.tuple #[.int .u32 X, .int .i64 E]) w0)

set_option maxHeartbeats 1000000 in
set_option maxRecDepth 100000 in
theorem rdec0_ok (W X a b c op im g : Int) (u v : Bool) (w : World) (P30 : PartIs W 30 2 0) (P29 : PartIs W 29 1 (if u = true then 1 else 0)) (P28 : PartIs W 28 1 (if v = true then 1 else 0)) (P24 : PartIs W 24 4 a) (Q20 : PartIs W 20 4 b) (Q16 : PartIs W 16 4 op) (Q0 : PartIs W 0 4 c) (HE : EncIs (iv 0 u v a b c op 0) W 0) :
    Calls Try.prog 61 #[.int .u32 W] w (RetB (.tuple #[iv 0 u v a b c op 0, .int .i64 0]) w) := by
  have HE := Lib.hid HE
  have P30 := Lib.hid P30
  have P29 := Lib.hid P29
  have P28 := Lib.hid P28
  have P24 := Lib.hid P24
  have Q20 := Lib.hid Q20
  have Q16 := Lib.hid Q16
  have Q0 := Lib.hid Q0
  cases u <;> cases v
  all_goals
    go_enter Try.func61, Try.ntmps61
    go_wp2_with (first
      | (go_at_call 82; (first | (with_reducible refine (P30.out _).mono ?_) | (with_reducible refine (P29.out _).mono ?_) | (with_reducible refine (P28.out _).mono ?_) | (with_reducible refine (P24.out _).mono ?_) | (with_reducible refine (Q20.out _).mono ?_) | (with_reducible refine (Q16.out _).mono ?_) | (with_reducible refine (Q0.out _).mono ?_)); rintro e w' ⟨rfl, n, rfl⟩)
      | (go_at_call 35; refine calls_with (fun x => Cel x w.heap.size 24 #[.int .i64 0, .bool false, .bool false, .int .i64 0, .int .i64 0, .int .i64 0, .int .i64 0, .int .i64 0]) (by repeat (first | (with_reducible exact Cel.new _ _ _) | (with_reducible apply Cel.drewN) | (with_reducible apply Cel.drew) | (with_reducible apply Cel.alloc) | (with_reducible refine Cel.far ?_ (by simp) _))) (fun hB => ?_); refine (HE.out _).mono ?_; rintro e w1 ⟨rfl, hb1⟩; obtain ⟨hc1, hf1⟩ := bcell hb1)
      | fail)
    clear hc1 hf1
    refine bodyPost_ret (v := .tuple #[iv 0 _ _ a b c op 0, .int .i64 0]) (res_cell_tmp rfl rfl (((((((((hB.below hb1 hB.lt).set 0 _).set 1 _).set 2 _).set 3 _).set 4 _).set 5 _).set 6 _).set 7 _) Try.underlying24 rfl (by kernel_rfl) (by simp)) rfl ⟨rfl, ?_⟩
    repeat (first | (with_reducible exact Below.refl _ _) | (with_reducible apply below_drewN) | (with_reducible refine Below.setCell ?_ (by simp <;> omega) _) | (with_reducible refine Below.alloc ?_ (by simp <;> omega) _) | (with_reducible refine Below.trans ?_ (hb1.mono (by simp <;> omega))))

set_option maxHeartbeats 1000000 in
set_option maxRecDepth 100000 in
theorem rdec0_no (W X a b c op im g : Int) (u v : Bool) (w : World) (P30 : PartIs W 30 2 0) (P29 : PartIs W 29 1 (if u = true then 1 else 0)) (P28 : PartIs W 28 1 (if v = true then 1 else 0)) (P24 : PartIs W 24 4 a) (Q20 : PartIs W 20 4 b) (Q16 : PartIs W 16 4 op) (Q0 : PartIs W 0 4 c) (HE : EncIs (iv 0 u v a b c op 0) 0 20) :
    Calls Try.prog 61 #[.int .u32 W] w (RetB (.tuple #[iv 0 false false 0 0 0 0 0, .int .i64 20]) w) := by
  have HE := Lib.hid HE
  have P30 := Lib.hid P30
  have P29 := Lib.hid P29
  have P28 := Lib.hid P28
  have P24 := Lib.hid P24
  have Q20 := Lib.hid Q20
  have Q16 := Lib.hid Q16
  have Q0 := Lib.hid Q0
  cases u <;> cases v
  all_goals
    go_enter Try.func61, Try.ntmps61
    go_wp2_with (first
      | (go_at_call 82; (first | (with_reducible refine (P30.out _).mono ?_) | (with_reducible refine (P29.out _).mono ?_) | (with_reducible refine (P28.out _).mono ?_) | (with_reducible refine (P24.out _).mono ?_) | (with_reducible refine (Q20.out _).mono ?_) | (with_reducible refine (Q16.out _).mono ?_) | (with_reducible refine (Q0.out _).mono ?_)); rintro e w' ⟨rfl, n, rfl⟩)
      | (go_at_call 35; refine calls_with (fun x => Cel x w.heap.size 24 #[.int .i64 0, .bool false, .bool false, .int .i64 0, .int .i64 0, .int .i64 0, .int .i64 0, .int .i64 0]) (by repeat (first | (with_reducible exact Cel.new _ _ _) | (with_reducible apply Cel.drewN) | (with_reducible apply Cel.drew) | (with_reducible apply Cel.alloc) | (with_reducible refine Cel.far ?_ (by simp) _))) (fun hB => ?_); refine (HE.out _).mono ?_; rintro e w1 ⟨rfl, hb1⟩; obtain ⟨hc1, hf1⟩ := bcell hb1)
      | fail)
    clear hc1 hf1
    refine bodyPost_ret (v := .tuple #[iv 0 false false 0 0 0 0 0, .int .i64 20]) (res_cell_tmp rfl rfl (((((((((hB.below hb1 hB.lt).set 0 _).set 1 _).set 2 _).set 3 _).set 4 _).set 5 _).set 6 _).set 7 _) Try.underlying24 rfl (by kernel_rfl) (by simp)) rfl ⟨rfl, ?_⟩
    repeat (first | (with_reducible exact Below.refl _ _) | (with_reducible apply below_drewN) | (with_reducible refine Below.setCell ?_ (by simp <;> omega) _) | (with_reducible refine Below.alloc ?_ (by simp <;> omega) _) | (with_reducible refine Below.trans ?_ (hb1.mono (by simp <;> omega))))

set_option maxHeartbeats 1000000 in
set_option maxRecDepth 100000 in
theorem rdec0_ne (W X a b c op im g : Int) (u v : Bool) (w : World) (P30 : PartIs W 30 2 0) (P29 : PartIs W 29 1 (if u = true then 1 else 0)) (P28 : PartIs W 28 1 (if v = true then 1 else 0)) (P24 : PartIs W 24 4 a) (Q20 : PartIs W 20 4 b) (Q16 : PartIs W 16 4 op) (Q0 : PartIs W 0 4 c) (HE : EncIs (iv 0 u v a b c op 0) X 0) (hne : (X != W) = true) :
    Calls Try.prog 61 #[.int .u32 W] w (RetB (.tuple #[iv 0 false false 0 0 0 0 0, .int .i64 20]) w) := by
  have HE := Lib.hid HE
  have P30 := Lib.hid P30
  have P29 := Lib.hid P29
  have P28 := Lib.hid P28
  have P24 := Lib.hid P24
  have Q20 := Lib.hid Q20
  have Q16 := Lib.hid Q16
  have Q0 := Lib.hid Q0
  cases u <;> cases v
  all_goals
    go_enter Try.func61, Try.ntmps61
    go_wp2_with (first
      | (go_at_call 82; (first | (with_reducible refine (P30.out _).mono ?_) | (with_reducible refine (P29.out _).mono ?_) | (with_reducible refine (P28.out _).mono ?_) | (with_reducible refine (P24.out _).mono ?_) | (with_reducible refine (Q20.out _).mono ?_) | (with_reducible refine (Q16.out _).mono ?_) | (with_reducible refine (Q0.out _).mono ?_)); rintro e w' ⟨rfl, n, rfl⟩)
      | (go_at_call 35; refine calls_with (fun x => Cel x w.heap.size 24 #[.int .i64 0, .bool false, .bool false, .int .i64 0, .int .i64 0, .int .i64 0, .int .i64 0, .int .i64 0]) (by repeat (first | (with_reducible exact Cel.new _ _ _) | (with_reducible apply Cel.drewN) | (with_reducible apply Cel.drew) | (with_reducible apply Cel.alloc) | (with_reducible refine Cel.far ?_ (by simp) _))) (fun hB => ?_); refine (HE.out _).mono ?_; rintro e w1 ⟨rfl, hb1⟩; obtain ⟨hc1, hf1⟩ := bcell hb1)
      | fail)
    clear hc1 hf1
    refine bodyPost_ret (v := .tuple #[iv 0 false false 0 0 0 0 0, .int .i64 20]) (res_cell_tmp rfl rfl (((((((((hB.below hb1 hB.lt).set 0 _).set 1 _).set 2 _).set 3 _).set 4 _).set 5 _).set 6 _).set 7 _) Try.underlying24 rfl (by kernel_rfl) (by simp)) rfl ⟨rfl, ?_⟩
    repeat (first | (with_reducible exact Below.refl _ _) | (with_reducible apply below_drewN) | (with_reducible refine Below.setCell ?_ (by simp <;> omega) _) | (with_reducible refine Below.alloc ?_ (by simp <;> omega) _) | (with_reducible refine Below.trans ?_ (hb1.mono (by simp <;> omega))))

set_option maxHeartbeats 1000000 in
set_option maxRecDepth 100000 in
theorem rdec1_ok (W X a b c op im g : Int) (u v : Bool) (w : World) (P30 : PartIs W 30 2 1) (P29 : PartIs W 29 1 (if u = true then 1 else 0)) (P28 : PartIs W 28 1 (if v = true then 1 else 0)) (P24 : PartIs W 24 4 a) (Q20 : PartIs W 20 4 b) (Q16 : PartIs W 16 4 op) (Q0 : PartIs W 0 16 im) (HE : EncIs (iv 1 u v a b 0 op im) W 0) :
    Calls Try.prog 61 #[.int .u32 W] w (RetB (.tuple #[iv 1 u v a b 0 op im, .int .i64 0]) w) := by
  have HE := Lib.hid HE
  have P30 := Lib.hid P30
  have P29 := Lib.hid P29
  have P28 := Lib.hid P28
  have P24 := Lib.hid P24
  have Q20 := Lib.hid Q20
  have Q16 := Lib.hid Q16
  have Q0 := Lib.hid Q0
  cases u <;> cases v
  all_goals
    go_enter Try.func61, Try.ntmps61
    go_wp2_with (first
      | (go_at_call 82; (first | (with_reducible refine (P30.out _).mono ?_) | (with_reducible refine (P29.out _).mono ?_) | (with_reducible refine (P28.out _).mono ?_) | (with_reducible refine (P24.out _).mono ?_) | (with_reducible refine (Q20.out _).mono ?_) | (with_reducible refine (Q16.out _).mono ?_) | (with_reducible refine (Q0.out _).mono ?_)); rintro e w' ⟨rfl, n, rfl⟩)
      | (go_at_call 35; refine calls_with (fun x => Cel x w.heap.size 24 #[.int .i64 0, .bool false, .bool false, .int .i64 0, .int .i64 0, .int .i64 0, .int .i64 0, .int .i64 0]) (by repeat (first | (with_reducible exact Cel.new _ _ _) | (with_reducible apply Cel.drewN) | (with_reducible apply Cel.drew) | (with_reducible apply Cel.alloc) | (with_reducible refine Cel.far ?_ (by simp) _))) (fun hB => ?_); refine (HE.out _).mono ?_; rintro e w1 ⟨rfl, hb1⟩; obtain ⟨hc1, hf1⟩ := bcell hb1)
      | fail)
    clear hc1 hf1
    refine bodyPost_ret (v := .tuple #[iv 1 _ _ a b 0 op im, .int .i64 0]) (res_cell_tmp rfl rfl (((((((((hB.below hb1 hB.lt).set 0 _).set 1 _).set 2 _).set 3 _).set 4 _).set 5 _).set 6 _).set 7 _) Try.underlying24 rfl (by kernel_rfl) (by simp)) rfl ⟨rfl, ?_⟩
    repeat (first | (with_reducible exact Below.refl _ _) | (with_reducible apply below_drewN) | (with_reducible refine Below.setCell ?_ (by simp <;> omega) _) | (with_reducible refine Below.alloc ?_ (by simp <;> omega) _) | (with_reducible refine Below.trans ?_ (hb1.mono (by simp <;> omega))))

set_option maxHeartbeats 1000000 in
set_option maxRecDepth 100000 in
theorem rdec1_no (W X a b c op im g : Int) (u v : Bool) (w : World) (P30 : PartIs W 30 2 1) (P29 : PartIs W 29 1 (if u = true then 1 else 0)) (P28 : PartIs W 28 1 (if v = true then 1 else 0)) (P24 : PartIs W 24 4 a) (Q20 : PartIs W 20 4 b) (Q16 : PartIs W 16 4 op) (Q0 : PartIs W 0 16 im) (HE : EncIs (iv 1 u v a b 0 op im) 0 20) :
    Calls Try.prog 61 #[.int .u32 W] w (RetB (.tuple #[iv 0 false false 0 0 0 0 0, .int .i64 20]) w) := by
  have HE := Lib.hid HE
  have P30 := Lib.hid P30
  have P29 := Lib.hid P29
  have P28 := Lib.hid P28
  have P24 := Lib.hid P24
  have Q20 := Lib.hid Q20
  have Q16 := Lib.hid Q16
  have Q0 := Lib.hid Q0
  cases u <;> cases v
  all_goals
    go_enter Try.func61, Try.ntmps61
    go_wp2_with (first
      | (go_at_call 82; (first | (with_reducible refine (P30.out _).mono ?_) | (with_reducible refine (P29.out _).mono ?_) | (with_reducible refine (P28.out _).mono ?_) | (with_reducible refine (P24.out _).mono ?_) | (with_reducible refine (Q20.out _).mono ?_) | (with_reducible refine (Q16.out _).mono ?_) | (with_reducible refine (Q0.out _).mono ?_)); rintro e w' ⟨rfl, n, rfl⟩)
      | (go_at_call 35; refine calls_with (fun x => Cel x w.heap.size 24 #[.int .i64 0, .bool false, .bool false, .int .i64 0, .int .i64 0, .int .i64 0, .int .i64 0, .int .i64 0]) (by repeat (first | (with_reducible exact Cel.new _ _ _) | (with_reducible apply Cel.drewN) | (with_reducible apply Cel.drew) | (with_reducible apply Cel.alloc) | (with_reducible refine Cel.far ?_ (by simp) _))) (fun hB => ?_); refine (HE.out _).mono ?_; rintro e w1 ⟨rfl, hb1⟩; obtain ⟨hc1, hf1⟩ := bcell hb1)
      | fail)
    clear hc1 hf1
    refine bodyPost_ret (v := .tuple #[iv 0 false false 0 0 0 0 0, .int .i64 20]) (res_cell_tmp rfl rfl (((((((((hB.below hb1 hB.lt).set 0 _).set 1 _).set 2 _).set 3 _).set 4 _).set 5 _).set 6 _).set 7 _) Try.underlying24 rfl (by kernel_rfl) (by simp)) rfl ⟨rfl, ?_⟩
    repeat (first | (with_reducible exact Below.refl _ _) | (with_reducible apply below_drewN) | (with_reducible refine Below.setCell ?_ (by simp <;> omega) _) | (with_reducible refine Below.alloc ?_ (by simp <;> omega) _) | (with_reducible refine Below.trans ?_ (hb1.mono (by simp <;> omega))))

set_option maxHeartbeats 1000000 in
set_option maxRecDepth 100000 in
theorem rdec1_ne (W X a b c op im g : Int) (u v : Bool) (w : World) (P30 : PartIs W 30 2 1) (P29 : PartIs W 29 1 (if u = true then 1 else 0)) (P28 : PartIs W 28 1 (if v = true then 1 else 0)) (P24 : PartIs W 24 4 a) (Q20 : PartIs W 20 4 b) (Q16 : PartIs W 16 4 op) (Q0 : PartIs W 0 16 im) (HE : EncIs (iv 1 u v a b 0 op im) X 0) (hne : (X != W) = true) :
    Calls Try.prog 61 #[.int .u32 W] w (RetB (.tuple #[iv 0 false false 0 0 0 0 0, .int .i64 20]) w) := by
  have HE := Lib.hid HE
  have P30 := Lib.hid P30
  have P29 := Lib.hid P29
  have P28 := Lib.hid P28
  have P24 := Lib.hid P24
  have Q20 := Lib.hid Q20
  have Q16 := Lib.hid Q16
  have Q0 := Lib.hid Q0
  cases u <;> cases v
  all_goals
    go_enter Try.func61, Try.ntmps61
    go_wp2_with (first
      | (go_at_call 82; (first | (with_reducible refine (P30.out _).mono ?_) | (with_reducible refine (P29.out _).mono ?_) | (with_reducible refine (P28.out _).mono ?_) | (with_reducible refine (P24.out _).mono ?_) | (with_reducible refine (Q20.out _).mono ?_) | (with_reducible refine (Q16.out _).mono ?_) | (with_reducible refine (Q0.out _).mono ?_)); rintro e w' ⟨rfl, n, rfl⟩)
      | (go_at_call 35; refine calls_with (fun x => Cel x w.heap.size 24 #[.int .i64 0, .bool false, .bool false, .int .i64 0, .int .i64 0, .int .i64 0, .int .i64 0, .int .i64 0]) (by repeat (first | (with_reducible exact Cel.new _ _ _) | (with_reducible apply Cel.drewN) | (with_reducible apply Cel.drew) | (with_reducible apply Cel.alloc) | (with_reducible refine Cel.far ?_ (by simp) _))) (fun hB => ?_); refine (HE.out _).mono ?_; rintro e w1 ⟨rfl, hb1⟩; obtain ⟨hc1, hf1⟩ := bcell hb1)
      | fail)
    clear hc1 hf1
    refine bodyPost_ret (v := .tuple #[iv 0 false false 0 0 0 0 0, .int .i64 20]) (res_cell_tmp rfl rfl (((((((((hB.below hb1 hB.lt).set 0 _).set 1 _).set 2 _).set 3 _).set 4 _).set 5 _).set 6 _).set 7 _) Try.underlying24 rfl (by kernel_rfl) (by simp)) rfl ⟨rfl, ?_⟩
    repeat (first | (with_reducible exact Below.refl _ _) | (with_reducible apply below_drewN) | (with_reducible refine Below.setCell ?_ (by simp <;> omega) _) | (with_reducible refine Below.alloc ?_ (by simp <;> omega) _) | (with_reducible refine Below.trans ?_ (hb1.mono (by simp <;> omega))))

set_option maxHeartbeats 1000000 in
set_option maxRecDepth 100000 in
theorem rdec2_ok (W X a b c op im g : Int) (u v : Bool) (w : World) (P30 : PartIs W 30 2 2) (P29 : PartIs W 29 1 (if u = true then 1 else 0)) (P28 : PartIs W 28 1 (if v = true then 1 else 0)) (P24 : PartIs W 24 4 a) (Q20 : PartIs W 20 4 b) (G0 : GetIs W 0 20 g) (X0 : ExtIs g 20 im) (HE : EncIs (iv 2 u v a b 0 0 im) W 0) :
    Calls Try.prog 61 #[.int .u32 W] w (RetB (.tuple #[iv 2 u v a b 0 0 im, .int .i64 0]) w) := by
  have HE := Lib.hid HE
  have P30 := Lib.hid P30
  have P29 := Lib.hid P29
  have P28 := Lib.hid P28
  have P24 := Lib.hid P24
  have Q20 := Lib.hid Q20
  have G0 := Lib.hid G0
  have X0 := Lib.hid X0
  cases u <;> cases v
  all_goals
    go_enter Try.func61, Try.ntmps61
    go_wp2_with (first
      | (go_at_call 82; (first | (with_reducible refine (P30.out _).mono ?_) | (with_reducible refine (P29.out _).mono ?_) | (with_reducible refine (P28.out _).mono ?_) | (with_reducible refine (P24.out _).mono ?_) | (with_reducible refine (Q20.out _).mono ?_)); rintro e w' ⟨rfl, n, rfl⟩)
      | (go_at_call 69; refine (G0.out _).mono ?_; rintro e w' ⟨rfl, n, rfl⟩)
      | (go_at_call 83; refine (X0.out _).mono ?_; rintro e w' ⟨rfl, rfl⟩)
      | (go_at_call 35; refine calls_with (fun x => Cel x w.heap.size 24 #[.int .i64 0, .bool false, .bool false, .int .i64 0, .int .i64 0, .int .i64 0, .int .i64 0, .int .i64 0]) (by repeat (first | (with_reducible exact Cel.new _ _ _) | (with_reducible apply Cel.drewN) | (with_reducible apply Cel.drew) | (with_reducible apply Cel.alloc) | (with_reducible refine Cel.far ?_ (by simp) _))) (fun hB => ?_); refine (HE.out _).mono ?_; rintro e w1 ⟨rfl, hb1⟩; obtain ⟨hc1, hf1⟩ := bcell hb1)
      | fail)
    clear hc1 hf1
    refine bodyPost_ret (v := .tuple #[iv 2 _ _ a b 0 0 im, .int .i64 0]) (res_cell_tmp rfl rfl (((((((((hB.below hb1 hB.lt).set 0 _).set 1 _).set 2 _).set 3 _).set 4 _).set 5 _).set 6 _).set 7 _) Try.underlying24 rfl (by kernel_rfl) (by simp)) rfl ⟨rfl, ?_⟩
    repeat (first | (with_reducible exact Below.refl _ _) | (with_reducible apply below_drewN) | (with_reducible refine Below.setCell ?_ (by simp <;> omega) _) | (with_reducible refine Below.alloc ?_ (by simp <;> omega) _) | (with_reducible refine Below.trans ?_ (hb1.mono (by simp <;> omega))))

set_option maxHeartbeats 1000000 in
set_option maxRecDepth 100000 in
theorem rdec2_no (W X a b c op im g : Int) (u v : Bool) (w : World) (P30 : PartIs W 30 2 2) (P29 : PartIs W 29 1 (if u = true then 1 else 0)) (P28 : PartIs W 28 1 (if v = true then 1 else 0)) (P24 : PartIs W 24 4 a) (Q20 : PartIs W 20 4 b) (G0 : GetIs W 0 20 g) (X0 : ExtIs g 20 im) (HE : EncIs (iv 2 u v a b 0 0 im) 0 20) :
    Calls Try.prog 61 #[.int .u32 W] w (RetB (.tuple #[iv 0 false false 0 0 0 0 0, .int .i64 20]) w) := by
  have HE := Lib.hid HE
  have P30 := Lib.hid P30
  have P29 := Lib.hid P29
  have P28 := Lib.hid P28
  have P24 := Lib.hid P24
  have Q20 := Lib.hid Q20
  have G0 := Lib.hid G0
  have X0 := Lib.hid X0
  cases u <;> cases v
  all_goals
    go_enter Try.func61, Try.ntmps61
    go_wp2_with (first
      | (go_at_call 82; (first | (with_reducible refine (P30.out _).mono ?_) | (with_reducible refine (P29.out _).mono ?_) | (with_reducible refine (P28.out _).mono ?_) | (with_reducible refine (P24.out _).mono ?_) | (with_reducible refine (Q20.out _).mono ?_)); rintro e w' ⟨rfl, n, rfl⟩)
      | (go_at_call 69; refine (G0.out _).mono ?_; rintro e w' ⟨rfl, n, rfl⟩)
      | (go_at_call 83; refine (X0.out _).mono ?_; rintro e w' ⟨rfl, rfl⟩)
      | (go_at_call 35; refine calls_with (fun x => Cel x w.heap.size 24 #[.int .i64 0, .bool false, .bool false, .int .i64 0, .int .i64 0, .int .i64 0, .int .i64 0, .int .i64 0]) (by repeat (first | (with_reducible exact Cel.new _ _ _) | (with_reducible apply Cel.drewN) | (with_reducible apply Cel.drew) | (with_reducible apply Cel.alloc) | (with_reducible refine Cel.far ?_ (by simp) _))) (fun hB => ?_); refine (HE.out _).mono ?_; rintro e w1 ⟨rfl, hb1⟩; obtain ⟨hc1, hf1⟩ := bcell hb1)
      | fail)
    clear hc1 hf1
    refine bodyPost_ret (v := .tuple #[iv 0 false false 0 0 0 0 0, .int .i64 20]) (res_cell_tmp rfl rfl (((((((((hB.below hb1 hB.lt).set 0 _).set 1 _).set 2 _).set 3 _).set 4 _).set 5 _).set 6 _).set 7 _) Try.underlying24 rfl (by kernel_rfl) (by simp)) rfl ⟨rfl, ?_⟩
    repeat (first | (with_reducible exact Below.refl _ _) | (with_reducible apply below_drewN) | (with_reducible refine Below.setCell ?_ (by simp <;> omega) _) | (with_reducible refine Below.alloc ?_ (by simp <;> omega) _) | (with_reducible refine Below.trans ?_ (hb1.mono (by simp <;> omega))))

set_option maxHeartbeats 1000000 in
set_option maxRecDepth 100000 in
theorem rdec2_ne (W X a b c op im g : Int) (u v : Bool) (w : World) (P30 : PartIs W 30 2 2) (P29 : PartIs W 29 1 (if u = true then 1 else 0)) (P28 : PartIs W 28 1 (if v = true then 1 else 0)) (P24 : PartIs W 24 4 a) (Q20 : PartIs W 20 4 b) (G0 : GetIs W 0 20 g) (X0 : ExtIs g 20 im) (HE : EncIs (iv 2 u v a b 0 0 im) X 0) (hne : (X != W) = true) :
    Calls Try.prog 61 #[.int .u32 W] w (RetB (.tuple #[iv 0 false false 0 0 0 0 0, .int .i64 20]) w) := by
  have HE := Lib.hid HE
  have P30 := Lib.hid P30
  have P29 := Lib.hid P29
  have P28 := Lib.hid P28
  have P24 := Lib.hid P24
  have Q20 := Lib.hid Q20
  have G0 := Lib.hid G0
  have X0 := Lib.hid X0
  cases u <;> cases v
  all_goals
    go_enter Try.func61, Try.ntmps61
    go_wp2_with (first
      | (go_at_call 82; (first | (with_reducible refine (P30.out _).mono ?_) | (with_reducible refine (P29.out _).mono ?_) | (with_reducible refine (P28.out _).mono ?_) | (with_reducible refine (P24.out _).mono ?_) | (with_reducible refine (Q20.out _).mono ?_)); rintro e w' ⟨rfl, n, rfl⟩)
      | (go_at_call 69; refine (G0.out _).mono ?_; rintro e w' ⟨rfl, n, rfl⟩)
      | (go_at_call 83; refine (X0.out _).mono ?_; rintro e w' ⟨rfl, rfl⟩)
      | (go_at_call 35; refine calls_with (fun x => Cel x w.heap.size 24 #[.int .i64 0, .bool false, .bool false, .int .i64 0, .int .i64 0, .int .i64 0, .int .i64 0, .int .i64 0]) (by repeat (first | (with_reducible exact Cel.new _ _ _) | (with_reducible apply Cel.drewN) | (with_reducible apply Cel.drew) | (with_reducible apply Cel.alloc) | (with_reducible refine Cel.far ?_ (by simp) _))) (fun hB => ?_); refine (HE.out _).mono ?_; rintro e w1 ⟨rfl, hb1⟩; obtain ⟨hc1, hf1⟩ := bcell hb1)
      | fail)
    clear hc1 hf1
    refine bodyPost_ret (v := .tuple #[iv 0 false false 0 0 0 0 0, .int .i64 20]) (res_cell_tmp rfl rfl (((((((((hB.below hb1 hB.lt).set 0 _).set 1 _).set 2 _).set 3 _).set 4 _).set 5 _).set 6 _).set 7 _) Try.underlying24 rfl (by kernel_rfl) (by simp)) rfl ⟨rfl, ?_⟩
    repeat (first | (with_reducible exact Below.refl _ _) | (with_reducible apply below_drewN) | (with_reducible refine Below.setCell ?_ (by simp <;> omega) _) | (with_reducible refine Below.alloc ?_ (by simp <;> omega) _) | (with_reducible refine Below.trans ?_ (hb1.mono (by simp <;> omega))))

set_option maxHeartbeats 1000000 in
set_option maxRecDepth 100000 in
theorem rdec3u_ok (W X a b c op im g : Int) (v : Bool) (w : World) (P30 : PartIs W 30 2 3) (P29 : PartIs W 29 1 (if true = true then 1 else 0)) (P28 : PartIs W 28 1 (if v = true then 1 else 0)) (P24 : PartIs W 24 4 a) (G0 : GetIs W 0 24 g) (X0 : ExtIs g 24 im) (HE : EncIs (iv 3 true v a 0 0 0 im) W 0) :
    Calls Try.prog 61 #[.int .u32 W] w (RetB (.tuple #[iv 3 true v a 0 0 0 im, .int .i64 0]) w) := by
  have HE := Lib.hid HE
  have P30 := Lib.hid P30
  have P29 := Lib.hid P29
  have P28 := Lib.hid P28
  have P24 := Lib.hid P24
  have G0 := Lib.hid G0
  have X0 := Lib.hid X0
  cases v
  all_goals
    go_enter Try.func61, Try.ntmps61
    go_wp2_with (first
      | (go_at_call 82; (first | (with_reducible refine (P30.out _).mono ?_) | (with_reducible refine (P29.out _).mono ?_) | (with_reducible refine (P28.out _).mono ?_) | (with_reducible refine (P24.out _).mono ?_)); rintro e w' ⟨rfl, n, rfl⟩)
      | (go_at_call 69; refine (G0.out _).mono ?_; rintro e w' ⟨rfl, n, rfl⟩)
      | (go_at_call 83; refine (X0.out _).mono ?_; rintro e w' ⟨rfl, rfl⟩)
      | (go_at_call 35; refine calls_with (fun x => Cel x w.heap.size 24 #[.int .i64 0, .bool false, .bool false, .int .i64 0, .int .i64 0, .int .i64 0, .int .i64 0, .int .i64 0]) (by repeat (first | (with_reducible exact Cel.new _ _ _) | (with_reducible apply Cel.drewN) | (with_reducible apply Cel.drew) | (with_reducible apply Cel.alloc) | (with_reducible refine Cel.far ?_ (by simp) _))) (fun hB => ?_); refine (HE.out _).mono ?_; rintro e w1 ⟨rfl, hb1⟩; obtain ⟨hc1, hf1⟩ := bcell hb1)
      | fail)
    clear hc1 hf1
    refine bodyPost_ret (v := .tuple #[iv 3 true _ a 0 0 0 im, .int .i64 0]) (res_cell_tmp rfl rfl (((((((((hB.below hb1 hB.lt).set 0 _).set 1 _).set 2 _).set 3 _).set 4 _).set 5 _).set 6 _).set 7 _) Try.underlying24 rfl (by kernel_rfl) (by simp)) rfl ⟨rfl, ?_⟩
    repeat (first | (with_reducible exact Below.refl _ _) | (with_reducible apply below_drewN) | (with_reducible refine Below.setCell ?_ (by simp <;> omega) _) | (with_reducible refine Below.alloc ?_ (by simp <;> omega) _) | (with_reducible refine Below.trans ?_ (hb1.mono (by simp <;> omega))))

set_option maxHeartbeats 1000000 in
set_option maxRecDepth 100000 in
theorem rdec3u_no (W X a b c op im g : Int) (v : Bool) (w : World) (P30 : PartIs W 30 2 3) (P29 : PartIs W 29 1 (if true = true then 1 else 0)) (P28 : PartIs W 28 1 (if v = true then 1 else 0)) (P24 : PartIs W 24 4 a) (G0 : GetIs W 0 24 g) (X0 : ExtIs g 24 im) (HE : EncIs (iv 3 true v a 0 0 0 im) 0 20) :
    Calls Try.prog 61 #[.int .u32 W] w (RetB (.tuple #[iv 0 false false 0 0 0 0 0, .int .i64 20]) w) := by
  have HE := Lib.hid HE
  have P30 := Lib.hid P30
  have P29 := Lib.hid P29
  have P28 := Lib.hid P28
  have P24 := Lib.hid P24
  have G0 := Lib.hid G0
  have X0 := Lib.hid X0
  cases v
  all_goals
    go_enter Try.func61, Try.ntmps61
    go_wp2_with (first
      | (go_at_call 82; (first | (with_reducible refine (P30.out _).mono ?_) | (with_reducible refine (P29.out _).mono ?_) | (with_reducible refine (P28.out _).mono ?_) | (with_reducible refine (P24.out _).mono ?_)); rintro e w' ⟨rfl, n, rfl⟩)
      | (go_at_call 69; refine (G0.out _).mono ?_; rintro e w' ⟨rfl, n, rfl⟩)
      | (go_at_call 83; refine (X0.out _).mono ?_; rintro e w' ⟨rfl, rfl⟩)
      | (go_at_call 35; refine calls_with (fun x => Cel x w.heap.size 24 #[.int .i64 0, .bool false, .bool false, .int .i64 0, .int .i64 0, .int .i64 0, .int .i64 0, .int .i64 0]) (by repeat (first | (with_reducible exact Cel.new _ _ _) | (with_reducible apply Cel.drewN) | (with_reducible apply Cel.drew) | (with_reducible apply Cel.alloc) | (with_reducible refine Cel.far ?_ (by simp) _))) (fun hB => ?_); refine (HE.out _).mono ?_; rintro e w1 ⟨rfl, hb1⟩; obtain ⟨hc1, hf1⟩ := bcell hb1)
      | fail)
    clear hc1 hf1
    refine bodyPost_ret (v := .tuple #[iv 0 false false 0 0 0 0 0, .int .i64 20]) (res_cell_tmp rfl rfl (((((((((hB.below hb1 hB.lt).set 0 _).set 1 _).set 2 _).set 3 _).set 4 _).set 5 _).set 6 _).set 7 _) Try.underlying24 rfl (by kernel_rfl) (by simp)) rfl ⟨rfl, ?_⟩
    repeat (first | (with_reducible exact Below.refl _ _) | (with_reducible apply below_drewN) | (with_reducible refine Below.setCell ?_ (by simp <;> omega) _) | (with_reducible refine Below.alloc ?_ (by simp <;> omega) _) | (with_reducible refine Below.trans ?_ (hb1.mono (by simp <;> omega))))

set_option maxHeartbeats 1000000 in
set_option maxRecDepth 100000 in
theorem rdec3u_ne (W X a b c op im g : Int) (v : Bool) (w : World) (P30 : PartIs W 30 2 3) (P29 : PartIs W 29 1 (if true = true then 1 else 0)) (P28 : PartIs W 28 1 (if v = true then 1 else 0)) (P24 : PartIs W 24 4 a) (G0 : GetIs W 0 24 g) (X0 : ExtIs g 24 im) (HE : EncIs (iv 3 true v a 0 0 0 im) X 0) (hne : (X != W) = true) :
    Calls Try.prog 61 #[.int .u32 W] w (RetB (.tuple #[iv 0 false false 0 0 0 0 0, .int .i64 20]) w) := by
  have HE := Lib.hid HE
  have P30 := Lib.hid P30
  have P29 := Lib.hid P29
  have P28 := Lib.hid P28
  have P24 := Lib.hid P24
  have G0 := Lib.hid G0
  have X0 := Lib.hid X0
  cases v
  all_goals
    go_enter Try.func61, Try.ntmps61
    go_wp2_with (first
      | (go_at_call 82; (first | (with_reducible refine (P30.out _).mono ?_) | (with_reducible refine (P29.out _).mono ?_) | (with_reducible refine (P28.out _).mono ?_) | (with_reducible refine (P24.out _).mono ?_)); rintro e w' ⟨rfl, n, rfl⟩)
      | (go_at_call 69; refine (G0.out _).mono ?_; rintro e w' ⟨rfl, n, rfl⟩)
      | (go_at_call 83; refine (X0.out _).mono ?_; rintro e w' ⟨rfl, rfl⟩)
      | (go_at_call 35; refine calls_with (fun x => Cel x w.heap.size 24 #[.int .i64 0, .bool false, .bool false, .int .i64 0, .int .i64 0, .int .i64 0, .int .i64 0, .int .i64 0]) (by repeat (first | (with_reducible exact Cel.new _ _ _) | (with_reducible apply Cel.drewN) | (with_reducible apply Cel.drew) | (with_reducible apply Cel.alloc) | (with_reducible refine Cel.far ?_ (by simp) _))) (fun hB => ?_); refine (HE.out _).mono ?_; rintro e w1 ⟨rfl, hb1⟩; obtain ⟨hc1, hf1⟩ := bcell hb1)
      | fail)
    clear hc1 hf1
    refine bodyPost_ret (v := .tuple #[iv 0 false false 0 0 0 0 0, .int .i64 20]) (res_cell_tmp rfl rfl (((((((((hB.below hb1 hB.lt).set 0 _).set 1 _).set 2 _).set 3 _).set 4 _).set 5 _).set 6 _).set 7 _) Try.underlying24 rfl (by kernel_rfl) (by simp)) rfl ⟨rfl, ?_⟩
    repeat (first | (with_reducible exact Below.refl _ _) | (with_reducible apply below_drewN) | (with_reducible refine Below.setCell ?_ (by simp <;> omega) _) | (with_reducible refine Below.alloc ?_ (by simp <;> omega) _) | (with_reducible refine Below.trans ?_ (hb1.mono (by simp <;> omega))))

set_option maxHeartbeats 1000000 in
set_option maxRecDepth 100000 in
theorem rdec3n_ok (W X a b c op im g : Int) (v : Bool) (w : World) (P30 : PartIs W 30 2 3) (P29 : PartIs W 29 1 (if false = true then 1 else 0)) (P28 : PartIs W 28 1 (if v = true then 1 else 0)) (P24 : PartIs W 24 4 a) (Q0 : PartIs W 0 4 c) (HE : EncIs (iv 3 false v a 0 c 0 0) W 0) :
    Calls Try.prog 61 #[.int .u32 W] w (RetB (.tuple #[iv 3 false v a 0 c 0 0, .int .i64 0]) w) := by
  have HE := Lib.hid HE
  have P30 := Lib.hid P30
  have P29 := Lib.hid P29
  have P28 := Lib.hid P28
  have P24 := Lib.hid P24
  have Q0 := Lib.hid Q0
  cases v
  all_goals
    go_enter Try.func61, Try.ntmps61
    go_wp2_with (first
      | (go_at_call 82; (first | (with_reducible refine (P30.out _).mono ?_) | (with_reducible refine (P29.out _).mono ?_) | (with_reducible refine (P28.out _).mono ?_) | (with_reducible refine (P24.out _).mono ?_) | (with_reducible refine (Q0.out _).mono ?_)); rintro e w' ⟨rfl, n, rfl⟩)
      | (go_at_call 35; refine calls_with (fun x => Cel x w.heap.size 24 #[.int .i64 0, .bool false, .bool false, .int .i64 0, .int .i64 0, .int .i64 0, .int .i64 0, .int .i64 0]) (by repeat (first | (with_reducible exact Cel.new _ _ _) | (with_reducible apply Cel.drewN) | (with_reducible apply Cel.drew) | (with_reducible apply Cel.alloc) | (with_reducible refine Cel.far ?_ (by simp) _))) (fun hB => ?_); refine (HE.out _).mono ?_; rintro e w1 ⟨rfl, hb1⟩; obtain ⟨hc1, hf1⟩ := bcell hb1)
      | fail)
    clear hc1 hf1
    refine bodyPost_ret (v := .tuple #[iv 3 false _ a 0 c 0 0, .int .i64 0]) (res_cell_tmp rfl rfl (((((((((hB.below hb1 hB.lt).set 0 _).set 1 _).set 2 _).set 3 _).set 4 _).set 5 _).set 6 _).set 7 _) Try.underlying24 rfl (by kernel_rfl) (by simp)) rfl ⟨rfl, ?_⟩
    repeat (first | (with_reducible exact Below.refl _ _) | (with_reducible apply below_drewN) | (with_reducible refine Below.setCell ?_ (by simp <;> omega) _) | (with_reducible refine Below.alloc ?_ (by simp <;> omega) _) | (with_reducible refine Below.trans ?_ (hb1.mono (by simp <;> omega))))

set_option maxHeartbeats 1000000 in
set_option maxRecDepth 100000 in
theorem rdec3n_no (W X a b c op im g : Int) (v : Bool) (w : World) (P30 : PartIs W 30 2 3) (P29 : PartIs W 29 1 (if false = true then 1 else 0)) (P28 : PartIs W 28 1 (if v = true then 1 else 0)) (P24 : PartIs W 24 4 a) (Q0 : PartIs W 0 4 c) (HE : EncIs (iv 3 false v a 0 c 0 0) 0 20) :
    Calls Try.prog 61 #[.int .u32 W] w (RetB (.tuple #[iv 0 false false 0 0 0 0 0, .int .i64 20]) w) := by
  have HE := Lib.hid HE
  have P30 := Lib.hid P30
  have P29 := Lib.hid P29
  have P28 := Lib.hid P28
  have P24 := Lib.hid P24
  have Q0 := Lib.hid Q0
  cases v
  all_goals
    go_enter Try.func61, Try.ntmps61
    go_wp2_with (first
      | (go_at_call 82; (first | (with_reducible refine (P30.out _).mono ?_) | (with_reducible refine (P29.out _).mono ?_) | (with_reducible refine (P28.out _).mono ?_) | (with_reducible refine (P24.out _).mono ?_) | (with_reducible refine (Q0.out _).mono ?_)); rintro e w' ⟨rfl, n, rfl⟩)
      | (go_at_call 35; refine calls_with (fun x => Cel x w.heap.size 24 #[.int .i64 0, .bool false, .bool false, .int .i64 0, .int .i64 0, .int .i64 0, .int .i64 0, .int .i64 0]) (by repeat (first | (with_reducible exact Cel.new _ _ _) | (with_reducible apply Cel.drewN) | (with_reducible apply Cel.drew) | (with_reducible apply Cel.alloc) | (with_reducible refine Cel.far ?_ (by simp) _))) (fun hB => ?_); refine (HE.out _).mono ?_; rintro e w1 ⟨rfl, hb1⟩; obtain ⟨hc1, hf1⟩ := bcell hb1)
      | fail)
    clear hc1 hf1
    refine bodyPost_ret (v := .tuple #[iv 0 false false 0 0 0 0 0, .int .i64 20]) (res_cell_tmp rfl rfl (((((((((hB.below hb1 hB.lt).set 0 _).set 1 _).set 2 _).set 3 _).set 4 _).set 5 _).set 6 _).set 7 _) Try.underlying24 rfl (by kernel_rfl) (by simp)) rfl ⟨rfl, ?_⟩
    repeat (first | (with_reducible exact Below.refl _ _) | (with_reducible apply below_drewN) | (with_reducible refine Below.setCell ?_ (by simp <;> omega) _) | (with_reducible refine Below.alloc ?_ (by simp <;> omega) _) | (with_reducible refine Below.trans ?_ (hb1.mono (by simp <;> omega))))

set_option maxHeartbeats 1000000 in
set_option maxRecDepth 100000 in
theorem rdec3n_ne (W X a b c op im g : Int) (v : Bool) (w : World) (P30 : PartIs W 30 2 3) (P29 : PartIs W 29 1 (if false = true then 1 else 0)) (P28 : PartIs W 28 1 (if v = true then 1 else 0)) (P24 : PartIs W 24 4 a) (Q0 : PartIs W 0 4 c) (HE : EncIs (iv 3 false v a 0 c 0 0) X 0) (hne : (X != W) = true) :
    Calls Try.prog 61 #[.int .u32 W] w (RetB (.tuple #[iv 0 false false 0 0 0 0 0, .int .i64 20]) w) := by
  have HE := Lib.hid HE
  have P30 := Lib.hid P30
  have P29 := Lib.hid P29
  have P28 := Lib.hid P28
  have P24 := Lib.hid P24
  have Q0 := Lib.hid Q0
  cases v
  all_goals
    go_enter Try.func61, Try.ntmps61
    go_wp2_with (first
      | (go_at_call 82; (first | (with_reducible refine (P30.out _).mono ?_) | (with_reducible refine (P29.out _).mono ?_) | (with_reducible refine (P28.out _).mono ?_) | (with_reducible refine (P24.out _).mono ?_) | (with_reducible refine (Q0.out _).mono ?_)); rintro e w' ⟨rfl, n, rfl⟩)
      | (go_at_call 35; refine calls_with (fun x => Cel x w.heap.size 24 #[.int .i64 0, .bool false, .bool false, .int .i64 0, .int .i64 0, .int .i64 0, .int .i64 0, .int .i64 0]) (by repeat (first | (with_reducible exact Cel.new _ _ _) | (with_reducible apply Cel.drewN) | (with_reducible apply Cel.drew) | (with_reducible apply Cel.alloc) | (with_reducible refine Cel.far ?_ (by simp) _))) (fun hB => ?_); refine (HE.out _).mono ?_; rintro e w1 ⟨rfl, hb1⟩; obtain ⟨hc1, hf1⟩ := bcell hb1)
      | fail)
    clear hc1 hf1
    refine bodyPost_ret (v := .tuple #[iv 0 false false 0 0 0 0 0, .int .i64 20]) (res_cell_tmp rfl rfl (((((((((hB.below hb1 hB.lt).set 0 _).set 1 _).set 2 _).set 3 _).set 4 _).set 5 _).set 6 _).set 7 _) Try.underlying24 rfl (by kernel_rfl) (by simp)) rfl ⟨rfl, ?_⟩
    repeat (first | (with_reducible exact Below.refl _ _) | (with_reducible apply below_drewN) | (with_reducible refine Below.setCell ?_ (by simp <;> omega) _) | (with_reducible refine Below.alloc ?_ (by simp <;> omega) _) | (with_reducible refine Below.trans ?_ (hb1.mono (by simp <;> omega))))

end Go.Proofs.Ytmlmjkojhfjjlaa
