/- Plain laws of the small programs: what the two instructions of CpuLoads and those of CpuCalls leave. No program in sight. -/
import Derived.Test.YtmlmjkojhfjjlaaPlay
namespace Go.Proofs.Ytmlmjkojhfjjlaa
set_option linter.unusedVariables false
set_option linter.unusedSimpArgs false
namespace M

theorem at_encs (is : List I) (rest : List Int) (k : Nat) (x : I) (hx : is[k]? = some x) : at_ (encs is ++ rest) (k : Int) = encI x := by
  obtain ⟨hk, hx⟩ := List.getElem?_eq_some_iff.1 hx
  unfold at_ encs
  rw [List.getD_eq_getElem?_getD, Int.toNat_natCast, List.getElem?_append_left (by simpa using hk), List.getElem?_map, List.getElem?_eq_getElem hk]
  simp [hx]

/-- One step of a run at a known instruction of a program. -/
theorem run_in (is : List I) (rest : List Int) (s : St) (k n : Nat) (x : I) (hm : s.mem = encs is ++ rest) (hp : s.pc = (k : Int)) (hx : is[k]? = some x) (hg : goodI x = true) (he : s.en = 0) :
    runs (n + 1) s = runs n (exec { s with pc := (k : Int) + 1 } x) ∧ steps (n + 1) s = steps n (exec { s with pc := (k : Int) + 1 } x) + 1 := by
  have hk := (List.getElem?_eq_some_iff.1 hx).1
  have hs : step s = exec { s with pc := (k : Int) + 1 } x := by
    rw [step_at x (by rw [hp, hm]; simp [encs]; omega) (by rw [hp, hm]; exact at_encs is rest k x hx) hg, hp]
  constructor
  · conv => lhs; unfold runs
    rw [if_pos he, hs]
  · conv => lhs; unfold steps
    rw [if_pos he, hs]

theorem good_at {is : List I} (h : ∀ x ∈ is, goodI x = true) (k : Nat) (hk : k < is.length) : goodI is[k] = true := h _ (List.getElem_mem hk)

def loadsI (a w : Int) : List I := [⟨1, true, false, a, 0, 0, 0, w / 65536⟩, ⟨1, false, false, a, a, 0, 6, w % 65536⟩, ⟨0, true, true, (a + 1) % 16, 0, 0, 0, 0⟩]

theorem loads_g0 (a w : Int) (ha : 0 ≤ a) (ha' : a < 16) (hw : 0 ≤ w) (hw' : w < 4294967296) : goodI ⟨1, true, false, a, 0, 0, 0, w / 65536⟩ = true := decide_eq_true (by show Good 1 true false a 0 0 0 (w / 65536); unfold Good; simp; omega)
theorem loads_g1 (a w : Int) (ha : 0 ≤ a) (ha' : a < 16) (hw : 0 ≤ w) (hw' : w < 4294967296) : goodI ⟨1, false, false, a, a, 0, 6, w % 65536⟩ = true := decide_eq_true (by show Good 1 false false a a 0 6 (w % 65536); unfold Good; simp; omega)
theorem loads_g2 (a : Int) (ha : 0 ≤ a) (ha' : a < 16) : goodI ⟨0, true, true, (a + 1) % 16, 0, 0, 0, 0⟩ = true := decide_eq_true (by show Good 0 true true ((a + 1) % 16) 0 0 0 0; unfold Good; simp; omega)
theorem loads_good (a w : Int) (ha : 0 ≤ a) (ha' : a < 16) (hw : 0 ≤ w) (hw' : w < 4294967296) : ∀ x ∈ loadsI a w, goodI x = true := by
  intro x hx
  simp only [loadsI, List.mem_cons, List.not_mem_nil, or_false] at hx
  rcases hx with rfl | rfl | rfl
  · exact loads_g0 a w ha ha' hw hw'
  · exact loads_g1 a w ha ha' hw hw'
  · exact loads_g2 a ha ha'

theorem or_parts (w : Int) (hw : 0 ≤ w) (hw' : w < 4294967296) : bits .or .u32 (w / 65536 * 65536) (w % 65536) = w := by
  rw [u32_join 16 (w / 65536 * 65536) (w % 65536) (by omega) (by omega) (by omega) (by omega) (by omega) (by omega)]
  omega

theorem put_at (l : List Int) (i v : Int) (hi : 0 ≤ i) (hl : i < l.length) : at_ (put_ l i v) i = v := by
  unfold at_ put_
  rw [List.getD_eq_getElem?_getD, List.getElem?_set_self (by omega)]
  rfl
theorem put_ne (l : List Int) (i j v : Int) (hi : 0 ≤ i) (hj : 0 ≤ j) (h : i ≠ j) : at_ (put_ l i v) j = at_ l j := by
  unfold at_ put_
  rw [List.getD_eq_getElem?_getD, List.getElem?_set_ne (by omega), ← List.getD_eq_getElem?_getD]

/-- What CpuLoads leaves. -/
theorem loads_run (a w : Int) (ha : 0 ≤ a) (ha' : a < 16) (hw : 0 ≤ w) (hw' : w < 4294967296) (inp : ByteArray) (ws : List Int) (hws : encs (loadsI a w) ++ List.replicate 8 0 = ws) :
    let s := runs 3 (st0 ws 0 inp)
    s.en = 0 ∧ s.tr = 0 ∧ s.out = [] ∧ s.rd = 0 ∧ s.pc = 3 ∧ at_ s.r a = w ∧ at_ s.r ((a + 1) % 16) = packed (decide (2147483648 ≤ w)) (decide (w = 0)) false false ∧ steps 3 (st0 ws 0 inp) = 3 := by
  have r0 : (st0 ws 0 inp).mem = encs (loadsI a w) ++ List.replicate 8 0 := hws.symm
  have h1 := run_in (loadsI a w) _ (st0 ws 0 inp) 0 2 _ r0 rfl rfl (loads_g0 a w ha ha' hw hw') rfl
  have e1 : exec { st0 ws 0 inp with pc := ((0 : Nat) : Int) + 1 } ⟨1, true, false, a, 0, 0, 0, w / 65536⟩ = { st0 ws 0 inp with r := put_ (List.replicate 16 0) a (w / 65536 * 65536), fn := decide (2147483648 ≤ w / 65536 * 65536), fz := decide (w / 65536 * 65536 = 0), pc := 1 } := rfl
  obtain ⟨s1, hs1⟩ : ∃ s1, s1 = ({ st0 ws 0 inp with r := put_ (List.replicate 16 0) a (w / 65536 * 65536), fn := decide (2147483648 ≤ w / 65536 * 65536), fz := decide (w / 65536 * 65536 = 0), pc := 1 } : St) := ⟨_, rfl⟩
  rw [e1, ← hs1] at h1
  have h2 := run_in (loadsI a w) (List.replicate 8 0) s1 1 1 _ (by rw [hs1]; exact r0) (by rw [hs1]; rfl) rfl (loads_g1 a w ha ha' hw hw') (by rw [hs1]; rfl)
  have hb : at_ s1.r a = w / 65536 * 65536 := by rw [hs1]; exact put_at _ _ _ ha (by simp; omega)
  have e2 : exec { s1 with pc := ((1 : Nat) : Int) + 1 } ⟨1, false, false, a, a, 0, 6, w % 65536⟩ = { s1 with r := put_ s1.r a w, fn := decide (2147483648 ≤ w), fz := decide (w = 0), pc := 2 } := by
    show reckons { s1 with pc := ((1 : Nat) : Int) + 1 } ⟨1, false, false, a, a, 0, 6, w % 65536⟩ = _
    unfold reckons
    rw [if_neg (by simp), if_neg (by simp)]
    have er : aluR 6 false (at_ s1.r a) (w % 65536) s1.h s1.fc = w := by rw [hb]; exact or_parts w hw hw'
    show ({ s1 with r := put_ s1.r a (aluR 6 false (at_ s1.r a) (w % 65536) s1.h s1.fc), h := aluH 6 false (at_ s1.r a) (w % 65536) s1.h, fn := decide (2147483648 ≤ aluR 6 false (at_ s1.r a) (w % 65536) s1.h s1.fc), fz := decide (aluR 6 false (at_ s1.r a) (w % 65536) s1.h s1.fc = 0), fc := aluC 6 false (at_ s1.r a) (w % 65536) s1.fc, fv := aluV 6 false (at_ s1.r a) (w % 65536) s1.fc s1.fv, pc := ((1 : Nat) : Int) + 1 } : St) = _
    rw [er]
    rfl
  obtain ⟨s2, hs2⟩ : ∃ s2, s2 = ({ s1 with r := put_ s1.r a w, fn := decide (2147483648 ≤ w), fz := decide (w = 0), pc := 2 } : St) := ⟨_, rfl⟩
  rw [e2, ← hs2] at h2
  have h3 := run_in (loadsI a w) (List.replicate 8 0) s2 2 0 _ (by rw [hs2, hs1]; exact r0) (by rw [hs2]; rfl) rfl (loads_g2 a ha ha') (by rw [hs2, hs1]; rfl)
  have e3 : exec { s2 with pc := ((2 : Nat) : Int) + 1 } ⟨0, true, true, (a + 1) % 16, 0, 0, 0, 0⟩ = sets { s2 with pc := 3 } ((a + 1) % 16) (packed (decide (2147483648 ≤ w)) (decide (w = 0)) false false) := by
    show reckons { s2 with pc := 3 } ⟨0, true, true, (a + 1) % 16, 0, 0, 0, 0⟩ = _
    unfold reckons
    rw [if_neg (by simp), if_pos (by simp)]
    rw [hs2, hs1]
    rfl
  rw [e3] at h3
  have hr : runs 3 (st0 ws 0 inp) = sets { s2 with pc := 3 } ((a + 1) % 16) (packed (decide (2147483648 ≤ w)) (decide (w = 0)) false false) := h1.1.trans (h2.1.trans h3.1)
  have hst : steps 3 (st0 ws 0 inp) = 3 := by rw [h1.2, h2.2, h3.2]; rfl
  have hl2 : s2.r.length = 16 := by rw [hs2, hs1]; simp [put_]
  intro s
  show s.en = 0 ∧ _
  have hs : s = sets { s2 with pc := 3 } ((a + 1) % 16) (packed (decide (2147483648 ≤ w)) (decide (w = 0)) false false) := hr
  have hra : at_ s2.r a = w := by
    rw [hs2]
    exact put_at _ _ _ ha (by rw [hs1]; simp [put_]; omega)
  refine ⟨by rw [hs, hs2, hs1]; rfl, by rw [hs, hs2, hs1]; rfl, by rw [hs, hs2, hs1]; rfl, by rw [hs, hs2, hs1]; rfl, by rw [hs]; rfl, ?_, ?_, hst⟩
  · rw [hs]
    show at_ (put_ s2.r ((a + 1) % 16) _) a = w
    rw [put_ne _ _ _ _ (by omega) ha (by omega)]
    exact hra
  · rw [hs]
    exact put_at _ _ _ (by omega) (by show _ < (s2.r.length : Int); rw [hl2]; omega)


def stepI : I := ⟨1, false, false, 3, 3, 0, 8, 1⟩
def callsI (cond : Int) (k : Nat) : List I := [⟨3, true, true, cond, 0, 0, 0, (k : Int) + 1⟩, ⟨1, false, false, 2, 2, 0, 8, 1⟩] ++ List.replicate k stepI ++ [⟨3, false, false, 7, 0, 15, 0, 0⟩]
theorem calls_len (cond : Int) (k : Nat) : (callsI cond k).length = 2 + k + 1 := by simp [callsI]; omega
theorem calls_g0 (cond : Int) (k : Nat) (hk : k < 20) (hc : cond = 7 ∨ cond = 15) : goodI ⟨3, true, true, cond, 0, 0, 0, (k : Int) + 1⟩ = true := decide_eq_true (by show Good 3 true true cond 0 0 0 ((k : Int) + 1); unfold Good; simp; omega)
theorem calls_g1 : goodI ⟨1, false, false, 2, 2, 0, 8, 1⟩ = true := by decide
theorem calls_g2 : goodI stepI = true := by decide
theorem calls_g3 : goodI ⟨3, false, false, 7, 0, 15, 0, 0⟩ = true := by decide
theorem calls_good (cond : Int) (k : Nat) (hk : k < 20) (hc : cond = 7 ∨ cond = 15) : ∀ x ∈ callsI cond k, goodI x = true := by
  intro x hx
  simp only [callsI, List.mem_append, List.mem_cons, List.not_mem_nil, or_false, List.mem_replicate] at hx
  rcases hx with ((rfl | rfl) | ⟨_, rfl⟩) | rfl
  · exact calls_g0 cond k hk hc
  · exact calls_g1
  · exact calls_g2
  · exact calls_g3
theorem calls_last (cond : Int) (k : Nat) : (callsI cond k)[k + 2]? = some ⟨3, false, false, 7, 0, 15, 0, 0⟩ := by
  unfold callsI
  rw [List.getElem?_append_right (by simp)]
  simp

theorem calls_yes (k : Nat) (hk : k < 20) (inp : ByteArray) (ws : List Int) (hws : encs (callsI 7 k) ++ List.replicate 8 0 = ws) :
    let s := runs 2 (st0 ws 0 inp)
    s.en = 0 ∧ s.tr = 0 ∧ s.out = [] ∧ s.rd = 0 ∧ s.pc = 1 ∧ at_ s.r 15 = 4 ∧ at_ s.r 2 = 0 ∧ steps 2 (st0 ws 0 inp) = 2 := by
  have r0 : (st0 ws 0 inp).mem = encs (callsI 7 k) ++ List.replicate 8 0 := hws.symm
  have h1 := run_in (callsI 7 k) _ (st0 ws 0 inp) 0 1 _ r0 rfl rfl (calls_g0 7 k hk (.inl rfl)) rfl
  have e1 : exec { st0 ws 0 inp with pc := ((0 : Nat) : Int) + 1 } ⟨3, true, true, 7, 0, 0, 0, (k : Int) + 1⟩ = { st0 ws 0 inp with r := put_ (List.replicate 16 0) 15 4, pc := ((k + 2 : Nat) : Int) } := by
    show jumps { st0 ws 0 inp with pc := 1 } ⟨3, true, true, 7, 0, 0, 0, (k : Int) + 1⟩ = _
    unfold jumps
    rw [if_pos (by rfl)]
    show ({ st0 ws 0 inp with pc := (1 + ((k : Int) + 1)) % 1073741824, r := put_ (List.replicate 16 0) 15 (1 * 4 % 4294967296) } : St) = _
    rw [show (1 + ((k : Int) + 1)) % 1073741824 = ((k + 2 : Nat) : Int) by omega]
    rfl
  obtain ⟨s1, hs1⟩ : ∃ s1, s1 = ({ st0 ws 0 inp with r := put_ (List.replicate 16 0) 15 4, pc := ((k + 2 : Nat) : Int) } : St) := ⟨_, rfl⟩
  rw [e1, ← hs1] at h1
  have h2 := run_in (callsI 7 k) (List.replicate 8 0) s1 (k + 2) 0 _ (by rw [hs1]; exact r0) (by rw [hs1]) (calls_last 7 k) calls_g3 (by rw [hs1]; rfl)
  have e2 : exec { s1 with pc := ((k + 2 : Nat) : Int) + 1 } ⟨3, false, false, 7, 0, 15, 0, 0⟩ = { s1 with pc := 1 } := by
    show jumps { s1 with pc := ((k + 2 : Nat) : Int) + 1 } ⟨3, false, false, 7, 0, 15, 0, 0⟩ = _
    unfold jumps
    rw [if_pos (by rfl)]
    rw [hs1]
    rfl
  rw [e2] at h2
  have hr : runs 2 (st0 ws 0 inp) = { s1 with pc := 1 } := h1.1.trans h2.1
  have hst : steps 2 (st0 ws 0 inp) = 2 := by rw [h1.2, h2.2]; rfl
  intro s
  have hs : s = { s1 with pc := 1 } := hr
  refine ⟨by rw [hs, hs1]; rfl, by rw [hs, hs1]; rfl, by rw [hs, hs1]; rfl, by rw [hs, hs1]; rfl, by rw [hs], by rw [hs, hs1]; rfl, by rw [hs, hs1]; rfl, hst⟩

theorem calls_no (k : Nat) (hk : k < 20) (inp : ByteArray) (ws : List Int) (hws : encs (callsI 15 k) ++ List.replicate 8 0 = ws) :
    let s := runs 2 (st0 ws 0 inp)
    s.en = 0 ∧ s.tr = 0 ∧ s.out = [] ∧ s.rd = 0 ∧ s.pc = 2 ∧ at_ s.r 15 = 0 ∧ at_ s.r 2 = 1 ∧ steps 2 (st0 ws 0 inp) = 2 := by
  have r0 : (st0 ws 0 inp).mem = encs (callsI 15 k) ++ List.replicate 8 0 := hws.symm
  have h1 := run_in (callsI 15 k) _ (st0 ws 0 inp) 0 1 _ r0 rfl rfl (calls_g0 15 k hk (.inr rfl)) rfl
  have e1 : exec { st0 ws 0 inp with pc := ((0 : Nat) : Int) + 1 } ⟨3, true, true, 15, 0, 0, 0, (k : Int) + 1⟩ = { st0 ws 0 inp with pc := 1 } := by
    show jumps { st0 ws 0 inp with pc := 1 } ⟨3, true, true, 15, 0, 0, 0, (k : Int) + 1⟩ = _
    unfold jumps
    rw [if_neg (by show ¬ (false = true); decide)]
  obtain ⟨s1, hs1⟩ : ∃ s1, s1 = ({ st0 ws 0 inp with pc := 1 } : St) := ⟨_, rfl⟩
  rw [e1, ← hs1] at h1
  have h2 := run_in (callsI 15 k) (List.replicate 8 0) s1 1 0 _ (by rw [hs1]; exact r0) (by rw [hs1]; rfl) rfl calls_g1 (by rw [hs1]; rfl)
  have e2 : exec { s1 with pc := ((1 : Nat) : Int) + 1 } ⟨1, false, false, 2, 2, 0, 8, 1⟩ = { s1 with r := put_ s1.r 2 1, fn := false, fz := false, fc := false, fv := false, pc := 2 } := by
    rw [hs1]
    rfl
  rw [e2] at h2
  have hr : runs 2 (st0 ws 0 inp) = { s1 with r := put_ s1.r 2 1, fn := false, fz := false, fc := false, fv := false, pc := 2 } := h1.1.trans h2.1
  have hst : steps 2 (st0 ws 0 inp) = 2 := by rw [h1.2, h2.2]; rfl
  intro s
  have hs : s = { s1 with r := put_ s1.r 2 1, fn := false, fz := false, fc := false, fv := false, pc := 2 } := hr
  refine ⟨by rw [hs, hs1]; rfl, by rw [hs, hs1]; rfl, by rw [hs, hs1]; rfl, by rw [hs, hs1]; rfl, by rw [hs], by rw [hs, hs1]; rfl, by rw [hs, hs1]; rfl, hst⟩

end M
end Go.Proofs.Ytmlmjkojhfjjlaa
