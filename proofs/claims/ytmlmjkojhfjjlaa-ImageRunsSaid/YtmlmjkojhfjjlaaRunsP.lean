/- The plain law of the loop over the ports. No program in sight. -/
import Derived.Test.YtmlmjkojhfjjlaaRuns3
namespace Go.Proofs.Ytmlmjkojhfjjlaa
set_option linter.unusedVariables false
set_option linter.unusedSimpArgs false
namespace M

def portsI : List I := [⟨1, true, false, 1, 0, 0, 0, 65535⟩, ⟨1, false, false, 1, 1, 0, 8, 65472⟩, ⟨2, false, false, 2, 1, 0, 0, 12⟩, ⟨3, true, false, 1, 0, 0, 0, 3⟩, ⟨2, false, false, 3, 1, 0, 0, 8⟩, ⟨2, true, false, 3, 1, 0, 0, 8⟩, ⟨3, true, false, 7, 0, 0, 0, -5⟩, ⟨2, true, false, 0, 1, 0, 0, 0⟩]
theorem ports_good : ∀ x ∈ portsI, goodI x = true := by decide

/-- A text's bytes as numbers. -/
def bytesOf (s : ByteArray) : List Int := s.data.toList.map fun b => (b.toNat : Int)
theorem bytesOf_len (s : ByteArray) : (bytesOf s).length = s.size := by
  unfold bytesOf
  rw [List.length_map, Array.length_toList]
  rfl
theorem strOf_bytes (s : ByteArray) : strOfNums (bytesOf s) = s := by
  apply ByteArray.ext
  apply Array.toList_inj.1
  simp [strOfNums, bytesOf, Function.comp_def]

/-- At the loop's head, behind j bytes. -/
structure PI (B : ByteArray) (j : Nat) (s : St) : Prop where
  pc : s.pc = 2
  mem : s.mem = encs portsI ++ List.replicate 8 0
  inp : s.inp = B
  rd : s.rd = (j : Int)
  out : s.out = (bytesOf B).take j
  r1 : at_ s.r 1 = 4294967232
  rl : s.r.length = 16
  en : s.en = 0
  tr : s.tr = 0

theorem port_state_yes (s : St) (h1 : at_ s.r 1 = 4294967232) (h : s.rd < s.inp.size) : exec s ⟨2, false, false, 2, 1, 0, 0, 12⟩ = sets s 2 1 := by
  show moves s ⟨2, false, false, 2, 1, 0, 0, 12⟩ = _
  unfold moves
  rw [if_neg (by decide)]
  show loads s ((at_ s.r 1 + 12) % 4294967296) 2 false = _
  rw [h1]
  unfold loads
  rw [if_neg (by decide), if_pos (by decide), if_pos h]
theorem port_state_no (s : St) (h1 : at_ s.r 1 = 4294967232) (h : ¬ s.rd < s.inp.size) : exec s ⟨2, false, false, 2, 1, 0, 0, 12⟩ = sets s 2 0 := by
  show moves s ⟨2, false, false, 2, 1, 0, 0, 12⟩ = _
  unfold moves
  rw [if_neg (by decide)]
  show loads s ((at_ s.r 1 + 12) % 4294967296) 2 false = _
  rw [h1]
  unfold loads
  rw [if_neg (by decide), if_pos (by decide), if_neg h]
theorem port_data (s : St) (h1 : at_ s.r 1 = 4294967232) (h : s.rd < s.inp.size) : exec s ⟨2, false, false, 3, 1, 0, 0, 8⟩ = sets { s with rd := s.rd + 1 } 3 (inAt s) := by
  show moves s ⟨2, false, false, 3, 1, 0, 0, 8⟩ = _
  unfold moves
  rw [if_neg (by decide)]
  show loads s ((at_ s.r 1 + 8) % 4294967296) 3 false = _
  rw [h1]
  unfold loads
  rw [if_pos (by decide), if_pos h]
theorem port_out (s : St) (h1 : at_ s.r 1 = 4294967232) (h : s.out.length ≠ 4096) : exec s ⟨2, true, false, 3, 1, 0, 0, 8⟩ = { s with out := s.out ++ [at_ s.r 3 % 256] } := by
  show moves s ⟨2, true, false, 3, 1, 0, 0, 8⟩ = _
  unfold moves
  rw [if_pos (by rfl)]
  show stores s ((at_ s.r 1 + 8) % 4294967296) (at_ s.r 3) false = _
  rw [h1]
  unfold stores
  rw [if_pos (by decide), if_neg h]
theorem port_halt (s : St) (h1 : at_ s.r 1 = 4294967232) : exec s ⟨2, true, false, 0, 1, 0, 0, 0⟩ = { s with en := 1 } := by
  show moves s ⟨2, true, false, 0, 1, 0, 0, 0⟩ = _
  unfold moves
  rw [if_pos (by rfl)]
  show stores s ((at_ s.r 1 + 0) % 4294967296) (at_ s.r 0) false = _
  rw [h1]
  unfold stores
  rw [if_neg (by decide), if_neg (by decide), if_pos (by decide)]
theorem port_jz (s : St) (h : s.fz = true) : exec s ⟨3, true, false, 1, 0, 0, 0, 3⟩ = { s with pc := (s.pc + 3) % 1073741824 } := by
  show jumps s ⟨3, true, false, 1, 0, 0, 0, 3⟩ = _
  unfold jumps
  rw [if_pos (by show s.fz = true; exact h)]
  rfl
theorem port_jz_no (s : St) (h : s.fz = false) : exec s ⟨3, true, false, 1, 0, 0, 0, 3⟩ = s := by
  show jumps s ⟨3, true, false, 1, 0, 0, 0, 3⟩ = _
  unfold jumps
  rw [if_neg (by show ¬ s.fz = true; rw [h]; decide)]
theorem port_back (s : St) : exec s ⟨3, true, false, 7, 0, 0, 0, -5⟩ = { s with pc := (s.pc + -5) % 1073741824 } := by
  show jumps s ⟨3, true, false, 7, 0, 0, 0, -5⟩ = _
  unfold jumps
  rw [if_pos (by rfl)]
  rfl

theorem runs_one {is : List I} {rest : List Int} {s t : St} (k n : Nat) (x : I) (hm : s.mem = encs is ++ rest) (hp : s.pc = (k : Int)) (hx : is[k]? = some x) (hg : goodI x = true) (he : s.en = 0) (ht : exec { s with pc := (k : Int) + 1 } x = t) :
    runs (n + 1) s = runs n t ∧ steps (n + 1) s = steps n t + 1 := by
  have := run_in is rest s k n x hm hp hx hg he
  rw [ht] at this
  exact this

theorem inAt_at {s : St} {j : Nat} {inp : ByteArray} (hi : s.inp = inp) (hr : s.rd = (j : Int)) (hj : j < inp.size) : (bytesOf inp)[j]? = some (inAt s) ∧ inAt s % 256 = inAt s := by
  unfold inAt bytesOf
  rw [hi, hr, Int.toNat_natCast]
  have hl : j < inp.data.toList.length := by rw [Array.length_toList]; exact hj
  rw [List.getElem?_map, List.getD_eq_getElem?_getD, List.getElem?_eq_getElem hl]
  refine ⟨rfl, ?_⟩
  have := (inp.data.toList[j]).toNat_lt
  simp only [Option.getD_some]
  omega

/-- One round of the loop. -/
theorem ports_round {inp : ByteArray} {j : Nat} {s : St} (h : PI inp j s) (hj : j < inp.size) (hl : inp.size ≤ 500) : ∃ t, PI inp (j + 1) t ∧ ∀ n, runs (n + 5) s = runs n t ∧ steps (n + 5) s = steps n t + 5 := by
  have hr : s.rd < s.inp.size := by rw [h.rd, h.inp]; omega
  obtain ⟨hb, hb2⟩ := inAt_at h.inp h.rd hj
  obtain ⟨s1, hs1⟩ : ∃ s1, s1 = sets { s with pc := 3 } 2 1 := ⟨_, rfl⟩
  obtain ⟨s2, hs2⟩ : ∃ s2, s2 = ({ s1 with pc := 4 } : St) := ⟨_, rfl⟩
  obtain ⟨s3, hs3⟩ : ∃ s3, s3 = sets { s2 with rd := s2.rd + 1, pc := 5 } 3 (inAt s) := ⟨_, rfl⟩
  obtain ⟨s4, hs4⟩ : ∃ s4, s4 = ({ s3 with out := s3.out ++ [inAt s], pc := 6 } : St) := ⟨_, rfl⟩
  obtain ⟨s5, hs5⟩ : ∃ s5, s5 = ({ s4 with pc := 2 } : St) := ⟨_, rfl⟩
  have a1 : at_ s1.r 1 = 4294967232 := by
    rw [hs1]
    show at_ (put_ s.r 2 1) 1 = _
    rw [put_ne _ _ _ _ (by decide) (by decide) (by decide)]
    exact h.r1
  have l1 : s1.r.length = 16 := by rw [hs1]; show (put_ s.r 2 1).length = 16; simp [put_, h.rl]
  have a3 : at_ s3.r 1 = 4294967232 := by
    rw [hs3, hs2]
    show at_ (put_ s1.r 3 _) 1 = _
    rw [put_ne _ _ _ _ (by decide) (by decide) (by decide)]
    exact a1
  have a33 : at_ s3.r 3 = inAt s := by
    rw [hs3, hs2]
    exact put_at _ _ _ (by decide) (by show (3 : Int) < (s1.r.length : Int); rw [l1]; decide)
  have e1 : exec { s with pc := ((2 : Nat) : Int) + 1 } ⟨2, false, false, 2, 1, 0, 0, 12⟩ = s1 := by
    rw [hs1]
    exact port_state_yes { s with pc := 3 } h.r1 hr
  have e2 : exec { s1 with pc := ((3 : Nat) : Int) + 1 } ⟨3, true, false, 1, 0, 0, 0, 3⟩ = s2 := by
    rw [hs2]
    exact port_jz_no { s1 with pc := 4 } (by rw [hs1]; rfl)
  have e3 : exec { s2 with pc := ((4 : Nat) : Int) + 1 } ⟨2, false, false, 3, 1, 0, 0, 8⟩ = s3 := by
    rw [hs3]
    have := port_data { s2 with pc := 5 } (by rw [hs2]; exact a1) (by rw [hs2, hs1]; exact hr)
    have hin : inAt { s2 with pc := 5 } = inAt s := by rw [hs2, hs1]; rfl
    rw [hin] at this
    exact this
  have e4 : exec { s3 with pc := ((5 : Nat) : Int) + 1 } ⟨2, true, false, 3, 1, 0, 0, 8⟩ = s4 := by
    rw [hs4]
    have ho : s3.out = s.out := by rw [hs3, hs2, hs1]; rfl
    have := port_out { s3 with pc := 6 } a3 (by show s3.out.length ≠ 4096; rw [ho, h.out, List.length_take, bytesOf_len]; omega)
    rw [show at_ ({ s3 with pc := 6 } : St).r 3 = inAt s from a33, hb2] at this
    exact this
  have e5 : exec { s4 with pc := ((6 : Nat) : Int) + 1 } ⟨3, true, false, 7, 0, 0, 0, -5⟩ = s5 := by
    rw [hs5]
    exact port_back { s4 with pc := 7 }
  have m1 : s1.mem = s.mem := by rw [hs1]; rfl
  have m2 : s2.mem = s.mem := by rw [hs2]; exact m1
  have m3 : s3.mem = s.mem := by rw [hs3]; exact m2
  have m4 : s4.mem = s.mem := by rw [hs4]; exact m3
  have n1 : s1.en = 0 := by rw [hs1]; exact h.en
  have n2 : s2.en = 0 := by rw [hs2]; exact n1
  have n3 : s3.en = 0 := by rw [hs3]; exact n2
  have n4 : s4.en = 0 := by rw [hs4]; exact n3
  refine ⟨s5, ?_, fun n => ?_⟩
  · refine ⟨by rw [hs5], by rw [hs5]; exact m4.trans h.mem, by rw [hs5, hs4, hs3, hs2, hs1]; exact h.inp, ?_, ?_, by rw [hs5, hs4]; exact a3, ?_, by rw [hs5]; exact n4, by rw [hs5, hs4, hs3, hs2, hs1]; exact h.tr⟩
    · rw [hs5, hs4, hs3, hs2, hs1]
      show s.rd + 1 = _
      rw [h.rd]
      omega
    · have : s5.out = s.out ++ [inAt s] := by rw [hs5, hs4, hs3, hs2, hs1]; rfl
      rw [this, h.out]
      obtain ⟨hjl, hjv⟩ := List.getElem?_eq_some_iff.1 hb
      rw [List.take_succ_eq_append_getElem hjl, hjv]
    · rw [hs5, hs4, hs3, hs2]
      show (put_ s1.r 3 _).length = 16
      simp [put_, l1]
  · have q1 := runs_one (is := portsI) 2 (n + 4) _ h.mem h.pc rfl (by decide) h.en e1
    have q2 := runs_one (is := portsI) (rest := List.replicate 8 0) (s := s1) 3 (n + 3) _ (m1.trans h.mem) (by rw [hs1]; rfl) rfl (by decide) n1 e2
    have q3 := runs_one (is := portsI) (rest := List.replicate 8 0) (s := s2) 4 (n + 2) _ (m2.trans h.mem) (by rw [hs2]; rfl) rfl (by decide) n2 e3
    have q4 := runs_one (is := portsI) (rest := List.replicate 8 0) (s := s3) 5 (n + 1) _ (m3.trans h.mem) (by rw [hs3]; rfl) rfl (by decide) n3 e4
    have q5 := runs_one (is := portsI) (rest := List.replicate 8 0) (s := s4) 6 n _ (m4.trans h.mem) (by rw [hs4]; rfl) rfl (by decide) n4 e5
    refine ⟨q1.1.trans (q2.1.trans (q3.1.trans (q4.1.trans q5.1))), ?_⟩
    have w1 : steps (n + 5) s = steps (n + 4) s1 + 1 := q1.2
    have w2 : steps (n + 4) s1 = steps (n + 3) s2 + 1 := q2.2
    have w3 : steps (n + 3) s2 = steps (n + 2) s3 + 1 := q3.2
    have w4 : steps (n + 2) s3 = steps (n + 1) s4 + 1 := q4.2
    have w5 : steps (n + 1) s4 = steps n s5 + 1 := q5.2
    omega

/-- The loop's end. -/
theorem ports_end {inp : ByteArray} {s : St} (h : PI inp inp.size s) (n : Nat) : ∃ t, runs (n + 3) s = t ∧ steps (n + 3) s = 3 ∧ t.en = 1 ∧ t.tr = 0 ∧ t.out = bytesOf inp ∧ t.rd = (inp.size : Int) := by
  have hr : ¬ s.rd < s.inp.size := by rw [h.rd, h.inp]; omega
  obtain ⟨s1, hs1⟩ : ∃ s1, s1 = sets { s with pc := 3 } 2 0 := ⟨_, rfl⟩
  obtain ⟨s2, hs2⟩ : ∃ s2, s2 = ({ s1 with pc := 7 } : St) := ⟨_, rfl⟩
  obtain ⟨s3, hs3⟩ : ∃ s3, s3 = ({ s2 with en := 1, pc := 8 } : St) := ⟨_, rfl⟩
  have a1 : at_ s1.r 1 = 4294967232 := by
    rw [hs1]
    show at_ (put_ s.r 2 0) 1 = _
    rw [put_ne _ _ _ _ (by decide) (by decide) (by decide)]
    exact h.r1
  have e1 : exec { s with pc := ((2 : Nat) : Int) + 1 } ⟨2, false, false, 2, 1, 0, 0, 12⟩ = s1 := by
    rw [hs1]
    exact port_state_no { s with pc := 3 } h.r1 hr
  have e2 : exec { s1 with pc := ((3 : Nat) : Int) + 1 } ⟨3, true, false, 1, 0, 0, 0, 3⟩ = s2 := by
    rw [hs2]
    exact port_jz { s1 with pc := 4 } (by rw [hs1]; rfl)
  have e3 : exec { s2 with pc := ((7 : Nat) : Int) + 1 } ⟨2, true, false, 0, 1, 0, 0, 0⟩ = s3 := by
    rw [hs3]
    exact port_halt { s2 with pc := 8 } (by rw [hs2]; exact a1)
  have m1 : s1.mem = s.mem := by rw [hs1]; rfl
  have m2 : s2.mem = s.mem := by rw [hs2]; exact m1
  have n1 : s1.en = 0 := by rw [hs1]; exact h.en
  have n2 : s2.en = 0 := by rw [hs2]; exact n1
  have q1 := runs_one (is := portsI) 2 (n + 2) _ h.mem h.pc rfl (by decide) h.en e1
  have q2 := runs_one (is := portsI) (rest := List.replicate 8 0) (s := s1) 3 (n + 1) _ (m1.trans h.mem) (by rw [hs1]; rfl) rfl (by decide) n1 e2
  have q3 := runs_one (is := portsI) (rest := List.replicate 8 0) (s := s2) 7 n _ (m2.trans h.mem) (by rw [hs2]; rfl) rfl (by decide) n2 e3
  have n3 : s3.en ≠ 0 := by rw [hs3]; show (1 : Int) ≠ 0; decide
  obtain ⟨z1, z2⟩ := runs_ended n s3 n3
  refine ⟨s3, (q1.1.trans (q2.1.trans q3.1)).trans z1, ?_, by rw [hs3], by rw [hs3, hs2, hs1]; exact h.tr, ?_, by rw [hs3, hs2, hs1]; exact h.rd⟩
  · have w1 : steps (n + 3) s = steps (n + 2) s1 + 1 := q1.2
    have w2 : steps (n + 2) s1 = steps (n + 1) s2 + 1 := q2.2
    have w3 : steps (n + 1) s2 = steps n s3 + 1 := q3.2
    omega
  · have : s3.out = s.out := by rw [hs3, hs2, hs1]; rfl
    rw [this, h.out, List.take_of_length_le (by rw [bytesOf_len]; exact Nat.le_refl _)]

theorem ports_loop {inp : ByteArray} (hl : inp.size ≤ 500) : ∀ (d j : Nat) (s : St), inp.size - j = d → j ≤ inp.size → PI inp j s → ∀ n, ∃ t, runs (n + (5 * d + 3)) s = t ∧ steps (n + (5 * d + 3)) s = 5 * d + 3 ∧ t.en = 1 ∧ t.tr = 0 ∧ t.out = bytesOf inp ∧ t.rd = (inp.size : Int)
  | 0, j, s, hd, hj, h, n => by
    obtain rfl : j = inp.size := by omega
    have := ports_end h n
    simpa using this
  | d + 1, j, s, hd, hj, h, n => by
    obtain ⟨t, ht, hr⟩ := ports_round h (by omega) hl
    obtain ⟨u, h1, h2, h3⟩ := ports_loop hl d (j + 1) t (by omega) (by omega) ht n
    have e : n + (5 * (d + 1) + 3) = (n + (5 * d + 3)) + 5 := by omega
    refine ⟨u, ?_, ?_, h3⟩
    · rw [e, (hr _).1]; exact h1
    · rw [e, (hr _).2, h2]; omega

/-- What CpuPorts comes to. -/
theorem ports_run (inp : ByteArray) (hl : inp.size ≤ 500) (ws : List Int) (hws : encs portsI ++ List.replicate 8 0 = ws) :
    let s := runs 10000 (st0 ws 0 inp)
    s.en = 1 ∧ s.tr = 0 ∧ s.out = bytesOf inp ∧ s.rd = (inp.size : Int) ∧ steps 10000 (st0 ws 0 inp) = 5 + 5 * inp.size := by
  have r0 : (st0 ws 0 inp).mem = encs portsI ++ List.replicate 8 0 := hws.symm
  have h1 := fun n => run_in portsI _ (st0 ws 0 inp) 0 n ⟨1, true, false, 1, 0, 0, 0, 65535⟩ r0 rfl rfl (by decide) rfl
  obtain ⟨s1, hs1⟩ : ∃ s1, s1 = exec { st0 ws 0 inp with pc := ((0 : Nat) : Int) + 1 } ⟨1, true, false, 1, 0, 0, 0, 65535⟩ := ⟨_, rfl⟩
  simp only [← hs1] at h1
  have h2 := fun n => run_in portsI (List.replicate 8 0) s1 1 n ⟨1, false, false, 1, 1, 0, 8, 65472⟩ (by rw [hs1]; exact r0) (by rw [hs1]; rfl) rfl (by decide) (by rw [hs1]; rfl)
  obtain ⟨s2, hs2⟩ : ∃ s2, s2 = exec { s1 with pc := ((1 : Nat) : Int) + 1 } ⟨1, false, false, 1, 1, 0, 8, 65472⟩ := ⟨_, rfl⟩
  simp only [← hs2] at h2
  have hP : PI inp 0 s2 := by
    refine ⟨by rw [hs2, hs1]; rfl, by rw [hs2, hs1]; exact r0, by rw [hs2, hs1]; rfl, by rw [hs2, hs1]; rfl, by rw [hs2, hs1]; rfl, by rw [hs2, hs1]; rfl, by rw [hs2, hs1]; rfl, by rw [hs2, hs1]; rfl, by rw [hs2, hs1]; rfl⟩
  obtain ⟨t, ht1, ht2, ht3, ht4, ht5, ht6⟩ := ports_loop hl inp.size 0 s2 (by omega) (Nat.zero_le _) hP (9998 - (5 * inp.size + 3))
  have e : 9998 - (5 * inp.size + 3) + (5 * inp.size + 3) = 9998 := by omega
  rw [e] at ht1 ht2
  have hr : runs 10000 (st0 ws 0 inp) = t := (h1 9999).1.trans ((h2 9998).1.trans ht1)
  have hst : steps 10000 (st0 ws 0 inp) = 5 + 5 * inp.size := by
    rw [(h1 9999).2, (h2 9998).2, ht2]
    omega
  intro s
  have hs : s = t := hr
  exact ⟨by rw [hs]; exact ht3, by rw [hs]; exact ht4, by rw [hs]; exact ht5, by rw [hs]; exact ht6, hst⟩

end M
end Go.Proofs.Ytmlmjkojhfjjlaa
