/- The plain law of how a run begins: each entry is called once, in order. No program in sight but the words of image.Boot. -/
import Derived.Test.YtmlmjkojhfjjlaaRunsP
import Derived.Test.YtmlmjkojhfjjlaaImg
namespace Go.Proofs.Ytmlmjkojhfjjlaa
set_option linter.unusedVariables false
set_option linter.unusedSimpArgs false
namespace M

theorem reck_keep (t : St) (x : I) : (reckons t x).mem = t.mem ∧ (reckons t x).inp = t.inp ∧ (reckons t x).rd = t.rd ∧ (reckons t x).out = t.out ∧ (reckons t x).en = t.en ∧ (reckons t x).tr = t.tr ∧ (reckons t x).pc = t.pc := by
  unfold reckons
  split
  · exact ⟨rfl, rfl, rfl, rfl, rfl, rfl, rfl⟩
  split
  · exact ⟨rfl, rfl, rfl, rfl, rfl, rfl, rfl⟩
  · exact ⟨rfl, rfl, rfl, rfl, rfl, rfl, rfl⟩
theorem reck_up (t : St) (a im : Int) : (reckons t ⟨1, true, false, a, 0, 0, 0, im⟩).r = put_ t.r a (im * 65536) := rfl
theorem reck_op (t : St) (a b op im : Int) : (reckons t ⟨1, false, false, a, b, 0, op, im⟩).r = put_ t.r a (aluR op false (at_ t.r b) im t.h t.fc) := by
  unfold reckons
  rw [if_neg (by simp), if_neg (by simp)]
  rfl
theorem alu_add (b n h : Int) (fc : Bool) : aluR 8 false b n h fc = (b + n) % 4294967296 := by
  show (b + n + 0) % 4294967296 = _
  rw [Int.add_zero]
theorem alu_mov (b n h : Int) (fc : Bool) : aluR 0 false b n h fc = n := rfl
theorem alu_ior (b n h : Int) (fc : Bool) : aluR 6 false b n h fc = bits .or .u32 b n := rfl

/-- A step at a known instruction, wherever it lies. -/
theorem run_at (s : St) (x : I) (p : Int) (n : Nat) (hp : s.pc = p) (hl : p < s.mem.length) (hw : at_ s.mem p = encI x) (hg : goodI x = true) (he : s.en = 0) :
    runs (n + 1) s = runs n (exec { s with pc := p + 1 } x) ∧ steps (n + 1) s = steps n (exec { s with pc := p + 1 } x) + 1 := by
  subst hp
  have hs := step_at x hl hw hg
  constructor
  · conv => lhs; unfold runs
    rw [if_pos he, hs]
  · conv => lhs; unfold steps
    rw [if_pos he, hs]

/-- What the run looks at. -/
structure Vw (s : St) (W : List Int) (p : Int) (o : List Int) (sz : Int) : Prop where
  mem : s.mem = W
  pc : s.pc = p
  out : s.out = o
  en : s.en = 0
  tr : s.tr = 0
  rd : s.rd = 0
  rl : s.r.length = 16
  r14 : at_ s.r 14 = sz

theorem Vw.step {s : St} {W : List Int} {p : Int} {o : List Int} {sz : Int} (h : Vw s W p o sz) (x : I) (hl : p < W.length) (hw : at_ W p = encI x) (hg : goodI x = true) (n : Nat) :
    runs (n + 1) s = runs n (exec { s with pc := p + 1 } x) ∧ steps (n + 1) s = steps n (exec { s with pc := p + 1 } x) + 1 :=
  run_at s x p n h.pc (by rw [h.mem]; exact hl) (by rw [h.mem]; exact hw) hg h.en

theorem vw_reck {s : St} {W : List Int} {p : Int} {o : List Int} {sz : Int} (h : Vw s W p o sz) (x : I) (hf : x.f = 1) (a v : Int) (hr : (reckons { s with pc := p + 1 } x).r = put_ s.r a v) (ha : 0 ≤ a) (ha14 : a ≠ 14 ∨ v = sz) (ha16 : a < 16) :
    Vw (exec { s with pc := p + 1 } x) W (p + 1) o sz := by
  have e : exec { s with pc := p + 1 } x = reckons { s with pc := p + 1 } x := by unfold exec; rw [if_neg (by rw [hf]; decide), if_neg (by rw [hf]; decide)]
  rw [e]
  obtain ⟨k1, k2, k3, k4, k5, k6, k7⟩ := reck_keep { s with pc := p + 1 } x
  refine ⟨k1.trans h.mem, k7, k4.trans h.out, k5.trans h.en, k6.trans h.tr, k3.trans h.rd, ?_, ?_⟩
  · rw [hr]; simp [put_, h.rl]
  · rw [hr]
    by_cases e14 : a = 14
    · rcases ha14 with h1 | h1
      · exact absurd e14 h1
      · subst e14; rw [put_at _ _ _ ha (by rw [h.rl]; decide)]; exact h1
    · rw [put_ne _ _ _ _ ha (by decide) e14]; exact h.r14

def codeI (mk : Int) : List I := [⟨1, true, false, 2, 0, 0, 0, 65535⟩, ⟨1, false, false, 2, 2, 0, 8, 65480⟩, ⟨1, false, false, 3, 0, 0, 0, mk⟩, ⟨2, true, false, 3, 2, 0, 0, 0⟩, ⟨3, false, false, 7, 0, 15, 0, 0⟩]
theorem code_g2 (mk : Int) (h : 0 ≤ mk) (h' : mk < 256) : goodI ⟨1, false, false, 3, 0, 0, 0, mk⟩ = true := decide_eq_true (by show Good 1 false false 3 0 0 0 mk; unfold Good; simp; omega)
theorem code_good (mk : Int) (h : 0 ≤ mk) (h' : mk < 256) : ∀ x ∈ codeI mk, goodI x = true := by
  intro x hx
  simp only [codeI, List.mem_cons, List.not_mem_nil, or_false] at hx
  rcases hx with rfl | rfl | rfl | rfl | rfl
  · decide
  · decide
  · exact code_g2 mk h h'
  · decide
  · decide

/-- One entry is called. -/
theorem entry_round {s : St} {W : List Int} {o : List Int} {sz i e mk : Int} (h : Vw s W (10 + i) o sz) (hi : 0 ≤ i) (hi' : i ≤ 80) (he : 0 ≤ e) (he' : e < 65000) (hj : at_ W (10 + i) = encI (jumpI (10 + i) e)) (hjl : 10 + i < W.length)
    (hm : 0 ≤ mk) (hm' : mk < 256) (hc : ∀ k : Nat, ∀ x, (codeI mk)[k]? = some x → at_ W (e + k) = encI x) (hcl : e + 5 ≤ W.length) (ho : o.length < 4096) :
    ∃ t, Vw t W (10 + i + 1) (o ++ [mk]) sz ∧ ∀ n, runs (n + 6) s = runs n t ∧ steps (n + 6) s = steps n t + 6 := by
  -- the jump
  have q1 := h.step (jumpI (10 + i) e) hjl hj (jump_good _ _ (by omega) (by omega) he (by omega))
  have e1 : exec { s with pc := 10 + i + 1 } (jumpI (10 + i) e) = { s with pc := e, r := put_ s.r 15 ((10 + i + 1) * 4 % 4294967296) } := by
    show jumps { s with pc := 10 + i + 1 } ⟨3, true, true, 7, 0, 0, 0, e - (10 + i) - 1⟩ = _
    unfold jumps
    rw [if_pos (by rfl)]
    show ({ s with pc := (10 + i + 1 + (e - (10 + i) - 1)) % 1073741824, r := put_ s.r 15 ((10 + i + 1) * 4 % 4294967296) } : St) = _
    rw [show (10 + i + 1 + (e - (10 + i) - 1)) % 1073741824 = e by omega]
  rw [e1] at q1
  obtain ⟨s1, hs1⟩ : ∃ s1, s1 = ({ s with pc := e, r := put_ s.r 15 ((10 + i + 1) * 4 % 4294967296) } : St) := ⟨_, rfl⟩
  rw [← hs1] at q1
  have V1 : Vw s1 W e o sz := by
    rw [hs1]
    refine ⟨h.mem, rfl, h.out, h.en, h.tr, h.rd, by show (put_ s.r 15 _).length = 16; simp [put_, h.rl], ?_⟩
    show at_ (put_ s.r 15 _) 14 = sz
    rw [put_ne _ _ _ _ (by decide) (by decide) (by decide)]
    exact h.r14
  have L1 : at_ s1.r 15 = (10 + i + 1) * 4 := by
    rw [hs1]
    show at_ (put_ s.r 15 _) 15 = _
    rw [put_at _ _ _ (by decide) (by rw [h.rl]; decide)]
    omega
  -- mov' r2
  have c0 := hc 0 _ rfl
  rw [show e + ((0 : Nat) : Int) = e by omega] at c0
  have q2 := V1.step ⟨1, true, false, 2, 0, 0, 0, 65535⟩ (by omega) c0 (by decide)
  obtain ⟨s2, hs2⟩ : ∃ s2, s2 = exec { s1 with pc := e + 1 } ⟨1, true, false, 2, 0, 0, 0, 65535⟩ := ⟨_, rfl⟩
  have R2 : s2.r = put_ s1.r 2 (65535 * 65536) := by rw [hs2]; exact reck_up { s1 with pc := e + 1 } 2 65535
  have V2 : Vw s2 W (e + 1) o sz := by rw [hs2]; exact vw_reck V1 _ rfl 2 (65535 * 65536) (reck_up _ _ _) (by decide) (.inl (by decide)) (by decide)
  simp only [← hs2] at q2
  -- add r2
  have c1 := hc 1 _ rfl
  rw [show e + ((1 : Nat) : Int) = e + 1 by omega] at c1
  have q3 := V2.step ⟨1, false, false, 2, 2, 0, 8, 65480⟩ (by omega) c1 (by decide)
  obtain ⟨s3, hs3⟩ : ∃ s3, s3 = exec { s2 with pc := e + 1 + 1 } ⟨1, false, false, 2, 2, 0, 8, 65480⟩ := ⟨_, rfl⟩
  have E3 : (reckons { s2 with pc := e + 1 + 1 } ⟨1, false, false, 2, 2, 0, 8, 65480⟩).r = put_ s2.r 2 4294967240 := by
    rw [reck_op, alu_add]
    show put_ s2.r 2 ((at_ s2.r 2 + 65480) % 4294967296) = _
    rw [R2, put_at _ _ _ (by decide) (by rw [V1.rl]; decide)]
    rfl
  have R3 : s3.r = put_ s2.r 2 4294967240 := by rw [hs3]; exact E3
  have V3 : Vw s3 W (e + 1 + 1) o sz := by rw [hs3]; exact vw_reck V2 _ rfl 2 4294967240 E3 (by decide) (.inl (by decide)) (by decide)
  simp only [← hs3] at q3
  -- mov r3
  have c2 := hc 2 _ rfl
  rw [show e + ((2 : Nat) : Int) = e + 1 + 1 by omega] at c2
  have q4 := V3.step ⟨1, false, false, 3, 0, 0, 0, mk⟩ (by omega) c2 (code_g2 mk hm hm')
  obtain ⟨s4, hs4⟩ : ∃ s4, s4 = exec { s3 with pc := e + 1 + 1 + 1 } ⟨1, false, false, 3, 0, 0, 0, mk⟩ := ⟨_, rfl⟩
  have E4 : (reckons { s3 with pc := e + 1 + 1 + 1 } ⟨1, false, false, 3, 0, 0, 0, mk⟩).r = put_ s3.r 3 mk := by rw [reck_op, alu_mov]
  have R4 : s4.r = put_ s3.r 3 mk := by rw [hs4]; exact E4
  have V4 : Vw s4 W (e + 1 + 1 + 1) o sz := by rw [hs4]; exact vw_reck V3 _ rfl 3 mk E4 (by decide) (.inl (by decide)) (by decide)
  simp only [← hs4] at q4
  -- the store to the port
  have c3 := hc 3 _ rfl
  rw [show e + ((3 : Nat) : Int) = e + 1 + 1 + 1 by omega] at c3
  have q5 := V4.step ⟨2, true, false, 3, 2, 0, 0, 0⟩ (by omega) c3 (by decide)
  have a2 : at_ s4.r 2 = 4294967240 := by
    rw [R4, put_ne _ _ _ _ (by decide) (by decide) (by decide), R3, put_at _ _ _ (by decide) (by rw [V2.rl]; decide)]
  have a3 : at_ s4.r 3 = mk := by rw [R4, put_at _ _ _ (by decide) (by rw [V3.rl]; decide)]
  have e5 : exec { s4 with pc := e + 1 + 1 + 1 + 1 } ⟨2, true, false, 3, 2, 0, 0, 0⟩ = { s4 with pc := e + 1 + 1 + 1 + 1, out := s4.out ++ [mk] } := by
    show moves { s4 with pc := e + 1 + 1 + 1 + 1 } ⟨2, true, false, 3, 2, 0, 0, 0⟩ = _
    unfold moves
    rw [if_pos (by rfl)]
    show stores { s4 with pc := e + 1 + 1 + 1 + 1 } ((at_ s4.r 2 + 0) % 4294967296) (at_ s4.r 3) false = _
    rw [a2, a3]
    unfold stores
    rw [if_pos (by decide), if_neg (by show ¬ s4.out.length = 4096; rw [V4.out]; omega), show mk % 256 = mk by omega]
  rw [e5] at q5
  obtain ⟨s5, hs5⟩ : ∃ s5, s5 = ({ s4 with pc := e + 1 + 1 + 1 + 1, out := s4.out ++ [mk] } : St) := ⟨_, rfl⟩
  rw [← hs5] at q5
  have V5 : Vw s5 W (e + 1 + 1 + 1 + 1) (o ++ [mk]) sz := by
    rw [hs5]
    exact ⟨V4.mem, rfl, by show s4.out ++ [mk] = _; rw [V4.out], V4.en, V4.tr, V4.rd, V4.rl, V4.r14⟩
  -- back
  have c4 := hc 4 _ rfl
  rw [show e + ((4 : Nat) : Int) = e + 1 + 1 + 1 + 1 by omega] at c4
  have q6 := V5.step ⟨3, false, false, 7, 0, 15, 0, 0⟩ (by omega) c4 (by decide)
  have a15 : at_ s5.r 15 = (10 + i + 1) * 4 := by
    rw [hs5]
    show at_ s4.r 15 = _
    rw [R4, put_ne _ _ _ _ (by decide) (by decide) (by decide), R3, put_ne _ _ _ _ (by decide) (by decide) (by decide), R2, put_ne _ _ _ _ (by decide) (by decide) (by decide)]
    exact L1
  have e6 : exec { s5 with pc := e + 1 + 1 + 1 + 1 + 1 } ⟨3, false, false, 7, 0, 15, 0, 0⟩ = { s5 with pc := 10 + i + 1 } := by
    show jumps { s5 with pc := e + 1 + 1 + 1 + 1 + 1 } ⟨3, false, false, 7, 0, 15, 0, 0⟩ = _
    unfold jumps
    rw [if_pos (by rfl)]
    show ({ s5 with pc := at_ s5.r 15 / 4 } : St) = _
    rw [a15, show (10 + i + 1) * 4 / 4 = 10 + i + 1 by omega]
  rw [e6] at q6
  refine ⟨{ s5 with pc := 10 + i + 1 }, ⟨V5.mem, rfl, V5.out, V5.en, V5.tr, V5.rd, V5.rl, V5.r14⟩, fun n => ?_⟩
  have k1 := q1 (n + 5); have k2 := q2 (n + 4); have k3 := q3 (n + 3); have k4 := q4 (n + 2); have k5 := q5 (n + 1); have k6 := q6 n
  refine ⟨k1.1.trans (k2.1.trans (k3.1.trans (k4.1.trans (k5.1.trans k6.1)))), ?_⟩
  have w1 : steps (n + 6) s = steps (n + 5) s1 + 1 := k1.2
  have w2 : steps (n + 5) s1 = steps (n + 4) s2 + 1 := k2.2
  have w3 : steps (n + 4) s2 = steps (n + 3) s3 + 1 := k3.2
  have w4 : steps (n + 3) s3 = steps (n + 2) s4 + 1 := k4.2
  have w5 : steps (n + 2) s4 = steps (n + 1) s5 + 1 := k5.2
  have w6 : steps (n + 1) s5 = steps n { s5 with pc := 10 + i + 1 } + 1 := k6.2
  omega

theorem vw_reck14 {s : St} {W : List Int} {p : Int} {o : List Int} {sz v : Int} (h : Vw s W p o sz) (x : I) (hf : x.f = 1) (hr : (reckons { s with pc := p + 1 } x).r = put_ s.r 14 v) :
    Vw (exec { s with pc := p + 1 } x) W (p + 1) o v := by
  have e : exec { s with pc := p + 1 } x = reckons { s with pc := p + 1 } x := by unfold exec; rw [if_neg (by rw [hf]; decide), if_neg (by rw [hf]; decide)]
  rw [e]
  obtain ⟨k1, k2, k3, k4, k5, k6, k7⟩ := reck_keep { s with pc := p + 1 } x
  refine ⟨k1.trans h.mem, k7, k4.trans h.out, k5.trans h.en, k6.trans h.tr, k3.trans h.rd, ?_, ?_⟩
  · rw [hr]; simp [put_, h.rl]
  · rw [hr, put_at _ _ _ (by decide) (by rw [h.rl]; decide)]

theorem image_loop {W : List Int} {es marks : List Int} {sz : Int} (hn : marks.length ≤ 16) (hes : es.length = marks.length) (he : ∀ i (hi : i < es.length), 0 ≤ es[i] ∧ es[i] < 65000 ∧ es[i] + 5 ≤ W.length)
    (hm : ∀ x ∈ marks, 0 ≤ x ∧ x < 256) (hl : 10 + (marks.length : Int) ≤ W.length) (hj : ∀ i (hi : i < es.length), at_ W (10 + (i : Int)) = encI (jumpI (10 + (i : Int)) es[i]))
    (hc : ∀ i (hi : i < es.length) (hi' : i < marks.length) (k : Nat) x, (codeI marks[i])[k]? = some x → at_ W (es[i] + k) = encI x) :
    ∀ (d i : Nat) (s : St), marks.length - i = d → i ≤ marks.length → Vw s W (10 + (i : Int)) (marks.take i) sz → ∃ t, Vw t W (10 + (marks.length : Int)) marks sz ∧ ∀ n, runs (n + 6 * d) s = runs n t ∧ steps (n + 6 * d) s = steps n t + 6 * d
  | 0, i, s, hd, hi, h => by
    obtain rfl : i = marks.length := by omega
    rw [List.take_length] at h
    exact ⟨s, h, fun n => ⟨rfl, rfl⟩⟩
  | d + 1, i, s, hd, hi, h => by
    have hlt : i < marks.length := by omega
    have hlt' : i < es.length := by omega
    obtain ⟨e0, e1, e2⟩ := he i hlt'
    obtain ⟨m0, m1⟩ := hm _ (List.getElem_mem hlt)
    obtain ⟨t, ht, hr⟩ := entry_round h (by omega) (by omega) e0 e1 (hj i hlt') (by omega) m0 m1 (hc i hlt' hlt) e2 (by rw [List.length_take]; omega)
    have h2 : Vw t W (10 + ((i + 1 : Nat) : Int)) (marks.take (i + 1)) sz := by
      rw [List.take_succ_eq_append_getElem hlt]
      have e : (10 : Int) + ((i + 1 : Nat) : Int) = 10 + (i : Int) + 1 := by omega
      rw [e]
      exact ht
    obtain ⟨u, hu, hur⟩ := image_loop hn hes he hm hl hj hc d (i + 1) t (by omega) (by omega) h2
    refine ⟨u, hu, fun n => ?_⟩
    have e : n + 6 * (d + 1) = (n + 6 * d) + 6 := by omega
    rw [e]
    exact ⟨(hr _).1.trans (hur n).1, by rw [(hr _).2, (hur n).2]; omega⟩

/-- A run of what image.Boot made. -/
theorem image_run {W : List Int} {es marks : List Int} (size : Int) (h0 : 256 ≤ size) (h1 : size ≤ 65536) (hn : marks.length ≤ 16) (hes : es.length = marks.length) (he : ∀ i (hi : i < es.length), 0 ≤ es[i] ∧ es[i] < 65000 ∧ es[i] + 5 ≤ W.length)
    (hm : ∀ x ∈ marks, 0 ≤ x ∧ x < 256) (hl : 13 + (marks.length : Int) ≤ W.length) (hb : ∀ (k : Nat) x, (bootI size es)[k]? = some x → at_ W (8 + (k : Int)) = encI x)
    (hc : ∀ i (hi : i < es.length) (hi' : i < marks.length) (k : Nat) x, (codeI marks[i])[k]? = some x → at_ W (es[i] + k) = encI x) (inp : ByteArray) :
    let s := runs 1000 (st0 W 8 inp)
    s.en = 1 ∧ s.tr = 0 ∧ s.out = marks ∧ s.rd = 0 ∧ at_ s.r 14 = 4 * size ∧ steps 1000 (st0 W 8 inp) = 5 + 6 * marks.length := by
  have V0 : Vw (st0 W 8 inp) W 8 [] 0 := ⟨rfl, rfl, rfl, rfl, rfl, rfl, rfl, rfl⟩
  have b0 := hb 0 _ rfl
  have b1 := hb 1 _ rfl
  rw [show (8 : Int) + ((0 : Nat) : Int) = 8 by decide] at b0
  rw [show (8 : Int) + ((1 : Nat) : Int) = 8 + 1 by decide] at b1
  have q1 := V0.step ⟨1, true, false, 14, 0, 0, 0, 4 * size / 65536⟩ (by omega) b0 (head_good size h0 h1 _ (by simp [headI]))
  obtain ⟨s1, hs1⟩ : ∃ s1, s1 = exec { st0 W 8 inp with pc := 8 + 1 } ⟨1, true, false, 14, 0, 0, 0, 4 * size / 65536⟩ := ⟨_, rfl⟩
  have V1 : Vw s1 W (8 + 1) [] (4 * size / 65536 * 65536) := by rw [hs1]; exact vw_reck14 V0 _ rfl (reck_up _ _ _)
  simp only [← hs1] at q1
  have q2 := V1.step ⟨1, false, false, 14, 14, 0, 6, 4 * size % 65536⟩ (by omega) b1 (head_good size h0 h1 _ (by simp [headI]))
  obtain ⟨s2, hs2⟩ : ∃ s2, s2 = exec { s1 with pc := 8 + 1 + 1 } ⟨1, false, false, 14, 14, 0, 6, 4 * size % 65536⟩ := ⟨_, rfl⟩
  have E2 : (reckons { s1 with pc := 8 + 1 + 1 } ⟨1, false, false, 14, 14, 0, 6, 4 * size % 65536⟩).r = put_ s1.r 14 (4 * size) := by
    rw [reck_op, alu_ior]
    show put_ s1.r 14 (bits .or .u32 (at_ s1.r 14) (4 * size % 65536)) = _
    rw [V1.r14, or_parts (4 * size) (by omega) (by omega)]
  have V2 : Vw s2 W (8 + 1 + 1) [] (4 * size) := by rw [hs2]; exact vw_reck14 V1 _ rfl E2
  simp only [← hs2] at q2
  have hj : ∀ i (hi : i < es.length), at_ W (10 + (i : Int)) = encI (jumpI (10 + (i : Int)) es[i]) := by
    intro i hi
    have := hb (2 + i) (jumpI (10 + (i : Int)) es[i]) (by
      unfold bootI
      rw [List.getElem?_append_left (by rw [List.length_append, jumpsI_len]; show 2 + i < 2 + es.length; omega), List.getElem?_append_right (by show 2 ≤ 2 + i; omega)]
      show (jumpsI 10 es)[2 + i - 2]? = _
      rw [show 2 + i - 2 = i by omega]
      exact jumpsI_at 10 es i hi)
    rw [show (8 : Int) + ((2 + i : Nat) : Int) = 10 + (i : Int) by omega] at this
    exact this
  obtain ⟨t, V3, hr⟩ := image_loop (sz := 4 * size) hn hes he hm (by omega) hj hc marks.length 0 s2 (by omega) (Nat.zero_le _) (by simpa using V2)
  have hbt : ∀ (k : Nat) x, tailI[k]? = some x → at_ W (10 + (marks.length : Int) + k) = encI x := by
    intro k x hx
    have := hb (2 + marks.length + k) x (by
      unfold bootI
      rw [List.getElem?_append_right (by rw [List.length_append, jumpsI_len, hes]; show 2 + marks.length ≤ _; omega), List.length_append, jumpsI_len, hes]
      show tailI[2 + marks.length + k - (2 + marks.length)]? = _
      rw [show 2 + marks.length + k - (2 + marks.length) = k by omega]
      exact hx)
    rw [show (8 : Int) + ((2 + marks.length + k : Nat) : Int) = 10 + (marks.length : Int) + k by omega] at this
    exact this
  have t0 := hbt 0 _ rfl
  have t1 := hbt 1 _ rfl
  have t2 := hbt 2 _ rfl
  rw [show (10 : Int) + (marks.length : Int) + ((0 : Nat) : Int) = 10 + (marks.length : Int) by omega] at t0
  rw [show (10 : Int) + (marks.length : Int) + ((1 : Nat) : Int) = 10 + (marks.length : Int) + 1 by omega] at t1
  rw [show (10 : Int) + (marks.length : Int) + ((2 : Nat) : Int) = 10 + (marks.length : Int) + 1 + 1 by omega] at t2
  have q4 := V3.step ⟨1, true, false, 1, 0, 0, 0, 65535⟩ (by omega) t0 (by decide)
  obtain ⟨s4, hs4⟩ : ∃ s4, s4 = exec { t with pc := 10 + (marks.length : Int) + 1 } ⟨1, true, false, 1, 0, 0, 0, 65535⟩ := ⟨_, rfl⟩
  have R4 : s4.r = put_ t.r 1 (65535 * 65536) := by rw [hs4]; exact reck_up _ _ _
  have V4 : Vw s4 W (10 + (marks.length : Int) + 1) marks (4 * size) := by rw [hs4]; exact vw_reck V3 _ rfl 1 _ (reck_up _ _ _) (by decide) (.inl (by decide)) (by decide)
  simp only [← hs4] at q4
  have q5 := V4.step ⟨1, false, false, 1, 1, 0, 8, 65472⟩ (by omega) t1 (by decide)
  obtain ⟨s5, hs5⟩ : ∃ s5, s5 = exec { s4 with pc := 10 + (marks.length : Int) + 1 + 1 } ⟨1, false, false, 1, 1, 0, 8, 65472⟩ := ⟨_, rfl⟩
  have E5 : (reckons { s4 with pc := 10 + (marks.length : Int) + 1 + 1 } ⟨1, false, false, 1, 1, 0, 8, 65472⟩).r = put_ s4.r 1 4294967232 := by
    rw [reck_op, alu_add]
    show put_ s4.r 1 ((at_ s4.r 1 + 65472) % 4294967296) = _
    rw [R4, put_at _ _ _ (by decide) (by rw [V3.rl]; decide)]
    rfl
  have V5 : Vw s5 W (10 + (marks.length : Int) + 1 + 1) marks (4 * size) := by rw [hs5]; exact vw_reck V4 _ rfl 1 _ E5 (by decide) (.inl (by decide)) (by decide)
  have R5 : s5.r = put_ s4.r 1 4294967232 := by rw [hs5]; exact E5
  simp only [← hs5] at q5
  have q6 := V5.step ⟨2, true, false, 0, 1, 0, 0, 0⟩ (by omega) t2 (by decide)
  have a1 : at_ s5.r 1 = 4294967232 := by rw [R5, put_at _ _ _ (by decide) (by rw [V4.rl]; decide)]
  have e6 := port_halt { s5 with pc := 10 + (marks.length : Int) + 1 + 1 + 1 } a1
  simp only [e6] at q6
  obtain ⟨s6, hs6⟩ : ∃ s6, s6 = ({ s5 with pc := 10 + (marks.length : Int) + 1 + 1 + 1, en := 1 } : St) := ⟨_, rfl⟩
  have n6 : s6.en ≠ 0 := by rw [hs6]; show (1 : Int) ≠ 0; decide
  obtain ⟨m, hm1⟩ : ∃ m, 1000 = (((m + 1 + 1 + 1) + 6 * marks.length) + 1) + 1 := ⟨995 - 6 * marks.length, by omega⟩
  obtain ⟨z1, z2⟩ := runs_ended m s6 n6
  have k1 := q1 (((m + 1 + 1 + 1) + 6 * marks.length) + 1)
  have k2 := q2 ((m + 1 + 1 + 1) + 6 * marks.length)
  have k3 := hr (m + 1 + 1 + 1)
  have k4 := q4 (m + 1 + 1)
  have k5 := q5 (m + 1)
  have k6 := q6 m
  have hrun : runs 1000 (st0 W 8 inp) = s6 := by
    rw [hm1]
    rw [← hs6] at k6
    exact k1.1.trans (k2.1.trans (k3.1.trans (k4.1.trans (k5.1.trans (k6.1.trans z1)))))
  have hst : steps 1000 (st0 W 8 inp) = 5 + 6 * marks.length := by
    rw [hm1]
    rw [← hs6] at k6
    have w6 : steps (m + 1) s5 = 1 := by rw [k6.2, z2]
    have w5 : steps (m + 1 + 1) s4 = 2 := by rw [k5.2, w6]
    have w4 : steps (m + 1 + 1 + 1) t = 3 := by rw [k4.2, w5]
    have w3 : steps (m + 1 + 1 + 1 + 6 * marks.length) s2 = 3 + 6 * marks.length := by rw [k3.2, w4]
    have w2 : steps (m + 1 + 1 + 1 + 6 * marks.length + 1) s1 = 4 + 6 * marks.length := by rw [k2.2, w3]; omega
    rw [k1.2, w2]
    omega
  intro s
  have hs : s = s6 := hrun
  refine ⟨by rw [hs, hs6], by rw [hs, hs6]; exact V5.tr, by rw [hs, hs6]; exact V5.out, by rw [hs, hs6]; exact V5.rd, by rw [hs, hs6]; exact V5.r14, hst⟩

end M
end Go.Proofs.Ytmlmjkojhfjjlaa
