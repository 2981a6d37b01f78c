/- The plain machine: its state, a step, a run. No program in sight. -/
import Derived.Test.YtmlmjkojhfjjlaaModel
namespace Go.Proofs.Ytmlmjkojhfjjlaa
set_option linter.unusedVariables false
set_option linter.unusedSimpArgs false
namespace M

/-- A machine's state. -/
structure St where
  (r : List Int) (h : Int) (fn fz fc fv : Bool) (pc : Int) (mem : List Int) (inp : ByteArray) (rd : Int) (out : List Int) (en tr : Int)

def at_ (l : List Int) (i : Int) : Int := l.getD i.toNat 0
def put_ (l : List Int) (i v : Int) : List Int := l.set i.toNat v

def sets (s : St) (a v : Int) : St := { s with r := put_ s.r a v, fn := decide (2147483648 ≤ v), fz := decide (v = 0) }

def packed (fn fz fc fv : Bool) : Int := bit fn 2147483648 + bit fz 1073741824 + bit fc 536870912 + bit fv 268435456

/-- The word that a register instruction takes beside B. -/
def second (s : St) (x : I) : Int := if x.f = 1 then (if x.v = true then x.im + 4294901760 else x.im) else at_ s.r x.c

def reckons (s : St) (x : I) : St :=
  if x.op = 0 ∧ x.u = true ∧ x.f = 1 then sets s x.a (x.im * 65536)
  else if x.op = 0 ∧ x.u = true ∧ x.v = true then sets s x.a (packed s.fn s.fz s.fc s.fv)
  else
    let b := at_ s.r x.b
    let n := second s x
    let r := aluR x.op x.u b n s.h s.fc
    { s with r := put_ s.r x.a r, h := aluH x.op x.u b n s.h, fn := decide (2147483648 ≤ r), fz := decide (r = 0),
             fc := aluC x.op x.u b n s.fc, fv := aluV x.op x.u b n s.fc s.fv }

/-- Is the word there that a byte's place is in? -/
def there (mem : List Int) (p : Int) : Prop := p / 4 < mem.length
instance (mem : List Int) (p : Int) : Decidable (there mem p) := by unfold there; exact inferInstance
def sc (p : Int) : Int := if p % 4 = 0 then 1 else if p % 4 = 1 then 256 else if p % 4 = 2 then 65536 else 16777216
def byteAt (mem : List Int) (p : Int) : Int := at_ mem (p / 4) / sc p % 256
def putByte (mem : List Int) (p v : Int) : List Int := put_ mem (p / 4) (at_ mem (p / 4) - byteAt mem p * sc p + v % 256 * sc p)

def inAt (s : St) : Int := (s.inp.data.toList.getD s.rd.toNat 0).toNat

/-- A load's place, value and state behind the port. -/
def loads (s : St) (p a : Int) (small : Bool) : St :=
  if p = 4294967240 then (if s.rd < s.inp.size then sets { s with rd := s.rd + 1 } a (inAt s) else sets s a 0)
  else if p = 4294967244 then (if s.rd < s.inp.size then sets s a 1 else sets s a 0)
  else if small = true then (if there s.mem p then sets s a (byteAt s.mem p) else { s with en := 5 })
  else if p % 4 = 0 ∧ there s.mem p then sets s a (at_ s.mem (p / 4)) else { s with en := 5 }

def stores (s : St) (p v : Int) (small : Bool) : St :=
  if p = 4294967240 then (if s.out.length = 4096 then { s with en := 6 } else { s with out := s.out ++ [v % 256] })
  else if p = 4294967236 then { s with en := 2, tr := sg v }
  else if p = 4294967232 then { s with en := 1 }
  else if small = true then (if there s.mem p then { s with mem := putByte s.mem p v } else { s with en := 5 })
  else if p % 4 = 0 ∧ there s.mem p then { s with mem := put_ s.mem (p / 4) v } else { s with en := 5 }

def moves (s : St) (x : I) : St :=
  if x.u = true then stores s ((at_ s.r x.b + x.im) % 4294967296) (at_ s.r x.a) x.v
  else loads s ((at_ s.r x.b + x.im) % 4294967296) x.a x.v

def jumps (s : St) (x : I) : St :=
  if holds x.a s.fn s.fz s.fc s.fv = true then
    let to := if x.u = true then (s.pc + x.im) % 1073741824 else at_ s.r x.c / 4
    { s with pc := to, r := if x.v = true then put_ s.r 15 (s.pc * 4 % 4294967296) else s.r }
  else s

def step (s : St) : St :=
  if s.pc < s.mem.length then
    (if decOk (at_ s.mem s.pc) = true then
      let x := fields (at_ s.mem s.pc)
      let t := { s with pc := s.pc + 1 }
      if x.f = 2 then moves t x else if x.f = 3 then jumps t x else reckons t x
    else { s with en := 4 })
  else { s with en := 5 }

def runs : Nat → St → St
  | 0, s => s
  | k + 1, s => if s.en = 0 then runs k (step s) else s
def steps : Nat → St → Nat
  | 0, _ => 0
  | k + 1, s => if s.en = 0 then steps k (step s) + 1 else 0

end M
end Go.Proofs.Ytmlmjkojhfjjlaa
