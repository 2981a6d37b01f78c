/- The plain functions that the contracts speak of: numbers of bits, instructions as words, what the register instructions reckon. No program in sight. -/
import Derived.Laws.Entries
import Derived.Laws.BitsLemmas
namespace Go.Proofs.Ytmlmjkojhfjjlaa
set_option linter.unusedVariables false
set_option linter.unusedSimpArgs false
namespace M

/-- Is v a number of n bits in two's complement? -/
def fits (v n : Int) : Bool := decide (-(2 ^ (n - 1).toNat) ≤ v ∧ v < 2 ^ (n - 1).toNat)

/-- A word's bits from lo on. -/
def get (x lo n : Int) : Int := x / 2 ^ lo.toNat % 2 ^ n.toNat

/-- The lower n bits as a number in two's complement. -/
def ext (x n : Int) : Int := if x % 2 ^ n.toNat < 2 ^ (n - 1).toNat then x % 2 ^ n.toNat else x % 2 ^ n.toNat - 2 ^ n.toNat

def ext20 (x : Int) : Int := if x % 1048576 < 524288 then x % 1048576 else x % 1048576 - 1048576
def ext24 (x : Int) : Int := if x % 16777216 < 8388608 then x % 16777216 else x % 16777216 - 16777216

/-- The number of a word in two's complement. -/
def sg (x : Int) : Int := if x < 2147483648 then x else x - 4294967296

/-- Which instructions there are. -/
def Good (f : Int) (u v : Bool) (a b c op im : Int) : Prop :=
  (0 ≤ a ∧ a < 16 ∧ 0 ≤ b ∧ b < 16 ∧ 0 ≤ c ∧ c < 16 ∧ 0 ≤ op ∧ op ≤ 11) ∧
  ((f = 0 ∧ (u = true → op = 0 ∨ 8 ≤ op ∧ op ≤ 10) ∧ (v = true → op = 0 ∧ u = true) ∧ im = 0) ∨
   (f = 1 ∧ (u = true → op = 0 ∨ 8 ≤ op ∧ op ≤ 10) ∧ c = 0 ∧ 0 ≤ im ∧ im < 65536) ∨
   (f = 2 ∧ c = 0 ∧ op = 0 ∧ -524288 ≤ im ∧ im < 524288) ∨
   (f = 3 ∧ b = 0 ∧ op = 0 ∧ (u = true ∧ c = 0 ∧ -8388608 ≤ im ∧ im < 8388608 ∨ u = false ∧ im = 0)))

instance (f : Int) (u v : Bool) (a b c op im : Int) : Decidable (Good f u v a b c op im) := by unfold Good; exact inferInstance

def good (f : Int) (u v : Bool) (a b c op im : Int) : Bool := decide (Good f u v a b c op im)

def bit (b : Bool) (n : Int) : Int := if b = true then n else 0

/-- An instruction's word. -/
def enc (f : Int) (u v : Bool) (a b c op im : Int) : Int :=
  f * 1073741824 + bit u 536870912 + bit v 268435456 + a * 16777216 +
  (if f = 3 then (if u = true then im % 16777216 else c)
   else b * 1048576 + (if f = 2 then im % 1048576 else op * 65536 + (if f = 1 then im else c)))

/-- What Encode answers: the word and the error. -/
def encW (f : Int) (u v : Bool) (a b c op im : Int) : Int := if good f u v a b c op im = true then enc f u v a b c op im else 0
def encE (f : Int) (u v : Bool) (a b c op im : Int) : Int := if good f u v a b c op im = true then 0 else 20

/-- An instruction. -/
structure I where
  (f : Int) (u v : Bool) (a b c op im : Int)

/-- The fields of a word, whether it is an instruction or not. -/
def fields (w : Int) : I :=
  let f := w / 1073741824
  let u := decide (w / 536870912 % 2 = 1)
  let v := decide (w / 268435456 % 2 = 1)
  let a := w / 16777216 % 16
  { f := f, u := u, v := v, a := a,
    b := if f = 3 then 0 else w / 1048576 % 16,
    c := if f = 0 then w % 16 else if f = 3 ∧ u = false then w % 16 else 0,
    op := if f = 0 ∨ f = 1 then w / 65536 % 16 else 0,
    im := if f = 1 then w % 65536 else if f = 2 then ext20 w else if f = 3 ∧ u = true then ext24 w else 0 }

def goodI (x : I) : Bool := good x.f x.u x.v x.a x.b x.c x.op x.im
def encI (x : I) : Int := enc x.f x.u x.v x.a x.b x.c x.op x.im
def decOk (w : Int) : Bool := goodI (fields w) && (encI (fields w) == w)

/-- What Decode answers: the instruction (of zeros, if the word is none). -/
def dec (w : Int) : I := if decOk w = true then fields w else ⟨0, false, false, 0, 0, 0, 0, 0⟩
def decE (w : Int) : Int := if decOk w = true then 0 else 20

def carry (u c : Bool) : Int := if u = true ∧ c = true then 1 else 0

/-- The operations' word. -/
def aluR (op : Int) (u : Bool) (b n h : Int) (fc : Bool) : Int :=
  if op = 0 then (if u = true then h else n)
  else if op = 1 then b * 2 ^ (n % 32).toNat % 4294967296
  else if op = 2 then sg b / 2 ^ (n % 32).toNat % 4294967296
  else if op = 3 then b / 2 ^ (n % 32).toNat + b % 2 ^ (n % 32).toNat * 2 ^ (32 - n % 32).toNat
  else if op = 4 then Go.bits .and .u32 b n
  else if op = 5 then Go.bits .andNot .u32 b n
  else if op = 6 then Go.bits .or .u32 b n
  else if op = 7 then Go.bits .xor .u32 b n
  else if op = 8 then (b + n + carry u fc) % 4294967296
  else if op = 9 then (b - n - carry u fc) % 4294967296
  else if op = 10 then (if u = true then b * n % 4294967296 else sg b * sg n % 4294967296)
  else if 0 < sg n then sg b / sg n % 4294967296 else 0

/-- The word beside. -/
def aluH (op : Int) (u : Bool) (b n h : Int) : Int :=
  if op = 10 then (if u = true then b * n / 4294967296 else sg b * sg n / 4294967296 % 4294967296)
  else if op = 11 then (if 0 < sg n then sg b % sg n else b)
  else h

def over (n : Int) : Bool := decide (n < -2147483648 ∨ 2147483648 ≤ n)

def aluC (op : Int) (u : Bool) (b n : Int) (fc : Bool) : Bool :=
  if op = 8 then decide (4294967296 ≤ b + n + carry u fc) else if op = 9 then decide (b - n - carry u fc < 0) else fc
def aluV (op : Int) (u : Bool) (b n : Int) (fc fv : Bool) : Bool :=
  if op = 8 then over (sg b + sg n + carry u fc) else if op = 9 then over (sg b - sg n - carry u fc) else fv

/-- Does a condition hold? -/
def holds0 (c : Int) (fn fz fc fv : Bool) : Bool :=
  if c = 0 then fn else if c = 1 then fz else if c = 2 then fc else if c = 3 then fv else if c = 4 then (fc || fz)
  else if c = 5 then (fn != fv) else if c = 6 then ((fn != fv) || fz) else true
def holds (c : Int) (fn fz fc fv : Bool) : Bool := if c < 8 then holds0 c fn fz fc fv else !(holds0 (c - 8) fn fz fc fv)

end M
end Go.Proofs.Ytmlmjkojhfjjlaa
