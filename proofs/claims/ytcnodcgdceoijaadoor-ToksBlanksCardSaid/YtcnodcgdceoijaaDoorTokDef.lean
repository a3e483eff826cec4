/-
  TOKENS, in plain Lean: what a token is, its text; how a text is read as tokens. No program stands here.
-/
import Derived.Lib.ItoaLen
import Derived.Lib.IndexAny
set_option linter.unusedSimpArgs false
set_option linter.unusedVariables false
namespace Go.Abs

structure Tok where
  kind : Int
  text : List UInt8
  n : Int
  deriving DecidableEq

def I64 (n : Int) : Prop := -9223372036854775808 ≤ n ∧ n ≤ 9223372036854775807

def oneS (t : Tok) : List UInt8 :=
  if t.kind = 1 then t.text
  else if t.kind = 2 then t.text ++ [40]
  else if t.kind = 3 then 64 :: t.text
  else if t.kind = 4 then 35 :: t.text
  else if t.kind = 5 then Lib.itoa t.n ++ t.text
  else if t.kind = 6 then (if t.n = 39 then 39 :: t.text ++ [39] else 34 :: t.text ++ [34])
  else if t.kind = 7 then (if t.text = [34] ∨ t.text = [39] then t.text ++ [47, 42, 10, 42, 47] else t.text)
  else if t.kind = 8 then [10]
  else []

namespace Tk
def begins (c : UInt8) : Bool := decide (97 ≤ c.toNat ∧ c.toNat ≤ 122 ∨ 65 ≤ c.toNat ∧ c.toNat ≤ 90 ∨ c.toNat = 95 ∨ 128 ≤ c.toNat)
def digit (c : UInt8) : Bool := decide (48 ≤ c.toNat ∧ c.toNat ≤ 57)
def within (c : UInt8) : Bool := begins c || digit c || c == 45
def blank (c : UInt8) : Bool := c == 32 || c == 10 || c == 9 || c == 12 || c == 13
def ending (c : UInt8) : Bool := c == 10 || c == 12 || c == 13

/-- how many bytes in front are of a kind -/
def run (p : UInt8 → Bool) : List UInt8 → Nat
  | [] => 0
  | c :: r => if p c then run p r + 1 else 0
/-- the byte in front; 0: none is -/
def at0 : List UInt8 → UInt8
  | [] => 0
  | c :: _ => c
def nameB (l : List UInt8) : Bool := begins (at0 l) || (at0 l == 45 && (begins (at0 l.tail) || at0 l.tail == 45))
def name (l : List UInt8) : Nat := if nameB l then run within l else 0

/-- the bytes up to the end of a comment and with it -/
def shut : List UInt8 → Option Nat
  | [] => none
  | c :: r => if c = 42 ∧ at0 r = 47 then some 2 else (shut r).map (· + 1)
/-- the bytes of a string ahead of its second sign -/
def inner (q : UInt8) : List UInt8 → Option Nat
  | [] => none
  | c :: r => if c = q then some 0 else if ending c then none else (inner q r).map (· + 1)
/-- the number that the digits in front are -/
def num (n : Int) : List UInt8 → Int
  | [] => n
  | c :: r => if digit c then num (min (10 * n + (c.toNat - 48)) 999999999) r else n

def unit (l : List UInt8) : Nat := if at0 l = 37 then 1 else name l
def comment (r : List UInt8) : Nat := match shut r with | some n => n + 2 | none => r.length + 2
def numEnd (l : List UInt8) : Nat := run digit l
/-- a number, its sign known -/
def number (neg : Bool) (l : List UInt8) : Tok × Nat :=
  let e := l.drop (run digit l)
  (⟨5, e.take (unit e), if neg then - num 0 l else num 0 l⟩, run digit l + unit e)

/-- the token in front (none: a comment), and its bytes -/
def step (c : UInt8) (r : List UInt8) : Option Tok × Nat :=
  if c = 47 ∧ at0 r = 42 then (none, comment r.tail)
  else if blank c then (some ⟨8, [10], 0⟩, run blank (c :: r))
  else if (c = 34 ∨ c = 39) ∧ (inner c r).isSome then (some ⟨6, r.take ((inner c r).getD 0), c.toNat⟩, (inner c r).getD 0 + 2)
  else if c = 35 ∧ 0 < run within r then (some ⟨4, r.take (run within r), 0⟩, run within r + 1)
  else if c = 64 ∧ 0 < name r then (some ⟨3, r.take (name r), 0⟩, name r + 1)
  else if digit c then (some (number false (c :: r)).1, (number false (c :: r)).2)
  else if c = 45 ∧ digit (at0 r) then (some (number true r).1, (number true r).2 + 1)
  else if 0 < name (c :: r) then
    if at0 ((c :: r).drop (name (c :: r))) = 40 then (some ⟨2, (c :: r).take (name (c :: r)), 0⟩, name (c :: r) + 1)
    else (some ⟨1, (c :: r).take (name (c :: r)), 0⟩, name (c :: r))
  else (some ⟨7, [c], 0⟩, 1)

def allN : Nat → List UInt8 → List Tok
  | 0, _ => []
  | _, [] => []
  | k + 1, c :: r => (step c r).1.toList ++ allN k ((c :: r).drop (step c r).2)
/-- the tokens of a text -/
def all (l : List UInt8) : List Tok := allN l.length l
def may (t : Tok) : Bool := decide (all (oneS t) = [t])
def apart (a b : Tok) : Bool := decide (all (oneS a ++ oneS b) ≠ [a, b]) || oneS a ++ oneS b == [60, 47]
/-- the text of tokens behind one -/
def rest (a : Tok) : List Tok → List UInt8
  | [] => []
  | b :: l => (if apart a b then [47, 42, 42, 47] else []) ++ (oneS b ++ rest b l)
def text : List Tok → List UInt8
  | [] => []
  | a :: l => oneS a ++ rest a l
end Tk
end Go.Abs
