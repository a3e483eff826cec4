/-
  TOKENS, in plain Lean: what a token is, its text; how a text is read as tokens. No program stands here.
  VALUES (blocks within blocks), in plain Lean: what a value is; how tokens are read as values; how values are told flat. No program stands here.
  VALUES, in plain Lean: what was read is told flat and read again as it was. No program stands here.
  TOKENS, in plain Lean: which tokens a text is read as; tokens that may be are read again as they were. No program stands here.
  TOKENS, in plain Lean: tokens that may be are read again as they were (ToksBack, ToksTwo, ToksBlanks). No program stands here.
  TOKENS, in plain Lean: the texts of tokens are read as these (ToksBack, ToksTwo, ToksBlanks). No program stands here.
  TOKENS, in plain Lean: what each token has (ToksParts); two texts, and a comment between (ToksBoth). No program stands here.
  TOKENS, in plain Lean: how long their texts are. No program stands here.
-/
import Derived.Lib.ItoaLen
import Derived.Lib.IndexAny
set_option linter.unusedSimpArgs false
set_option linter.unusedVariables false
namespace Go.Abs

structure Tok where
  kind : Int
  text : List UInt8
  n : Int
  deriving DecidableEq

def I64 (n : Int) : Prop := -9223372036854775808 ≤ n ∧ n ≤ 9223372036854775807

def oneS (t : Tok) : List UInt8 :=
  if t.kind = 1 then t.text
  else if t.kind = 2 then t.text ++ [40]
  else if t.kind = 3 then 64 :: t.text
  else if t.kind = 4 then 35 :: t.text
  else if t.kind = 5 then Lib.itoa t.n ++ t.text
  else if t.kind = 6 then (if t.n = 39 then 39 :: t.text ++ [39] else 34 :: t.text ++ [34])
  else if t.kind = 7 then (if t.text = [34] ∨ t.text = [39] then t.text ++ [47, 42, 10, 42, 47] else t.text)
  else if t.kind = 8 then [10]
  else []

namespace Tk
def begins (c : UInt8) : Bool := decide (97 ≤ c.toNat ∧ c.toNat ≤ 122 ∨ 65 ≤ c.toNat ∧ c.toNat ≤ 90 ∨ c.toNat = 95 ∨ 128 ≤ c.toNat)
def digit (c : UInt8) : Bool := decide (48 ≤ c.toNat ∧ c.toNat ≤ 57)
def within (c : UInt8) : Bool := begins c || digit c || c == 45
def blank (c : UInt8) : Bool := c == 32 || c == 10 || c == 9 || c == 12 || c == 13
def ending (c : UInt8) : Bool := c == 10 || c == 12 || c == 13

/-- how many bytes in front are of a kind -/
def run (p : UInt8 → Bool) : List UInt8 → Nat
  | [] => 0
  | c :: r => if p c then run p r + 1 else 0
/-- the byte in front; 0: none is -/
def at0 : List UInt8 → UInt8
  | [] => 0
  | c :: _ => c
def nameB (l : List UInt8) : Bool := begins (at0 l) || (at0 l == 45 && (begins (at0 l.tail) || at0 l.tail == 45))
def name (l : List UInt8) : Nat := if nameB l then run within l else 0

/-- the bytes up to the end of a comment and with it -/
def shut : List UInt8 → Option Nat
  | [] => none
  | c :: r => if c = 42 ∧ at0 r = 47 then some 2 else (shut r).map (· + 1)
/-- the bytes of a string ahead of its second sign -/
def inner (q : UInt8) : List UInt8 → Option Nat
  | [] => none
  | c :: r => if c = q then some 0 else if ending c then none else (inner q r).map (· + 1)
/-- the number that the digits in front are -/
def num (n : Int) : List UInt8 → Int
  | [] => n
  | c :: r => if digit c then num (min (10 * n + (c.toNat - 48)) 999999999) r else n

def unit (l : List UInt8) : Nat := if at0 l = 37 then 1 else name l
def comment (r : List UInt8) : Nat := match shut r with | some n => n + 2 | none => r.length + 2
def numEnd (l : List UInt8) : Nat := run digit l
/-- a number, its sign known -/
def number (neg : Bool) (l : List UInt8) : Tok × Nat :=
  let e := l.drop (run digit l)
  (⟨5, e.take (unit e), if neg then - num 0 l else num 0 l⟩, run digit l + unit e)

/-- the token in front (none: a comment), and its bytes -/
def step (c : UInt8) (r : List UInt8) : Option Tok × Nat :=
  if c = 47 ∧ at0 r = 42 then (none, comment r.tail)
  else if blank c then (some ⟨8, [10], 0⟩, run blank (c :: r))
  else if (c = 34 ∨ c = 39) ∧ (inner c r).isSome then (some ⟨6, r.take ((inner c r).getD 0), c.toNat⟩, (inner c r).getD 0 + 2)
  else if c = 35 ∧ 0 < run within r then (some ⟨4, r.take (run within r), 0⟩, run within r + 1)
  else if c = 64 ∧ 0 < name r then (some ⟨3, r.take (name r), 0⟩, name r + 1)
  else if digit c then (some (number false (c :: r)).1, (number false (c :: r)).2)
  else if c = 45 ∧ digit (at0 r) then (some (number true r).1, (number true r).2 + 1)
  else if 0 < name (c :: r) then
    if at0 ((c :: r).drop (name (c :: r))) = 40 then (some ⟨2, (c :: r).take (name (c :: r)), 0⟩, name (c :: r) + 1)
    else (some ⟨1, (c :: r).take (name (c :: r)), 0⟩, name (c :: r))
  else (some ⟨7, [c], 0⟩, 1)

def allN : Nat → List UInt8 → List Tok
  | 0, _ => []
  | _, [] => []
  | k + 1, c :: r => (step c r).1.toList ++ allN k ((c :: r).drop (step c r).2)
/-- the tokens of a text -/
def all (l : List UInt8) : List Tok := allN l.length l
def may (t : Tok) : Bool := decide (all (oneS t) = [t])
def apart (a b : Tok) : Bool := decide (all (oneS a ++ oneS b) ≠ [a, b]) || oneS a ++ oneS b == [60, 47]
/-- the text of tokens behind one -/
def rest (a : Tok) : List Tok → List UInt8
  | [] => []
  | b :: l => (if apart a b then [47, 42, 42, 47] else []) ++ (oneS b ++ rest b l)
def text : List Tok → List UInt8
  | [] => []
  | a :: l => oneS a ++ rest a l
end Tk
end Go.Abs

namespace Go.Abs

/-- the kind of the block whose first token one is; 0: none -/
def opensL (k : Int) (s : List UInt8) (n : Int) : Int :=
  if k = 2 then 5 else if k = 7 ∧ n = 0 then (if s = [40] then 2 else if s = [91] then 3 else if s = [123] then 4 else 0) else 0

inductive Val where
  | mk (kind : Int) (tok : Tok) (l : List Val)

namespace Ne

def opens (t : Tok) : Int := opensL t.kind t.text t.n
def openC (k : Int) : UInt8 := if k = 2 then 40 else if k = 3 then 91 else 123
def closeC (k : Int) : UInt8 := if k = 3 then 93 else if k = 4 then 125 else 41
def openT (k : Int) : Tok := ⟨7, [openC k], 0⟩
def closeT (k : Int) : Tok := ⟨7, [closeC k], 0⟩
def tok0 : Tok := ⟨0, [], 0⟩
def isLast (kind : Int) (t : Tok) : Bool := decide (0 < kind) && decide (t = closeT kind)

/-- values up to the last token of a kind (0: to the end), with so many levels left; none: they lie too deep -/
def untilF (kind : Int) : Nat → Nat → List Tok → Option (List Val × List Tok)
  | 0, _, l => some ([], l)
  | _ + 1, _, [] => some ([], [])
  | f + 1, left, t :: l =>
    if isLast kind t then some ([], l)
    else if opens t = 0 then (untilF kind f left l).map fun r => (.mk 1 t [] :: r.1, r.2)
    else
      match left with
      | 0 => none
      | n + 1 =>
        match untilF (opens t) f n l with
        | none => none
        | some x => (untilF kind f (n + 1) x.2).map fun r => (.mk (opens t) (if opens t = 5 then t else tok0) x.1 :: r.1, r.2)

def until_ (kind : Int) (left : Nat) (l : List Tok) : Option (List Val × List Tok) := untilF kind (l.length + 1) left l
/-- the values of tokens; none: they lie too deep -/
def parse (left : Nat) (l : List Tok) : Option (List Val) := (until_ 0 left l).map (·.1)

mutual
def flatV : Val → List Tok
  | .mk k t l => if k = 1 then [t] else if k = 5 then t :: (flat l ++ [closeT 5]) else if 2 ≤ k ∧ k ≤ 4 then openT k :: (flat l ++ [closeT k]) else []
def flat : List Val → List Tok
  | [] => []
  | v :: l => flatV v ++ flat l
end

mutual
def depthV : Val → Nat
  | .mk k _ l => if 2 ≤ k ∧ k ≤ 5 then depth l + 1 else 0
def depth : List Val → Nat
  | [] => 0
  | v :: l => max (depthV v) (depth l)
end

mutual
def sizeV : Val → Nat
  | .mk _ _ l => size l + 1
def size : List Val → Nat
  | [] => 0
  | v :: l => sizeV v + size l
end

mutual
def sameV : Val → Val → Bool
  | .mk k t l, .mk k' t' l' => k == k' && decide (t = t') && same l l'
def same : List Val → List Val → Bool
  | [], [] => true
  | v :: l, v' :: l' => sameV v v' && same l l'
  | _, _ => false
end

/- may values stand where a kind of blocks goes on? -/
mutual
def goodV : Int → Val → Bool
  | kind, .mk k t l => (k == 1 && !isLast kind t && opens t == 0 && l.isEmpty) || (decide (2 ≤ k ∧ k ≤ 4) && decide (t = tok0) && good k l) || (k == 5 && t.kind == 2 && good 5 l)
def good : Int → List Val → Bool
  | _, [] => true
  | kind, v :: l => goodV kind v && good kind l
end

/-- may values be? -/
def may (left : Nat) (mayT : Tok → Bool) (l : List Val) : Bool := (flat l).all mayT && (match parse left (flat l) with | some w => same w l | none => false)

/- how many of so many values are left; below 0: there were more, or they lie deeper -/
mutual
def fewV : Int → Int → Val → Int
  | deep, left, .mk _ _ l => if 0 ≤ left ∧ l.isEmpty = false then (if deep < 1 then -1 else fewL deep left l) else left
def fewL : Int → Int → List Val → Int
  | _, left, [] => left
  | deep, left, .mk k t l :: r => if left < 0 then left else if 100 < t.text.length then -1 else fewL deep (fewV (deep - 1) (left - 1) (.mk k t l)) r
end
def few (deep left : Int) (l : List Val) : Int := if deep < 1 then -1 else fewL deep left l
end Ne
end Go.Abs

namespace Go.Abs.Ne
open Go

theorem opens_vals (t : Tok) : opens t = 0 ∨ opens t = 2 ∨ opens t = 3 ∨ opens t = 4 ∨ opens t = 5 := by
  unfold opens opensL
  repeat' split
  all_goals simp
theorem opens_five {t : Tok} : opens t = 5 ↔ t.kind = 2 := by
  unfold opens opensL
  constructor
  · intro h
    by_cases h2 : t.kind = 2
    · exact h2
    · rw [if_neg h2] at h
      repeat' split at h
      all_goals omega
  · intro h; rw [if_pos h]
theorem opens_open {k : Int} (h : 2 ≤ k ∧ k ≤ 4) : opens (openT k) = k := by
  have : k = 2 ∨ k = 3 ∨ k = 4 := by omega
  rcases this with rfl | rfl | rfl <;> decide
theorem opens_eq {t : Tok} {k : Int} (h : opens t = k) (hk : 2 ≤ k ∧ k ≤ 4) : t = openT k := by
  obtain ⟨a, s, n⟩ := t
  unfold opens opensL at h
  simp only at h
  by_cases h2 : a = 2
  · rw [if_pos h2] at h; omega
  rw [if_neg h2] at h
  by_cases h7 : a = 7 ∧ n = 0
  · obtain ⟨rfl, rfl⟩ := h7
    rw [if_pos ⟨rfl, rfl⟩] at h
    by_cases e1 : s = [40]
    · rw [if_pos e1] at h; subst h; subst e1; rfl
    rw [if_neg e1] at h
    by_cases e2 : s = [91]
    · rw [if_pos e2] at h; subst h; subst e2; rfl
    rw [if_neg e2] at h
    by_cases e3 : s = [123]
    · rw [if_pos e3] at h; subst h; subst e3; rfl
    rw [if_neg e3] at h; omega
  · rw [if_neg h7] at h; omega
theorem last_close {k : Int} (h : 0 < k) : isLast k (closeT k) = true := by simp [isLast, h]
theorem close_opens (k : Int) : opens (closeT k) = 0 := by
  unfold closeT closeC
  repeat' split
  all_goals decide
theorem last_open {kind k : Int} : isLast kind (openT k) = false := by
  unfold isLast closeT closeC openT openC
  repeat' split
  all_goals simp
theorem last_five {kind : Int} {t : Tok} (h : t.kind = 2) : isLast kind t = false := by
  unfold isLast closeT
  by_cases e : t = ⟨7, [closeC kind], 0⟩
  · rw [e] at h; simp at h
  · simp [e]
theorem last_zero (t : Tok) : isLast 0 t = false := by simp [isLast]

theorem untilF_fuel : ∀ (f f' : Nat) (kind : Int) (left : Nat) (l : List Tok), l.length < f → l.length < f' →
    untilF kind f left l = untilF kind f' left l ∧ ∀ x, untilF kind f left l = some x → x.2.length ≤ l.length := by
  intro f
  induction f with
  | zero => intro f' kind left l h; omega
  | succ f ih =>
    intro f' kind left l h h'
    cases f' with
    | zero => omega
    | succ f' =>
    cases l with
    | nil => simp [untilF]
    | cons t l =>
      simp only [List.length_cons] at h h' ⊢
      unfold untilF
      by_cases h1 : isLast kind t = true
      · rw [if_pos h1, if_pos h1]
        exact ⟨rfl, fun x hx => by cases hx; simp⟩
      rw [if_neg h1, if_neg h1]
      by_cases h2 : opens t = 0
      · rw [if_pos h2, if_pos h2]
        obtain ⟨e, hl⟩ := ih f' kind left l (by omega) (by omega)
        rw [e] at hl ⊢
        refine ⟨rfl, fun x hx => ?_⟩
        obtain ⟨y, hy, rfl⟩ := Option.map_eq_some_iff.1 hx
        have := hl y hy
        simp only; omega
      rw [if_neg h2, if_neg h2]
      cases left with
      | zero => exact ⟨rfl, fun x hx => by cases hx⟩
      | succ n =>
        simp only
        obtain ⟨e, hl⟩ := ih f' (opens t) n l (by omega) (by omega)
        rw [e] at hl ⊢
        cases hu : untilF (opens t) f' n l with
        | none => exact ⟨rfl, fun x hx => by cases hx⟩
        | some y =>
          simp only
          have hy := hl y hu
          obtain ⟨e2, hl2⟩ := ih f' kind (n + 1) y.2 (by omega) (by omega)
          rw [e2] at hl2 ⊢
          refine ⟨rfl, fun x hx => ?_⟩
          obtain ⟨z, hz, rfl⟩ := Option.map_eq_some_iff.1 hx
          have := hl2 z hz
          simp only; omega

theorem untilF_eq {f : Nat} {kind : Int} {left : Nat} {l : List Tok} (h : l.length < f) : untilF kind f left l = until_ kind left l :=
  (untilF_fuel f (l.length + 1) kind left l h (by omega)).1
theorem until_len {kind : Int} {left : Nat} {l : List Tok} {x : List Val × List Tok} (h : until_ kind left l = some x) : x.2.length ≤ l.length :=
  (untilF_fuel (l.length + 1) (l.length + 1) kind left l (by omega) (by omega)).2 x h

theorem until_nil (kind : Int) (left : Nat) : until_ kind left [] = some ([], []) := rfl
theorem until_cons (kind : Int) (left : Nat) (t : Tok) (l : List Tok) : until_ kind left (t :: l) =
    if isLast kind t then some ([], l)
    else if opens t = 0 then (until_ kind left l).map fun r => (.mk 1 t [] :: r.1, r.2)
    else match left with
      | 0 => none
      | n + 1 => match until_ (opens t) n l with
        | none => none
        | some x => (until_ kind (n + 1) x.2).map fun r => (.mk (opens t) (if opens t = 5 then t else tok0) x.1 :: r.1, r.2) := by
  show untilF kind (l.length + 1 + 1) left (t :: l) = _
  rw [untilF.eq_def]
  simp only
  split
  · rfl
  split
  · rw [untilF_eq (by omega)]
  cases left with
  | zero => rfl
  | succ n =>
    simp only
    rw [untilF_eq (by omega)]
    cases hu : until_ (opens t) n l with
    | none => rfl
    | some x =>
      simp only
      rw [untilF_eq (by have := until_len hu; omega)]

/-- what was read may stand, is not too deep, and told flat it is what was there, but for last tokens -/
theorem until_good : ∀ (m : Nat) (kind : Int) (left : Nat) (l : List Tok) (vs : List Val) (rest : List Tok), l.length ≤ m → 0 ≤ kind → until_ kind left l = some (vs, rest) →
    good kind vs = true ∧ depth vs ≤ left ∧ size vs + rest.length ≤ l.length ∧ ((0 < kind ∧ l = flat vs ++ closeT kind :: rest) ∨ (rest = [] ∧ ∃ c : List Int, flat vs = l ++ c.map closeT)) := by
  intro m
  induction m with
  | zero =>
    intro kind left l vs rest hl hk h
    cases l with
    | nil => rw [until_nil] at h; cases h; exact ⟨rfl, Nat.zero_le _, Nat.le_refl _, .inr ⟨rfl, [], rfl⟩⟩
    | cons t l => simp at hl
  | succ m ih =>
    intro kind left l vs rest hl hk h
    cases l with
    | nil => rw [until_nil] at h; cases h; exact ⟨rfl, Nat.zero_le _, Nat.le_refl _, .inr ⟨rfl, [], rfl⟩⟩
    | cons t l =>
      simp only [List.length_cons] at hl
      rw [until_cons] at h
      by_cases h1 : isLast kind t = true
      · rw [if_pos h1] at h
        cases h
        simp [isLast] at h1
        exact ⟨rfl, Nat.zero_le _, by simp [size], .inl ⟨h1.1, by rw [h1.2]; rfl⟩⟩
      rw [if_neg h1] at h
      by_cases h2 : opens t = 0
      · rw [if_pos h2] at h
        obtain ⟨y, hy, e⟩ := Option.map_eq_some_iff.1 h
        obtain ⟨ys, yr⟩ := y
        cases e
        obtain ⟨g1, g2, g3, g4⟩ := ih kind left l ys yr (by omega) hk hy
        refine ⟨?_, ?_, ?_, ?_⟩
        · simp [good, goodV, g1, h1, h2]
        · simp [depth, depthV, g2]
        · simp only [size, sizeV, List.length_cons]; omega
        · rcases g4 with ⟨a, b⟩ | ⟨a, c, b⟩
          · exact .inl ⟨a, by simp [flat, flatV]; exact b⟩
          · exact .inr ⟨a, c, by simp [flat, flatV, b]⟩
      rw [if_neg h2] at h
      cases left with
      | zero => cases h
      | succ n =>
        simp only at h
        cases hu : until_ (opens t) n l with
        | none => rw [hu] at h; cases h
        | some x =>
          rw [hu] at h
          simp only at h
          obtain ⟨xs, xr⟩ := x
          obtain ⟨y, hy, e⟩ := Option.map_eq_some_iff.1 h
          obtain ⟨ys, yr⟩ := y
          cases e
          have hxl := until_len hu
          simp only at hy hxl
          have hko : 0 ≤ opens t := by rcases opens_vals t with h | h | h | h | h <;> omega
          obtain ⟨f1, f2, f3, f4⟩ := ih (opens t) n l xs xr (by omega) hko hu
          obtain ⟨g1, g2, g3, g4⟩ := ih kind (n + 1) xr ys yr (by omega) hk hy
          have hfl : flatV (.mk (opens t) (if opens t = 5 then t else tok0) xs) = t :: (flat xs ++ [closeT (opens t)]) := by
            rcases opens_vals t with h | h | h | h | h
            · exact absurd h h2
            · rw [h, opens_eq h (by omega)]; rfl
            · rw [h, opens_eq h (by omega)]; rfl
            · rw [h, opens_eq h (by omega)]; rfl
            · rw [h]; rfl
          refine ⟨?_, ?_, ?_, ?_⟩
          · have : goodV kind (.mk (opens t) (if opens t = 5 then t else tok0) xs) = true := by
              rcases opens_vals t with h | h | h | h | h
              · exact absurd h h2
              · rw [h] at f1 ⊢; simp [goodV, f1]
              · rw [h] at f1 ⊢; simp [goodV, f1]
              · rw [h] at f1 ⊢; simp [goodV, f1]
              · rw [h] at f1 ⊢; simp [goodV, f1, opens_five.1 h]
            simp [good, this, g1]
          · have : 2 ≤ opens t ∧ opens t ≤ 5 := by rcases opens_vals t with h | h | h | h | h <;> omega
            simp only [depth, depthV, if_pos this]
            omega
          · simp only [size, sizeV, List.length_cons]
            omega
          · rcases f4 with ⟨a, b⟩ | ⟨a, c, b⟩
            · rcases g4 with ⟨a', b'⟩ | ⟨a', c', b'⟩
              · refine .inl ⟨a', ?_⟩
                rw [flat, hfl, b, b']
                simp
              · refine .inr ⟨a', c', ?_⟩
                rw [flat, hfl, b, b']
                simp
            · subst a
              rw [until_nil] at hy
              cases hy
              refine .inr ⟨rfl, c ++ [opens t], ?_⟩
              rw [flat, hfl, b]
              simp [flat]

mutual
theorem untilV_flat : ∀ (v : Val) (kind : Int) (left : Nat) (l : List Tok), goodV kind v = true →
    until_ kind left (flatV v ++ l) = if depthV v ≤ left then (until_ kind left l).map fun r => (v :: r.1, r.2) else none
  | .mk k t vs, kind, left, l, h => by
    simp only [goodV, Bool.or_eq_true, Bool.and_eq_true, beq_iff_eq, Bool.not_eq_true', decide_eq_true_eq, List.isEmpty_iff] at h
    rcases h with (⟨⟨⟨rfl, h1⟩, h2⟩, rfl⟩ | ⟨⟨hk, rfl⟩, hg⟩) | ⟨⟨rfl, ht⟩, hg⟩
    · have e : flatV (.mk 1 t []) = [t] := rfl
      have d : depthV (.mk 1 t []) = 0 := rfl
      rw [e, d, if_pos (Nat.zero_le _), List.singleton_append, until_cons, h1, if_neg (by simp), if_pos h2]
    · have e : flatV (.mk k tok0 vs) = openT k :: (flat vs ++ [closeT k]) := by
        simp only [flatV]; rw [if_neg (by omega), if_neg (by omega), if_pos hk]
      have d : depthV (.mk k tok0 vs) = depth vs + 1 := by simp only [depthV]; rw [if_pos (by omega)]
      have ho := opens_open hk
      rw [e, d, List.cons_append, until_cons, last_open, if_neg (by simp), ho, if_neg (show ¬ k = 0 by omega), if_neg (show ¬ k = 5 by omega)]
      cases left with
      | zero => rw [if_neg (show ¬ depth vs + 1 ≤ 0 by omega)]
      | succ n =>
        simp only
        rw [List.append_assoc, List.singleton_append, until_flat vs k n _ hg]
        by_cases hd : depth vs ≤ n
        · rw [if_pos hd, if_pos (show depth vs + 1 ≤ n + 1 by omega), until_cons, last_close (by omega), if_pos rfl]
          simp only [Option.map_some, List.append_nil]
        · rw [if_neg hd, if_neg (show ¬ depth vs + 1 ≤ n + 1 by omega)]
    · have e : flatV (.mk 5 t vs) = t :: (flat vs ++ [closeT 5]) := rfl
      have d : depthV (.mk 5 t vs) = depth vs + 1 := rfl
      have ho : opens t = 5 := opens_five.2 ht
      rw [e, d, List.cons_append, until_cons, last_five ht, if_neg (by simp), ho, if_neg (show ¬ (5 : Int) = 0 by omega), if_pos (show (5 : Int) = 5 from rfl)]
      cases left with
      | zero => rw [if_neg (show ¬ depth vs + 1 ≤ 0 by omega)]
      | succ n =>
        simp only
        rw [List.append_assoc, List.singleton_append, until_flat vs 5 n _ hg]
        by_cases hd : depth vs ≤ n
        · rw [if_pos hd, if_pos (show depth vs + 1 ≤ n + 1 by omega), until_cons, last_close (by omega), if_pos rfl]
          simp only [Option.map_some, List.append_nil]
        · rw [if_neg hd, if_neg (show ¬ depth vs + 1 ≤ n + 1 by omega)]
theorem until_flat : ∀ (vs : List Val) (kind : Int) (left : Nat) (l : List Tok), good kind vs = true →
    until_ kind left (flat vs ++ l) = if depth vs ≤ left then (until_ kind left l).map fun r => (vs ++ r.1, r.2) else none
  | [], kind, left, l, _ => by
    simp [flat, depth]
  | v :: vs, kind, left, l, h => by
    simp only [good, Bool.and_eq_true] at h
    rw [flat, List.append_assoc, untilV_flat v kind left _ h.1, until_flat vs kind left l h.2, depth]
    by_cases h1 : depthV v ≤ left
    · by_cases h2 : depth vs ≤ left
      · rw [if_pos h1, if_pos h2, if_pos (by omega), Option.map_map]
        rfl
      · rw [if_pos h1, if_neg h2, if_neg (by omega)]
        rfl
    · rw [if_neg h1, if_neg (by omega)]
end

theorem parse_flat {vs : List Val} (h : good 0 vs = true) (left : Nat) : parse left (flat vs) = if depth vs ≤ left then some vs else none := by
  have := until_flat vs 0 left [] h
  rw [List.append_nil, until_nil] at this
  unfold parse
  rw [this]
  split
  · simp
  · rfl

theorem parse_app {vs : List Val} (h : good 0 vs = true) {left : Nat} (hd : depth vs ≤ left) (l : List Tok) : parse left (flat vs ++ l) = (parse left l).map (vs ++ ·) := by
  unfold parse
  rw [until_flat vs 0 left l h, if_pos hd, Option.map_map, Option.map_map]
  rfl

theorem until_rest : ∀ (m left : Nat) (l : List Tok) (vs : List Val) (rest : List Tok), l.length ≤ m → until_ 0 left l = some (vs, rest) → rest = [] := by
  intro m left l vs rest hl h
  obtain ⟨_, _, _, h4⟩ := until_good m 0 left l vs rest hl (by omega) h
  rcases h4 with ⟨a, _⟩ | ⟨a, _⟩
  · omega
  · exact a

/-- what was parsed -/
theorem parse_good {left : Nat} {l : List Tok} {vs : List Val} (h : parse left l = some vs) : good 0 vs = true ∧ depth vs ≤ left ∧ size vs ≤ l.length ∧ ∃ c : List Int, flat vs = l ++ c.map closeT := by
  obtain ⟨x, hx, rfl⟩ := Option.map_eq_some_iff.1 h
  obtain ⟨vs, rest⟩ := x
  obtain ⟨h1, h2, h3, h4⟩ := until_good l.length 0 left l vs rest (Nat.le_refl _) (by omega) hx
  rcases h4 with ⟨a, _⟩ | ⟨a, b⟩
  · omega
  · exact ⟨h1, h2, by simp only; omega, b⟩

theorem depth_app (a b : List Val) : depth (a ++ b) = max (depth a) (depth b) := by
  induction a with
  | nil => simp [depth]
  | cons v a ih => simp only [List.cons_append, depth, ih]; omega

mutual
theorem sameV_iff : ∀ (a b : Val), sameV a b = true ↔ a = b
  | .mk k t l, .mk k' t' l' => by
    simp only [sameV, Bool.and_eq_true, beq_iff_eq, decide_eq_true_eq, same_iff l l', Val.mk.injEq, and_assoc]
theorem same_iff : ∀ (a b : List Val), same a b = true ↔ a = b
  | [], [] => by simp [same]
  | [], _ :: _ => by simp [same]
  | _ :: _, [] => by simp [same]
  | v :: l, v' :: l' => by
    simp only [same, Bool.and_eq_true, sameV_iff v v', same_iff l l', List.cons.injEq]
end

theorem may_iff {left : Nat} {p : Tok → Bool} {l : List Val} : may left p l = true ↔ (∀ t ∈ flat l, p t = true) ∧ good 0 l = true ∧ depth l ≤ left := by
  unfold may
  rw [Bool.and_eq_true, List.all_eq_true]
  constructor
  · rintro ⟨h1, h2⟩
    cases hp : parse left (flat l) with
    | none => rw [hp] at h2; cases h2
    | some w =>
      rw [hp] at h2
      have := (same_iff w l).1 h2
      subst this
      obtain ⟨g1, g2, _⟩ := parse_good hp
      exact ⟨h1, g1, g2⟩
  · rintro ⟨h1, h2, h3⟩
    refine ⟨h1, ?_⟩
    rw [parse_flat h2, if_pos h3]
    exact (same_iff l l).2 rfl

mutual
theorem flatV_size : ∀ v : Val, (flatV v).length ≤ 2 * sizeV v
  | .mk k t l => by
    have := flat_size l
    simp only [flatV, sizeV]
    repeat' split
    all_goals simp
    all_goals omega
theorem flat_size : ∀ l : List Val, (flat l).length ≤ 2 * size l
  | [] => by simp [flat]
  | v :: l => by
    have h1 := flatV_size v
    have h2 := flat_size l
    simp only [flat, size, List.length_append]; omega
end

mutual
theorem depthV_size : ∀ v : Val, depthV v ≤ sizeV v
  | .mk k t l => by
    have := depth_size l
    simp only [depthV, sizeV]
    split <;> omega
theorem depth_size : ∀ l : List Val, depth l ≤ size l
  | [] => by simp [depth]
  | v :: l => by
    have h1 := depthV_size v
    have h2 := depth_size l
    simp only [depth, size]; omega
end
theorem length_size : ∀ l : List Val, l.length ≤ size l
  | [] => by simp
  | .mk k t l :: r => by
    have := length_size r
    simp only [List.length_cons, size, sizeV]; omega

mutual
theorem goodV_kind : ∀ (v : Val) (kind : Int), goodV 0 v = true → (∀ t l, v = .mk 1 t l → isLast kind t = false) → goodV kind v = true
  | .mk k t l, kind, h, hn => by
    simp only [goodV, Bool.or_eq_true, Bool.and_eq_true, beq_iff_eq, Bool.not_eq_true', decide_eq_true_eq, List.isEmpty_iff] at h ⊢
    rcases h with (⟨⟨⟨rfl, h1⟩, h2⟩, rfl⟩ | h) | h
    · exact .inl (.inl ⟨⟨⟨rfl, hn t [] rfl⟩, h2⟩, rfl⟩)
    · exact .inl (.inr h)
    · exact .inr h
theorem good_kind : ∀ (l : List Val) (kind : Int), good 0 l = true → (∀ v ∈ l, ∀ t m, v = .mk 1 t m → isLast kind t = false) → good kind l = true
  | [], _, _, _ => rfl
  | v :: l, kind, h, hn => by
    simp only [good, Bool.and_eq_true] at h ⊢
    exact ⟨goodV_kind v kind h.1 fun t m e => hn v (by simp) t m e, good_kind l kind h.2 fun w hw => hn w (by simp [hw])⟩
end
end Go.Abs.Ne

namespace Go.Abs.Tk
open Go

/-! ### classes of bytes -/

theorem begins_zero : begins 0 = false := by decide
theorem within_zero : within 0 = false := by decide
theorem digit_zero : digit 0 = false := by decide
theorem blank_zero : blank 0 = false := by decide

theorem begins_within {c : UInt8} (h : begins c = true) : within c = true := by simp [within, h]
theorem begins_digit {c : UInt8} (h : begins c = true) : digit c = false := by
  simp only [begins, digit, decide_eq_true_eq, decide_eq_false_iff_not] at *; omega
theorem digit_begins {c : UInt8} (h : digit c = true) : begins c = false := by
  simp only [begins, digit, decide_eq_true_eq, decide_eq_false_iff_not] at *; omega
theorem begins_ne {c d : UInt8} (h : begins c = true) (hd : begins d = false) : c ≠ d := fun e => by rw [e, hd] at h; cases h
theorem digit_ne {c d : UInt8} (h : digit c = true) (hd : digit d = false) : c ≠ d := fun e => by rw [e, hd] at h; cases h
theorem within_ne {c d : UInt8} (h : within c = true) (hd : within d = false) : c ≠ d := fun e => by rw [e, hd] at h; cases h
theorem blank_cases {c : UInt8} (h : blank c = true) : c = 32 ∨ c = 10 ∨ c = 9 ∨ c = 12 ∨ c = 13 := by simpa [blank, or_assoc] using h
theorem within_blank {c : UInt8} (h : within c = true) : blank c = false := by
  cases hb : blank c
  · rfl
  · rcases blank_cases hb with rfl | rfl | rfl | rfl | rfl <;> revert h <;> decide
theorem digit_within {c : UInt8} (h : digit c = true) : within c = true := by simp [within, h]
theorem digit_blank {c : UInt8} (h : digit c = true) : blank c = false := within_blank (digit_within h)

/-! ### runs -/

section run
variable {p : UInt8 → Bool}
theorem run_nil : run p [] = 0 := rfl
theorem run_le : ∀ l : List UInt8, run p l ≤ l.length
  | [] => Nat.le_refl _
  | c :: r => by
    rw [run]; have := run_le r
    split <;> simp <;> omega
theorem run_pos {c : UInt8} {r : List UInt8} (h : p c = true) : 0 < run p (c :: r) := by rw [run, if_pos h]; omega
theorem run_take : ∀ l : List UInt8, ∀ b ∈ l.take (run p l), p b = true
  | [], b, h => by simp at h
  | c :: r, b, h => by
    rw [run] at h
    split at h
    · rename_i hc
      rw [List.take_succ_cons] at h
      rcases List.mem_cons.1 h with rfl | h
      · exact hc
      · exact run_take r b h
    · simp at h
theorem run_stop (h0 : p 0 = false) : ∀ l : List UInt8, p (at0 (l.drop (run p l))) = false
  | [] => h0
  | c :: r => by
    rw [run]
    split
    · rw [List.drop_succ_cons]; exact run_stop h0 r
    · rename_i hc
      simpa [at0] using hc
theorem run_app : ∀ {a y : List UInt8}, (∀ b ∈ a, p b = true) → run p (a ++ y) = a.length + run p y
  | [], y, _ => by simp
  | c :: a, y, h => by
    rw [List.cons_append, run, if_pos (h c (by simp)), run_app fun b hb => h b (by simp [hb])]
    simp; omega
theorem run_zero : ∀ {y : List UInt8}, p (at0 y) = false → run p y = 0
  | [], _ => rfl
  | c :: r, h => by
    rw [run, if_neg]; simpa [at0] using h
theorem run_word {a y : List UInt8} (h : ∀ b ∈ a, p b = true) (hy : p (at0 y) = false) : run p (a ++ y) = a.length := by rw [run_app h, run_zero hy]; rfl
theorem run_pos_iff {y : List UInt8} (h0 : p 0 = false) : 0 < run p y ↔ p (at0 y) = true := by
  cases y with
  | nil => simp [run, at0, h0]
  | cons c r =>
    rw [run, at0]
    cases p c <;> simp
end run

theorem at0_app {a y : List UInt8} (h : a ≠ []) : at0 (a ++ y) = at0 a := by
  cases a with
  | nil => exact absurd rfl h
  | cons c r => rfl

/-! ### names -/

def isName (x : List UInt8) : Prop := nameB x = true ∧ ∀ b ∈ x, within b = true

theorem nameB_nil : nameB [] = false := by decide
theorem isName_ne {x : List UInt8} (h : isName x) : x ≠ [] := fun e => by have := h.1; rw [e, nameB_nil] at this; cases this
theorem isName_len {x : List UInt8} (h : isName x) : 0 < x.length := List.length_pos_iff.2 (isName_ne h)

/-- the first byte of a name, or two of them, are looked at alone -/
theorem nameB_app {x y : List UInt8} (h : nameB x = true) : nameB (x ++ y) = true := by
  match x, h with
  | [], h => rw [nameB_nil] at h; cases h
  | [c], h =>
    have hc : begins c = true := by
      simp only [nameB, at0, List.tail_cons, begins_zero, Bool.false_or, Bool.or_eq_true, Bool.and_eq_true, beq_iff_eq] at h
      rcases h with h | ⟨_, h⟩
      · exact h
      · exact absurd h (by decide)
    simp [nameB, at0, hc]
  | c :: d :: r, h => exact h

theorem nameB_within {x : List UInt8} (h : nameB x = true) : within (at0 x) = true := by
  simp only [nameB, Bool.or_eq_true, Bool.and_eq_true, beq_iff_eq] at h
  rcases h with h | ⟨h, _⟩
  · exact begins_within h
  · rw [h]; decide

theorem name_app {x y : List UInt8} (h : isName x) (hy : within (at0 y) = false) : name (x ++ y) = x.length := by
  rw [name, if_pos (nameB_app h.1), run_word h.2 hy]
theorem name_zero {y : List UInt8} (h : nameB y = false) : name y = 0 := by rw [name, h]; rfl
theorem name_pos {l : List UInt8} (h : 0 < name l) : nameB l = true := by
  rw [name] at h; split at h
  · assumption
  · omega
theorem name_pos_iff {l : List UInt8} : 0 < name l ↔ nameB l = true := by
  refine ⟨name_pos, fun h => ?_⟩
  rw [name, if_pos h]
  exact (run_pos_iff within_zero).2 (nameB_within h)
theorem name_le (l : List UInt8) : name l ≤ l.length := by
  rw [name]; split
  · exact run_le l
  · omega

/-- what stands for a name is one -/
theorem name_take {l : List UInt8} (h : 0 < name l) : isName (l.take (name l)) := by
  have hb := name_pos h
  have e : name l = run within l := by rw [name, if_pos hb]
  refine ⟨?_, by rw [e]; exact run_take l⟩
  rw [e]
  match l, hb with
  | [], hb => rw [nameB_nil] at hb; cases hb
  | [c], hb =>
    have : run within [c] = 1 := by rw [run, if_pos (show within c = true from nameB_within hb)]; rfl
    rw [this]; exact hb
  | c :: d :: r, hb =>
    have hc : within c = true := nameB_within hb
    by_cases hd : within d = true
    · have : run within (c :: d :: r) = run within r + 2 := by rw [run, if_pos hc, run, if_pos hd]
      rw [this]; exact hb
    · have hd' : within d = false := by simpa using hd
      have : run within (c :: d :: r) = 1 := by rw [run, if_pos hc, run, if_neg hd]
      rw [this]
      simp only [nameB, at0, List.tail_cons, Bool.or_eq_true, Bool.and_eq_true, beq_iff_eq] at hb
      have hbc : begins c = true := by
        rcases hb with hb | ⟨_, hb | hb⟩
        · exact hb
        · rw [begins_within hb] at hd'; cases hd'
        · exact absurd hd' (by rw [hb]; decide)
      simp [nameB, at0, hbc]

/-! ### comments, strings -/

theorem shut_le : ∀ {l : List UInt8} {n : Nat}, shut l = some n → n ≤ l.length ∧ 2 ≤ n
  | c :: r, n, h => by
    rw [shut] at h
    split at h
    · rename_i hc
      cases h
      cases r with
      | nil => exact absurd hc.2 (by decide)
      | cons d r => simp
    · rw [Option.map_eq_some_iff] at h
      obtain ⟨m, hm, rfl⟩ := h
      have := shut_le hm
      simp; omega
theorem comment_pos (r : List UInt8) : 2 ≤ comment r := by unfold comment; split <;> omega

theorem inner_le {q : UInt8} : ∀ {l : List UInt8} {n : Nat}, inner q l = some n → n + 1 ≤ l.length
  | c :: r, n, h => by
    rw [inner] at h
    split at h
    · cases h; simp
    · split at h
      · cases h
      · rw [Option.map_eq_some_iff] at h
        obtain ⟨m, hm, rfl⟩ := h
        have := inner_le hm
        simp; omega
theorem inner_take {q : UInt8} : ∀ {l : List UInt8} {n : Nat}, inner q l = some n → ∀ b ∈ l.take n, b ≠ q ∧ ending b = false
  | c :: r, n, h, b, hb => by
    rw [inner] at h
    split at h
    · cases h; simp at hb
    · rename_i hq
      split at h
      · cases h
      · rename_i he
        rw [Option.map_eq_some_iff] at h
        obtain ⟨m, hm, rfl⟩ := h
        rw [List.take_succ_cons] at hb
        rcases List.mem_cons.1 hb with rfl | hb
        · exact ⟨hq, by simpa using he⟩
        · exact inner_take hm b hb
theorem inner_app {q : UInt8} {y : List UInt8} : ∀ {x : List UInt8}, (∀ b ∈ x, b ≠ q ∧ ending b = false) → inner q (x ++ q :: y) = some x.length
  | [], _ => by simp [inner]
  | c :: x, h => by
    have hc := h c (by simp)
    rw [List.cons_append, inner, if_neg hc.1, if_neg (by simp [hc.2]), inner_app fun b hb => h b (by simp [hb])]
    rfl

/-! ### numbers -/

theorem num_app : ∀ {a y : List UInt8} {n : Int}, (∀ b ∈ a, digit b = true) → num n (a ++ y) = num (num n a) y
  | [], _, _, _ => rfl
  | c :: a, y, n, h => by
    rw [List.cons_append, num, if_pos (h c (by simp)), num, if_pos (h c (by simp)), num_app fun b hb => h b (by simp [hb])]
theorem num_stop {y : List UInt8} {n : Int} (h : digit (at0 y) = false) : num n y = n := by
  cases y with
  | nil => rfl
  | cons c r => rw [num, if_neg]; simpa [at0] using h
theorem num_bound : ∀ {l : List UInt8} {n : Int}, 0 ≤ n → n ≤ 999999999 → 0 ≤ num n l ∧ num n l ≤ 999999999
  | [], n, h1, h2 => ⟨h1, h2⟩
  | c :: r, n, h1, h2 => by
    rw [num]
    split
    · rename_i hc
      have : 48 ≤ c.toNat := by simp only [digit, decide_eq_true_eq] at hc; omega
      exact num_bound (by omega) (by omega)
    · exact ⟨h1, h2⟩

theorem digit_of {k : Nat} (h : k < 10) : digit (UInt8.ofNat (48 + k)) = true ∧ ((UInt8.ofNat (48 + k)).toNat : Int) - 48 = k := by
  have : (UInt8.ofNat (48 + k)).toNat = 48 + k := by rw [UInt8.toNat_ofNat']; omega
  refine ⟨?_, by rw [this]; omega⟩
  simp only [digit, this, decide_eq_true_eq]; omega

theorem dec_digits : ∀ (k u : Nat), u ≤ k → ∀ b ∈ Lib.decDigits u, digit b = true := by
  intro k
  induction k with
  | zero =>
    intro u hu b hb
    rw [Lib.decDigits, dif_pos (by omega)] at hb
    simp only [List.mem_singleton] at hb
    rw [hb]; exact (digit_of (by omega)).1
  | succ k ih =>
    intro u hu b hb
    rw [Lib.decDigits] at hb
    split at hb
    · simp only [List.mem_singleton] at hb
      rw [hb]; exact (digit_of (by omega)).1
    · rcases List.mem_append.1 hb with hb | hb
      · exact ih (u / 10) (by omega) b hb
      · simp only [List.mem_singleton] at hb
        rw [hb]; exact (digit_of (Nat.mod_lt _ (by omega))).1
theorem dec_num : ∀ (k u : Nat), u ≤ k → u ≤ 999999999 → num 0 (Lib.decDigits u) = u := by
  intro k
  induction k with
  | zero =>
    intro u hu _
    obtain rfl : u = 0 := by omega
    rw [Lib.decDigits, dif_pos (by omega)]
    decide
  | succ k ih =>
    intro u hu hm
    rw [Lib.decDigits]
    split
    · rename_i h
      have h2 := digit_of h
      rw [num, if_pos h2.1, num, h2.2]; omega
    · have h2 := digit_of (Nat.mod_lt u (by omega : 0 < 10))
      rw [num_app (dec_digits (u / 10) (u / 10) (Nat.le_refl _)), ih (u / 10) (by omega) (by omega), num, if_pos h2.1, num, h2.2]; omega
theorem dec_ne : ∀ (u : Nat), Lib.decDigits u ≠ [] := by
  intro u h
  rw [Lib.decDigits] at h
  split at h <;> simp at h
end Go.Abs.Tk

namespace Go.Abs.Tk
open Go

/-- what has of itself what its kind has -/
inductive Good : Tok → Prop
  | ident (x : List UInt8) : isName x → Good ⟨1, x, 0⟩
  | func (x : List UInt8) : isName x → Good ⟨2, x, 0⟩
  | word (x : List UInt8) : isName x → Good ⟨3, x, 0⟩
  | hash (x : List UInt8) : x ≠ [] → (∀ b ∈ x, within b = true) → Good ⟨4, x, 0⟩
  | num (x : List UInt8) (n : Int) : -999999999 ≤ n → n ≤ 999999999 → (x = [] ∨ x = [37] ∨ isName x) → Good ⟨5, x, n⟩
  | str (x : List UInt8) (q : UInt8) : q = 34 ∨ q = 39 → (∀ b ∈ x, b ≠ q ∧ ending b = false) → Good ⟨6, x, q.toNat⟩
  | delim (c : UInt8) : begins c = false → digit c = false → blank c = false → Good ⟨7, [c], 0⟩
  | white : Good ⟨8, [10], 0⟩

/-! ### one step -/

theorem unit_good (l : List UInt8) : l.take (unit l) = [] ∨ l.take (unit l) = [37] ∨ isName (l.take (unit l)) := by
  unfold unit
  split
  · rename_i h
    cases l with
    | nil => exact absurd h (by decide)
    | cons c r => right; left; rw [at0] at h; rw [h]; rfl
  · by_cases h : 0 < name l
    · exact .inr (.inr (name_take h))
    · left; rw [show name l = 0 by omega]; rfl
theorem unit_le (l : List UInt8) : unit l ≤ l.length := by
  unfold unit
  split
  · rename_i h
    cases l with
    | nil => exact absurd h (by decide)
    | cons c r => simp
  · exact name_le l

theorem number_good (neg : Bool) (l : List UInt8) : Good (number neg l).1 := by
  have hb := num_bound (l := l) (n := 0) (by omega) (by omega)
  unfold number
  refine .num _ _ ?_ ?_ (unit_good _)
  · cases neg <;> simp <;> omega
  · cases neg <;> simp <;> omega
theorem number_le (neg : Bool) (l : List UInt8) : (number neg l).2 ≤ l.length := by
  unfold number
  have h1 := run_le (p := digit) l
  have h2 := unit_le (l.drop (run digit l))
  simp only [List.length_drop] at h2
  simp only; omega
theorem number_pos (neg : Bool) (l : List UInt8) (h : digit (at0 l) = true) : 1 ≤ (number neg l).2 := by
  unfold number
  have := (run_pos_iff (y := l) digit_zero).2 h
  simp only; omega

theorem step_good {c : UInt8} {r : List UInt8} {t : Tok} (h : (step c r).1 = some t) : Good t := by
  unfold step at h
  split at h
  · cases h
  split at h
  · cases h; exact .white
  split at h
  · rename_i hq
    cases h
    obtain ⟨n, hn⟩ := Option.isSome_iff_exists.1 hq.2
    rw [hn]
    exact .str _ c hq.1 (inner_take hn)
  split at h
  · rename_i hq
    cases h
    exact .hash _ (fun e => by
      have h1 := congrArg List.length e
      rw [List.length_take, List.length_nil] at h1
      have h2 := run_le (p := within) r
      have h3 := hq.2
      omega) (run_take r)
  split at h
  · rename_i hq
    cases h
    exact .word _ (name_take hq.2)
  split at h
  · cases h; exact number_good _ _
  split at h
  · cases h; exact number_good _ _
  split at h
  · rename_i hn
    split at h
    · cases h; exact .func _ (name_take hn)
    · cases h; exact .ident _ (name_take hn)
  · rename_i h1 h2 h3 h4 h5 h6 h7 h8
    cases h
    refine .delim c ?_ (by simpa using h6) (by simpa using h2)
    cases hb : begins c
    · rfl
    · exact absurd (name_pos_iff.2 (show nameB (c :: r) = true by simp [nameB, at0, hb])) h8

theorem step_pos (c : UInt8) (r : List UInt8) : 1 ≤ (step c r).2 := by
  unfold step
  split
  · have := comment_pos r.tail; simp only; omega
  split
  · rename_i h; exact run_pos h
  split
  · rename_i h
    obtain ⟨n, hn⟩ := Option.isSome_iff_exists.1 h.2
    simp only; omega
  split
  · simp only; omega
  split
  · simp only; omega
  split
  · rename_i h; exact number_pos false (c :: r) h
  split
  · simp only; omega
  split
  · split <;> simp only <;> omega
  · exact Nat.le_refl _

theorem comment_le {r : List UInt8} : comment r ≤ r.length + 2 := by
  unfold comment
  split
  · rename_i n h; have := shut_le h; omega
  · omega

theorem step_le (c : UInt8) (r : List UInt8) : (step c r).2 ≤ (c :: r).length := by
  unfold step
  split
  · rename_i h
    have := comment_le (r := r.tail)
    cases r with
    | nil => exact absurd h.2 (by decide)
    | cons d r => simp only [List.tail_cons, List.length_cons] at *; omega
  split
  · exact run_le _
  split
  · rename_i h
    obtain ⟨n, hn⟩ := Option.isSome_iff_exists.1 h.2
    have := inner_le hn
    rw [hn]; simp; omega
  split
  · have := run_le (p := within) r; simp; omega
  split
  · have := name_le r; simp; omega
  split
  · exact number_le false _
  split
  · have := number_le true r; simp; omega
  split
  · rename_i h
    split
    · rename_i h40
      have h1 := name_le (c :: r)
      have : name (c :: r) ≠ (c :: r).length := fun e => by
        rw [e, List.drop_length] at h40; exact absurd h40 (by decide)
      simp only; omega
    · exact name_le _
  · simp

/-! ### all of them -/

theorem allN_eq : ∀ (k j : Nat) (l : List UInt8), l.length ≤ k → l.length ≤ j → allN k l = allN j l := by
  intro k
  induction k with
  | zero =>
    intro j l h _
    obtain rfl : l = [] := List.length_eq_zero_iff.1 (by omega)
    cases j <;> rfl
  | succ k ih =>
    intro j l hk hj
    cases l with
    | nil => cases j <;> rfl
    | cons c r =>
      cases j with
      | zero => simp at hj
      | succ j =>
        have hp := step_pos c r
        have hd : ((c :: r).drop (step c r).2).length ≤ r.length := by rw [List.length_drop]; simp; omega
        simp only [List.length_cons] at hk hj
        rw [allN, allN, ih j _ (by omega) (by omega)]

theorem all_nil : all [] = [] := rfl
theorem all_cons (c : UInt8) (r : List UInt8) : all (c :: r) = (step c r).1.toList ++ all ((c :: r).drop (step c r).2) := by
  have hp := step_pos c r
  have hd : ((c :: r).drop (step c r).2).length ≤ r.length := by rw [List.length_drop]; simp; omega
  rw [all, List.length_cons, allN]
  rw [allN_eq r.length _ _ hd (Nat.le_refl _), ← all]

theorem all_ind {Q : List UInt8 → Prop} (h0 : Q []) (h1 : ∀ c r, Q ((c :: r).drop (step c r).2) → Q (c :: r)) : ∀ l, Q l := by
  have : ∀ (k : Nat) (l : List UInt8), l.length ≤ k → Q l := by
    intro k
    induction k with
    | zero => intro l h; obtain rfl : l = [] := List.length_eq_zero_iff.1 (by omega); exact h0
    | succ k ih =>
      intro l h
      cases l with
      | nil => exact h0
      | cons c r =>
        have hp := step_pos c r
        exact h1 c r (ih _ (by rw [List.length_drop]; simp at *; omega))
  exact fun l => this l.length l (Nat.le_refl _)

theorem all_good (l : List UInt8) : ∀ t ∈ all l, Good t := by
  refine all_ind (Q := fun l => ∀ t ∈ all l, Good t) (fun t h => by simp [all_nil] at h) (fun c r ih t ht => ?_) l
  rw [all_cons] at ht
  rcases List.mem_append.1 ht with ht | ht
  · exact step_good (by simpa [Option.mem_toList] using ht)
  · exact ih t ht

/-! ### what may stand behind a token -/

theorem at0_cons (c : UInt8) (r : List UInt8) : at0 (c :: r) = c := rfl

def sep (t : Tok) (y : List UInt8) : Prop :=
  (t.kind = 1 → within (at0 y) = false ∧ at0 y ≠ 40) ∧
  (t.kind = 3 ∨ t.kind = 4 → within (at0 y) = false) ∧
  (t.kind = 5 → (t.text = [] → digit (at0 y) = false ∧ at0 y ≠ 37 ∧ nameB y = false) ∧ (isName t.text → within (at0 y) = false)) ∧
  (t.kind = 8 → blank (at0 y) = false) ∧
  (t.kind = 7 → (t.text = [47] → at0 y ≠ 42) ∧ (t.text = [35] → within (at0 y) = false) ∧ (t.text = [64] → nameB y = false) ∧ (t.text = [45] → digit (at0 y) = false ∧ nameB (45 :: y) = false))

theorem nameB_head {c : UInt8} {y : List UInt8} (h : at0 y = c) (hc : within c = false) : nameB y = false := by
  cases hn : nameB y
  · rfl
  · have := nameB_within hn; rw [h, hc] at this; cases this
theorem nameB_dash {y : List UInt8} (h : begins (at0 y) = false) (h2 : at0 y ≠ 45) : nameB (45 :: y) = false := by
  have e : nameB (45 :: y) = (begins 45 || ((45 : UInt8) == 45 && (begins (at0 y) || at0 y == 45))) := rfl
  rw [e, h, beq_eq_false_iff_ne.2 h2]; decide

/-- whatever stands behind, if it begins with a sign of no kind -/
theorem sep_sign {y : List UInt8} {c : UInt8} (h : at0 y = c) (t : Tok) (h1 : within c = false) (h2 : blank c = false) (h3 : c ≠ 40) (h4 : c ≠ 37) (h5 : c ≠ 42) : sep t y := by
  have hb : begins c = false := by simp only [within, Bool.or_eq_false_iff] at h1; exact h1.1.1
  have hd : digit c = false := by simp only [within, Bool.or_eq_false_iff] at h1; exact h1.1.2
  have h45 : c ≠ 45 := fun e => by rw [e] at h1; revert h1; decide
  have hn := nameB_head h h1
  unfold sep
  rw [h]
  exact ⟨fun _ => ⟨h1, h3⟩, fun _ => h1, fun _ => ⟨fun _ => ⟨hd, h4, hn⟩, fun _ => h1⟩, fun _ => h2, fun _ => ⟨fun _ => h5, fun _ => h1, fun _ => hn, fun _ => ⟨hd, nameB_dash (by rw [h]; exact hb) (by rw [h]; exact h45)⟩⟩⟩
theorem sep_nil (t : Tok) : sep t [] := sep_sign (c := 0) rfl t (by decide) (by decide) (by decide) (by decide) (by decide)
theorem sep_slash (t : Tok) (y : List UInt8) : sep t (47 :: y) := sep_sign (c := 47) rfl t (by decide) (by decide) (by decide) (by decide) (by decide)

/-! ### the token in front is read again -/

theorem nameB_cases {c : UInt8} {r : List UInt8} (h : nameB (c :: r) = true) : begins c = true ∨ c = 45 ∧ (begins (at0 r) = true ∨ at0 r = 45) := by
  simpa [nameB, at0] using h

theorem step_name {c : UInt8} {r : List UInt8} (h : nameB (c :: r) = true) : step c r =
    if at0 ((c :: r).drop (name (c :: r))) = 40 then (some ⟨2, (c :: r).take (name (c :: r)), 0⟩, name (c :: r) + 1)
    else (some ⟨1, (c :: r).take (name (c :: r)), 0⟩, name (c :: r)) := by
  have hw : within c = true := nameB_within h
  have hne : ∀ d, within d = false → c ≠ d := fun d hd => within_ne hw hd
  have hdig : digit c = false := by
    rcases nameB_cases h with hb | ⟨rfl, _⟩
    · exact begins_digit hb
    · decide
  have h45 : ¬ (c = 45 ∧ digit (at0 r) = true) := by
    rintro ⟨rfl, hd⟩
    rcases nameB_cases h with hb | ⟨_, hb | hb⟩
    · exact absurd hb (by decide)
    · rw [begins_digit hb] at hd; cases hd
    · rw [hb] at hd; revert hd; decide
  unfold step
  rw [if_neg (fun e => hne 47 (by decide) e.1), if_neg (by simp [within_blank hw]), if_neg (fun e => by
    rcases e.1 with e | e
    · exact hne 34 (by decide) e
    · exact hne 39 (by decide) e), if_neg (fun e => hne 35 (by decide) e.1), if_neg (fun e => hne 64 (by decide) e.1), if_neg (by simp [hdig]), if_neg h45, if_pos (name_pos_iff.2 h)]

theorem step_number {c : UInt8} {r : List UInt8} (h : digit c = true) : step c r = (some (number false (c :: r)).1, (number false (c :: r)).2) := by
  have hne : ∀ d, digit d = false → c ≠ d := fun d hd => digit_ne h hd
  unfold step
  rw [if_neg (fun e => hne 47 (by decide) e.1), if_neg (by simp [digit_blank h]), if_neg (fun e => by
    rcases e.1 with e | e
    · exact hne 34 (by decide) e
    · exact hne 39 (by decide) e), if_neg (fun e => hne 35 (by decide) e.1), if_neg (fun e => hne 64 (by decide) e.1), if_pos h]
theorem step_minus {r : List UInt8} (h : digit (at0 r) = true) : step 45 r = (some (number true r).1, (number true r).2 + 1) := by
  unfold step
  rw [if_neg (fun e => absurd e.1 (by decide)), if_neg (by decide), if_neg (by simp), if_neg (by simp), if_neg (by simp), if_neg (by decide), if_pos ⟨rfl, h⟩]

/-- digits, and behind them no digit -/
theorem number_app (neg : Bool) {u : Nat} (hu : u ≤ 999999999) {z : List UInt8} (hz : digit (at0 z) = false) : number neg (Lib.decDigits u ++ z) = (⟨5, z.take (unit z), if neg then -(u : Int) else u⟩, (Lib.decDigits u).length + unit z) := by
  have hd := dec_digits u u (Nat.le_refl _)
  unfold number
  rw [run_word hd hz, List.drop_left, num_app hd, dec_num u u (Nat.le_refl _) hu, num_stop hz]

theorem unit_zero {y : List UInt8} (h1 : at0 y ≠ 37) (h2 : nameB y = false) : unit y = 0 := by rw [unit, if_neg h1, name_zero h2]
theorem unit_pct (y : List UInt8) : unit ([37] ++ y) = 1 := rfl
theorem unit_name {x y : List UInt8} (h : isName x) (hy : within (at0 y) = false) : unit (x ++ y) = x.length := by
  have : at0 (x ++ y) ≠ 37 := by
    rw [at0_app (isName_ne h)]
    exact within_ne (nameB_within h.1) (by decide)
  rw [unit, if_neg this, name_app h hy]

theorem name_nodigit {x : List UInt8} (h : nameB x = true) : digit (at0 x) = false := by
  cases x with
  | nil => rfl
  | cons c r =>
    rcases nameB_cases h with hb | ⟨rfl, _⟩
    · exact begins_digit hb
    · rw [at0_cons]; decide

/-- what stands behind the digits of a number, and what is read of it -/
theorem unit_sep {x y : List UInt8} {n : Int} (hx : x = [] ∨ x = [37] ∨ isName x) (hs : sep ⟨5, x, n⟩ y) : digit (at0 (x ++ y)) = false ∧ unit (x ++ y) = x.length := by
  obtain ⟨_, _, h5, _, _⟩ := hs
  obtain ⟨h6, h7⟩ := h5 rfl
  rcases hx with rfl | rfl | hx
  · obtain ⟨a, b, c⟩ := h6 rfl
    exact ⟨a, unit_zero b c⟩
  · exact ⟨by show digit 37 = false; decide, rfl⟩
  · exact ⟨by rw [at0_app (isName_ne hx)]; exact name_nodigit hx.1, unit_name hx (h7 hx)⟩

theorem one_num (x : List UInt8) (n : Int) : oneS ⟨5, x, n⟩ = Lib.itoa n ++ x := rfl

theorem all_num {x y : List UInt8} {n : Int} (h1 : -999999999 ≤ n) (h2 : n ≤ 999999999) (hd : digit (at0 (x ++ y)) = false) (hu : unit (x ++ y) = x.length) : all (Lib.itoa n ++ (x ++ y)) = ⟨5, x, n⟩ :: all y := by
  by_cases hn : n < 0
  · have e : Lib.itoa n = 45 :: Lib.decDigits n.natAbs := by unfold Lib.itoa; rw [if_pos hn]
    have hh : digit (at0 (Lib.decDigits n.natAbs ++ (x ++ y))) = true := by
      rw [at0_app (dec_ne _)]
      cases hl : Lib.decDigits n.natAbs with
      | nil => exact absurd hl (dec_ne _)
      | cons c r => exact dec_digits _ _ (Nat.le_refl _) c (by rw [hl]; simp)
    rw [e, List.cons_append, all_cons, step_minus hh, number_app true (by omega) hd, hu]
    simp only [Option.toList_some, List.drop_succ_cons, List.cons_append, List.nil_append, if_true]
    rw [← List.drop_drop, List.drop_left, List.drop_left, List.take_left]
    rw [show -((n.natAbs : Nat) : Int) = n by omega]
  · have e : Lib.itoa n = Lib.decDigits n.toNat := by unfold Lib.itoa; rw [if_neg hn]
    rw [e]
    cases hl : Lib.decDigits n.toNat with
    | nil => exact absurd hl (dec_ne _)
    | cons c r =>
      have hc : digit c = true := dec_digits _ _ (Nat.le_refl _) c (by rw [hl]; simp)
      rw [List.cons_append, all_cons, step_number hc, ← List.cons_append, ← hl, number_app false (by omega) hd, hu]
      simp only [Option.toList_some, List.cons_append, List.nil_append, Bool.false_eq_true, if_false]
      rw [← List.drop_drop, List.drop_left, List.drop_left, List.take_left]
      rw [show ((n.toNat : Nat) : Int) = n by omega]

/-- a comment is left away -/
theorem all_comment {r y : List UInt8} (h : shut r = some (r.length - y.length)) (hy : r.drop (r.length - y.length) = y) : all (47 :: 42 :: r) = all y := by
  rw [all_cons]
  have e : step 47 (42 :: r) = (none, r.length - y.length + 2) := by
    unfold step
    rw [if_pos ⟨rfl, rfl⟩]
    simp only [List.tail_cons, comment, h]
  rw [e]
  simp only [Option.toList_none, List.nil_append, List.drop_succ_cons]
  rw [hy]
theorem all_between (y : List UInt8) : all (47 :: 42 :: 42 :: 47 :: y) = all y := by
  rw [all_cons]
  rfl
theorem all_line (y : List UInt8) : all (47 :: 42 :: 10 :: 42 :: 47 :: y) = all y := by
  rw [all_cons]
  rfl

theorem all_quote {q : UInt8} (h : q = 34 ∨ q = 39) (y : List UInt8) : all (q :: 47 :: 42 :: 10 :: 42 :: 47 :: y) = ⟨7, [q], 0⟩ :: all y := by
  have hi : inner q (47 :: 42 :: 10 :: 42 :: 47 :: y) = none := by rcases h with rfl | rfl <;> rfl
  have e : step q (47 :: 42 :: 10 :: 42 :: 47 :: y) = (some ⟨7, [q], 0⟩, 1) := by
    unfold step
    rcases h with rfl | rfl <;> (rw [hi]; rfl)
  rw [all_cons, e]
  simp only [Option.toList_some, List.drop_succ_cons, List.drop_zero, List.cons_append, List.nil_append, all_line]

theorem step_delim {c : UInt8} {y : List UInt8} (h1 : begins c = false) (h2 : digit c = false) (h3 : blank c = false) (h34 : c ≠ 34) (h39 : c ≠ 39) (hs : sep ⟨7, [c], 0⟩ y) : step c y = (some ⟨7, [c], 0⟩, 1) := by
  obtain ⟨_, _, _, _, h7⟩ := hs
  obtain ⟨a, b, d, e⟩ := h7 rfl
  unfold step
  rw [if_neg (fun x => a (by rw [x.1]) x.2), if_neg (by simp [h3]), if_neg (fun x => by rcases x.1 with x | x <;> contradiction),
    if_neg (fun x => by have := (run_pos_iff within_zero).1 x.2; rw [b (by rw [x.1])] at this; cases this),
    if_neg (fun x => by have := name_pos_iff.1 x.2; rw [d (by rw [x.1])] at this; cases this),
    if_neg (by simp [h2]), if_neg (fun x => by have := (e (by rw [x.1])).1; rw [x.2] at this; cases this), if_neg]
  intro x
  have hn := name_pos_iff.1 x
  rcases nameB_cases hn with hb | ⟨rfl, _⟩
  · rw [h1] at hb; cases hb
  · rw [(e rfl).2] at hn; cases hn

theorem one_delim {c : UInt8} (h34 : c ≠ 34) (h39 : c ≠ 39) : oneS ⟨7, [c], 0⟩ = [c] := by simp [oneS, h34, h39]

/-- THE TOKEN IN FRONT is read again, if what stands behind it may -/
theorem all_one {t : Tok} {y : List UInt8} (h : Good t) (hs : sep t y) : all (oneS t ++ y) = t :: all y := by
  cases h with
  | ident x hx =>
    have e1 : oneS ⟨1, x, 0⟩ = x := rfl
    obtain ⟨hw, h40⟩ := hs.1 rfl
    have hn := name_app hx hw
    have hb := nameB_app (y := y) hx.1
    rw [e1]
    cases x with
    | nil => exact absurd rfl (isName_ne hx)
    | cons c r =>
      rw [List.cons_append] at hn hb ⊢
      rw [all_cons, step_name hb, hn, ← List.cons_append, List.drop_left, List.take_left, if_neg h40]
      simp only [Option.toList_some, List.cons_append, List.nil_append]
      rw [← List.cons_append, List.drop_left]
  | func x hx =>
    have e1 : oneS ⟨2, x, 0⟩ = x ++ [40] := rfl
    have hn := name_app (y := 40 :: y) hx (by rw [at0_cons]; decide)
    have hb := nameB_app (y := 40 :: y) hx.1
    rw [e1, List.append_assoc, List.cons_append, List.nil_append]
    cases x with
    | nil => exact absurd rfl (isName_ne hx)
    | cons c r =>
      rw [List.cons_append] at hn hb ⊢
      rw [all_cons, step_name hb, hn, ← List.cons_append, List.drop_left, List.take_left, if_pos (at0_cons 40 y)]
      simp only [Option.toList_some, List.cons_append, List.nil_append]
      rw [← List.cons_append, ← List.drop_drop, List.drop_left]
      rfl
  | word x hx =>
    have e1 : oneS ⟨3, x, 0⟩ = 64 :: x := rfl
    have hw := hs.2.1 (.inl rfl)
    have hn := name_app hx hw
    have e : step 64 (x ++ y) = (some ⟨3, x, 0⟩, x.length + 1) := by
      unfold step
      rw [if_neg (fun e => absurd e.1 (by decide)), if_neg (by decide), if_neg (by simp), if_neg (by simp), if_pos ⟨rfl, by rw [hn]; exact isName_len hx⟩, hn, List.take_left]
    rw [e1, List.cons_append, all_cons, e]
    simp only [Option.toList_some, List.drop_succ_cons, List.drop_left, List.cons_append, List.nil_append]
  | hash x hne hx =>
    have e1 : oneS ⟨4, x, 0⟩ = 35 :: x := rfl
    have hw := hs.2.1 (.inr rfl)
    have hn := run_word hx hw
    have e : step 35 (x ++ y) = (some ⟨4, x, 0⟩, x.length + 1) := by
      unfold step
      rw [if_neg (fun e => absurd e.1 (by decide)), if_neg (by decide), if_neg (by simp), if_pos ⟨rfl, by rw [hn]; exact List.length_pos_iff.2 hne⟩, hn, List.take_left]
    rw [e1, List.cons_append, all_cons, e]
    simp only [Option.toList_some, List.drop_succ_cons, List.drop_left, List.cons_append, List.nil_append]
  | num x n h1 h2 hx =>
    obtain ⟨hd, hu⟩ := unit_sep hx hs
    rw [one_num, List.append_assoc]
    exact all_num h1 h2 hd hu
  | str x q hq hx =>
    have e1 : oneS ⟨6, x, q.toNat⟩ = q :: (x ++ [q]) := by rcases hq with rfl | rfl <;> rfl
    have hi := inner_app (y := y) hx
    have e : step q (x ++ q :: y) = (some ⟨6, x, q.toNat⟩, x.length + 2) := by
      unfold step
      rw [if_neg (fun e => by rcases hq with rfl | rfl <;> exact absurd e.1 (by decide)), if_neg (by rcases hq with rfl | rfl <;> decide), if_pos ⟨hq, by rw [hi]; rfl⟩, hi]
      simp only [Option.getD_some, List.take_left]
    rw [e1, List.cons_append, List.append_assoc, List.cons_append, List.nil_append, all_cons, e]
    simp only [Option.toList_some, List.drop_succ_cons, List.cons_append, List.nil_append]
    rw [← List.drop_drop, List.drop_left]
    rfl
  | delim c h1 h2 h3 =>
    by_cases hq : c = 34 ∨ c = 39
    · have e1 : oneS ⟨7, [c], 0⟩ = [c, 47, 42, 10, 42, 47] := by rcases hq with rfl | rfl <;> rfl
      rw [e1]
      exact all_quote hq y
    · rw [not_or] at hq
      rw [one_delim hq.1 hq.2, List.cons_append, List.nil_append, all_cons, step_delim h1 h2 h3 hq.1 hq.2 hs]
      simp only [Option.toList_some, List.drop_succ_cons, List.drop_zero, List.cons_append, List.nil_append]
  | white =>
    have hw := hs.2.2.2.1 rfl
    have e1 : oneS ⟨8, [10], 0⟩ = [10] := rfl
    have hr : run blank (10 :: y) = 1 := by rw [run, if_pos (by decide), run_zero hw]
    have e : step 10 y = (some ⟨8, [10], 0⟩, 1) := by
      unfold step
      rw [if_neg (fun e => absurd e.1 (by decide)), if_pos (by decide), hr]
    rw [e1, List.cons_append, List.nil_append, all_cons, e]
    simp only [Option.toList_some, List.drop_succ_cons, List.drop_zero, List.cons_append, List.nil_append]

theorem good_all {t : Tok} (h : Good t) : all (oneS t) = [t] := by
  have := all_one h (sep_nil t)
  rw [List.append_nil, all_nil] at this
  exact this
theorem may_iff {t : Tok} : may t = true ↔ Good t := by
  unfold may
  rw [decide_eq_true_eq]
  exact ⟨fun h => all_good _ t (by rw [h]; simp), good_all⟩
end Go.Abs.Tk

namespace Go.Abs.Tk
open Go

/-! ### the first byte of a token's text -/

theorem itoa_head (n : Int) : digit (at0 (Lib.itoa n)) = true ∨ at0 (Lib.itoa n) = 45 := by
  unfold Lib.itoa
  split
  · exact .inr rfl
  · left
    cases hl : Lib.decDigits n.toNat with
    | nil => exact absurd hl (dec_ne _)
    | cons c r => exact dec_digits _ _ (Nat.le_refl _) c (by rw [hl]; simp)
theorem itoa_ne (n : Int) : Lib.itoa n ≠ [] := fun h => by
  unfold Lib.itoa at h
  split at h
  · cases h
  · exact dec_ne _ h

theorem one_ne {t : Tok} (h : Good t) : oneS t ≠ [] := by
  cases h with
  | ident x hx => exact isName_ne hx
  | func x hx => show x ++ [40] ≠ []; simp
  | word x hx => show 64 :: x ≠ []; simp
  | hash x hne hx => show 35 :: x ≠ []; simp
  | num x n h1 h2 hx => rw [one_num]; intro e; exact itoa_ne n (List.append_eq_nil_iff.1 e).1
  | str x q hq hx => rcases hq with rfl | rfl <;> (intro e; cases e)
  | delim c h1 h2 h3 => 
    show (if [c] = [34] ∨ [c] = [39] then [c] ++ [47, 42, 10, 42, 47] else [c]) ≠ []
    split <;> simp
  | white => intro e; cases e

theorem delim_head (c : UInt8) : at0 (oneS ⟨7, [c], 0⟩) = c := by
  show at0 (if [c] = [34] ∨ [c] = [39] then [c] ++ [47, 42, 10, 42, 47] else [c]) = c
  split <;> rfl

/-- the first byte tells the kind -/
theorem head_digit {t : Tok} (h : Good t) (hd : digit (at0 (oneS t)) = true) : ∃ x n, t = ⟨5, x, n⟩ ∧ 0 ≤ n ∧ n ≤ 999999999 ∧ (x = [] ∨ x = [37] ∨ isName x) := by
  cases h with
  | ident x hx => have := name_nodigit hx.1; rw [show oneS ⟨1, x, 0⟩ = x from rfl, this] at hd; cases hd
  | func x hx => have := name_nodigit hx.1; rw [show oneS ⟨2, x, 0⟩ = x ++ [40] from rfl, at0_app (isName_ne hx), this] at hd; cases hd
  | word x hx => exact absurd (show digit 64 = true from hd) (by decide)
  | hash x hne hx => exact absurd (show digit 35 = true from hd) (by decide)
  | num x n h1 h2 hx =>
    refine ⟨x, n, rfl, ?_, h2, hx⟩
    apply Classical.byContradiction
    intro hn
    have e : Lib.itoa n = 45 :: Lib.decDigits n.natAbs := by unfold Lib.itoa; rw [if_pos (by omega)]
    rw [one_num, e] at hd
    exact absurd (show digit 45 = true from hd) (by decide)
  | str x q hq hx => rcases hq with rfl | rfl
                     · exact absurd (show digit 34 = true from hd) (by decide)
                     · exact absurd (show digit 39 = true from hd) (by decide)
  | delim c h1 h2 h3 => rw [delim_head, h2] at hd; cases hd
  | white => exact absurd (show digit 10 = true from hd) (by decide)
theorem head_blank {t : Tok} (h : Good t) (hd : blank (at0 (oneS t)) = true) : t = ⟨8, [10], 0⟩ := by
  cases h with
  | ident x hx => have := within_blank (nameB_within hx.1); rw [show oneS ⟨1, x, 0⟩ = x from rfl, this] at hd; cases hd
  | func x hx => have := within_blank (nameB_within hx.1); rw [show oneS ⟨2, x, 0⟩ = x ++ [40] from rfl, at0_app (isName_ne hx), this] at hd; cases hd
  | word x hx => exact absurd (show blank 64 = true from hd) (by decide)
  | hash x hne hx => exact absurd (show blank 35 = true from hd) (by decide)
  | num x n h1 h2 hx =>
    rw [one_num, at0_app (itoa_ne n)] at hd
    rcases itoa_head n with h | h
    · rw [digit_blank h] at hd; cases hd
    · rw [h] at hd; exact absurd hd (by decide)
  | str x q hq hx => rcases hq with rfl | rfl
                     · exact absurd (show blank 34 = true from hd) (by decide)
                     · exact absurd (show blank 39 = true from hd) (by decide)
  | delim c h1 h2 h3 => rw [delim_head, h3] at hd; cases hd
  | white => rfl
theorem head_sign {t : Tok} {c : UInt8} (h : Good t) (hc : at0 (oneS t) = c) (hw : within c = false) (hb : blank c = false) (h34 : c ≠ 34) (h39 : c ≠ 39) (h35 : c ≠ 35) (h64 : c ≠ 64) : t = ⟨7, [c], 0⟩ := by
  cases h with
  | ident x hx => have := nameB_within hx.1; rw [show at0 x = c from hc, hw] at this; cases this
  | func x hx => have := nameB_within hx.1; rw [show oneS ⟨2, x, 0⟩ = x ++ [40] from rfl, at0_app (isName_ne hx)] at hc; rw [hc, hw] at this; cases this
  | word x hx => exact absurd (show 64 = c from hc).symm h64
  | hash x hne hx => exact absurd (show 35 = c from hc).symm h35
  | num x n h1 h2 hx =>
    rw [one_num, at0_app (itoa_ne n)] at hc
    rcases itoa_head n with h | h
    · rw [hc] at h; rw [digit_within h] at hw; cases hw
    · rw [hc] at h; rw [h] at hw; exact absurd hw (by decide)
  | str x q hq hx => rcases hq with rfl | rfl
                     · exact absurd (show 34 = c from hc).symm h34
                     · exact absurd (show 39 = c from hc).symm h39
  | delim d h1 h2 h3 => rw [delim_head] at hc; rw [hc]
  | white => rw [← show 10 = c from hc] at hb; exact absurd hb (by decide)
/-- a text of one byte, '-' -/
theorem head_dash {t : Tok} (h : Good t) (hc : oneS t = [45]) : t = ⟨7, [45], 0⟩ := by
  cases h with
  | ident x hx =>
    have := hx.1
    rw [show x = [45] from hc] at this
    exact absurd this (by decide)
  | func x hx =>
    have h2 := congrArg List.length (show x ++ [40] = [45] from hc)
    have h3 := isName_len hx
    simp only [List.length_append, List.length_cons, List.length_nil] at h2
    omega
  | word x hx => exact absurd (congrArg at0 hc) (show (64 : UInt8) ≠ 45 by decide)
  | hash x hne hx => exact absurd (congrArg at0 hc) (show (35 : UInt8) ≠ 45 by decide)
  | num x n h1 h2 hx =>
    rw [one_num] at hc
    unfold Lib.itoa at hc
    split at hc
    · rw [List.cons_append] at hc
      injection hc with _ hc
      exact absurd (List.append_eq_nil_iff.1 hc).1 (dec_ne _)
    · cases hl : Lib.decDigits n.toNat with
      | nil => exact absurd hl (dec_ne _)
      | cons c r =>
        have hd : digit c = true := dec_digits _ _ (Nat.le_refl _) c (by rw [hl]; simp)
        rw [hl] at hc
        have : c = 45 := congrArg at0 hc
        rw [this] at hd
        exact absurd hd (by decide)
  | str x q hq hx => rcases hq with rfl | rfl
                     · exact absurd (congrArg at0 hc) (show (34 : UInt8) ≠ 45 by decide)
                     · exact absurd (congrArg at0 hc) (show (39 : UInt8) ≠ 45 by decide)
  | delim d h1 h2 h3 =>
    have := congrArg at0 hc
    rw [delim_head] at this
    rw [show d = 45 from this]
  | white => exact absurd (congrArg at0 hc) (show (10 : UInt8) ≠ 45 by decide)

/-! ### what is not read as two stands not apart -/

theorem run_more {p : UInt8 → Bool} {x y : List UInt8} (h0 : p 0 = false) (h : ∀ b ∈ x, p b = true) (hy : p (at0 y) = true) : x.length < run p (x ++ y) := by
  rw [run_app h]
  have := (run_pos_iff h0).2 hy
  omega

theorem take_ne {l x : List UInt8} {n : Nat} (h1 : x.length < n) (h2 : n ≤ l.length) : l.take n ≠ x := fun e => by
  have := congrArg List.length e
  rw [List.length_take] at this
  omega

theorem sep_of {a b : Tok} (ha : Good a) (hb : Good b) (h : all (oneS a ++ oneS b) = [a, b]) : sep a (oneS b) := by
  have hbn := one_ne hb
  generalize hy : oneS b = y at h hbn
  cases ha with
  | ident x hx =>
    refine ⟨fun _ => ?_, fun e => absurd e (by simp), fun e => absurd e (by simp), fun e => absurd e (by simp), fun e => absurd e (by simp)⟩
    have e1 : oneS ⟨1, x, 0⟩ = x := rfl
    rw [e1] at h
    have hb := nameB_app (y := y) hx.1
    have hxn := isName_ne hx
    have hle := name_le (x ++ y)
    have hnm : name (x ++ y) = run within (x ++ y) := by rw [name, if_pos hb]
    have h1 : within (at0 y) = false := by
      cases hw : within (at0 y)
      · rfl
      · have hm := run_more within_zero hx.2 hw
        rw [← hnm] at hm
        have hne := take_ne hm hle
        cases x with
        | nil => exact absurd rfl hxn
        | cons c r =>
          rw [List.cons_append] at h hb
          rw [all_cons, step_name hb] at h
          split at h
          · injection h with h _
            injection h with h _
            exact absurd h (by decide)
          · injection h with h _
            injection h with _ h _
            exact absurd h hne
    refine ⟨h1, fun h40 => ?_⟩
    have hn := name_app hx h1
    cases x with
    | nil => exact absurd rfl hxn
    | cons c r =>
      rw [List.cons_append] at h hb hn
      rw [all_cons, step_name hb, hn, ← List.cons_append, List.drop_left, if_pos h40] at h
      injection h with h _
      injection h with h _
      exact absurd h (by decide)
  | func x hx => exact ⟨fun e => absurd e (by simp), fun e => absurd e (by simp), fun e => absurd e (by simp), fun e => absurd e (by simp), fun e => absurd e (by simp)⟩
  | word x hx =>
    refine ⟨fun e => absurd e (by simp), fun _ => ?_, fun e => absurd e (by simp), fun e => absurd e (by simp), fun e => absurd e (by simp)⟩
    have e1 : oneS ⟨3, x, 0⟩ = 64 :: x := rfl
    rw [e1, List.cons_append] at h
    have hb := nameB_app (y := y) hx.1
    have hle := name_le (x ++ y)
    have hnm : name (x ++ y) = run within (x ++ y) := by rw [name, if_pos hb]
    cases hw : within (at0 y)
    · rfl
    · have hm := run_more within_zero hx.2 hw
      rw [← hnm] at hm
      have hne := take_ne hm hle
      have e : step 64 (x ++ y) = (some ⟨3, (x ++ y).take (name (x ++ y)), 0⟩, name (x ++ y) + 1) := by
        unfold step
        rw [if_neg (fun e => absurd e.1 (by decide)), if_neg (by decide), if_neg (by simp), if_neg (by simp), if_pos ⟨rfl, by omega⟩]
      rw [all_cons, e] at h
      injection h with h _
      injection h with _ h _
      exact absurd h hne
  | hash x hne0 hx =>
    refine ⟨fun e => absurd e (by simp), fun _ => ?_, fun e => absurd e (by simp), fun e => absurd e (by simp), fun e => absurd e (by simp)⟩
    have e1 : oneS ⟨4, x, 0⟩ = 35 :: x := rfl
    rw [e1, List.cons_append] at h
    cases hw : within (at0 y)
    · rfl
    · have hm := run_more within_zero hx hw
      have hne := take_ne hm (run_le _)
      have e : step 35 (x ++ y) = (some ⟨4, (x ++ y).take (run within (x ++ y)), 0⟩, run within (x ++ y) + 1) := by
        unfold step
        rw [if_neg (fun e => absurd e.1 (by decide)), if_neg (by decide), if_neg (by simp), if_pos ⟨rfl, by omega⟩]
      rw [all_cons, e] at h
      injection h with h _
      injection h with _ h _
      exact absurd h hne
  | num x n h1 h2 hx =>
    refine ⟨fun e => absurd e (by simp), fun e => absurd e (by simp), fun _ => ?_, fun e => absurd e (by simp), fun e => absurd e (by simp)⟩
    rw [one_num, List.append_assoc] at h
    refine ⟨fun ex => ?_, fun hxn => ?_⟩
    · have ex' : x = [] := ex
      subst ex'
      rw [List.nil_append] at h
      have hdig : digit (at0 y) = false := by
        cases hd : digit (at0 y)
        · rfl
        · exfalso
          subst hy
          obtain ⟨x2, m, rfl, hm0, hm1, hx2⟩ := head_digit hb hd
          have hu := unit_sep (y := []) (n := m) hx2 (sep_nil _)
          rw [List.append_nil] at hu
          rw [one_num] at h
          have em : Lib.itoa m = Lib.decDigits m.toNat := by unfold Lib.itoa; rw [if_neg (by omega)]
          rw [em] at h
          have hd2 := dec_digits m.toNat m.toNat (Nat.le_refl _)
          have key : ∀ (neg : Bool) (u : Nat), (number neg (Lib.decDigits u ++ (Lib.decDigits m.toNat ++ x2))).2 = (Lib.decDigits u ++ (Lib.decDigits m.toNat ++ x2)).length := by
            intro neg u
            have hd1 := dec_digits u u (Nat.le_refl _)
            have hd3 : ∀ b ∈ Lib.decDigits u ++ Lib.decDigits m.toNat, digit b = true := fun b hb => by
              rcases List.mem_append.1 hb with hb | hb
              · exact hd1 b hb
              · exact hd2 b hb
            rw [← List.append_assoc]
            unfold number
            simp only
            rw [run_word hd3 hu.1, List.drop_left, hu.2]; simp only [List.length_append]
          by_cases hn : n < 0
          · have e : Lib.itoa n = 45 :: Lib.decDigits n.natAbs := by unfold Lib.itoa; rw [if_pos hn]
            have hh : digit (at0 (Lib.decDigits n.natAbs ++ (Lib.decDigits m.toNat ++ x2))) = true := by
              rw [at0_app (dec_ne _)]
              cases hl : Lib.decDigits n.natAbs with
              | nil => exact absurd hl (dec_ne _)
              | cons c r => exact dec_digits _ _ (Nat.le_refl _) c (by rw [hl]; simp)
            rw [e, List.cons_append, all_cons, step_minus hh] at h
            simp only [Option.toList_some, List.drop_succ_cons, List.cons_append, List.nil_append] at h
            rw [key, List.drop_length, all_nil] at h
            injection h with _ h
            cases h
          · have e : Lib.itoa n = Lib.decDigits n.toNat := by unfold Lib.itoa; rw [if_neg hn]
            rw [e] at h
            have k := key false n.toNat
            cases hl : Lib.decDigits n.toNat with
            | nil => exact absurd hl (dec_ne _)
            | cons c r =>
              have hc : digit c = true := dec_digits _ _ (Nat.le_refl _) c (by rw [hl]; simp)
              rw [hl] at h k
              rw [List.cons_append, all_cons, step_number hc] at h
              simp only [Option.toList_some, List.cons_append, List.nil_append] at h k
              rw [k, List.drop_length, all_nil] at h
              injection h with _ h
              cases h
      have hunit : y.take (unit y) = [] := by
        by_cases hn : n < 0
        · have e : Lib.itoa n = 45 :: Lib.decDigits n.natAbs := by unfold Lib.itoa; rw [if_pos hn]
          have hh : digit (at0 (Lib.decDigits n.natAbs ++ y)) = true := by
            rw [at0_app (dec_ne _)]
            cases hl : Lib.decDigits n.natAbs with
            | nil => exact absurd hl (dec_ne _)
            | cons c r => exact dec_digits _ _ (Nat.le_refl _) c (by rw [hl]; simp)
          rw [e, List.cons_append, all_cons, step_minus hh, number_app true (by omega) hdig] at h
          injection h with h _
          injection h with _ h _
        · have e : Lib.itoa n = Lib.decDigits n.toNat := by unfold Lib.itoa; rw [if_neg hn]
          rw [e] at h
          have k := number_app (u := n.toNat) false (by omega) hdig
          cases hl : Lib.decDigits n.toNat with
          | nil => exact absurd hl (dec_ne _)
          | cons c r =>
            have hc : digit c = true := dec_digits _ _ (Nat.le_refl _) c (by rw [hl]; simp)
            rw [hl] at h k
            rw [List.cons_append, all_cons, step_number hc, ← List.cons_append, k] at h
            injection h with h _
            injection h with _ h _
      have hu0 : unit y = 0 := by
        have := congrArg List.length hunit
        rw [List.length_take] at this
        have h3 := unit_le y
        simp only [List.length_nil] at this
        omega
      have h37 : at0 y ≠ 37 := fun e => by rw [unit, if_pos e] at hu0; cases hu0
      refine ⟨hdig, h37, ?_⟩
      rw [unit, if_neg h37] at hu0
      cases hnb : nameB y
      · rfl
      · have := name_pos_iff.2 hnb; omega
    · cases hw : within (at0 y)
      · rfl
      · exfalso
        have hxn : isName x := hxn
        have hdz : digit (at0 (x ++ y)) = false := by rw [at0_app (isName_ne hxn)]; exact name_nodigit hxn.1
        have h37 : at0 (x ++ y) ≠ 37 := by
          rw [at0_app (isName_ne hxn)]
          exact within_ne (nameB_within hxn.1) (by decide)
        have hun : unit (x ++ y) = run within (x ++ y) := by rw [unit, if_neg h37, name, if_pos (nameB_app hxn.1)]
        have hm := run_more within_zero hxn.2 hw
        rw [← hun] at hm
        have hne := take_ne hm (unit_le _)
        by_cases hn : n < 0
        · have e : Lib.itoa n = 45 :: Lib.decDigits n.natAbs := by unfold Lib.itoa; rw [if_pos hn]
          have hh : digit (at0 (Lib.decDigits n.natAbs ++ (x ++ y))) = true := by
            rw [at0_app (dec_ne _)]
            cases hl : Lib.decDigits n.natAbs with
            | nil => exact absurd hl (dec_ne _)
            | cons c r => exact dec_digits _ _ (Nat.le_refl _) c (by rw [hl]; simp)
          rw [e, List.cons_append, all_cons, step_minus hh, number_app true (by omega) hdz] at h
          injection h with h _
          injection h with _ h _
          exact hne h
        · have e : Lib.itoa n = Lib.decDigits n.toNat := by unfold Lib.itoa; rw [if_neg hn]
          rw [e] at h
          have k := number_app (u := n.toNat) false (by omega) hdz
          cases hl : Lib.decDigits n.toNat with
          | nil => exact absurd hl (dec_ne _)
          | cons c r =>
            have hc : digit c = true := dec_digits _ _ (Nat.le_refl _) c (by rw [hl]; simp)
            rw [hl] at h k
            rw [List.cons_append, all_cons, step_number hc, ← List.cons_append, k] at h
            injection h with h _
            injection h with _ h _
            exact hne h
  | str x q hq hx => exact ⟨fun e => absurd e (by simp), fun e => absurd e (by simp), fun e => absurd e (by simp), fun e => absurd e (by simp), fun e => absurd e (by simp)⟩
  | delim c h1 h2 h3 =>
    refine ⟨fun e => absurd e (by simp), fun e => absurd e (by simp), fun e => absurd e (by simp), fun e => absurd e (by simp), fun _ => ⟨fun e => ?_, fun e => ?_, fun e => ?_, fun e => ?_⟩⟩
    · obtain rfl : c = 47 := by simpa using e
      intro h42
      rw [← hy] at h42
      have := head_sign hb h42 (by decide) (by decide) (by decide) (by decide) (by decide) (by decide)
      subst this
      subst hy
      exact absurd h (by decide)
    · obtain rfl : c = 35 := by simpa using e
      rw [one_delim (by decide) (by decide), List.cons_append, List.nil_append] at h
      cases hw : within (at0 y)
      · rfl
      · have hp := (run_pos_iff within_zero).2 hw
        have e : step 35 y = (some ⟨4, y.take (run within y), 0⟩, run within y + 1) := by
          unfold step
          rw [if_neg (fun e => absurd e.1 (by decide)), if_neg (by decide), if_neg (by simp), if_pos ⟨rfl, hp⟩]
        rw [all_cons, e] at h
        injection h with h _
        injection h with h _
        exact absurd h (by decide)
    · obtain rfl : c = 64 := by simpa using e
      rw [one_delim (by decide) (by decide), List.cons_append, List.nil_append] at h
      cases hw : nameB y
      · rfl
      · have hp := name_pos_iff.2 hw
        have e : step 64 y = (some ⟨3, y.take (name y), 0⟩, name y + 1) := by
          unfold step
          rw [if_neg (fun e => absurd e.1 (by decide)), if_neg (by decide), if_neg (by simp), if_neg (by simp), if_pos ⟨rfl, hp⟩]
        rw [all_cons, e] at h
        injection h with h _
        injection h with h _
        exact absurd h (by decide)
    · obtain rfl : c = 45 := by simpa using e
      rw [one_delim (by decide) (by decide), List.cons_append, List.nil_append] at h
      constructor
      · cases hd : digit (at0 y)
        · rfl
        · rw [all_cons, step_minus hd] at h
          injection h with h _
          injection h with h _
          exact absurd h (by decide)
      · cases hw : nameB (45 :: y)
        · rfl
        · rw [all_cons, step_name hw] at h
          split at h
          · injection h with h _
            injection h with h _
            exact absurd h (by decide)
          · injection h with h _
            injection h with h _
            exact absurd h (by decide)
  | white =>
    refine ⟨fun e => absurd e (by simp), fun e => absurd e (by simp), fun e => absurd e (by simp), fun _ => ?_, fun e => absurd e (by simp)⟩
    cases hw : blank (at0 y)
    · rfl
    · rw [← hy] at hw
      have := head_blank hb hw
      subst this
      subst hy
      exact absurd h (by decide)

/-- what may stand behind a token may be followed by what may stand behind that -/
theorem sep_app {a b : Tok} {z : List UInt8} (hb : Good b) (h : sep a (oneS b)) (hz : sep b z) : sep a (oneS b ++ z) := by
  have hn := one_ne hb
  have h0 : at0 (oneS b ++ z) = at0 (oneS b) := at0_app hn
  have hdash : nameB (45 :: (oneS b ++ z)) = nameB (45 :: oneS b) := by
    have e : ∀ w, nameB (45 :: w) = (begins 45 || ((45 : UInt8) == 45 && (begins (at0 w) || at0 w == 45))) := fun _ => rfl
    rw [e, e, h0]
  have hname : nameB (oneS b) = false → nameB (oneS b ++ z) = false := by
    intro hf
    generalize ho : oneS b = o at *
    match o, hn with
    | [c], _ =>
      cases hc : nameB ([c] ++ z)
      · rfl
      · rcases nameB_cases hc with hcb | ⟨rfl, _⟩
        · have : nameB [c] = true := by simp [nameB, at0, hcb]
          rw [this] at hf; cases hf
        · have := head_dash hb ho
          subst this
          have h7 := (hz.2.2.2.2 rfl).2.2.2 rfl
          rw [show nameB ([45] ++ z) = nameB (45 :: z) from rfl, h7.2] at hc
          cases hc
    | c :: d :: r, _ => exact hf
  obtain ⟨s1, s2, s3, s4, s5⟩ := h
  unfold sep
  rw [h0, hdash]
  refine ⟨s1, s2, fun e => ⟨fun ex => ?_, (s3 e).2⟩, s4, fun e => ⟨(s5 e).1, (s5 e).2.1, fun ex => hname ((s5 e).2.2.1 ex), (s5 e).2.2.2⟩⟩
  obtain ⟨x1, x2, x3⟩ := (s3 e).1 ex
  exact ⟨x1, x2, hname x3⟩

/-! ### the statements -/

theorem rest_read : ∀ (l : List Tok) (a : Tok), Good a → (∀ t ∈ l, Good t) → sep a (rest a l) ∧ all (rest a l) = l
  | [], a, _, _ => ⟨sep_nil a, all_nil⟩
  | b :: l, a, ha, hl => by
    have hb := hl b (by simp)
    obtain ⟨h1, h2⟩ := rest_read l b hb (fun t ht => hl t (by simp [ht]))
    have h3 := all_one hb h1
    rw [h2] at h3
    rw [rest]
    cases hap : apart a b
    · simp only [Bool.false_eq_true, if_false, List.nil_append]
      have : all (oneS a ++ oneS b) = [a, b] := by
        simp only [apart, Bool.or_eq_false_iff, decide_eq_false_iff_not, Decidable.not_not] at hap
        exact hap.1
      exact ⟨sep_app hb (sep_of ha hb this) h1, h3⟩
    · simp only [if_true, List.cons_append, List.nil_append]
      exact ⟨sep_slash a _, by rw [all_between]; exact h3⟩

/-- THE STAGE'S THEOREM -/
theorem back {l : List Tok} (h : ∀ t ∈ l, Good t) : all (text l) = l := by
  cases l with
  | nil => rfl
  | cons a l =>
    obtain ⟨h1, h2⟩ := rest_read l a (h a (by simp)) (fun t ht => h t (by simp [ht]))
    rw [text, all_one (h a (by simp)) h1, h2]

theorem rest_snoc (b : Tok) : ∀ (l : List Tok) (a : Tok), ∃ s, rest a (l ++ [b]) = rest a l ++ (s ++ oneS b)
  | [], a => ⟨if apart a b then [47, 42, 42, 47] else [], by simp [rest]⟩
  | c :: l, a => by
    obtain ⟨s, e⟩ := rest_snoc b l c
    exact ⟨s, by rw [List.cons_append, rest, rest, e]; simp only [List.append_assoc]⟩
theorem text_snoc (b : Tok) (l : List Tok) : ∃ s, text (l ++ [b]) = text l ++ (s ++ oneS b) := by
  cases l with
  | nil => exact ⟨[], by simp [text, rest]⟩
  | cons a l =>
    obtain ⟨s, e⟩ := rest_snoc b l a
    exact ⟨s, by rw [List.cons_append, text, text, e]; simp only [List.append_assoc]⟩
theorem text_more {b : Tok} (hb : Good b) (l : List Tok) : (text l).length < (text (l ++ [b])).length := by
  obtain ⟨s, e⟩ := text_snoc b l
  have := List.length_pos_iff.2 (one_ne hb)
  rw [e]; simp only [List.length_append]; omega

/-! ### blanks, and comments -/

/-- each with a comment behind it, blanks in place of blanks -/
def spread (w c : List UInt8) : List Tok → List UInt8
  | [] => []
  | t :: l => (if t.kind = 8 then w else oneS t) ++ (47 :: 42 :: (c ++ spread w c l))

theorem blanks_read {w y : List UInt8} (hne : w ≠ []) (hw : ∀ b ∈ w, blank b = true) (hy : blank (at0 y) = false) : all (w ++ y) = ⟨8, [10], 0⟩ :: all y := by
  cases w with
  | nil => exact absurd rfl hne
  | cons c r =>
    have hr := run_word hw hy
    have hc := hw c (by simp)
    rw [List.cons_append] at hr ⊢
    have e : step c (r ++ y) = (some ⟨8, [10], 0⟩, (c :: r).length) := by
      unfold step
      rw [if_neg (fun e => by rw [e.1] at hc; exact absurd hc (by decide)), if_pos hc, hr]
    rw [all_cons, e, ← List.cons_append, List.drop_left]
    rfl

theorem spread_read {w c : List UInt8} (hne : w ≠ []) (hw : ∀ b ∈ w, blank b = true) (hc : ∀ z, all (47 :: 42 :: (c ++ z)) = all z) : ∀ {l : List Tok}, (∀ t ∈ l, Good t) → all (spread w c l) = l
  | [], _ => rfl
  | t :: l, h => by
    have ih := spread_read hne hw hc (l := l) (fun t ht => h t (by simp [ht]))
    rw [spread]
    split
    · rename_i hk
      rw [blanks_read hne hw (by rw [at0_cons]; decide), hc, ih]
      have := h t (by simp)
      cases this with
      | white => rfl
      | _ => exact absurd hk (by simp)
    · rw [all_one (h t (by simp)) (sep_slash _ _), hc, ih]
end Go.Abs.Tk

namespace Go.Abs.Tk
open Go

/-! ### what each token has -/

theorem all_len (l : List UInt8) : (all l).length ≤ l.length := by
  refine all_ind (Q := fun l => (all l).length ≤ l.length) (Nat.le_refl _) (fun c r ih => ?_) l
  rw [all_cons, List.length_append]
  have h1 := step_pos c r
  have h2 := step_le c r
  have h3 : (step c r).1.toList.length ≤ 1 := by cases (step c r).1 <;> simp
  rw [List.length_drop] at ih
  simp only [List.length_cons] at *
  omega

theorem all_head_none {c : UInt8} {r : List UInt8} (h : (step c r).1 = none) : c = 47 ∧ at0 r = 42 ∧ (step c r).2 = comment r.tail := by
  unfold step at h ⊢
  split at h
  · rename_i hc
    rw [if_pos hc]
    exact ⟨hc.1, hc.2, rfl⟩
  · split at h
    · cases h
    split at h
    · cases h
    split at h
    · cases h
    split at h
    · cases h
    split at h
    · cases h
    split at h
    · cases h
    split at h
    · split at h <;> cases h
    · cases h

theorem step_white {c : UInt8} {r : List UInt8} {n : Int} {x : List UInt8} (h : (step c r).1 = some ⟨8, x, n⟩) : blank c = true ∧ (step c r).2 = run blank (c :: r) := by
  unfold step at h ⊢
  split at h
  · cases h
  rename_i h1
  rw [if_neg h1]
  split at h
  · rename_i h2
    rw [if_pos h2]
    exact ⟨h2, rfl⟩
  · split at h
    · exact absurd (congrArg Tok.kind (Option.some.inj h)) (by simp)
    split at h
    · exact absurd (congrArg Tok.kind (Option.some.inj h)) (by simp)
    split at h
    · exact absurd (congrArg Tok.kind (Option.some.inj h)) (by simp)
    split at h
    · exact absurd (congrArg Tok.kind (Option.some.inj h)) (by simp [number])
    split at h
    · exact absurd (congrArg Tok.kind (Option.some.inj h)) (by simp [number])
    split at h
    · split at h <;> exact absurd (congrArg Tok.kind (Option.some.inj h)) (by simp)
    · exact absurd (congrArg Tok.kind (Option.some.inj h)) (by simp)

/-- blanks in front, and no byte of theirs: a comment stands ahead -/
theorem white_far (l : List UInt8) : blank (at0 l) = false → ∀ t u, all l = t :: u → t.kind = 8 → 5 ≤ l.length := by
  intro hb t u h hk
  cases l with
  | nil => cases h
  | cons c r =>
    rw [all_cons] at h
    cases hs : (step c r).1 with
    | none =>
      obtain ⟨_, _, h3⟩ := all_head_none hs
      rw [hs, h3] at h
      simp only [Option.toList_none, List.nil_append] at h
      cases hl : (c :: r).drop (comment r.tail) with
      | nil => rw [hl] at h; cases h
      | cons d q =>
        have hlen := congrArg List.length hl
        rw [List.length_drop] at hlen
        simp only [List.length_cons] at hlen
        have h4 : 4 ≤ comment r.tail := by
          unfold comment at hlen ⊢
          split
          · rename_i n hn
            have := shut_le hn; omega
          · rename_i hn
            rw [hn] at hlen
            have : r.tail.length = r.length - 1 := List.length_tail
            simp only at hlen
            omega
        simp only [List.length_cons]; omega
    | some x =>
      rw [hs] at h
      simp only [Option.toList_some, List.cons_append, List.nil_append] at h
      injection h with h _
      subst h
      obtain ⟨k, y, n⟩ := x
      have hk : k = 8 := hk
      subst hk
      have := (step_white hs).1
      rw [at0_cons, this] at hb
      cases hb

/-- two blanks, one behind the other -/
theorem white_white (l : List UInt8) : ∀ (i : Nat) (a b : Tok), (all l)[i]? = some a → (all l)[i + 1]? = some b → a.kind = 8 → b.kind = 8 → 6 ≤ l.length := by
  refine all_ind (Q := fun l => ∀ (i : Nat) (a b : Tok), (all l)[i]? = some a → (all l)[i + 1]? = some b → a.kind = 8 → b.kind = 8 → 6 ≤ l.length) (fun i a b h => by simp [all_nil] at h) (fun c r ih i a b h1 h2 ha hb => ?_) l
  rw [all_cons] at h1 h2
  have hp := step_pos c r
  cases hs : (step c r).1 with
  | none =>
    rw [hs] at h1 h2
    have := ih i a b (by simpa using h1) (by simpa using h2) ha hb
    rw [List.length_drop] at this
    omega
  | some x =>
    rw [hs] at h1 h2
    simp only [Option.toList_some, List.cons_append, List.nil_append] at h1 h2
    cases i with
    | succ i =>
      simp only [List.getElem?_cons_succ] at h1 h2
      have := ih i a b h1 h2 ha hb
      rw [List.length_drop] at this
      omega
    | zero =>
      simp only [List.getElem?_cons_zero, List.getElem?_cons_succ, Option.some.injEq] at h1 h2
      subst h1
      obtain ⟨k, y, n⟩ := x
      have hk : k = 8 := ha
      subst hk
      obtain ⟨_, hn⟩ := step_white hs
      rw [hn] at h2 hp
      cases hl : all ((c :: r).drop (run blank (c :: r))) with
      | nil => rw [hl] at h2; cases h2
      | cons d q =>
        rw [hl] at h2
        simp only [List.getElem?_cons_zero, Option.some.injEq] at h2
        subst h2
        have := white_far _ (run_stop blank_zero (c :: r)) d q hl hb
        rw [List.length_drop] at this
        omega

/-! ### two texts, a comment between -/

section both
variable {R R' : List UInt8}

theorem at0_end (s : List UInt8) : at0 (s ++ 10 :: R) = at0 (s ++ 10 :: R') := by cases s <;> rfl
theorem tail_end {s : List UInt8} (h : s ≠ []) : (s ++ 10 :: R).tail = s.tail ++ 10 :: R := by
  cases s with
  | nil => exact absurd rfl h
  | cons c s => rfl
theorem run_end {p : UInt8 → Bool} (h : p 10 = false) : ∀ s : List UInt8, run p (s ++ 10 :: R) = run p s
  | [] => by rw [List.nil_append, run_zero (by rw [at0_cons]; exact h)]; rfl
  | c :: s => by
    rw [List.cons_append, run, run, run_end h s]
theorem nameB_end (s : List UInt8) : nameB (s ++ 10 :: R) = nameB s := by
  match s with
  | [] => exact nameB_head (c := 10) rfl (by decide)
  | [c] =>
    have e : ∀ (c d : UInt8) (w : List UInt8), nameB (c :: d :: w) = (begins c || (c == 45 && (begins d || d == 45))) := fun _ _ _ => rfl
    have e1 : ∀ (c : UInt8), nameB [c] = (begins c || (c == 45 && (begins 0 || (0 : UInt8) == 45))) := fun _ => rfl
    rw [List.cons_append, List.nil_append, e, e1]
    have h1 : (begins 10 || (10 : UInt8) == 45) = false := by decide
    have h2 : (begins 0 || (0 : UInt8) == 45) = false := by decide
    rw [h1, h2]
  | c :: d :: s => rfl
theorem name_end (s : List UInt8) : name (s ++ 10 :: R) = name s := by
  rw [name, name, nameB_end, run_end (by decide)]
theorem at0_drop_end (s : List UInt8) : ∀ n, n ≤ s.length → at0 ((s ++ 10 :: R).drop n) = at0 (s.drop n ++ [10]) := by
  intro n hn
  rw [List.drop_append_of_le_length hn]
  exact at0_end (R := R) (R' := []) _
theorem at0_ten (s : List UInt8) {d : UInt8} (h0 : d ≠ 0) (h10 : d ≠ 10) : (at0 (s ++ 10 :: R) = d) = (at0 s = d) := by
  cases s with
  | nil => exact propext ⟨fun h => absurd (show 10 = d from h).symm h10, fun h => absurd (show 0 = d from h).symm h0⟩
  | cons c s => rfl
theorem unit_end (s : List UInt8) : unit (s ++ 10 :: R) = unit s := by
  unfold unit
  simp only [name_end, at0_ten s (d := 37) (by decide) (by decide)]
theorem num_end : ∀ (s : List UInt8) (n : Int), num n (s ++ 10 :: R) = num n s
  | [], n => by rw [List.nil_append, num_stop (by rw [at0_cons]; decide)]; rfl
  | c :: s, n => by rw [List.cons_append, num, num, num_end s]
theorem number_end (neg : Bool) (s : List UInt8) : number neg (s ++ 10 :: R) = number neg s := by
  have h1 := run_le (p := digit) s
  unfold number
  simp only
  rw [run_end (by decide), num_end, List.drop_append_of_le_length h1, unit_end]
  rw [List.take_append_of_le_length (unit_le _)]
theorem inner_end {q : UInt8} (h : q ≠ 10) : ∀ s : List UInt8, inner q (s ++ 10 :: R) = inner q s
  | [] => by
    have : ending 10 = true := by decide
    rw [show inner q [] = none from rfl, List.nil_append, inner, if_neg (fun e => h e.symm), if_pos this]
  | c :: s => by rw [List.cons_append, inner, inner, inner_end h s]

/-- "\n*/\n" ends a comment, if one is open -/
theorem shut_end : ∀ s : List UInt8, ∃ n, (∀ R, shut (s ++ 10 :: 42 :: 47 :: 10 :: R) = some n) ∧ (n ≤ s.length ∨ n = s.length + 3)
  | [] => ⟨3, fun _ => rfl, .inr rfl⟩
  | c :: s => by
    obtain ⟨n, h2, h3⟩ := shut_end s
    by_cases hc : c = 42 ∧ at0 s = 47
    · refine ⟨2, fun R => ?_, .inl ?_⟩
      · rw [List.cons_append, shut, if_pos ⟨hc.1, by rw [at0_ten s (by decide) (by decide)]; exact hc.2⟩]
      · cases s with
        | nil => exact absurd hc.2 (by decide)
        | cons d s => simp
    · refine ⟨n + 1, fun R => ?_, by simp only [List.length_cons]; omega⟩
      rw [List.cons_append, shut, if_neg (fun e => hc ⟨e.1, by have := e.2; rwa [at0_ten s (by decide) (by decide)] at this⟩), h2]
      rfl

theorem blank_end : ∀ s : List UInt8, ∃ n, (∀ R, run blank (s ++ 10 :: 42 :: R) = n) ∧ (n ≤ s.length ∨ n = s.length + 1)
  | [] => ⟨1, fun R => by rw [List.nil_append, run, if_pos (by decide), run_zero (by rw [at0_cons]; decide)], .inr rfl⟩
  | c :: s => by
    obtain ⟨n, h1, h2⟩ := blank_end s
    cases hc : blank c
    · exact ⟨0, fun R => by rw [List.cons_append, run, if_neg (by simp [hc])], .inl (Nat.zero_le _)⟩
    · exact ⟨n + 1, fun R => by rw [List.cons_append, run, if_pos hc, h1], by simp only [List.length_cons]; omega⟩

/-- the step of a text that ends so, whatever stands behind; and how much of it is left -/
theorem step_end (c : UInt8) (s : List UInt8) : ∃ o n, (∀ R : List UInt8, step c (s ++ 10 :: 42 :: 47 :: 10 :: R) = (o, n)) ∧ (n ≤ s.length + 1 ∨ n = s.length + 2 ∨ n = s.length + 4) := by
  have dg : ∀ R, digit (at0 (s ++ 10 :: R)) = digit (at0 s) := fun R => by
    cases s with
    | nil => rfl
    | cons d s => rfl
  by_cases h1 : c = 47 ∧ at0 s = 42
  · cases s with
    | nil => exact absurd h1.2 (by decide)
    | cons d s =>
      obtain ⟨n, h2, h3⟩ := shut_end s
      refine ⟨none, n + 2, fun R => ?_, by simp only [List.length_cons]; omega⟩
      unfold step
      rw [if_pos ⟨h1.1, h1.2⟩]
      simp only [List.cons_append, List.tail_cons, comment, h2]
  have c1 : ∀ R, ¬ (c = 47 ∧ at0 (s ++ 10 :: R) = 42) := fun R e => h1 ⟨e.1, by have := e.2; rwa [at0_ten s (by decide) (by decide)] at this⟩
  by_cases h2 : blank c = true
  · obtain ⟨n, h3, h4⟩ := blank_end (c :: s)
    refine ⟨some ⟨8, [10], 0⟩, n, fun R => ?_, by simp only [List.length_cons] at h4; omega⟩
    unfold step
    rw [if_neg (c1 _), if_pos h2, ← List.cons_append, h3]
  have c10 : c ≠ 10 := fun e => h2 (by rw [e]; decide)
  by_cases h3 : (c = 34 ∨ c = 39) ∧ (inner c s).isSome = true
  · obtain ⟨n, hn⟩ := Option.isSome_iff_exists.1 h3.2
    have hl := inner_le hn
    refine ⟨some ⟨6, s.take n, c.toNat⟩, n + 2, fun R => ?_, .inl (by omega)⟩
    unfold step
    rw [if_neg (c1 _), if_neg h2, if_pos ⟨h3.1, by rw [inner_end c10]; exact h3.2⟩, inner_end c10, hn]
    simp only [Option.getD_some]
    rw [List.take_append_of_le_length (by omega)]
  by_cases h4 : c = 35 ∧ 0 < run within s
  · have hl := run_le (p := within) s
    refine ⟨some ⟨4, s.take (run within s), 0⟩, run within s + 1, fun R => ?_, .inl (by omega)⟩
    unfold step
    rw [if_neg (c1 _), if_neg h2, if_neg (by rw [inner_end c10]; exact h3), if_pos (by rw [run_end (by decide)]; exact h4), run_end (by decide), List.take_append_of_le_length hl]
  by_cases h5 : c = 64 ∧ 0 < name s
  · have hl := name_le s
    refine ⟨some ⟨3, s.take (name s), 0⟩, name s + 1, fun R => ?_, .inl (by omega)⟩
    unfold step
    rw [if_neg (c1 _), if_neg h2, if_neg (by rw [inner_end c10]; exact h3), if_neg (by rw [run_end (by decide)]; exact h4), if_pos (by rw [name_end]; exact h5), name_end, List.take_append_of_le_length hl]
  by_cases h6 : digit c = true
  · have hl := number_le false (c :: s)
    refine ⟨some (number false (c :: s)).1, (number false (c :: s)).2, fun R => ?_, .inl (by simpa using hl)⟩
    unfold step
    rw [if_neg (c1 _), if_neg h2, if_neg (by rw [inner_end c10]; exact h3), if_neg (by rw [run_end (by decide)]; exact h4), if_neg (by rw [name_end]; exact h5), if_pos h6, ← List.cons_append, number_end]
  by_cases h7 : c = 45 ∧ digit (at0 s) = true
  · have hl := number_le true s
    refine ⟨some (number true s).1, (number true s).2 + 1, fun R => ?_, .inl (by omega)⟩
    unfold step
    rw [if_neg (c1 _), if_neg h2, if_neg (by rw [inner_end c10]; exact h3), if_neg (by rw [run_end (by decide)]; exact h4), if_neg (by rw [name_end]; exact h5), if_neg h6, if_pos (by rw [dg]; exact h7), number_end]
  by_cases h8 : 0 < name (c :: s)
  · have hl := name_le (c :: s)
    have hd : ∀ R, (at0 ((c :: s ++ 10 :: R).drop (name (c :: s))) = 40) = (at0 ((c :: s).drop (name (c :: s))) = 40) := fun R => by
      rw [List.drop_append_of_le_length hl, at0_ten _ (by decide) (by decide)]
    have ht : ∀ R, (c :: s ++ 10 :: R).take (name (c :: s)) = (c :: s).take (name (c :: s)) := fun R => List.take_append_of_le_length hl
    by_cases h40 : at0 ((c :: s).drop (name (c :: s))) = 40
    · have hl2 : name (c :: s) ≠ (c :: s).length := fun e => by
        rw [e, List.drop_length] at h40; exact absurd h40 (by decide)
      simp only [List.length_cons] at hl hl2
      refine ⟨some ⟨2, (c :: s).take (name (c :: s)), 0⟩, name (c :: s) + 1, fun R => ?_, .inl (by omega)⟩
      unfold step
      rw [if_neg (c1 _), if_neg h2, if_neg (by rw [inner_end c10]; exact h3), if_neg (by rw [run_end (by decide)]; exact h4), if_neg (by rw [name_end]; exact h5), if_neg h6, if_neg (by rw [dg]; exact h7), ← List.cons_append, name_end, if_pos h8, if_pos (by rw [hd]; exact h40), ht]
    · refine ⟨some ⟨1, (c :: s).take (name (c :: s)), 0⟩, name (c :: s), fun R => ?_, .inl (by simpa using hl)⟩
      unfold step
      rw [if_neg (c1 _), if_neg h2, if_neg (by rw [inner_end c10]; exact h3), if_neg (by rw [run_end (by decide)]; exact h4), if_neg (by rw [name_end]; exact h5), if_neg h6, if_neg (by rw [dg]; exact h7), ← List.cons_append, name_end, if_pos h8, if_neg (by rw [hd]; exact h40), ht]
  · refine ⟨some ⟨7, [c], 0⟩, 1, fun R => ?_, .inl (by omega)⟩
    unfold step
    rw [if_neg (c1 _), if_neg h2, if_neg (by rw [inner_end c10]; exact h3), if_neg (by rw [run_end (by decide)]; exact h4), if_neg (by rw [name_end]; exact h5), if_neg h6, if_neg (by rw [dg]; exact h7), ← List.cons_append, name_end, if_neg h8]

theorem end1 (t : List UInt8) : all (10 :: 47 :: 42 :: 120 :: 42 :: 47 :: t) = ⟨8, [10], 0⟩ :: all t := by
  have h := all_one (y := 47 :: 42 :: 120 :: 42 :: 47 :: t) .white (sep_slash _ _)
  have e : all (47 :: 42 :: 120 :: 42 :: 47 :: t) = all t := by rw [all_cons]; rfl
  rw [e] at h
  exact h
theorem end0 : all [10] = [⟨8, [10], 0⟩] := good_all .white
theorem end3 (R : List UInt8) : all (42 :: 47 :: 10 :: R) = ⟨7, [42], 0⟩ :: ⟨7, [47], 0⟩ :: all (10 :: R) := by
  rw [all_cons, step_delim (by decide) (by decide) (by decide) (by decide) (by decide) (sep_sign (c := 47) rfl _ (by decide) (by decide) (by decide) (by decide) (by decide))]
  simp only [Option.toList_some, List.drop_succ_cons, List.drop_zero, List.cons_append, List.nil_append]
  rw [all_cons, step_delim (by decide) (by decide) (by decide) (by decide) (by decide) ⟨fun e => absurd e (by simp), fun e => absurd e (by simp), fun e => absurd e (by simp), fun e => absurd e (by simp), fun _ => ⟨fun _ => by rw [at0_cons]; decide, fun e => absurd e (by simp), fun e => absurd e (by simp), fun e => absurd e (by simp)⟩⟩]
  simp only [Option.toList_some, List.drop_succ_cons, List.drop_zero, List.cons_append, List.nil_append]
theorem end4 (R : List UInt8) : all (10 :: 42 :: 47 :: 10 :: R) = ⟨8, [10], 0⟩ :: all (42 :: 47 :: 10 :: R) :=
  all_one (y := 42 :: 47 :: 10 :: R) .white (by
    unfold sep
    refine ⟨fun e => absurd e (by simp), fun e => absurd e (by simp), fun e => absurd e (by simp), fun _ => by rw [at0_cons]; decide, fun e => absurd e (by simp)⟩)

/-- the tokens of a text that ends so, and of what stands behind it -/
theorem both (t : List UInt8) : ∀ (k : Nat) (s : List UInt8), s.length ≤ k → all (s ++ 10 :: 42 :: 47 :: 10 :: 47 :: 42 :: 120 :: 42 :: 47 :: t) = all (s ++ [10, 42, 47, 10]) ++ all t := by
  have z : all (10 :: 42 :: 47 :: 10 :: 47 :: 42 :: 120 :: 42 :: 47 :: t) = all [10, 42, 47, 10] ++ all t := by
    rw [end4, end4, end3, end3, end1, end0]; rfl
  intro k
  induction k with
  | zero =>
    intro s hs
    obtain rfl : s = [] := List.length_eq_zero_iff.1 (by omega)
    exact z
  | succ k ih =>
    intro s hs
    cases s with
    | nil => exact z
    | cons c s =>
      obtain ⟨o, n, h1, h2⟩ := step_end c s
      have hp := step_pos c (s ++ 10 :: 42 :: 47 :: 10 :: [])
      rw [h1] at hp
      simp only [List.length_cons] at hs hp
      rw [List.cons_append, List.cons_append, all_cons, all_cons, h1, h1, List.append_assoc]
      congr 1
      simp only
      rw [← List.cons_append, ← List.cons_append]
      rcases h2 with h2 | h2 | h2
      · rw [List.drop_append_of_le_length (by simpa using h2), List.drop_append_of_le_length (by simpa using h2)]
        exact ih _ (by rw [List.length_drop, List.length_cons]; omega)
      · have e : n = (c :: s).length + 1 := by simp [h2]
        rw [e, ← List.drop_drop, ← List.drop_drop, List.drop_left, List.drop_left]
        simp only [List.drop_succ_cons, List.drop_zero]
        rw [end3, end3, end1, end0]; rfl
      · have e : n = (c :: s).length + 3 := by simp [h2]
        rw [e, ← List.drop_drop, ← List.drop_drop, List.drop_left, List.drop_left]
        simp only [List.drop_succ_cons, List.drop_zero]
        rw [end1, end0]; rfl
end both
end Go.Abs.Tk

namespace Go.Abs.Tk
open Go

theorem good_num {t : Tok} (h : Good t) : -999999999 ≤ t.n ∧ t.n ≤ 999999999 := by
  cases h with
  | num x n h1 h2 hx => exact ⟨h1, h2⟩
  | str x q hq hx =>
    have := q.toNat_lt
    simp only; omega
  | _ => simp

theorem unit_len (l : List UInt8) : (l.take (unit l)).length ≤ l.length := by rw [List.length_take]; omega

theorem step_text {c : UInt8} {r : List UInt8} {t : Tok} (h : (step c r).1 = some t) : t.text.length ≤ r.length + 1 := by
  unfold step at h
  split at h
  · cases h
  split at h
  · cases h; simp
  split at h
  · cases h; simp only [List.length_take]; omega
  split at h
  · cases h; simp only [List.length_take]; omega
  split at h
  · cases h; simp only [List.length_take]; omega
  split at h
  · cases h
    have := unit_len ((c :: r).drop (run digit (c :: r)))
    simp only [List.length_drop, List.length_cons] at this
    simp only [number]; omega
  split at h
  · cases h
    have := unit_len (r.drop (run digit r))
    simp only [List.length_drop] at this
    simp only [number]; omega
  split at h
  · split at h
    · cases h; simp only [List.length_take, List.length_cons]; omega
    · cases h; simp only [List.length_take, List.length_cons]; omega
  · cases h; simp

theorem all_text (l : List UInt8) : ∀ t ∈ all l, t.text.length ≤ l.length := by
  refine all_ind (Q := fun l => ∀ t ∈ all l, t.text.length ≤ l.length) (fun t h => by simp [all_nil] at h) (fun c r ih t ht => ?_) l
  rw [all_cons] at ht
  rcases List.mem_append.1 ht with ht | ht
  · have := step_text (by simpa [Option.mem_toList] using ht)
    simpa using this
  · have := ih t ht
    rw [List.length_drop] at this
    omega

theorem rest_len {m : Nat} : ∀ (l : List Tok) (a : Tok), (∀ t ∈ l, (oneS t).length ≤ m) → (rest a l).length ≤ l.length * (m + 4)
  | [], _, _ => by simp [rest]
  | b :: l, a, h => by
    have h1 := rest_len l b fun t ht => h t (by simp [ht])
    have h2 := h b (by simp)
    have h3 : (if apart a b then ([47, 42, 42, 47] : List UInt8) else []).length ≤ 4 := by split <;> simp
    rw [rest]
    simp only [List.length_append, List.length_cons]
    rw [Nat.add_mul, Nat.one_mul]
    omega
theorem text_len {m : Nat} (l : List Tok) (h : ∀ t ∈ l, (oneS t).length ≤ m) : (text l).length ≤ l.length * (m + 4) := by
  cases l with
  | nil => simp [text]
  | cons a l =>
    have h1 := rest_len l a fun t ht => h t (by simp [ht])
    have h2 := h a (by simp)
    rw [text]
    simp only [List.length_append, List.length_cons]
    rw [Nat.add_mul, Nat.one_mul]
    omega
end Go.Abs.Tk
