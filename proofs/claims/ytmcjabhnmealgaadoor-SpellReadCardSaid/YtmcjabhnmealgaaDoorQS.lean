/-
  SELECTORS, in plain Lean: what a selector is, its text, the values that the text reads as; how values are read as selectors. No program stands here.
  SELECTORS: the text of a selector that may be is read as the tokens of its values.
  SELECTORS: the text of selectors that may be is read as the tokens of their values, and these as the values.
  SELECTORS: the values of selectors that may be are read as the selectors.
  SELECTORS: the values of selectors that may be are read as the selectors.
  SELECTORS: the text of selectors that may be is read as the selectors.
  SELECTORS: THE TEXT OF SELECTORS THAT MAY BE IS READ AS THE SELECTORS.
  SELECTORS: what is read as selectors may be.
  SELECTORS: how long the text is of what was read. No program stands here.
-/
import Derived.Test.YtmcjabhnmealgaaDoorQE
import Derived.Lib.Bytealg
import Derived.Lib.ItoaLen
import Derived.Lib.Join
set_option linter.unusedSimpArgs false
set_option linter.unusedVariables false
namespace Go.Abs

def combS (n : Int) : List UInt8 := if n = 1 then [32] else if n = 2 then [62] else if n = 3 then [43] else if n = 4 then [126] else []
def valueS (s : List UInt8) : List UInt8 := if 0 ≤ Lib.indexByte s 34 then 39 :: s ++ [39] else 34 :: s ++ [34]
def nthS (a b : Int) : List UInt8 := (if a = 0 then [] else Lib.itoa a ++ [110]) ++ (if a = 0 ∨ b < 0 then Lib.itoa b else if 0 < b then 43 :: Lib.itoa b else [])

inductive Sim where
  | mk (kind : Int) (name value : List UInt8) (a b : Int) (l : List Sim)

mutual
def simS : Sim → List UInt8
  | .mk k n v a b l =>
    if k = 1 then [42]
    else if k = 2 then n
    else if k = 3 then 35 :: n
    else if k = 4 then 46 :: n
    else if k = 5 then 91 :: (n ++ [93])
    else if k = 6 then 91 :: (n ++ 61 :: (valueS v ++ [93]))
    else if k = 7 then 58 :: n
    else if k = 8 then [58, 110, 116, 104, 45, 99, 104, 105, 108, 100, 40] ++ (nthS a b ++ [41])
    else if k = 9 then [58, 114, 111, 111, 116]
    else if k = 10 then [58, 101, 109, 112, 116, 121]
    else if k = 11 then [58, 110, 111, 116, 40] ++ (simsS l ++ [41])
    else []
def simsS : List Sim → List UInt8
  | [] => []
  | x :: l => simS x ++ simsS l
end

def Sim.kind : Sim → Int
  | .mk k _ _ _ _ _ => k

structure Prt where
  comb : Int
  l : List Sim
structure Cpx where
  parts : List Prt
  pseudo : List UInt8

def prtS (p : Prt) : List UInt8 := combS p.comb ++ simsS p.l
def pseS (s : List UInt8) : List UInt8 := if s = [] then [] else 58 :: 58 :: s
def cpxS (c : Cpx) : List UInt8 := c.parts.flatMap prtS ++ pseS c.pseudo
/-- the text of a list, read from its front -/
def restS (l : List Cpx) : List UInt8 := l.flatMap fun c => 44 :: cpxS c

namespace Sl

/-! ### reading -/

def isSign (s : List UInt8) : Val → Bool
  | .mk k t _ => k == 1 && decide (t = ⟨7, s, 0⟩)
def isBlank : Val → Bool
  | .mk k t _ => k == 1 && t.kind == 8
def trim (l : List Val) : List Val := ((l.dropWhile isBlank).reverse.dropWhile isBlank).reverse

/-- the token that comes, if it is of a kind -/
def tokK (kind : Int) : List Val → Option Tok
  | .mk k t _ :: _ => if k = 1 ∧ t.kind = kind then some t else none
  | [] => none
def sign (s : List UInt8) : List Val → Option (List Val)
  | v :: r => if isSign s v then some r else none
  | [] => none
def name (l : List Val) : Option (List UInt8 × List Val) := (tokK 1 l).map fun t => (t.text, l.tail)
def valueK (kind : Int) : List Val → Option ((Tok × List Val) × List Val)
  | .mk k t c :: r => if k = kind then some ((t, c), r) else none
  | [] => none

def digits (s : List UInt8) : Int := if s.length < 1 ∨ 4 < s.length then -1 else if s.all Tk.digit then s.foldl (fun n c => 10 * n + ((c.toNat : Int) - 48)) 0 else -1

def nth1 (t : Tok) : Option (Int × Int) :=
  if t.kind = 1 then (if t.text = [111, 100, 100] then some (2, 1) else if t.text = [101, 118, 101, 110] then some (2, 0) else if t.text = [110] then some (1, 0) else none)
  else if t.kind = 5 then
    (if t.text = [] then some (0, t.n) else if t.text = [110] then some (t.n, 0)
     else if 2 < t.text.length ∧ t.text.take 2 = [110, 45] ∧ 0 ≤ digits (t.text.drop 2) then some (t.n, -digits (t.text.drop 2)) else none)
  else none
def nth (v : List Val) : Option (Int × Int) :=
  match trim v with
  | [.mk k t _] => if k = 1 then nth1 t else none
  | [.mk k t _, s, .mk k' u _] => if k = 1 ∧ t.kind = 5 ∧ t.text = [110] ∧ isSign [43] s = true ∧ k' = 1 ∧ u.kind = 5 ∧ u.text = [] ∧ 0 ≤ u.n then some (t.n, u.n) else none
  | _ => none
def few (n : Int) : Prop := -9999 ≤ n ∧ n ≤ 9999
instance (n : Int) : Decidable (few n) := by unfold few; infer_instance
def nthM (v : List Val) : Option (Int × Int) :=
  match nth v with
  | some x => if few x.1 ∧ few x.2 then some x else none
  | none => none

def attr (l : List Val) : Option Sim :=
  match l.filter (fun v => !isBlank v) with
  | [.mk k t _] => if k = 1 ∧ t.kind = 1 then some (.mk 5 t.text [] 0 0 []) else none
  | [.mk k t _, e, .mk k' u _] => if k = 1 ∧ t.kind = 1 ∧ isSign [61] e = true ∧ k' = 1 ∧ (u.kind = 1 ∨ u.kind = 6) then some (.mk 6 t.text u.text 0 0 []) else none
  | _ => none

def hoverT : List UInt8 := [104, 111, 118, 101, 114]
def focusT : List UInt8 := [102, 111, 99, 117, 115]
def activeT : List UInt8 := [97, 99, 116, 105, 118, 101]
def checkedT : List UInt8 := [99, 104, 101, 99, 107, 101, 100]
def rootT : List UInt8 := [114, 111, 111, 116]
def emptyT : List UInt8 := [101, 109, 112, 116, 121]
def firstT : List UInt8 := [102, 105, 114, 115, 116, 45, 99, 104, 105, 108, 100]
def nthT : List UInt8 := [110, 116, 104, 45, 99, 104, 105, 108, 100]
def notT : List UInt8 := [110, 111, 116]
def beforeT : List UInt8 := [98, 101, 102, 111, 114, 101]
def afterT : List UInt8 := [97, 102, 116, 101, 114]
def isState (s : List UInt8) : Prop := s = hoverT ∨ s = focusT ∨ s = activeT ∨ s = checkedT
instance (s : List UInt8) : Decidable (isState s) := by unfold isState; infer_instance

def colonName (s : List UInt8) : Option Sim :=
  if isState s then some (.mk 7 s [] 0 0 []) else if s = rootT then some (.mk 9 [] [] 0 0 []) else if s = emptyT then some (.mk 10 [] [] 0 0 [])
  else if s = firstT then some (.mk 8 [] [] 0 1 []) else none

def low1 (c : UInt8) : UInt8 := if 65 ≤ c.toNat ∧ c.toNat ≤ 90 then c + 32 else c
def low (s : List UInt8) : List UInt8 := s.map low1

/-- what stands behind a sign : ; 'g': how what stands within is read -/
def colon (g : List Val → Option (Sim × List Val)) (l : List Val) : Option (Sim × List Val) :=
  match valueK 5 l with
  | some ((t, c), r) =>
    if t.text = nthT then (nthM c).map fun x => (.mk 8 [] [] x.1 x.2 [], r)
    else if t.text = notT then
      (match g (trim c) with
       | some (x, []) => if x.kind = 11 then none else some (.mk 11 [] [] 0 0 [x], r)
       | _ => none)
    else none
  | none =>
    match name l with
    | some (s, r) => (colonName s).map fun x => (x, r)
    | none => none

/-- a simple selector, at the front of a compound one, or not -/
def simple : Nat → Bool → List Val → Option (Sim × List Val)
  | 0, _, _ => none
  | f + 1, first, l =>
    match (if first then tokK 1 l else none) with
    | some t => some (.mk 2 (low t.text) [] 0 0 [], l.tail)
    | none =>
    match (if first then sign [42] l else none) with
    | some r => some (.mk 1 [] [] 0 0 [], r)
    | none =>
    match tokK 4 l with
    | some t => some (.mk 3 t.text [] 0 0 [], l.tail)
    | none =>
    match sign [46] l with
    | some r => (name r).map fun x => (.mk 4 x.1 [] 0 0 [], x.2)
    | none =>
    match sign [58] l with
    | some r => colon (simple f true) r
    | none =>
    match valueK 3 l with
    | some x => (attr x.1.2).map fun y => (y, x.2)
    | none => none

def over : List Val → Bool
  | [] => true
  | v :: _ => isBlank v || isSign [62] v || isSign [43] v || isSign [126] v
def double : List Val → Bool
  | v :: w :: _ => isSign [58] v && isSign [58] w
  | _ => false

/-- the simple selectors of a compound one -/
def part : Nat → Bool → List Val → Option (List Sim × List Val)
  | 0, _, _ => none
  | f + 1, first, l =>
    if over l || double l then some ([], l)
    else match simple (Ne.size l) first l with
      | none => none
      | some (x, r) => (part f false r).map fun y => (x :: y.1, y.2)

def comb (l : List Val) : Int × List Val :=
  let m := l.dropWhile isBlank
  match sign [62] m with
  | some r => (2, r.dropWhile isBlank)
  | none =>
  match sign [43] m with
  | some r => (3, r.dropWhile isBlank)
  | none =>
  match sign [126] m with
  | some r => (4, r.dropWhile isBlank)
  | none => (1, m.dropWhile isBlank)

/-- a complex selector of so many parts at most -/
def cpx : Nat → Int → List Val → Option Cpx
  | 0, _, _ => none
  | n + 1, c, l =>
    match part (l.length + 1) true l with
    | none => none
    | some (ps, r) =>
      if double r then
        (match name (r.drop 2) with
         | some (s, []) => if (s = beforeT ∨ s = afterT) ∧ ps.length ≤ 8 then some ⟨[⟨c, ps⟩], s⟩ else none
         | _ => none)
      else if 8 < ps.length ∨ ps = [] then none
      else if r.isEmpty then some ⟨[⟨c, ps⟩], []⟩
      else (cpx n (comb r).1 (comb r).2).map fun x => ⟨⟨c, ps⟩ :: x.parts, x.pseudo⟩

/-- what stands between signs -/
def at_ (s : List UInt8) : List Val → List (List Val)
  | [] => [[]]
  | v :: l => if isSign s v then [] :: at_ s l else match at_ s l with
    | [] => [[v]]
    | p :: ps => (v :: p) :: ps

def all_ : List (List Val) → Option (List Cpx)
  | [] => some []
  | p :: ps => match cpx 16 0 (trim p), all_ ps with
    | some c, some cs => some (c :: cs)
    | _, _ => none
def parse (l : List Val) : Option (List Cpx) := if (at_ [44] l).length ≤ 32 then all_ (at_ [44] l) else none
def read (s : List UInt8) : Option (List Cpx) := (Ne.parse 60 (Tk.all s)).bind fun v => parse (trim v)

/-! ### the values that the text reads as -/

def tv (t : Tok) : Val := .mk 1 t []
def dv (c : UInt8) : Val := tv ⟨7, [c], 0⟩
def iv (s : List UInt8) : Val := tv ⟨1, s, 0⟩
def quoteOf (v : List UInt8) : Int := if 0 ≤ Lib.indexByte v 34 then 39 else 34
def nthV (a b : Int) : List Val :=
  if a = 0 then [tv ⟨5, [], b⟩]
  else if b < 0 then [tv ⟨5, 110 :: Lib.itoa b, a⟩]
  else if 0 < b then [tv ⟨5, [110], a⟩, dv 43, tv ⟨5, [], b⟩]
  else [tv ⟨5, [110], a⟩]
mutual
def simV : Sim → List Val
  | .mk k n v a b l =>
    if k = 1 then [dv 42]
    else if k = 2 then [iv n]
    else if k = 3 then [tv ⟨4, n, 0⟩]
    else if k = 4 then [dv 46, iv n]
    else if k = 5 then [.mk 3 Ne.tok0 [iv n]]
    else if k = 6 then [.mk 3 Ne.tok0 [iv n, dv 61, tv ⟨6, v, quoteOf v⟩]]
    else if k = 7 then [dv 58, iv n]
    else if k = 8 then [dv 58, .mk 5 ⟨2, nthT, 0⟩ (nthV a b)]
    else if k = 9 then [dv 58, iv rootT]
    else if k = 10 then [dv 58, iv emptyT]
    else if k = 11 then [dv 58, .mk 5 ⟨2, notT, 0⟩ (simsV l)]
    else []
def simsV : List Sim → List Val
  | [] => []
  | x :: l => simV x ++ simsV l
end
def combV (n : Int) : List Val := if n = 1 then [tv ⟨8, [10], 0⟩] else if n = 2 then [dv 62] else if n = 3 then [dv 43] else if n = 4 then [dv 126] else []
def prtV (p : Prt) : List Val := combV p.comb ++ simsV p.l
def pseV (s : List UInt8) : List Val := if s = [] then [] else [dv 58, dv 58, iv s]
def cpxV (c : Cpx) : List Val := c.parts.flatMap prtV ++ pseV c.pseudo
def restV (l : List Cpx) : List Val := l.flatMap fun c => dv 44 :: cpxV c
end Sl
end Go.Abs

namespace Go.Abs
namespace Sl
open Tk (isName Good sep within digit begins at0 all)

/-- the simple selectors that may be -/
inductive Gs : Sim → Prop
  | any : Gs (.mk 1 [] [] 0 0 [])
  | tag (n : List UInt8) : isName n → low n = n → Gs (.mk 2 n [] 0 0 [])
  | id (n : List UInt8) : n ≠ [] → (∀ b ∈ n, within b = true) → Gs (.mk 3 n [] 0 0 [])
  | cls (n : List UInt8) : isName n → Gs (.mk 4 n [] 0 0 [])
  | has (n : List UInt8) : isName n → Gs (.mk 5 n [] 0 0 [])
  | is (n v : List UInt8) : isName n → (∀ b ∈ v, Tk.ending b = false) → (0 ≤ Lib.indexByte v 34 → ∀ b ∈ v, b ≠ 39) → Gs (.mk 6 n v 0 0 [])
  | state (n : List UInt8) : isState n → Gs (.mk 7 n [] 0 0 [])
  | nth (a b : Int) : few a → few b → Gs (.mk 8 [] [] a b [])
  | root : Gs (.mk 9 [] [] 0 0 [])
  | empty : Gs (.mk 10 [] [] 0 0 [])
  | not (x : Sim) : Gs x → x.kind ≠ 11 → Gs (.mk 11 [] [] 0 0 [x])

/-- what may stand behind any token but blanks -/
def okNext (y : List UInt8) : Prop := ∀ t : Tok, t.kind ≠ 8 → sep t y

theorem okNext_sign {y : List UInt8} {c : UInt8} (h : at0 y = c) (h1 : within c = false) (h2 : Tk.blank c = false) (h3 : c ≠ 40) (h4 : c ≠ 37) (h5 : c ≠ 42) : okNext y := fun t _ => Tk.sep_sign h t h1 h2 h3 h4 h5
theorem okNext_nil : okNext [] := fun t _ => Tk.sep_nil t
theorem okNext_blank (y : List UInt8) : okNext (32 :: y) := fun t ht => by
  unfold sep
  have h : at0 (32 :: y) = 32 := rfl
  rw [h]
  have hn : Tk.nameB (32 :: y) = false := Tk.nameB_head (c := 32) rfl (by decide)
  have h1 : begins (at0 (32 :: y)) = false := by rw [h]; decide
  have h2 : at0 (32 :: y) ≠ 45 := by rw [h]; decide
  exact ⟨fun _ => ⟨by decide, by decide⟩, fun _ => by decide, fun _ => ⟨fun _ => ⟨by decide, by decide, hn⟩, fun _ => by decide⟩, fun e => absurd e ht,
    fun _ => ⟨fun _ => by decide, fun _ => by decide, fun _ => hn, fun _ => ⟨by decide, Tk.nameB_dash h1 h2⟩⟩⟩

theorem sep_delim {c : UInt8} (h1 : c ≠ 47) (h2 : c ≠ 35) (h3 : c ≠ 64) (h4 : c ≠ 45) (y : List UInt8) : sep ⟨7, [c], 0⟩ y := by
  unfold sep
  refine ⟨fun e => by simp at e, fun e => by simp at e, fun e => by simp at e, fun e => by simp at e, fun _ => ⟨fun e => ?_, fun e => ?_, fun e => ?_, fun e => ?_⟩⟩ <;> simp at e
  · exact absurd e h1
  · exact absurd e h2
  · exact absurd e h3
  · exact absurd e h4
theorem sep_func (x y : List UInt8) : sep ⟨2, x, 0⟩ y := by
  unfold sep
  exact ⟨fun e => by simp at e, fun e => by simp at e, fun e => by simp at e, fun e => by simp at e, fun e => by simp at e⟩
theorem sep_str (x y : List UInt8) (n : Int) : sep ⟨6, x, n⟩ y := by
  unfold sep
  exact ⟨fun e => by simp at e, fun e => by simp at e, fun e => by simp at e, fun e => by simp at e, fun e => by simp at e⟩

/-! ### tokens, one after the other -/

theorem all_delim {c : UInt8} {y : List UInt8} (h : Good ⟨7, [c], 0⟩) (h34 : c ≠ 34) (h39 : c ≠ 39) (hs : sep ⟨7, [c], 0⟩ y) : all (c :: y) = ⟨7, [c], 0⟩ :: all y := by
  have := Tk.all_one h hs
  rw [Tk.one_delim h34 h39] at this
  exact this
theorem all_ident {n y : List UInt8} (h : isName n) (hy : okNext y) : all (n ++ y) = ⟨1, n, 0⟩ :: all y := by
  have := Tk.all_one (y := y) (.ident n h) (hy _ (by simp))
  exact this
theorem all_func {n y : List UInt8} (h : isName n) : all (n ++ 40 :: y) = ⟨2, n, 0⟩ :: all y := by
  have := Tk.all_one (y := y) (.func n h) (sep_func _ _)
  have e : oneS ⟨2, n, 0⟩ = n ++ [40] := rfl
  rw [e, List.append_assoc] at this
  exact this

theorem good_delim {c : UInt8} (h1 : begins c = false) (h2 : digit c = false) (h3 : Tk.blank c = false) : Good ⟨7, [c], 0⟩ := .delim c h1 h2 h3

theorem a42 (y : List UInt8) : all (42 :: y) = ⟨7, [42], 0⟩ :: all y := all_delim (good_delim (by decide) (by decide) (by decide)) (by decide) (by decide) (sep_delim (by decide) (by decide) (by decide) (by decide) y)
theorem a46 (y : List UInt8) : all (46 :: y) = ⟨7, [46], 0⟩ :: all y := all_delim (good_delim (by decide) (by decide) (by decide)) (by decide) (by decide) (sep_delim (by decide) (by decide) (by decide) (by decide) y)
theorem a58 (y : List UInt8) : all (58 :: y) = ⟨7, [58], 0⟩ :: all y := all_delim (good_delim (by decide) (by decide) (by decide)) (by decide) (by decide) (sep_delim (by decide) (by decide) (by decide) (by decide) y)
theorem a91 (y : List UInt8) : all (91 :: y) = ⟨7, [91], 0⟩ :: all y := all_delim (good_delim (by decide) (by decide) (by decide)) (by decide) (by decide) (sep_delim (by decide) (by decide) (by decide) (by decide) y)
theorem a93 (y : List UInt8) : all (93 :: y) = ⟨7, [93], 0⟩ :: all y := all_delim (good_delim (by decide) (by decide) (by decide)) (by decide) (by decide) (sep_delim (by decide) (by decide) (by decide) (by decide) y)
theorem a61 (y : List UInt8) : all (61 :: y) = ⟨7, [61], 0⟩ :: all y := all_delim (good_delim (by decide) (by decide) (by decide)) (by decide) (by decide) (sep_delim (by decide) (by decide) (by decide) (by decide) y)
theorem a41 (y : List UInt8) : all (41 :: y) = ⟨7, [41], 0⟩ :: all y := all_delim (good_delim (by decide) (by decide) (by decide)) (by decide) (by decide) (sep_delim (by decide) (by decide) (by decide) (by decide) y)
theorem a43 (y : List UInt8) : all (43 :: y) = ⟨7, [43], 0⟩ :: all y := all_delim (good_delim (by decide) (by decide) (by decide)) (by decide) (by decide) (sep_delim (by decide) (by decide) (by decide) (by decide) y)
theorem a44 (y : List UInt8) : all (44 :: y) = ⟨7, [44], 0⟩ :: all y := all_delim (good_delim (by decide) (by decide) (by decide)) (by decide) (by decide) (sep_delim (by decide) (by decide) (by decide) (by decide) y)
theorem a62 (y : List UInt8) : all (62 :: y) = ⟨7, [62], 0⟩ :: all y := all_delim (good_delim (by decide) (by decide) (by decide)) (by decide) (by decide) (sep_delim (by decide) (by decide) (by decide) (by decide) y)
theorem a126 (y : List UInt8) : all (126 :: y) = ⟨7, [126], 0⟩ :: all y := all_delim (good_delim (by decide) (by decide) (by decide)) (by decide) (by decide) (sep_delim (by decide) (by decide) (by decide) (by decide) y)
theorem a32 {y : List UInt8} (h : Tk.blank (at0 y) = false) : all (32 :: y) = ⟨8, [10], 0⟩ :: all y := Tk.blanks_read (w := [32]) (by simp) (by simp; decide) h

theorem n41 (y : List UInt8) : okNext (41 :: y) := okNext_sign (c := 41) rfl (by decide) (by decide) (by decide) (by decide) (by decide)
theorem n93 (y : List UInt8) : okNext (93 :: y) := okNext_sign (c := 93) rfl (by decide) (by decide) (by decide) (by decide) (by decide)
theorem n61 (y : List UInt8) : okNext (61 :: y) := okNext_sign (c := 61) rfl (by decide) (by decide) (by decide) (by decide) (by decide)
theorem n43 (y : List UInt8) : okNext (43 :: y) := okNext_sign (c := 43) rfl (by decide) (by decide) (by decide) (by decide) (by decide)
theorem n44 (y : List UInt8) : okNext (44 :: y) := okNext_sign (c := 44) rfl (by decide) (by decide) (by decide) (by decide) (by decide)
theorem n46 (y : List UInt8) : okNext (46 :: y) := okNext_sign (c := 46) rfl (by decide) (by decide) (by decide) (by decide) (by decide)
theorem n58 (y : List UInt8) : okNext (58 :: y) := okNext_sign (c := 58) rfl (by decide) (by decide) (by decide) (by decide) (by decide)
theorem n35 (y : List UInt8) : okNext (35 :: y) := okNext_sign (c := 35) rfl (by decide) (by decide) (by decide) (by decide) (by decide)
theorem n91 (y : List UInt8) : okNext (91 :: y) := okNext_sign (c := 91) rfl (by decide) (by decide) (by decide) (by decide) (by decide)
theorem n62 (y : List UInt8) : okNext (62 :: y) := okNext_sign (c := 62) rfl (by decide) (by decide) (by decide) (by decide) (by decide)
theorem n126 (y : List UInt8) : okNext (126 :: y) := okNext_sign (c := 126) rfl (by decide) (by decide) (by decide) (by decide) (by decide)

/-! ### numbers -/

theorem digits_within : ∀ u : Nat, ∀ b ∈ Lib.decDigits u, digit b = true := by
  intro u
  induction u using Nat.strongRecOn with
  | _ u ih =>
    intro b hb
    unfold Lib.decDigits at hb
    split at hb
    · rename_i h
      obtain rfl : b = UInt8.ofNat (48 + u) := by simpa using hb
      have key : ∀ v : Fin 10, digit (UInt8.ofNat (48 + v.1)) = true := by decide
      exact key ⟨u, h⟩
    · rcases List.mem_append.1 hb with hb | hb
      · exact ih (u / 10) (by omega) b hb
      · obtain rfl : b = UInt8.ofNat (48 + u % 10) := by simpa using hb
        have key : ∀ v : Fin 10, digit (UInt8.ofNat (48 + v.1)) = true := by decide
        exact key ⟨u % 10, Nat.mod_lt _ (by decide)⟩
theorem digit_within {b : UInt8} (h : digit b = true) : within b = true := by unfold Tk.within; rw [h]; simp

theorem name_neg {b : Int} (h : b < 0) : isName (110 :: Lib.itoa b) := by
  have e : Lib.itoa b = 45 :: Lib.decDigits b.natAbs := by unfold Lib.itoa; rw [if_pos h]
  rw [e]
  refine ⟨rfl, fun c hc => ?_⟩
  simp only [List.mem_cons] at hc
  rcases hc with rfl | rfl | hc
  · decide
  · decide
  · exact digit_within (digits_within _ c hc)
theorem name_n : isName [110] := ⟨rfl, fun c hc => by obtain rfl : c = 110 := by simpa using hc
                                                      decide⟩

theorem all_numb {x y : List UInt8} {n : Int} (h : few n) (hx : x = [] ∨ isName x) (hy : okNext y) : all (Lib.itoa n ++ (x ++ y)) = ⟨5, x, n⟩ :: all y := by
  have hg : Good ⟨5, x, n⟩ := .num x n (by unfold few at h; omega) (by unfold few at h; omega) (by rcases hx with h | h; exact .inl h; exact .inr (.inr h))
  have := Tk.all_one (y := y) hg (hy _ (by simp))
  rw [Tk.one_num, List.append_assoc] at this
  exact this

theorem flat_tv (t : Tok) : Ne.flatV (tv t) = [t] := by unfold tv; rw [Ne.flatV, if_pos rfl]

theorem nth_read {a b : Int} (ha : few a) (hb : few b) {y : List UInt8} (hy : okNext y) : all (nthS a b ++ y) = Ne.flat (nthV a b) ++ all y := by
  unfold nthS nthV
  by_cases h0 : a = 0
  · subst h0
    rw [if_pos rfl, if_pos (.inl rfl), if_pos rfl, List.nil_append]
    have := all_numb (x := []) hb (.inl rfl) hy
    rw [List.nil_append] at this
    rw [this, Ne.flat, Ne.flat, flat_tv]; rfl
  · rw [if_neg h0, if_neg h0]
    by_cases hn : b < 0
    · rw [if_pos (.inr hn), if_pos hn, Ne.flat, Ne.flat, flat_tv]
      have := all_numb (x := 110 :: Lib.itoa b) ha (.inr (name_neg hn)) hy
      rw [List.append_assoc, List.append_assoc]
      exact this
    · rw [if_neg (fun h => h.elim h0 hn), if_neg hn]
      by_cases hp : 0 < b
      · rw [if_pos hp, if_pos hp, Ne.flat, Ne.flat, Ne.flat, Ne.flat, flat_tv, flat_tv]
        have h1 := all_numb (x := [110]) ha (.inr name_n) (n43 (Lib.itoa b ++ y))
        have h2 := all_numb (x := []) hb (.inl rfl) hy
        rw [List.nil_append] at h2
        have e : Lib.itoa a ++ [110] ++ 43 :: Lib.itoa b ++ y = Lib.itoa a ++ ([110] ++ 43 :: (Lib.itoa b ++ y)) := by simp
        rw [e, h1, a43, h2]
        unfold dv
        rw [flat_tv]; rfl
      · rw [if_neg hp, if_neg hp, Ne.flat, Ne.flat, flat_tv, List.append_nil]
        have := all_numb (x := [110]) ha (.inr name_n) hy
        rw [List.append_assoc]
        exact this

/-! ### simple selectors -/

theorem flat_nil : Ne.flat [] = [] := by rw [Ne.flat]
theorem flat_cons (v : Val) (l : List Val) : Ne.flat (v :: l) = Ne.flatV v ++ Ne.flat l := by rw [Ne.flat]
theorem flat_app : ∀ a b : List Val, Ne.flat (a ++ b) = Ne.flat a ++ Ne.flat b
  | [], b => by rw [List.nil_append, flat_nil, List.nil_append]
  | v :: a, b => by rw [List.cons_append, flat_cons, flat_cons, flat_app a b, List.append_assoc]
theorem flat_dv (c : UInt8) : Ne.flatV (dv c) = [⟨7, [c], 0⟩] := flat_tv _
theorem flat_iv (s : List UInt8) : Ne.flatV (iv s) = [⟨1, s, 0⟩] := flat_tv _
theorem flat_box (l : List Val) : Ne.flatV (.mk 3 Ne.tok0 l) = ⟨7, [91], 0⟩ :: (Ne.flat l ++ [⟨7, [93], 0⟩]) := by
  rw [Ne.flatV, if_neg (by decide), if_neg (by decide), if_pos (by decide)]; rfl
theorem flat_fun (t : Tok) (l : List Val) : Ne.flatV (.mk 5 t l) = t :: (Ne.flat l ++ [⟨7, [41], 0⟩]) := by
  rw [Ne.flatV, if_neg (by decide), if_pos rfl]; rfl

theorem name_nth : isName nthT := ⟨rfl, by decide⟩
theorem name_not : isName notT := ⟨rfl, by decide⟩
theorem name_root : isName rootT := ⟨rfl, by decide⟩
theorem name_empty : isName emptyT := ⟨rfl, by decide⟩
theorem name_before : isName beforeT := ⟨rfl, by decide⟩
theorem name_after : isName afterT := ⟨rfl, by decide⟩
theorem name_state {n : List UInt8} (h : isState n) : isName n := by
  rcases h with rfl | rfl | rfl | rfl <;> exact ⟨rfl, by decide⟩

theorem index_none : ∀ {v : List UInt8} {c : UInt8}, ¬ 0 ≤ Lib.indexByte v c → ∀ b ∈ v, b ≠ c
  | [], _, _, b, hb => by cases hb
  | a :: v, c, h, b, hb => by
    unfold Lib.indexByte at h
    cases hac : (a == c)
    · rw [hac] at h
      have h' : ¬ 0 ≤ Lib.indexByte v c := fun h0 => h (by simp; split <;> omega)
      rcases List.mem_cons.1 hb with rfl | hb
      · exact beq_eq_false_iff_ne.1 hac
      · exact index_none h' b hb
    · rw [hac] at h
      exact absurd (by simp) h

theorem val_good {v : List UInt8} (h1 : ∀ b ∈ v, Tk.ending b = false) (h2 : 0 ≤ Lib.indexByte v 34 → ∀ b ∈ v, b ≠ 39) : Good ⟨6, v, quoteOf v⟩ ∧ oneS ⟨6, v, quoteOf v⟩ = valueS v := by
  unfold quoteOf valueS
  by_cases h : 0 ≤ Lib.indexByte v 34
  · rw [if_pos h, if_pos h]
    exact ⟨.str v 39 (.inr rfl) fun b hb => ⟨h2 h b hb, h1 b hb⟩, rfl⟩
  · rw [if_neg h, if_neg h]
    exact ⟨.str v 34 (.inl rfl) fun b hb => ⟨index_none h b hb, h1 b hb⟩, rfl⟩

theorem all_value {v y : List UInt8} (h1 : ∀ b ∈ v, Tk.ending b = false) (h2 : 0 ≤ Lib.indexByte v 34 → ∀ b ∈ v, b ≠ 39) : all (valueS v ++ y) = ⟨6, v, quoteOf v⟩ :: all y := by
  obtain ⟨hg, ho⟩ := val_good h1 h2
  rw [← ho]
  exact Tk.all_one hg (sep_str _ _ _)

theorem sim_read {x : Sim} (h : Gs x) : ∀ {y : List UInt8}, okNext y → all (simS x ++ y) = Ne.flat (simV x) ++ all y := by
  induction h with
  | any => intro y hy; rw [simS, simV, if_pos rfl, if_pos rfl, flat_cons, flat_nil, flat_dv]; exact a42 y
  | tag n hn hl => intro y hy; rw [simS, simV, if_neg (by decide), if_pos rfl, if_neg (by decide), if_pos rfl, flat_cons, flat_nil, flat_iv]; exact all_ident hn hy
  | id n hn hw =>
    intro y hy
    rw [simS, simV]
    simp only [show ((3 : Int) = 1) = False by decide, show ((3 : Int) = 2) = False by decide, if_false, if_true]
    rw [flat_cons, flat_nil, flat_tv]
    exact Tk.all_one (.hash n hn hw) (hy _ (by simp))
  | cls n hn =>
    intro y hy
    rw [simS, simV]
    simp only [show ((4 : Int) = 1) = False by decide, show ((4 : Int) = 2) = False by decide, show ((4 : Int) = 3) = False by decide, if_false, if_true]
    rw [flat_cons, flat_cons, flat_nil, flat_dv, flat_iv, List.cons_append, a46, all_ident hn hy]
    rfl
  | has n hn =>
    intro y hy
    rw [simS, simV]
    simp only [show ((5 : Int) = 1) = False by decide, show ((5 : Int) = 2) = False by decide, show ((5 : Int) = 3) = False by decide, show ((5 : Int) = 4) = False by decide, if_false, if_true]
    have e : 91 :: (n ++ [93]) ++ y = 91 :: (n ++ 93 :: y) := by simp
    rw [flat_cons, flat_nil, flat_box, flat_cons, flat_nil, flat_iv, e, a91, all_ident hn (n93 _), a93]
    rfl
  | is n v hn h1 h2 =>
    intro y hy
    rw [simS, simV]
    simp only [show ((6 : Int) = 1) = False by decide, show ((6 : Int) = 2) = False by decide, show ((6 : Int) = 3) = False by decide, show ((6 : Int) = 4) = False by decide, show ((6 : Int) = 5) = False by decide, if_false, if_true]
    rw [flat_cons, flat_nil, flat_box, flat_cons, flat_cons, flat_cons, flat_nil, flat_iv, flat_dv, flat_tv, List.cons_append, a91, List.append_assoc, List.cons_append, all_ident hn (n61 _), a61, List.append_assoc, all_value h1 h2, List.cons_append, List.nil_append, a93]
    rfl
  | state n hn =>
    intro y hy
    rw [simS, simV]
    simp only [show ((7 : Int) = 1) = False by decide, show ((7 : Int) = 2) = False by decide, show ((7 : Int) = 3) = False by decide, show ((7 : Int) = 4) = False by decide, show ((7 : Int) = 5) = False by decide, show ((7 : Int) = 6) = False by decide, if_false, if_true]
    rw [flat_cons, flat_cons, flat_nil, flat_dv, flat_iv, List.cons_append, a58, all_ident (name_state hn) hy]
    rfl
  | nth a b ha hb =>
    intro y hy
    rw [simS, simV]
    simp only [show ((8 : Int) = 1) = False by decide, show ((8 : Int) = 2) = False by decide, show ((8 : Int) = 3) = False by decide, show ((8 : Int) = 4) = False by decide, show ((8 : Int) = 5) = False by decide, show ((8 : Int) = 6) = False by decide, show ((8 : Int) = 7) = False by decide, if_false, if_true]
    rw [flat_cons, flat_cons, flat_nil, flat_dv, flat_fun]
    have e : ([58, 110, 116, 104, 45, 99, 104, 105, 108, 100, 40] ++ (nthS a b ++ [41]) ++ y : List UInt8) = 58 :: (nthT ++ 40 :: (nthS a b ++ 41 :: y)) := by simp [nthT]
    rw [e, a58, all_func name_nth, nth_read ha hb (n41 _), a41]
    simp
  | root =>
    intro y hy
    rw [simS, simV]
    simp only [show ((9 : Int) = 1) = False by decide, show ((9 : Int) = 2) = False by decide, show ((9 : Int) = 3) = False by decide, show ((9 : Int) = 4) = False by decide, show ((9 : Int) = 5) = False by decide, show ((9 : Int) = 6) = False by decide, show ((9 : Int) = 7) = False by decide, show ((9 : Int) = 8) = False by decide, if_false, if_true]
    rw [flat_cons, flat_cons, flat_nil, flat_dv, flat_iv]
    have e : ([58, 114, 111, 111, 116] ++ y : List UInt8) = 58 :: (rootT ++ y) := rfl
    rw [e, a58, all_ident name_root hy]
    rfl
  | empty =>
    intro y hy
    rw [simS, simV]
    simp only [show ((10 : Int) = 1) = False by decide, show ((10 : Int) = 2) = False by decide, show ((10 : Int) = 3) = False by decide, show ((10 : Int) = 4) = False by decide, show ((10 : Int) = 5) = False by decide, show ((10 : Int) = 6) = False by decide, show ((10 : Int) = 7) = False by decide, show ((10 : Int) = 8) = False by decide, show ((10 : Int) = 9) = False by decide, if_false, if_true]
    rw [flat_cons, flat_cons, flat_nil, flat_dv, flat_iv]
    have e : ([58, 101, 109, 112, 116, 121] ++ y : List UInt8) = 58 :: (emptyT ++ y) := rfl
    rw [e, a58, all_ident name_empty hy]
    rfl
  | not x hx hk ih =>
    intro y hy
    rw [simS, simV]
    simp only [show ((11 : Int) = 1) = False by decide, show ((11 : Int) = 2) = False by decide, show ((11 : Int) = 3) = False by decide, show ((11 : Int) = 4) = False by decide, show ((11 : Int) = 5) = False by decide, show ((11 : Int) = 6) = False by decide, show ((11 : Int) = 7) = False by decide, show ((11 : Int) = 8) = False by decide, show ((11 : Int) = 9) = False by decide, show ((11 : Int) = 10) = False by decide, if_false, if_true]
    rw [flat_cons, flat_cons, flat_nil, flat_dv, flat_fun, simsS, simsS, simsV, simsV, List.append_nil, List.append_nil]
    have e : ([58, 110, 111, 116, 40] ++ (simS x ++ [41]) ++ y : List UInt8) = 58 :: (notT ++ 40 :: (simS x ++ 41 :: y)) := by simp [notT]
    rw [e, a58, all_func name_not, ih (n41 y), a41]
    simp
end Sl
end Go.Abs

namespace Go.Abs
namespace Sl
open Tk (isName Good sep within digit begins at0 all)

/-- simple selectors behind the first one -/
def GsT (l : List Sim) : Prop := ∀ x ∈ l, Gs x ∧ 3 ≤ x.kind
/-- the simple selectors of a compound one -/
def Gp : List Sim → Prop
  | [] => True
  | x :: r => Gs x ∧ GsT r

/-- the parts of a complex selector, n of them at most, the first with a combinator c -/
inductive Gc : Nat → Int → List Prt → List UInt8 → Prop
  | last {n : Nat} {c : Int} {l : List Sim} : Gp l → l ≠ [] → l.length ≤ 8 → Gc (n + 1) c [⟨c, l⟩] []
  | pse {n : Nat} {c : Int} {l : List Sim} {s : List UInt8} : Gp l → l.length ≤ 8 → (s = beforeT ∨ s = afterT) → Gc (n + 1) c [⟨c, l⟩] s
  | more {n : Nat} {c d : Int} {l : List Sim} {ps : List Prt} {s : List UInt8} : Gp l → l ≠ [] → l.length ≤ 8 → 1 ≤ d ∧ d ≤ 4 → Gc n d ps s → Gc (n + 1) c (⟨c, l⟩ :: ps) s

def GoodC (c : Cpx) : Prop := Gc 16 0 c.parts c.pseudo
def GoodL (l : List Cpx) : Prop := l ≠ [] ∧ l.length ≤ 32 ∧ ∀ c ∈ l, GoodC c

/-! ### heads -/

theorem sim_next {x : Sim} (h : Gs x) (hk : 3 ≤ x.kind) (z : List UInt8) : okNext (simS x ++ z) := by
  cases h with
  | any => simp [Sim.kind] at hk
  | tag n hn hl => simp [Sim.kind] at hk
  | id n hn hw => rw [simS]; exact n35 _
  | cls n hn => rw [simS]; exact n46 _
  | has n hn => rw [simS]; exact n91 _
  | is n v hn h1 h2 => rw [simS]; exact n91 _
  | state n hn => rw [simS]; exact n58 _
  | nth a b ha hb => rw [simS]; exact n58 _
  | root => rw [simS]; exact n58 _
  | empty => rw [simS]; exact n58 _
  | not x hx hk => rw [simS]; exact n58 _

theorem name_head {n : List UInt8} (h : isName n) (z : List UInt8) : Tk.blank (at0 (n ++ z)) = false := by
  cases n with
  | nil => exact absurd rfl (Tk.isName_ne h)
  | cons c r =>
    have hw := h.2 c (by simp)
    have e : at0 (c :: r ++ z) = c := rfl
    rw [e]
    cases hb : Tk.blank c with
    | false => rfl
    | true =>
      have key : ∀ b : Fin 256, Tk.blank (UInt8.ofNat b.1) = true → within (UInt8.ofNat b.1) = false := by
        set_option maxRecDepth 100000 in decide
      have := key ⟨c.toNat, c.toNat_lt⟩ (by simpa using hb)
      rw [UInt8.ofNat_toNat] at this
      rw [this] at hw; cases hw

theorem sim_head {x : Sim} (h : Gs x) (z : List UInt8) : Tk.blank (at0 (simS x ++ z)) = false := by
  cases h with
  | any => rfl
  | tag n hn hl => rw [simS]; exact name_head hn z
  | id n hn hw => rfl
  | cls n hn => rfl
  | has n hn => rfl
  | is n v hn h1 h2 => rfl
  | state n hn => rfl
  | nth a b ha hb => rfl
  | root => rfl
  | empty => rfl
  | not x hx hk => rfl

theorem sims_next : ∀ {l : List Sim}, GsT l → ∀ {y : List UInt8}, okNext y → okNext (simsS l ++ y)
  | [], _, y, hy => by rw [simsS]; exact hy
  | x :: l, h, y, hy => by
    rw [simsS, List.append_assoc]
    exact sim_next (h x (by simp)).1 (h x (by simp)).2 _

theorem simsT_read : ∀ {l : List Sim}, GsT l → ∀ {y : List UInt8}, okNext y → all (simsS l ++ y) = Ne.flat (simsV l) ++ all y
  | [], _, y, hy => by rw [simsS, simsV, flat_nil]; rfl
  | x :: l, h, y, hy => by
    have hl : GsT l := fun z hz => h z (by simp [hz])
    rw [simsS, simsV, List.append_assoc, sim_read (h x (by simp)).1 (sims_next hl hy), simsT_read hl hy, flat_app, List.append_assoc]
theorem sims_read : ∀ {l : List Sim}, Gp l → ∀ {y : List UInt8}, okNext y → all (simsS l ++ y) = Ne.flat (simsV l) ++ all y
  | [], _, y, hy => by rw [simsS, simsV, flat_nil]; rfl
  | x :: l, h, y, hy => by
    rw [simsS, simsV, List.append_assoc, sim_read h.1 (sims_next h.2 hy), simsT_read h.2 hy, flat_app, List.append_assoc]

/-! ### parts -/

theorem comb_read {c : Int} (hc : 0 ≤ c ∧ c ≤ 4) {z : List UInt8} (h : Tk.blank (at0 z) = false) : all (combS c ++ z) = Ne.flat (combV c) ++ all z := by
  have : c = 0 ∨ c = 1 ∨ c = 2 ∨ c = 3 ∨ c = 4 := by omega
  rcases this with rfl | rfl | rfl | rfl | rfl
  · show all z = Ne.flat [] ++ all z
    rw [flat_nil]; rfl
  · show all (32 :: z) = Ne.flat [tv ⟨8, [10], 0⟩] ++ all z
    rw [flat_cons, flat_nil, flat_tv, a32 h]; rfl
  · show all (62 :: z) = Ne.flat [dv 62] ++ all z
    rw [flat_cons, flat_nil, flat_dv, a62]; rfl
  · show all (43 :: z) = Ne.flat [dv 43] ++ all z
    rw [flat_cons, flat_nil, flat_dv, a43]; rfl
  · show all (126 :: z) = Ne.flat [dv 126] ++ all z
    rw [flat_cons, flat_nil, flat_dv, a126]; rfl
theorem comb_next {c : Int} (hc : 1 ≤ c ∧ c ≤ 4) (z : List UInt8) : okNext (combS c ++ z) := by
  have : c = 1 ∨ c = 2 ∨ c = 3 ∨ c = 4 := by omega
  rcases this with rfl | rfl | rfl | rfl
  · exact okNext_blank z
  · exact n62 z
  · exact n43 z
  · exact n126 z

theorem pse_name {s : List UInt8} (h : s = beforeT ∨ s = afterT) : isName s := by
  rcases h with rfl | rfl
  · exact name_before
  · exact name_after
theorem pse_ne {s : List UInt8} (h : s = beforeT ∨ s = afterT) : s ≠ [] := Tk.isName_ne (pse_name h)

theorem pse_read {s : List UInt8} (h : s = beforeT ∨ s = afterT) {y : List UInt8} (hy : okNext y) : all (pseS s ++ y) = Ne.flat (pseV s) ++ all y := by
  unfold pseS pseV
  rw [if_neg (pse_ne h), if_neg (pse_ne h), flat_cons, flat_cons, flat_cons, flat_nil, flat_dv, flat_iv, List.cons_append, List.cons_append, a58, a58, all_ident (pse_name h) hy]
  rfl

theorem sims_head {l : List Sim} (h : Gp l) (hne : l ≠ []) (z : List UInt8) : Tk.blank (at0 (simsS l ++ z)) = false := by
  cases l with
  | nil => exact absurd rfl hne
  | cons x r => rw [simsS, List.append_assoc]; exact sim_head h.1 _

theorem parts_read {n : Nat} {c : Int} {ps : List Prt} {s : List UInt8} (h : Gc n c ps s) : 0 ≤ c ∧ c ≤ 4 → ∀ {y : List UInt8}, okNext y → all (ps.flatMap prtS ++ pseS s ++ y) = Ne.flat (ps.flatMap prtV ++ pseV s) ++ all y := by
  induction h with
  | @last n c l hl hne hlen =>
    intro hc y hy
    have e : [Prt.mk c l].flatMap prtS ++ pseS [] ++ y = combS c ++ (simsS l ++ y) := by simp [prtS, pseS]
    have e2 : [Prt.mk c l].flatMap prtV ++ pseV [] = combV c ++ simsV l := by simp [prtV, pseV]
    rw [e, e2, comb_read hc (sims_head hl hne y), sims_read hl hy, flat_app, List.append_assoc]
  | @pse n c l s hl hlen hs =>
    intro hc y hy
    have e : [Prt.mk c l].flatMap prtS ++ pseS s ++ y = combS c ++ (simsS l ++ (pseS s ++ y)) := by simp [prtS]
    have e2 : [Prt.mk c l].flatMap prtV ++ pseV s = combV c ++ (simsV l ++ pseV s) := by simp [prtV]
    have hp : pseS s ++ y = 58 :: 58 :: (s ++ y) := by unfold pseS; rw [if_neg (pse_ne hs)]; rfl
    have hn : okNext (pseS s ++ y) := by rw [hp]; exact n58 _
    have hh : Tk.blank (at0 (simsS l ++ (pseS s ++ y))) = false := by
      cases l with
      | nil => rw [simsS, hp]; rfl
      | cons x r => exact sims_head hl (by simp) _
    rw [e, e2, comb_read hc hh, sims_read hl hn, pse_read hs hy, flat_app, flat_app, List.append_assoc, List.append_assoc]
  | @more n c d l ps s hl hne hlen hd hr ih =>
    intro hc y hy
    have e : (Prt.mk c l :: ps).flatMap prtS ++ pseS s ++ y = combS c ++ (simsS l ++ (ps.flatMap prtS ++ pseS s ++ y)) := by simp [prtS, List.flatMap_cons]
    have e2 : (Prt.mk c l :: ps).flatMap prtV ++ pseV s = combV c ++ (simsV l ++ (ps.flatMap prtV ++ pseV s)) := by simp [prtV, List.flatMap_cons]
    have hn : okNext (ps.flatMap prtS ++ pseS s ++ y) := by
      cases hr with
      | last h1 h2 h3 => simp only [List.flatMap_cons, List.flatMap_nil, List.append_nil, List.append_assoc, prtS]; exact comb_next hd _
      | pse h1 h2 h3 => simp only [List.flatMap_cons, List.flatMap_nil, List.append_nil, List.append_assoc, prtS]; exact comb_next hd _
      | more h1 h2 h3 h4 h5 => simp only [List.flatMap_cons, List.append_assoc, prtS]; exact comb_next hd _
    rw [e, e2, comb_read hc (sims_head hl hne _), sims_read hl hn, ih (by omega) hy, flat_app (combV c), flat_app (simsV l), List.append_assoc, List.append_assoc]

theorem cpx_read {c : Cpx} (h : GoodC c) {y : List UInt8} (hy : okNext y) : all (cpxS c ++ y) = Ne.flat (cpxV c) ++ all y :=
  parts_read h (by decide) hy

theorem rest_next (l : List Cpx) : okNext (restS l) := by
  cases l with
  | nil => exact okNext_nil
  | cons c l => exact n44 _
theorem rest_read : ∀ {l : List Cpx}, (∀ c ∈ l, GoodC c) → all (restS l) = Ne.flat (restV l)
  | [], _ => by show all [] = Ne.flat []; rw [flat_nil]; rfl
  | c :: l, h => by
    have e : restS (c :: l) = 44 :: (cpxS c ++ restS l) := by simp [restS, List.flatMap_cons]
    have e2 : restV (c :: l) = dv 44 :: (cpxV c ++ restV l) := by simp [restV, List.flatMap_cons]
    rw [e, e2, a44, cpx_read (h c (by simp)) (rest_next l), rest_read (fun x hx => h x (by simp [hx])), flat_cons, flat_dv, flat_app]
    rfl

/-- THE TOKENS OF THE TEXT are those of the values -/
theorem list_read {c : Cpx} {l : List Cpx} (hc : GoodC c) (hl : ∀ c ∈ l, GoodC c) : all (cpxS c ++ restS l) = Ne.flat (cpxV c ++ restV l) := by
  rw [cpx_read hc (rest_next l), rest_read hl, flat_app]
end Sl
end Go.Abs

namespace Go.Abs
namespace Sl
open Tk (isName Good sep within digit begins at0 all)

/-! ### the values stand by themselves -/

theorem good_nil (k : Int) : Ne.good k [] = true := by rw [Ne.good]
theorem good_cons (k : Int) (v : Val) (l : List Val) : Ne.good k (v :: l) = (Ne.goodV k v && Ne.good k l) := by rw [Ne.good]
theorem good_app : ∀ (k : Int) (a b : List Val), Ne.good k (a ++ b) = (Ne.good k a && Ne.good k b)
  | k, [], b => by rw [List.nil_append, good_nil, Bool.true_and]
  | k, v :: a, b => by rw [List.cons_append, good_cons, good_cons, good_app k a b, Bool.and_assoc]
theorem good_tv {k : Int} {t : Tok} (h1 : Ne.isLast k t = false) (h2 : Ne.opens t = 0) : Ne.goodV k (tv t) = true := by
  unfold tv; rw [Ne.goodV, h1, h2]; rfl
theorem last_kind {k : Int} {t : Tok} (h : t.kind ≠ 7) : Ne.isLast k t = false := by
  unfold Ne.isLast
  rw [Bool.and_eq_false_iff]; right
  rw [decide_eq_false_iff_not]
  intro e; rw [e] at h; exact h rfl
theorem last_delim {k : Int} {c : UInt8} (h1 : c ≠ 41) (h2 : c ≠ 93) (h3 : c ≠ 125) : Ne.isLast k ⟨7, [c], 0⟩ = false := by
  unfold Ne.isLast
  rw [Bool.and_eq_false_iff]; right
  rw [decide_eq_false_iff_not]
  intro e
  unfold Ne.closeT Ne.closeC at e
  injection e with _ e _
  split at e
  · exact h2 (by simpa using e)
  · split at e
    · exact h3 (by simpa using e)
    · exact h1 (by simpa using e)
theorem opens_kind {t : Tok} (h : t.kind ≠ 7) (h2 : t.kind ≠ 2) : Ne.opens t = 0 := by
  unfold Ne.opens opensL
  rw [if_neg h2, if_neg (fun e => h e.1)]
theorem opens_delim {c : UInt8} (h1 : c ≠ 40) (h2 : c ≠ 91) (h3 : c ≠ 123) : Ne.opens ⟨7, [c], 0⟩ = 0 := by
  unfold Ne.opens opensL
  rw [if_neg (by simp), if_pos ⟨rfl, rfl⟩, if_neg (by simpa using h1), if_neg (by simpa using h2), if_neg (by simpa using h3)]
theorem good_kind' {k : Int} {t : Tok} (h : t.kind ≠ 7) (h2 : t.kind ≠ 2) : Ne.goodV k (tv t) = true := good_tv (last_kind h) (opens_kind h h2)
theorem good_dv (k : Int) {c : UInt8} (h : c = 42 ∨ c = 46 ∨ c = 58 ∨ c = 61 ∨ c = 43 ∨ c = 44 ∨ c = 62 ∨ c = 126) : Ne.goodV k (dv c) = true := by
  refine good_tv (last_delim ?_ ?_ ?_) (opens_delim ?_ ?_ ?_) <;> rcases h with rfl | rfl | rfl | rfl | rfl | rfl | rfl | rfl <;> decide
theorem good_iv (k : Int) (s : List UInt8) : Ne.goodV k (iv s) = true := good_kind' (by simp) (by simp)
theorem good_box (k : Int) {l : List Val} (h : Ne.good 3 l = true) : Ne.goodV k (.mk 3 Ne.tok0 l) = true := by
  rw [Ne.goodV, h]; simp
theorem good_fun (k : Int) {t : Tok} {l : List Val} (ht : t.kind = 2) (h : Ne.good 5 l = true) : Ne.goodV k (.mk 5 t l) = true := by
  rw [Ne.goodV, h, ht]; simp

theorem nth_good (k a b : Int) : Ne.good k (nthV a b) = true := by
  unfold nthV
  split
  · rw [good_cons, good_nil, good_kind' (by simp) (by simp)]; rfl
  · split
    · rw [good_cons, good_nil, good_kind' (by simp) (by simp)]; rfl
    · split
      · rw [good_cons, good_cons, good_cons, good_nil, good_kind' (by simp) (by simp), good_kind' (by simp) (by simp), good_dv k (by simp)]; rfl
      · rw [good_cons, good_nil, good_kind' (by simp) (by simp)]; rfl

theorem depth_nil : Ne.depth [] = 0 := by rw [Ne.depth]
theorem depth_cons (v : Val) (l : List Val) : Ne.depth (v :: l) = max (Ne.depthV v) (Ne.depth l) := by rw [Ne.depth]
theorem depth_tv (t : Tok) : Ne.depthV (tv t) = 0 := by unfold tv; rw [Ne.depthV, if_neg (by decide)]
theorem depth_dv (c : UInt8) : Ne.depthV (dv c) = 0 := depth_tv _
theorem depth_iv (s : List UInt8) : Ne.depthV (iv s) = 0 := depth_tv _
theorem depth_in {k : Int} (t : Tok) (l : List Val) (h : 2 ≤ k ∧ k ≤ 5) : Ne.depthV (.mk k t l) = Ne.depth l + 1 := by rw [Ne.depthV, if_pos h]
theorem nth_depth (a b : Int) : Ne.depth (nthV a b) = 0 := by
  unfold nthV
  repeat' split
  all_goals simp [depth_cons, depth_nil, depth_tv, depth_dv]

/-- how the values of a simple selector stand, by its kind -/
theorem simV_cases {x : Sim} (h : Gs x) : simV x = (match x with
    | .mk k n v a b l => if k = 1 then [dv 42] else if k = 2 then [iv n] else if k = 3 then [tv ⟨4, n, 0⟩] else if k = 4 then [dv 46, iv n] else if k = 5 then [.mk 3 Ne.tok0 [iv n]]
      else if k = 6 then [.mk 3 Ne.tok0 [iv n, dv 61, tv ⟨6, v, quoteOf v⟩]] else if k = 7 then [dv 58, iv n] else if k = 8 then [dv 58, .mk 5 ⟨2, nthT, 0⟩ (nthV a b)]
      else if k = 9 then [dv 58, iv rootT] else if k = 10 then [dv 58, iv emptyT] else if k = 11 then [dv 58, .mk 5 ⟨2, notT, 0⟩ (simsV l)] else []) := by
  cases x; rw [simV]

theorem v1 : simV (.mk 1 [] [] 0 0 []) = [dv 42] := by rw [simV, if_pos rfl]
theorem v2 (n : List UInt8) : simV (.mk 2 n [] 0 0 []) = [iv n] := by rw [simV]; rfl
theorem v3 (n : List UInt8) : simV (.mk 3 n [] 0 0 []) = [tv ⟨4, n, 0⟩] := by rw [simV]; rfl
theorem v4 (n : List UInt8) : simV (.mk 4 n [] 0 0 []) = [dv 46, iv n] := by rw [simV]; rfl
theorem v5 (n : List UInt8) : simV (.mk 5 n [] 0 0 []) = [.mk 3 Ne.tok0 [iv n]] := by rw [simV]; rfl
theorem v6 (n v : List UInt8) : simV (.mk 6 n v 0 0 []) = [.mk 3 Ne.tok0 [iv n, dv 61, tv ⟨6, v, quoteOf v⟩]] := by rw [simV]; rfl
theorem v7 (n : List UInt8) : simV (.mk 7 n [] 0 0 []) = [dv 58, iv n] := by rw [simV]; rfl
theorem v8 (a b : Int) : simV (.mk 8 [] [] a b []) = [dv 58, .mk 5 ⟨2, nthT, 0⟩ (nthV a b)] := by rw [simV]; rfl
theorem v9 : simV (.mk 9 [] [] 0 0 []) = [dv 58, iv rootT] := by rw [simV]; rfl
theorem v10 : simV (.mk 10 [] [] 0 0 []) = [dv 58, iv emptyT] := by rw [simV]; rfl
theorem v11 (x : Sim) : simV (.mk 11 [] [] 0 0 [x]) = [dv 58, .mk 5 ⟨2, notT, 0⟩ (simV x)] := by
  have : simsV [x] = simV x := by rw [simsV, simsV, List.append_nil]
  rw [simV, this]; rfl

theorem sim_good {x : Sim} (h : Gs x) : ∀ k : Int, Ne.good k (simV x) = true ∧ Ne.depth (simV x) ≤ 2 ∧ (x.kind ≠ 11 → Ne.depth (simV x) ≤ 1) := by
  induction h with
  | any => intro k; rw [v1, good_cons, good_nil, good_dv k (by simp)]; simp [depth_cons, depth_nil, depth_dv]
  | tag n hn hl => intro k; rw [v2, good_cons, good_nil, good_iv]; simp [depth_cons, depth_nil, depth_iv]
  | id n hn hw => intro k; rw [v3, good_cons, good_nil, good_kind' (by simp) (by simp)]; simp [depth_cons, depth_nil, depth_tv]
  | cls n hn => intro k; rw [v4, good_cons, good_cons, good_nil, good_dv k (by simp), good_iv]; simp [depth_cons, depth_nil, depth_dv, depth_iv]
  | has n hn => intro k; rw [v5, good_cons, good_nil, good_box k (by rw [good_cons, good_nil, good_iv]; rfl)]; simp [depth_cons, depth_nil, depth_in, depth_iv]
  | is n v hn h1 h2 =>
    intro k
    rw [v6, good_cons, good_nil, good_box k (by rw [good_cons, good_cons, good_cons, good_nil, good_iv, good_dv 3 (by simp), good_kind' (by simp) (by simp)]; rfl)]
    simp [depth_cons, depth_nil, depth_in, depth_iv, depth_dv, depth_tv]
  | state n hn => intro k; rw [v7, good_cons, good_cons, good_nil, good_dv k (by simp), good_iv]; simp [depth_cons, depth_nil, depth_dv, depth_iv]
  | nth a b ha hb => intro k; rw [v8, good_cons, good_cons, good_nil, good_dv k (by simp), good_fun k rfl (nth_good 5 a b)]; simp [depth_cons, depth_nil, depth_dv, depth_in, nth_depth]
  | root => intro k; rw [v9, good_cons, good_cons, good_nil, good_dv k (by simp), good_iv]; simp [depth_cons, depth_nil, depth_dv, depth_iv]
  | empty => intro k; rw [v10, good_cons, good_cons, good_nil, good_dv k (by simp), good_iv]; simp [depth_cons, depth_nil, depth_dv, depth_iv]
  | not x hx hk ih =>
    intro k
    have := ih 5
    rw [v11, good_cons, good_cons, good_nil, good_dv k (by simp), good_fun k rfl this.1]
    simp only [depth_cons, depth_nil, depth_dv, depth_in _ _ (show (2 : Int) ≤ 5 ∧ (5 : Int) ≤ 5 by decide), Sim.kind]
    have h2 := this.2.2 hk
    refine ⟨rfl, by omega, fun h => absurd rfl h⟩
end Sl
end Go.Abs

namespace Go.Abs
namespace Sl
open Tk (isName Good sep within digit begins at0 all)

/-! ### numbers -/

def numOf (s : List UInt8) : Int := s.foldl (fun n c => 10 * n + ((c.toNat : Int) - 48)) 0
theorem numOf_snoc (s : List UInt8) (c : UInt8) : numOf (s ++ [c]) = 10 * numOf s + ((c.toNat : Int) - 48) := by
  unfold numOf; rw [List.foldl_append]; rfl
theorem num_dec : ∀ u : Nat, numOf (Lib.decDigits u) = u := by
  intro u
  induction u using Nat.strongRecOn with
  | _ u ih =>
    have hd : ∀ v : Nat, v < 10 → ((UInt8.ofNat (48 + v)).toNat : Int) - 48 = v := fun v hv => by
      have key : ∀ v : Fin 10, (UInt8.ofNat (48 + v.1)).toNat = 48 + v.1 := by decide
      rw [key ⟨v, hv⟩]; simp only []; omega
    unfold Lib.decDigits
    split
    · rename_i h
      have := numOf_snoc [] (UInt8.ofNat (48 + u))
      rw [List.nil_append] at this
      rw [this, hd u h]
      show 10 * (0 : Int) + u = u
      omega
    · rw [numOf_snoc, ih (u / 10) (by omega), hd (u % 10) (Nat.mod_lt _ (by decide))]
      omega
theorem dec_one {u : Nat} (h : u < 10) : (Lib.decDigits u).length = 1 := by unfold Lib.decDigits; rw [dif_pos h]; rfl
theorem dec_more {u : Nat} (h : ¬ u < 10) : (Lib.decDigits u).length = (Lib.decDigits (u / 10)).length + 1 := by
  rw [Lib.decDigits, dif_neg h, List.length_append]; rfl
theorem dec_len {u : Nat} (h : u < 10000) : 1 ≤ (Lib.decDigits u).length ∧ (Lib.decDigits u).length ≤ 4 := by
  have step : ∀ u : Nat, (u < 10 ∧ (Lib.decDigits u).length = 1) ∨ (10 ≤ u ∧ (Lib.decDigits u).length = (Lib.decDigits (u / 10)).length + 1) := fun u => by
    by_cases h : u < 10
    · exact .inl ⟨h, dec_one h⟩
    · exact .inr ⟨by omega, dec_more h⟩
  rcases step u with h1 | h1
  · omega
  · rcases step (u / 10) with h2 | h2
    · omega
    · rcases step (u / 10 / 10) with h3 | h3
      · omega
      · rcases step (u / 10 / 10 / 10) with h4 | h4
        · omega
        · omega
theorem digits_dec {u : Nat} (h : u < 10000) : digits (Lib.decDigits u) = u := by
  obtain ⟨h1, h2⟩ := dec_len h
  unfold digits
  rw [if_neg (by omega), if_pos (List.all_eq_true.2 (digits_within u))]
  exact num_dec u

/-! ### blanks -/

theorem trim_ends {v w : Val} {l m m' : List Val} (h1 : l = v :: m) (h2 : l = m' ++ [w]) (hv : isBlank v = false) (hw : isBlank w = false) : trim l = l := by
  have a : l.dropWhile isBlank = l := by rw [h1, List.dropWhile_cons, if_neg (by simp [hv])]
  have b : l.reverse.dropWhile isBlank = l.reverse := by rw [h2, List.reverse_append]; simp [hw]
  unfold trim
  rw [a, b, List.reverse_reverse]
theorem trim_all {l : List Val} (h : ∀ v ∈ l, isBlank v = false) : trim l = l := by
  cases hl : l with
  | nil => rfl
  | cons v m =>
    rcases List.eq_nil_or_concat l with e | ⟨m', w, e⟩
    · rw [e] at hl; cases hl
    · rw [← hl]
      exact trim_ends hl (by simpa using e) (h v (by rw [hl]; simp)) (h w (by rw [e]; simp))

theorem blank_dv (c : UInt8) : isBlank (dv c) = false := rfl
theorem blank_iv (s : List UInt8) : isBlank (iv s) = false := rfl
theorem blank_tv {t : Tok} (h : t.kind ≠ 8) : isBlank (tv t) = false := by
  unfold tv isBlank; simp [h]
theorem blank_mk {k : Int} (h : k ≠ 1) (t : Tok) (l : List Val) : isBlank (.mk k t l) = false := by
  unfold isBlank; simp [h]
theorem blank_nth (a b : Int) : ∀ v ∈ nthV a b, isBlank v = false := by
  unfold nthV
  intro v hv
  split at hv
  · obtain rfl : v = tv ⟨5, [], b⟩ := by simpa using hv
    rfl
  · split at hv
    · obtain rfl : v = tv ⟨5, 110 :: Lib.itoa b, a⟩ := by simpa using hv
      rfl
    · split at hv
      · simp only [List.mem_cons, List.not_mem_nil, or_false] at hv
        rcases hv with rfl | rfl | rfl <;> rfl
      · obtain rfl : v = tv ⟨5, [110], a⟩ := by simpa using hv
        rfl

theorem nth_back {a b : Int} (ha : few a) (hb : few b) : nthM (nthV a b) = some (a, b) := by
  have hn : nth (nthV a b) = some (a, b) := by
    unfold nth
    rw [trim_all (blank_nth a b)]
    unfold nthV
    by_cases h0 : a = 0
    · subst h0; rw [if_pos rfl]; rfl
    · rw [if_neg h0]
      by_cases hn : b < 0
      · rw [if_pos hn]
        have e : Lib.itoa b = 45 :: Lib.decDigits b.natAbs := by unfold Lib.itoa; rw [if_pos hn]
        unfold few at hb
        have hd := digits_dec (u := b.natAbs) (by omega)
        have hl := dec_len (u := b.natAbs) (by omega)
        unfold tv
        simp only
        rw [if_pos trivial]
        unfold nth1
        rw [if_neg (by simp), if_pos rfl, if_neg (by simp), if_neg (by rw [e]; simp)]
        rw [e]
        have ht : (110 :: 45 :: Lib.decDigits b.natAbs : List UInt8).take 2 = [110, 45] := rfl
        have hdr : (110 :: 45 :: Lib.decDigits b.natAbs : List UInt8).drop 2 = Lib.decDigits b.natAbs := rfl
        simp only [ht, hdr, hd, List.length_cons]
        rw [if_pos ⟨by omega, trivial, by omega⟩]
        congr 2
        omega
      · rw [if_neg hn]
        by_cases hp : 0 < b
        · rw [if_pos hp]
          unfold tv dv tv
          simp only
          rw [if_pos ⟨trivial, trivial, trivial, rfl, trivial, trivial, trivial, by omega⟩]
        · rw [if_neg hp]
          obtain rfl : b = 0 := by omega
          unfold tv
          simp only
          rw [if_pos trivial]
          rfl
  unfold nthM
  rw [hn]
  simp only
  rw [if_pos ⟨ha, hb⟩]

/-! ### a simple selector -/

theorem isSign_dv (s : List UInt8) (c : UInt8) : isSign s (dv c) = decide (s = [c]) := by
  unfold isSign dv tv
  rw [Bool.eq_iff_iff]
  simp [Tok.mk.injEq, eq_comm]
theorem isSign_tv (s : List UInt8) {t : Tok} (h : t.kind ≠ 7) : isSign s (tv t) = false := by
  unfold isSign tv
  rw [Bool.and_eq_false_iff]; right
  rw [decide_eq_false_iff_not]
  intro e; rw [e] at h; exact h rfl
theorem isSign_mk (s : List UInt8) {k : Int} (h : k ≠ 1) (t : Tok) (l : List Val) : isSign s (.mk k t l) = false := by
  unfold isSign
  rw [Bool.and_eq_false_iff]; left
  simpa using h
theorem sign_dv (s : List UInt8) (c : UInt8) (r : List Val) : sign s (dv c :: r) = if s = [c] then some r else none := by
  show (if isSign s (dv c) = true then some r else none) = _
  rw [isSign_dv]
  by_cases h : s = [c] <;> simp [h]
theorem sign_tv (s : List UInt8) {t : Tok} (h : t.kind ≠ 7) (r : List Val) : sign s (tv t :: r) = none := by
  show (if isSign s (tv t) = true then some r else none) = _
  rw [isSign_tv s h]; rfl
theorem sign_mk (s : List UInt8) {k : Int} (h : k ≠ 1) (t : Tok) (l r : List Val) : sign s (.mk k t l :: r) = none := by
  show (if isSign s (.mk k t l) = true then some r else none) = _
  rw [isSign_mk s h]; rfl
theorem tok_tv (k : Int) (t : Tok) (r : List Val) : tokK k (tv t :: r) = if t.kind = k then some t else none := by
  unfold tokK tv
  by_cases h : t.kind = k <;> simp [h]
theorem tok_mk (k : Int) {k' : Int} (h : k' ≠ 1) (t : Tok) (l r : List Val) : tokK k (.mk k' t l :: r) = none := by
  show (if k' = 1 ∧ t.kind = k then some t else none) = none
  rw [if_neg (fun e => h e.1)]
theorem tok_dv (k : Int) (h : k ≠ 7) (c : UInt8) (r : List Val) : tokK k (dv c :: r) = none := by
  unfold dv; rw [tok_tv, if_neg (fun e => h e.symm)]
theorem name_iv (s : List UInt8) (r : List Val) : name (iv s :: r) = some (s, r) := by
  unfold name iv; rw [tok_tv, if_pos rfl]; rfl
theorem val_tv (k : Int) (h : k ≠ 1) (t : Tok) (r : List Val) : valueK k (tv t :: r) = none := by
  show (if (1 : Int) = k then some ((t, []), r) else none) = none
  rw [if_neg (fun e => h e.symm)]
theorem val_mk (k : Int) (t : Tok) (l r : List Val) : valueK k (.mk k t l :: r) = some ((t, l), r) := by
  show (if k = k then some ((t, l), r) else none) = _
  rw [if_pos rfl]

theorem ite_none {α : Type} (b : Bool) {x : Option α} (h : x = none) : (if b then x else none) = none := by
  cases b
  · rfl
  · exact h

theorem simple_colon (f : Nat) (first : Bool) (r : List Val) : simple (f + 1) first (dv 58 :: r) = colon (simple f true) r := by
  rw [simple, ite_none first (tok_dv 1 (by decide) _ _)]
  simp only
  rw [ite_none first (by rw [sign_dv]; rfl)]
  simp only
  rw [tok_dv 4 (by decide)]
  simp only
  rw [sign_dv, if_neg (by decide)]
  simp only
  rw [sign_dv, if_pos rfl]

theorem colon_name {g : List Val → Option (Sim × List Val)} {s : List UInt8} {x : Sim} (h : colonName s = some x) (r : List Val) : colon g (iv s :: r) = some (x, r) := by
  unfold colon
  have : valueK 5 (iv s :: r) = none := val_tv 5 (by decide) _ _
  rw [this]
  simp only
  rw [name_iv]
  simp only
  rw [h]; rfl

theorem simple_box (f : Nat) (first : Bool) (l r : List Val) : simple (f + 1) first (.mk 3 Ne.tok0 l :: r) = (attr l).map fun y => (y, r) := by
  rw [simple, ite_none first (tok_mk 1 (by decide) _ _ _)]
  simp only
  rw [ite_none first (sign_mk _ (by decide) _ _ _)]
  simp only
  rw [tok_mk 4 (by decide)]
  simp only
  rw [sign_mk _ (by decide)]
  simp only
  rw [sign_mk _ (by decide)]
  simp only
  rw [val_mk]

theorem colon_state {s : List UInt8} (h : isState s) : colonName s = some (.mk 7 s [] 0 0 []) := by unfold colonName; rw [if_pos h]
theorem colon_root : colonName rootT = some (.mk 9 [] [] 0 0 []) := by unfold colonName; rw [if_neg (by decide), if_pos rfl]
theorem colon_empty : colonName emptyT = some (.mk 10 [] [] 0 0 []) := by unfold colonName; rw [if_neg (by decide), if_neg (by decide), if_pos rfl]

theorem blank_sim {x : Sim} (h : Gs x) : ∀ v ∈ simV x, isBlank v = false := by
  intro v hv
  cases h with
  | any => rw [v1] at hv; obtain rfl : v = dv 42 := by simpa using hv
           rfl
  | tag n hn hl => rw [v2] at hv; obtain rfl : v = iv n := by simpa using hv
                   rfl
  | id n hn hw => rw [v3] at hv; obtain rfl : v = tv ⟨4, n, 0⟩ := by simpa using hv
                  rfl
  | cls n hn => rw [v4] at hv; simp only [List.mem_cons, List.not_mem_nil, or_false] at hv; rcases hv with rfl | rfl <;> rfl
  | has n hn => rw [v5] at hv; simp only [List.mem_cons, List.not_mem_nil, or_false] at hv; subst hv; rfl
  | is n w hn h1 h2 => rw [v6] at hv; simp only [List.mem_cons, List.not_mem_nil, or_false] at hv; subst hv; rfl
  | state n hn => rw [v7] at hv; simp only [List.mem_cons, List.not_mem_nil, or_false] at hv; rcases hv with rfl | rfl <;> rfl
  | nth a b ha hb => rw [v8] at hv; simp only [List.mem_cons, List.not_mem_nil, or_false] at hv; rcases hv with rfl | rfl <;> rfl
  | root => rw [v9] at hv; simp only [List.mem_cons, List.not_mem_nil, or_false] at hv; rcases hv with rfl | rfl <;> rfl
  | empty => rw [v10] at hv; simp only [List.mem_cons, List.not_mem_nil, or_false] at hv; rcases hv with rfl | rfl <;> rfl
  | not x hx hk => rw [v11] at hv; simp only [List.mem_cons, List.not_mem_nil, or_false] at hv; rcases hv with rfl | rfl <;> rfl

/-- A SIMPLE SELECTOR IS READ from its values -/
theorem simple_back {x : Sim} (h : Gs x) : ∀ (f : Nat) (first : Bool) (r : List Val), (first = true ∨ 3 ≤ x.kind) → (x.kind ≠ 11 ∨ 1 ≤ f) → simple (f + 1) first (simV x ++ r) = some (x, r) := by
  induction h with
  | any =>
    intro f first r hf _
    obtain rfl : first = true := hf.resolve_right (by simp [Sim.kind])
    rw [v1, List.cons_append, List.nil_append, simple, if_pos rfl, tok_dv 1 (by decide)]
    simp only
    rw [if_pos trivial, sign_dv, if_pos rfl]
  | tag n hn hl =>
    intro f first r hf _
    obtain rfl : first = true := hf.resolve_right (by simp [Sim.kind])
    rw [v2, List.cons_append, List.nil_append, simple, if_pos rfl]
    unfold iv
    rw [tok_tv, if_pos rfl]
    simp only
    rw [hl]; rfl
  | id n hn hw =>
    intro f first r hf _
    rw [v3, List.cons_append, List.nil_append, simple, ite_none first (by rw [tok_tv]; rfl)]
    simp only
    rw [ite_none first (sign_tv _ (by simp) _)]
    simp only
    rw [tok_tv, if_pos rfl]; rfl
  | cls n hn =>
    intro f first r hf _
    rw [v4, List.cons_append, List.cons_append, List.nil_append, simple, ite_none first (tok_dv 1 (by decide) _ _)]
    simp only
    rw [ite_none first (by rw [sign_dv]; rfl)]
    simp only
    rw [tok_dv 4 (by decide)]
    simp only
    rw [sign_dv, if_pos rfl]
    simp only
    rw [name_iv]; rfl
  | has n hn =>
    intro f first r hf _
    rw [v5, List.cons_append, List.nil_append, simple_box]; rfl
  | is n v hn h1 h2 =>
    intro f first r hf _
    rw [v6, List.cons_append, List.nil_append, simple_box]
    have : attr [iv n, dv 61, tv ⟨6, v, quoteOf v⟩] = some (.mk 6 n v 0 0 []) := by
      unfold attr
      have e : ([iv n, dv 61, tv ⟨6, v, quoteOf v⟩].filter fun v => !isBlank v) = [iv n, dv 61, tv ⟨6, v, quoteOf v⟩] := rfl
      rw [e]
      unfold iv tv
      simp only
      rw [if_pos ⟨trivial, trivial, by rw [isSign_dv]; rfl, trivial, .inr trivial⟩]
    rw [this]; rfl
  | state n hn =>
    intro f first r hf _
    rw [v7, List.cons_append, List.cons_append, List.nil_append, simple_colon, colon_name (colon_state hn)]
  | nth a b ha hb =>
    intro f first r hf _
    rw [v8, List.cons_append, List.cons_append, List.nil_append, simple_colon]
    unfold colon
    rw [val_mk]
    simp only
    rw [if_pos trivial, nth_back ha hb]; rfl
  | root =>
    intro f first r hf _
    rw [v9, List.cons_append, List.cons_append, List.nil_append, simple_colon, colon_name colon_root]
  | empty =>
    intro f first r hf _
    rw [v10, List.cons_append, List.cons_append, List.nil_append, simple_colon, colon_name colon_empty]
  | not x hx hk ih =>
    intro f first r hf hfu
    obtain ⟨g, rfl⟩ : ∃ g, f = g + 1 := ⟨f - 1, by have := hfu.resolve_left (by simp [Sim.kind]); omega⟩
    rw [v11, List.cons_append, List.cons_append, List.nil_append, simple_colon]
    unfold colon
    rw [val_mk]
    simp only
    rw [if_neg (by decide), if_pos trivial, trim_all (blank_sim hx)]
    have := ih g true [] (.inl rfl) (.inl hk)
    rw [List.append_nil] at this
    rw [this]
    simp only
    rw [if_neg hk]
end Sl
end Go.Abs

namespace Go.Abs
namespace Sl
open Tk (isName Good sep within digit begins at0 all)

/-! ### a compound selector -/

theorem over_cons (v : Val) (r : List Val) : over (v :: r) = (isBlank v || isSign [62] v || isSign [43] v || isSign [126] v) := rfl
theorem over_dv {c : UInt8} (h1 : c ≠ 62) (h2 : c ≠ 43) (h3 : c ≠ 126) (r : List Val) : over (dv c :: r) = false := by
  rw [over_cons, blank_dv, isSign_dv, isSign_dv, isSign_dv, decide_eq_false (by simpa using h1.symm), decide_eq_false (by simpa using h2.symm), decide_eq_false (by simpa using h3.symm)]; rfl
theorem over_tv {t : Tok} (h : t.kind ≠ 7) (h8 : t.kind ≠ 8) (r : List Val) : over (tv t :: r) = false := by
  rw [over_cons, blank_tv h8, isSign_tv _ h, isSign_tv _ h, isSign_tv _ h]; rfl
theorem over_mk {k : Int} (h : k ≠ 1) (t : Tok) (l r : List Val) : over (.mk k t l :: r) = false := by
  rw [over_cons, blank_mk h, isSign_mk _ h, isSign_mk _ h, isSign_mk _ h]; rfl
theorem double_head {v : Val} (h : isSign [58] v = false) (r : List Val) : double (v :: r) = false := by
  cases r with
  | nil => rfl
  | cons w r => show (isSign [58] v && isSign [58] w) = false; rw [h]; rfl
theorem double_second (v : Val) {w : Val} (h : isSign [58] w = false) (r : List Val) : double (v :: w :: r) = false := by
  show (isSign [58] v && isSign [58] w) = false; rw [h, Bool.and_false]

theorem sim_over {x : Sim} (h : Gs x) (r : List Val) : over (simV x ++ r) = false := by
  cases h with
  | any => rw [v1]; exact over_dv (by decide) (by decide) (by decide) _
  | tag n hn hl => rw [v2]; exact over_tv (by simp) (by simp) _
  | id n hn hw => rw [v3]; exact over_tv (by simp) (by simp) _
  | cls n hn => rw [v4]; exact over_dv (by decide) (by decide) (by decide) _
  | has n hn => rw [v5]; exact over_mk (by decide) _ _ _
  | is n v hn h1 h2 => rw [v6]; exact over_mk (by decide) _ _ _
  | state n hn => rw [v7]; exact over_dv (by decide) (by decide) (by decide) _
  | nth a b ha hb => rw [v8]; exact over_dv (by decide) (by decide) (by decide) _
  | root => rw [v9]; exact over_dv (by decide) (by decide) (by decide) _
  | empty => rw [v10]; exact over_dv (by decide) (by decide) (by decide) _
  | not x hx hk => rw [v11]; exact over_dv (by decide) (by decide) (by decide) _
theorem sim_double {x : Sim} (h : Gs x) (r : List Val) : double (simV x ++ r) = false := by
  cases h with
  | any => rw [v1]; exact double_head (by rw [isSign_dv]; rfl) _
  | tag n hn hl => rw [v2]; exact double_head (isSign_tv _ (by simp)) _
  | id n hn hw => rw [v3]; exact double_head (isSign_tv _ (by simp)) _
  | cls n hn => rw [v4]; exact double_head (by rw [isSign_dv]; rfl) _
  | has n hn => rw [v5]; exact double_head (isSign_mk _ (by decide) _ _) _
  | is n v hn h1 h2 => rw [v6]; exact double_head (isSign_mk _ (by decide) _ _) _
  | state n hn => rw [v7]; exact double_second _ (isSign_tv _ (by simp)) _
  | nth a b ha hb => rw [v8]; exact double_second _ (isSign_mk _ (by decide) _ _) _
  | root => rw [v9]; exact double_second _ (isSign_tv _ (by simp)) _
  | empty => rw [v10]; exact double_second _ (isSign_tv _ (by simp)) _
  | not x hx hk => rw [v11]; exact double_second _ (isSign_mk _ (by decide) _ _) _

theorem size_nil : Ne.size [] = 0 := by rw [Ne.size]
theorem size_cons (k : Int) (t : Tok) (c l : List Val) : Ne.size (.mk k t c :: l) = Ne.size c + 1 + Ne.size l := by rw [Ne.size, Ne.sizeV]
theorem size_app : ∀ a b : List Val, Ne.size (a ++ b) = Ne.size a + Ne.size b
  | [], b => by rw [List.nil_append, size_nil]; omega
  | .mk k t c :: a, b => by rw [List.cons_append, size_cons, size_cons, size_app a b]; omega
theorem sim_ne {x : Sim} (h : Gs x) : simV x ≠ [] := by
  cases h with
  | any => rw [v1]; simp
  | tag n hn hl => rw [v2]; simp
  | id n hn hw => rw [v3]; simp
  | cls n hn => rw [v4]; simp
  | has n hn => rw [v5]; simp
  | is n v hn h1 h2 => rw [v6]; simp
  | state n hn => rw [v7]; simp
  | nth a b ha hb => rw [v8]; simp
  | root => rw [v9]; simp
  | empty => rw [v10]; simp
  | not x hx hk => rw [v11]; simp
theorem sim_size {x : Sim} (h : Gs x) : 1 ≤ Ne.size (simV x) ∧ (x.kind = 11 → 2 ≤ Ne.size (simV x)) := by
  have h1 : 1 ≤ Ne.size (simV x) := by
    cases hl : simV x with
    | nil => exact absurd hl (sim_ne h)
    | cons v l => obtain ⟨k, t, c⟩ := v; rw [size_cons]; omega
  refine ⟨h1, fun hk => ?_⟩
  cases h with
  | not x hx hk' => rw [v11]; unfold dv tv; rw [size_cons, size_cons, size_nil]; omega
  | _ => simp [Sim.kind] at hk

theorem part_back : ∀ (l : List Sim) (f : Nat) (first : Bool) (r : List Val), (∀ x ∈ l, Gs x) → (first = true ∨ GsT l) → (∀ x m, l = x :: m → GsT m) → l.length < f → (over r || double r) = true → part f first (simsV l ++ r) = some (l, r)
  | [], f + 1, first, r, _, _, _, _, hr => by
    rw [simsV, List.nil_append, part, if_pos hr]
  | x :: l, f + 1, first, r, hg, hf, ht, hlen, hr => by
    have hx := hg x (by simp)
    have hT : GsT l := ht x l rfl
    rw [simsV, List.append_assoc, part, sim_over hx, sim_double hx, if_neg (by simp)]
    have hs := sim_size hx
    have hsz : Ne.size (simV x ++ (simsV l ++ r)) = Ne.size (simV x) + Ne.size (simsV l ++ r) := size_app _ _
    obtain ⟨g, hgg⟩ : ∃ g, Ne.size (simV x ++ (simsV l ++ r)) = g + 1 := ⟨Ne.size (simV x ++ (simsV l ++ r)) - 1, by omega⟩
    rw [hgg, simple_back hx g first (simsV l ++ r) (by
      rcases hf with h | h
      · exact .inl h
      · exact .inr (h x (by simp)).2) (by
      by_cases hk : x.kind = 11
      · right; have := hs.2 hk; omega
      · exact .inl hk)]
    simp only
    rw [part_back l f false r (fun y hy => hg y (by simp [hy])) (.inr hT) (fun y m e => fun z hz => hT z (by rw [e]; simp [hz])) (by simpa using hlen) hr]
    rfl

theorem part_good {l : List Sim} (h : Gp l) (f : Nat) (r : List Val) (hlen : l.length < f) (hr : (over r || double r) = true) : part f true (simsV l ++ r) = some (l, r) := by
  refine part_back l f true r ?_ (.inl rfl) ?_ hlen hr
  · cases l with
    | nil => intro x hx; cases hx
    | cons y m =>
      intro x hx
      rcases List.mem_cons.1 hx with rfl | hx
      · exact h.1
      · exact (h.2 x hx).1
  · intro x m e
    subst e
    exact h.2

theorem sims_len : ∀ {l : List Sim}, (∀ x ∈ l, Gs x) → l.length ≤ (simsV l).length
  | [], _ => Nat.zero_le _
  | x :: l, h => by
    have := List.length_pos_iff.2 (sim_ne (h x (by simp)))
    have := sims_len (l := l) fun y hy => h y (by simp [hy])
    rw [simsV, List.length_append, List.length_cons]; omega
theorem gp_all {l : List Sim} (h : Gp l) : ∀ x ∈ l, Gs x := by
  cases l with
  | nil => intro x hx; cases hx
  | cons y m =>
    intro x hx
    rcases List.mem_cons.1 hx with rfl | hx
    · exact h.1
    · exact (h.2 x hx).1

/-! ### a complex selector -/

/-- the values behind the first combinator -/
def tailV : List Prt → List UInt8 → List Val
  | [], s => pseV s
  | p :: ps, s => simsV p.l ++ (ps.flatMap prtV ++ pseV s)

theorem tail_head {n : Nat} {c : Int} {ps : List Prt} {s : List UInt8} (h : Gc n c ps s) : ∃ v m, tailV ps s = v :: m ∧ isBlank v = false ∧ isSign [62] v = false ∧ isSign [43] v = false ∧ isSign [126] v = false := by
  have key : ∀ {l : List Sim} (r : List Val), Gp l → l ≠ [] → ∃ v m, simsV l ++ r = v :: m ∧ isBlank v = false ∧ isSign [62] v = false ∧ isSign [43] v = false ∧ isSign [126] v = false := by
    intro l r hl hne
    cases l with
    | nil => exact absurd rfl hne
    | cons x l =>
      have ho := sim_over hl.1 (simsV l ++ r)
      rw [simsV, List.append_assoc]
      cases hx : simV x with
      | nil => exact absurd hx (sim_ne hl.1)
      | cons v m =>
        rw [hx, List.cons_append, over_cons, Bool.or_eq_false_iff, Bool.or_eq_false_iff, Bool.or_eq_false_iff] at ho
        exact ⟨v, _, rfl, ho.1.1.1, ho.1.1.2, ho.1.2, ho.2⟩
  cases h with
  | last hl hne hlen => exact key _ hl hne
  | @pse n c l s hl hlen hs =>
    cases l with
    | nil =>
      refine ⟨dv 58, [dv 58, iv s], ?_, rfl, by rw [isSign_dv]; rfl, by rw [isSign_dv]; rfl, by rw [isSign_dv]; rfl⟩
      show simsV [] ++ ([] ++ pseV s) = _
      unfold pseV
      rw [simsV, if_neg (pse_ne hs)]; rfl
    | cons x l => exact key _ hl (by simp)
  | more hl hne hlen hd hr => exact key _ hl hne

theorem drop_blank {v : Val} (h : isBlank v = false) (m : List Val) : (v :: m).dropWhile isBlank = v :: m := by rw [List.dropWhile_cons, if_neg (by simp [h])]
theorem sign_no {s : List UInt8} {v : Val} (h : isSign s v = false) (m : List Val) : sign s (v :: m) = none := by
  show (if isSign s v = true then some m else none) = none
  rw [h]; rfl

theorem comb_back {d : Int} (hd : 1 ≤ d ∧ d ≤ 4) {v : Val} {m : List Val} (h0 : isBlank v = false) (h1 : isSign [62] v = false) (h2 : isSign [43] v = false) (h3 : isSign [126] v = false) : comb (combV d ++ v :: m) = (d, v :: m) := by
  have : d = 1 ∨ d = 2 ∨ d = 3 ∨ d = 4 := by omega
  unfold comb
  rcases this with rfl | rfl | rfl | rfl
  · have e : (combV 1 ++ v :: m).dropWhile isBlank = v :: m := by
      show (tv ⟨8, [10], 0⟩ :: v :: m).dropWhile isBlank = v :: m
      rw [List.dropWhile_cons, if_pos (by rfl), drop_blank h0]
    rw [e]
    simp only [sign_no h1, sign_no h2, sign_no h3, drop_blank h0]
  · have e : (combV 2 ++ v :: m).dropWhile isBlank = dv 62 :: v :: m := drop_blank (blank_dv 62) _
    rw [e]
    simp [sign_dv, drop_blank h0]
  · have e : (combV 3 ++ v :: m).dropWhile isBlank = dv 43 :: v :: m := drop_blank (blank_dv 43) _
    rw [e]
    simp [sign_dv, drop_blank h0]
  · have e : (combV 4 ++ v :: m).dropWhile isBlank = dv 126 :: v :: m := drop_blank (blank_dv 126) _
    rw [e]
    simp [sign_dv, drop_blank h0]

theorem comb_over {d : Int} (hd : 1 ≤ d ∧ d ≤ 4) (z : List Val) : over (combV d ++ z) = true ∧ double (combV d ++ z) = false ∧ combV d ++ z ≠ [] := by
  have : d = 1 ∨ d = 2 ∨ d = 3 ∨ d = 4 := by omega
  rcases this with rfl | rfl | rfl | rfl
  · exact ⟨rfl, double_head (isSign_tv _ (by simp)) _, by simp [combV]⟩
  · exact ⟨by show over (dv 62 :: z) = true; rw [over_cons, isSign_dv]; rfl, double_head (by rw [isSign_dv]; rfl) _, by simp [combV]⟩
  · exact ⟨by show over (dv 43 :: z) = true; rw [over_cons, isSign_dv, isSign_dv]; rfl, double_head (by rw [isSign_dv]; rfl) _, by simp [combV]⟩
  · exact ⟨by show over (dv 126 :: z) = true; rw [over_cons, isSign_dv, isSign_dv, isSign_dv]; rfl, double_head (by rw [isSign_dv]; rfl) _, by simp [combV]⟩

theorem cpx_back {n : Nat} {c : Int} {ps : List Prt} {s : List UInt8} (h : Gc n c ps s) : cpx n c (tailV ps s) = some ⟨ps, s⟩ := by
  induction h with
  | @last n c l hl hne hlen =>
    have e : tailV [⟨c, l⟩] [] = simsV l ++ [] := rfl
    have hp := part_good hl ((simsV l ++ []).length + 1) [] (by have := sims_len (gp_all hl); rw [List.append_nil]; omega) rfl
    rw [cpx, e, hp]
    simp only
    have hd : double [] = false := rfl
    rw [hd, if_neg (by simp), if_neg (by intro h; rcases h with h | h; omega; exact hne h), List.isEmpty_nil, if_pos rfl]
  | @pse n c l s hl hlen hs =>
    have e : tailV [⟨c, l⟩] s = simsV l ++ pseV s := rfl
    have ep : pseV s = [dv 58, dv 58, iv s] := by unfold pseV; rw [if_neg (pse_ne hs)]
    have hd : double (pseV s) = true := by rw [ep]; show (isSign [58] (dv 58) && isSign [58] (dv 58)) = true; rw [isSign_dv]; rfl
    have hp := part_good hl ((simsV l ++ pseV s).length + 1) (pseV s) (by have := sims_len (gp_all hl); rw [List.length_append]; omega) (by rw [hd, Bool.or_true])
    rw [cpx, e, hp]
    simp only
    rw [hd, if_pos rfl, ep]
    have en : name ([dv 58, dv 58, iv s].drop 2) = some (s, []) := name_iv s []
    rw [en]
    simp only
    rw [if_pos ⟨hs, hlen⟩]
  | @more n c d l ps s hl hne hlen hd hr ih =>
    obtain ⟨v, m, ht, h0, h1, h2, h3⟩ := tail_head hr
    have e : tailV (⟨c, l⟩ :: ps) s = simsV l ++ (combV d ++ tailV ps s) := by
      cases hr with
      | last h1 h2 h3 => simp [tailV, prtV]
      | pse h1 h2 h3 => simp [tailV, prtV]
      | more h1 h2 h3 h4 h5 => simp [tailV, prtV, List.flatMap_cons]
    obtain ⟨o1, o2, o3⟩ := comb_over hd (tailV ps s)
    have hp := part_good hl ((simsV l ++ (combV d ++ tailV ps s)).length + 1) (combV d ++ tailV ps s) (by have := sims_len (gp_all hl); rw [List.length_append]; omega) (by rw [o1]; rfl)
    rw [cpx, e, hp]
    simp only
    rw [o2, if_neg (by simp), if_neg (by intro h; rcases h with h | h; omega; exact hne h), if_neg (by simpa using o3)]
    have hc : comb (combV d ++ tailV ps s) = (d, tailV ps s) := by rw [ht]; exact comb_back hd h0 h1 h2 h3
    rw [hc]
    simp only
    rw [ih]; rfl

theorem cpxV_tail {c : Cpx} (h : GoodC c) : cpxV c = tailV c.parts c.pseudo := by
  obtain ⟨ps, s⟩ := c
  have h' : Gc 16 0 ps s := h
  have hc : combV 0 = [] := rfl
  cases h' with
  | last h1 h2 h3 => simp [cpxV, tailV, prtV, hc]
  | pse h1 h2 h3 => simp [cpxV, tailV, prtV, hc]
  | more h1 h2 h3 h4 h5 => simp [cpxV, tailV, prtV, hc, List.flatMap_cons]
end Sl
end Go.Abs

namespace Go.Abs
namespace Sl
open Tk (isName Good sep within digit begins at0 all)

theorem at_one {s : List UInt8} : ∀ {p : List Val}, (∀ v ∈ p, isSign s v = false) → at_ s p = [p]
  | [], _ => rfl
  | v :: p, h => by
    rw [at_, if_neg (by simp [h v (by simp)]), at_one (p := p) fun w hw => h w (by simp [hw])]
theorem at_more {s : List UInt8} {x : Val} (hx : isSign s x = true) (q : List Val) : ∀ {p : List Val}, (∀ v ∈ p, isSign s v = false) → at_ s (p ++ x :: q) = p :: at_ s q
  | [], _ => by rw [List.nil_append, at_, if_pos hx]
  | v :: p, h => by
    rw [List.cons_append, at_, if_neg (by simp [h v (by simp)]), at_more hx q (p := p) fun w hw => h w (by simp [hw])]

theorem comma_sim {x : Sim} (h : Gs x) : ∀ v ∈ simV x, isSign [44] v = false := by
  intro v hv
  cases h with
  | any => rw [v1] at hv; obtain rfl : v = dv 42 := by simpa using hv
           rw [isSign_dv]; rfl
  | tag n hn hl => rw [v2] at hv; obtain rfl : v = iv n := by simpa using hv
                   exact isSign_tv _ (by simp)
  | id n hn hw => rw [v3] at hv; obtain rfl : v = tv ⟨4, n, 0⟩ := by simpa using hv
                  exact isSign_tv _ (by simp)
  | cls n hn => rw [v4] at hv; simp only [List.mem_cons, List.not_mem_nil, or_false] at hv; rcases hv with rfl | rfl; rw [isSign_dv]; rfl; exact isSign_tv _ (by simp)
  | has n hn => rw [v5] at hv; simp only [List.mem_cons, List.not_mem_nil, or_false] at hv; subst hv; exact isSign_mk _ (by decide) _ _
  | is n w hn h1 h2 => rw [v6] at hv; simp only [List.mem_cons, List.not_mem_nil, or_false] at hv; subst hv; exact isSign_mk _ (by decide) _ _
  | state n hn => rw [v7] at hv; simp only [List.mem_cons, List.not_mem_nil, or_false] at hv; rcases hv with rfl | rfl; rw [isSign_dv]; rfl; exact isSign_tv _ (by simp)
  | nth a b ha hb => rw [v8] at hv; simp only [List.mem_cons, List.not_mem_nil, or_false] at hv; rcases hv with rfl | rfl; rw [isSign_dv]; rfl; exact isSign_mk _ (by decide) _ _
  | root => rw [v9] at hv; simp only [List.mem_cons, List.not_mem_nil, or_false] at hv; rcases hv with rfl | rfl; rw [isSign_dv]; rfl; exact isSign_tv _ (by simp)
  | empty => rw [v10] at hv; simp only [List.mem_cons, List.not_mem_nil, or_false] at hv; rcases hv with rfl | rfl; rw [isSign_dv]; rfl; exact isSign_tv _ (by simp)
  | not x hx hk => rw [v11] at hv; simp only [List.mem_cons, List.not_mem_nil, or_false] at hv; rcases hv with rfl | rfl; rw [isSign_dv]; rfl; exact isSign_mk _ (by decide) _ _

/-- what is so of each value of simple selectors -/
theorem sims_each {Q : Val → Prop} (hq : ∀ x, Gs x → ∀ v ∈ simV x, Q v) : ∀ {l : List Sim}, (∀ x ∈ l, Gs x) → ∀ v ∈ simsV l, Q v
  | [], _ => by rw [simsV]; intro v hv; cases hv
  | x :: l, h => by
    rw [simsV]
    intro v hv
    rcases List.mem_append.1 hv with hv | hv
    · exact hq x (h x (by simp)) v hv
    · exact sims_each hq (l := l) (fun y hy => h y (by simp [hy])) v hv

theorem gc_parts {n : Nat} {c : Int} {ps : List Prt} {s : List UInt8} (h : Gc n c ps s) : (∀ p ∈ ps, Gp p.l ∧ (p.comb = c ∨ 1 ≤ p.comb ∧ p.comb ≤ 4)) ∧ (s = [] ∨ s = beforeT ∨ s = afterT) := by
  induction h with
  | last hl hne hlen => exact ⟨fun p hp => by obtain rfl := List.mem_singleton.1 hp; exact ⟨hl, .inl rfl⟩, .inl rfl⟩
  | pse hl hlen hs => exact ⟨fun p hp => by obtain rfl := List.mem_singleton.1 hp; exact ⟨hl, .inl rfl⟩, .inr hs⟩
  | @more n c d l ps s hl hne hlen hd hr ih =>
    refine ⟨fun p hp => ?_, ih.2⟩
    rcases List.mem_cons.1 hp with rfl | hp
    · exact ⟨hl, .inl rfl⟩
    · have := ih.1 p hp
      exact ⟨this.1, this.2.elim (fun e => .inr (by omega)) .inr⟩

theorem comma_comb {c : Int} (h : 0 ≤ c ∧ c ≤ 4) : ∀ v ∈ combV c, isSign [44] v = false := by
  have : c = 0 ∨ c = 1 ∨ c = 2 ∨ c = 3 ∨ c = 4 := by omega
  intro v hv
  rcases this with rfl | rfl | rfl | rfl | rfl
  · cases hv
  · obtain rfl : v = tv ⟨8, [10], 0⟩ := by simpa [combV] using hv
    exact isSign_tv _ (by simp)
  · obtain rfl : v = dv 62 := by simpa [combV] using hv
    rw [isSign_dv]; rfl
  · obtain rfl : v = dv 43 := by simpa [combV] using hv
    rw [isSign_dv]; rfl
  · obtain rfl : v = dv 126 := by simpa [combV] using hv
    rw [isSign_dv]; rfl

theorem comma_cpx {c : Cpx} (h : GoodC c) : ∀ v ∈ cpxV c, isSign [44] v = false := by
  obtain ⟨h1, h2⟩ := gc_parts h
  intro v hv
  unfold cpxV at hv
  rcases List.mem_append.1 hv with hv | hv
  · obtain ⟨p, hp, hv⟩ := List.mem_flatMap.1 hv
    unfold prtV at hv
    rcases List.mem_append.1 hv with hv | hv
    · exact comma_comb (by have := (h1 p hp).2; omega) v hv
    · exact sims_each (fun x hx => comma_sim hx) (gp_all (h1 p hp).1) v hv
  · unfold pseV at hv
    split at hv
    · cases hv
    · simp only [List.mem_cons, List.not_mem_nil, or_false] at hv
      rcases hv with rfl | rfl | rfl
      · rw [isSign_dv]; rfl
      · rw [isSign_dv]; rfl
      · exact isSign_tv _ (by simp)

theorem sims_last {l : List Sim} (h : ∀ x ∈ l, Gs x) (hne : l ≠ []) : ∃ m w, simsV l = m ++ [w] ∧ isBlank w = false := by
  have hn : simsV l ≠ [] := fun e => by
    have := sims_len h
    rw [e] at this
    exact hne (List.eq_nil_of_length_eq_zero (by simpa using this))
  rcases List.eq_nil_or_concat (simsV l) with e | ⟨m, w, e⟩
  · exact absurd e hn
  · exact ⟨m, w, by simpa using e, sims_each (fun x hx => blank_sim hx) h w (by rw [e]; simp)⟩

theorem tail_last {n : Nat} {c : Int} {ps : List Prt} {s : List UInt8} (h : Gc n c ps s) : ∃ m w, ps.flatMap prtV ++ pseV s = m ++ [w] ∧ isBlank w = false := by
  induction h with
  | @last n c l hl hne hlen =>
    obtain ⟨m, w, e, hw⟩ := sims_last (gp_all hl) hne
    exact ⟨combV c ++ m, w, by simp [prtV, pseV, e], hw⟩
  | @pse n c l s hl hlen hs =>
    exact ⟨combV c ++ simsV l ++ [dv 58, dv 58], iv s, by unfold pseV; rw [if_neg (pse_ne hs)]; simp [prtV], rfl⟩
  | @more n c d l ps s hl hne hlen hd hr ih =>
    obtain ⟨m, w, e, hw⟩ := ih
    exact ⟨prtV ⟨c, l⟩ ++ m, w, by rw [List.flatMap_cons, List.append_assoc, e, List.append_assoc], hw⟩

theorem trim_cpx {c : Cpx} (h : GoodC c) : trim (cpxV c) = cpxV c := by
  obtain ⟨v, m, e1, hv, _⟩ := tail_head h
  obtain ⟨m', w, e2, hw⟩ := tail_last h
  exact trim_ends (by rw [cpxV_tail h, e1]) e2 hv hw

theorem read_cpx {c : Cpx} (h : GoodC c) : cpx 16 0 (trim (cpxV c)) = some c := by
  rw [trim_cpx h, cpxV_tail h]
  exact cpx_back h

theorem at_list {c : Cpx} {l : List Cpx} (hc : GoodC c) (hl : ∀ c ∈ l, GoodC c) : at_ [44] (cpxV c ++ restV l) = (c :: l).map cpxV := by
  induction l generalizing c with
  | nil =>
    have : restV [] = [] := rfl
    rw [this, List.append_nil, at_one (comma_cpx hc)]; rfl
  | cons d l ih =>
    have e : restV (d :: l) = dv 44 :: (cpxV d ++ restV l) := by simp [restV, List.flatMap_cons]
    rw [e, at_more (by rw [isSign_dv]; rfl) _ (comma_cpx hc), ih (hl d (by simp)) (fun x hx => hl x (by simp [hx]))]; rfl

theorem all_list : ∀ {l : List Cpx}, (∀ c ∈ l, GoodC c) → all_ (l.map cpxV) = some l
  | [], _ => rfl
  | c :: l, h => by
    rw [List.map_cons, all_, read_cpx (h c (by simp)), all_list (l := l) fun x hx => h x (by simp [hx])]

theorem good_sims (k : Int) : ∀ {l : List Sim}, (∀ x ∈ l, Gs x) → Ne.good k (simsV l) = true ∧ Ne.depth (simsV l) ≤ 2
  | [], _ => by rw [simsV]; exact ⟨good_nil k, by rw [depth_nil]; omega⟩
  | x :: l, h => by
    obtain ⟨a1, a2, _⟩ := sim_good (h x (by simp)) k
    obtain ⟨b1, b2⟩ := good_sims k (l := l) fun y hy => h y (by simp [hy])
    rw [simsV, good_app, Ne.depth_app, a1, b1]
    exact ⟨rfl, by omega⟩

theorem good_comb (k c : Int) : Ne.good k (combV c) = true ∧ Ne.depth (combV c) = 0 := by
  unfold combV
  split
  · rw [good_cons, good_nil, good_kind' (by simp) (by simp)]; simp [depth_cons, depth_nil, depth_tv]
  · split
    · rw [good_cons, good_nil, good_dv k (by simp)]; simp [depth_cons, depth_nil, depth_dv]
    · split
      · rw [good_cons, good_nil, good_dv k (by simp)]; simp [depth_cons, depth_nil, depth_dv]
      · split
        · rw [good_cons, good_nil, good_dv k (by simp)]; simp [depth_cons, depth_nil, depth_dv]
        · exact ⟨good_nil k, depth_nil⟩

theorem good_pse (k : Int) (s : List UInt8) : Ne.good k (pseV s) = true ∧ Ne.depth (pseV s) = 0 := by
  unfold pseV
  split
  · exact ⟨good_nil k, depth_nil⟩
  · rw [good_cons, good_cons, good_cons, good_nil, good_dv k (by simp), good_iv]; simp [depth_cons, depth_nil, depth_dv, depth_iv]

theorem good_parts (k : Int) : ∀ {ps : List Prt}, (∀ p ∈ ps, Gp p.l) → Ne.good k (ps.flatMap prtV) = true ∧ Ne.depth (ps.flatMap prtV) ≤ 2
  | [], _ => ⟨good_nil k, by rw [List.flatMap_nil, depth_nil]; omega⟩
  | p :: ps, h => by
    obtain ⟨a1, a2⟩ := good_sims k (gp_all (h p (by simp)))
    obtain ⟨b1, b2⟩ := good_comb k p.comb
    obtain ⟨c1, c2⟩ := good_parts k (ps := ps) fun y hy => h y (by simp [hy])
    rw [List.flatMap_cons, good_app, Ne.depth_app]
    unfold prtV at c1 c2 ⊢
    rw [good_app, Ne.depth_app, a1, b1, c1]
    exact ⟨rfl, by omega⟩

theorem good_cpx {c : Cpx} (h : GoodC c) : Ne.good 0 (cpxV c) = true ∧ Ne.depth (cpxV c) ≤ 2 := by
  obtain ⟨a1, a2⟩ := good_parts 0 (fun p hp => ((gc_parts h).1 p hp).1)
  obtain ⟨b1, b2⟩ := good_pse 0 c.pseudo
  unfold cpxV
  rw [good_app, Ne.depth_app, a1, b1]
  exact ⟨rfl, by omega⟩

theorem good_rest : ∀ {l : List Cpx}, (∀ c ∈ l, GoodC c) → Ne.good 0 (restV l) = true ∧ Ne.depth (restV l) ≤ 2
  | [], _ => ⟨good_nil 0, by show Ne.depth [] ≤ 2; rw [depth_nil]; omega⟩
  | c :: l, h => by
    obtain ⟨a1, a2⟩ := good_cpx (h c (by simp))
    obtain ⟨b1, b2⟩ := good_rest (l := l) fun y hy => h y (by simp [hy])
    have e : restV (c :: l) = dv 44 :: (cpxV c ++ restV l) := by simp [restV, List.flatMap_cons]
    rw [e, good_cons, good_dv 0 (by simp), good_app, depth_cons, depth_dv, Ne.depth_app, a1, b1]
    exact ⟨rfl, by omega⟩

/-- the text of a list -/
def listT : List Cpx → List UInt8
  | [] => []
  | c :: l => cpxS c ++ restS l

/-- WHAT MAY BE IS READ FROM ITS TEXT -/
theorem read_back {l : List Cpx} (h : GoodL l) : read (listT l) = some l := by
  obtain ⟨hne, hlen, hg⟩ := h
  cases l with
  | nil => exact absurd rfl hne
  | cons c l =>
    have hc := hg c (by simp)
    have hl : ∀ d ∈ l, GoodC d := fun d hd => hg d (by simp [hd])
    obtain ⟨a1, a2⟩ := good_cpx hc
    obtain ⟨b1, b2⟩ := good_rest hl
    have hgood : Ne.good 0 (cpxV c ++ restV l) = true := by rw [good_app, a1, b1]; rfl
    have hdep : Ne.depth (cpxV c ++ restV l) ≤ 60 := by rw [Ne.depth_app]; omega
    have hp := Ne.parse_flat hgood 60
    rw [if_pos hdep] at hp
    have hta : trim (cpxV c ++ restV l) = cpxV c ++ restV l := by
      obtain ⟨v, m, e1, hv, _⟩ := tail_head hc
      have h1 : cpxV c ++ restV l = v :: (m ++ restV l) := by rw [cpxV_tail hc, e1]; rfl
      have key : ∀ (l : List Cpx), (∀ d ∈ l, GoodC d) → ∀ d, GoodC d → ∃ m w, cpxV d ++ restV l = m ++ [w] ∧ isBlank w = false := by
        intro l
        induction l with
        | nil =>
          intro _ d hd
          obtain ⟨m', w, e2, hw⟩ := tail_last hd
          refine ⟨m', w, ?_, hw⟩
          have : restV [] = [] := rfl
          rw [this, List.append_nil]; exact e2
        | cons x l ih =>
          intro hl d _
          obtain ⟨m', w, e2, hw⟩ := ih (fun y hy => hl y (by simp [hy])) x (hl x (by simp))
          have e : restV (x :: l) = dv 44 :: (cpxV x ++ restV l) := by simp [restV, List.flatMap_cons]
          exact ⟨cpxV d ++ dv 44 :: m', w, by rw [e, e2]; simp, hw⟩
      obtain ⟨m', w, e2, hw⟩ := key l hl c hc
      exact trim_ends h1 e2 hv hw
    unfold read listT
    rw [list_read hc hl, hp]
    simp only [Option.bind_some]
    rw [hta]
    unfold parse
    rw [at_list hc hl, List.length_map, if_pos hlen]
    exact all_list hg
end Sl
end Go.Abs

namespace Go.Abs
namespace Sl
open Tk (isName Good sep within digit begins at0 all)

def FG (l : List Val) : Prop := ∀ t ∈ Ne.flat l, Good t

theorem flat_mem : ∀ {l : List Val} {t : Tok}, t ∈ Ne.flat l ↔ ∃ v ∈ l, t ∈ Ne.flatV v
  | [], t => by rw [flat_nil]; simp
  | v :: l, t => by
    rw [flat_cons, List.mem_append, flat_mem (l := l)]
    simp
theorem fg_sub {l m : List Val} (h : FG l) (hs : ∀ v ∈ m, v ∈ l) : FG m := fun t ht => by
  obtain ⟨v, hv, ht⟩ := flat_mem.1 ht
  exact h t (flat_mem.2 ⟨v, hs v hv, ht⟩)
theorem fg_head {v : Val} {l : List Val} (h : FG (v :: l)) : ∀ t ∈ Ne.flatV v, Good t := fun t ht => h t (flat_mem.2 ⟨v, by simp, ht⟩)
theorem fg_tail {v : Val} {l : List Val} (h : FG (v :: l)) : FG l := fg_sub h fun w hw => by simp [hw]
theorem fg_tok {t : Tok} {c l : List Val} (h : FG (.mk 1 t c :: l)) : Good t := fg_head h t (by rw [Ne.flatV, if_pos rfl]; simp)
theorem fg_in3 {t : Tok} {c l : List Val} (h : FG (.mk 3 t c :: l)) : FG c := fun x hx => fg_head h x (by
  rw [Ne.flatV, if_neg (by decide), if_neg (by decide), if_pos (by decide)]; simp [hx])
theorem fg_in5 {t : Tok} {c l : List Val} (h : FG (.mk 5 t c :: l)) : FG c := fun x hx => fg_head h x (by
  rw [Ne.flatV, if_neg (by decide), if_pos rfl]; simp [hx])

theorem good_one {t : Tok} (h : Good t) (hk : t.kind = 1) : isName t.text := by
  cases h <;> first | assumption | (simp at hk)
theorem good_hash {t : Tok} (h : Good t) (hk : t.kind = 4) : t.text ≠ [] ∧ ∀ b ∈ t.text, within b = true := by
  cases h <;> first | exact ⟨by assumption, by assumption⟩ | (simp at hk)

theorem tok_some {k : Int} {l : List Val} {t : Tok} (h : tokK k l = some t) : ∃ c m, l = .mk 1 t c :: m ∧ t.kind = k := by
  cases l with
  | nil => cases h
  | cons v m =>
    obtain ⟨k', u, c⟩ := v
    have h' : (if k' = 1 ∧ u.kind = k then some u else none) = some t := h
    split at h'
    · rename_i hc
      cases h'
      obtain ⟨rfl, hk⟩ := hc
      exact ⟨c, m, rfl, hk⟩
    · cases h'
theorem sign_some {s : List UInt8} {l r : List Val} (h : sign s l = some r) : ∃ v, l = v :: r ∧ isSign s v = true := by
  cases l with
  | nil => cases h
  | cons v m =>
    have h' : (if isSign s v = true then some m else none) = some r := h
    split at h'
    · rename_i hc
      cases h'
      exact ⟨v, rfl, hc⟩
    · cases h'
theorem name_some {l r : List Val} {s : List UInt8} (h : name l = some (s, r)) : ∃ t c, l = .mk 1 t c :: r ∧ t.kind = 1 ∧ s = t.text := by
  unfold name at h
  rw [Option.map_eq_some_iff] at h
  obtain ⟨t, ht, e⟩ := h
  obtain ⟨c, m, rfl, hk⟩ := tok_some ht
  cases e
  exact ⟨t, c, rfl, hk, rfl⟩
theorem value_some {k : Int} {l c r : List Val} {t : Tok} (h : valueK k l = some ((t, c), r)) : l = .mk k t c :: r := by
  cases l with
  | nil => cases h
  | cons v m =>
    obtain ⟨k', u, c'⟩ := v
    have h' : (if k' = k then some ((u, c'), m) else none) = some ((t, c), r) := h
    split at h'
    · rename_i hc
      cases h'
      subst hc; rfl
    · cases h'

/-! ### small letters -/

theorem low_facts (c : UInt8) : within (low1 c) = within c ∧ begins (low1 c) = begins c ∧ (low1 c == 45) = (c == 45) ∧ low1 (low1 c) = low1 c := by
  have key : ∀ b : Fin 256, within (low1 (UInt8.ofNat b.1)) = within (UInt8.ofNat b.1) ∧ begins (low1 (UInt8.ofNat b.1)) = begins (UInt8.ofNat b.1) ∧ (low1 (UInt8.ofNat b.1) == 45) = (UInt8.ofNat b.1 == 45) ∧ low1 (low1 (UInt8.ofNat b.1)) = low1 (UInt8.ofNat b.1) := by
    set_option maxRecDepth 100000 in decide
  have := key ⟨c.toNat, c.toNat_lt⟩
  simp only [UInt8.ofNat_toNat] at this
  exact this
theorem nameB_cons (c : UInt8) (r : List UInt8) : Tk.nameB (c :: r) = (begins c || (c == 45 && (begins (at0 r) || at0 r == 45))) := rfl
theorem low_at (r : List UInt8) : begins (at0 (low r)) = begins (at0 r) ∧ (at0 (low r) == 45) = (at0 r == 45) := by
  cases r with
  | nil => exact ⟨rfl, rfl⟩
  | cons c r => exact ⟨(low_facts c).2.1, (low_facts c).2.2.1⟩
theorem low_name {n : List UInt8} (h : isName n) : isName (low n) := by
  refine ⟨?_, fun b hb => ?_⟩
  · cases n with
    | nil => exact absurd rfl (Tk.isName_ne h)
    | cons c r =>
      have h1 := h.1
      rw [nameB_cons] at h1
      show Tk.nameB (low1 c :: low r) = true
      rw [nameB_cons, (low_facts c).2.1, (low_facts c).2.2.1, (low_at r).1, (low_at r).2]
      exact h1
  · obtain ⟨c, hc, rfl⟩ := List.mem_map.1 hb
    rw [(low_facts c).1]
    exact h.2 c hc
theorem low_low (n : List UInt8) : low (low n) = low n := by
  unfold low
  rw [List.map_map]
  exact List.map_congr_left fun c _ => (low_facts c).2.2.2

/-! ### simple selectors -/

theorem within_plain (b : UInt8) (h : within b = true) : b ≠ 34 ∧ Tk.ending b = false := by
  have key : ∀ c : Fin 256, within (UInt8.ofNat c.1) = true → UInt8.ofNat c.1 ≠ 34 ∧ Tk.ending (UInt8.ofNat c.1) = false := by
    set_option maxRecDepth 100000 in decide
  have := key ⟨b.toNat, b.toNat_lt⟩
  simp only [UInt8.ofNat_toNat] at this
  exact this h
theorem index_neg : ∀ {v : List UInt8} {c : UInt8}, (∀ b ∈ v, b ≠ c) → ¬ 0 ≤ Lib.indexByte v c
  | [], _, _ => by unfold Lib.indexByte; omega
  | a :: v, c, h => by
    unfold Lib.indexByte
    have : (a == c) = false := beq_eq_false_iff_ne.2 (h a (by simp))
    rw [this]
    have ih := index_neg (v := v) (c := c) fun b hb => h b (by simp [hb])
    simp
    split <;> omega

theorem attr_sound {l : List Val} {x : Sim} (h : attr l = some x) (hg : FG l) : Gs x ∧ 3 ≤ x.kind := by
  unfold attr at h
  have hf : FG (l.filter fun v => !isBlank v) := fg_sub hg fun v hv => (List.mem_filter.1 hv).1
  split at h
  · rename_i k t c e
    split at h
    case isFalse => cases h
    rename_i hc
    cases h
    rw [e] at hf
    obtain ⟨rfl, hk⟩ := hc
    exact ⟨.has _ (good_one (fg_tok hf) hk), by simp [Sim.kind]⟩
  · rename_i k t c v k' u c' e
    split at h
    case isFalse => cases h
    rename_i hc
    cases h
    rw [e] at hf
    obtain ⟨rfl, hk, _, rfl, hu⟩ := hc
    refine ⟨?_, by simp [Sim.kind]⟩
    have hgu : Good u := fg_tok (fg_tail (fg_tail hf))
    have hn := good_one (fg_tok hf) hk
    rcases hu with hu | hu
    · have hnu := good_one hgu hu
      exact .is _ _ hn (fun b hb => (within_plain b (hnu.2 b hb)).2) (fun h0 => absurd h0 (index_neg fun b hb => (within_plain b (hnu.2 b hb)).1))
    · cases hgu with
      | str y q hq hy =>
        refine .is _ _ hn (fun b hb => (hy b hb).2) (fun h0 b hb => ?_)
        rcases hq with rfl | rfl
        · exact absurd h0 (index_neg fun b hb => (hy b hb).1)
        · exact (hy b hb).1
      | _ => simp at hu
  · cases h

theorem colonName_sound {s : List UInt8} {x : Sim} (h : colonName s = some x) : Gs x ∧ 3 ≤ x.kind := by
  unfold colonName at h
  split at h
  · rename_i hs; cases h; exact ⟨.state _ hs, by simp [Sim.kind]⟩
  · split at h
    · cases h; exact ⟨.root, by simp [Sim.kind]⟩
    · split at h
      · cases h; exact ⟨.empty, by simp [Sim.kind]⟩
      · split at h
        · cases h; exact ⟨.nth 0 1 (by decide) (by decide), by simp [Sim.kind]⟩
        · cases h

theorem mem_trim {l : List Val} {v : Val} (h : v ∈ trim l) : v ∈ l := by
  unfold trim at h
  have h1 := List.mem_reverse.1 h
  have h2 := (List.dropWhile_sublist _).subset h1
  exact (List.dropWhile_sublist _).subset (List.mem_reverse.1 h2)

theorem nth_few {l : List Val} {x : Int × Int} (h : nthM l = some x) : few x.1 ∧ few x.2 := by
  unfold nthM at h
  split at h
  · split at h
    · rename_i hc; cases h; exact hc
    · cases h
  · cases h

theorem colon_sound {g : List Val → Option (Sim × List Val)} {l r : List Val} {x : Sim} (hG : ∀ m y z, g m = some (y, z) → FG m → Gs y) (h : colon g l = some (x, r)) (hg : FG l) : Gs x ∧ 3 ≤ x.kind ∧ ∃ v, l = v :: r := by
  unfold colon at h
  split at h
  · rename_i t c r' hv
    have hl := value_some hv
    subst hl
    split at h
    · rw [Option.map_eq_some_iff] at h
      obtain ⟨y, hy, e⟩ := h
      cases e
      exact ⟨.nth _ _ (nth_few hy).1 (nth_few hy).2, by simp [Sim.kind], _, rfl⟩
    · split at h
      · split at h
        · rename_i y hgy
          split at h
          · cases h
          · rename_i hk
            cases h
            exact ⟨.not _ (hG _ _ _ hgy (fg_sub (fg_in5 hg) fun v hv => mem_trim hv)) hk, by simp [Sim.kind], _, rfl⟩
        · cases h
      · cases h
  · split at h
    · rename_i s r' hn
      rw [Option.map_eq_some_iff] at h
      obtain ⟨y, hy, e⟩ := h
      cases e
      obtain ⟨t, c, rfl, _, _⟩ := name_some hn
      have := colonName_sound hy
      exact ⟨this.1, this.2, _, rfl⟩
    · cases h

theorem simple_sound : ∀ (f : Nat) (first : Bool) (l : List Val) (x : Sim) (r : List Val), simple f first l = some (x, r) → FG l → Gs x ∧ (first = false → 3 ≤ x.kind) ∧ ∃ p, l = p ++ r
  | 0, _, _, _, _, h, _ => by cases h
  | f + 1, first, l, x, r, h, hg => by
    rw [simple] at h
    split at h
    · rename_i t ht
      cases first with
      | false => cases ht
      | true =>
        obtain ⟨c, m, rfl, hk⟩ := tok_some ht
        cases h
        exact ⟨.tag _ (low_name (good_one (fg_tok hg) hk)) (low_low _), (fun e => by cases e), [_], rfl⟩
    split at h
    · rename_i r' ht
      cases first with
      | false => cases ht
      | true =>
        obtain ⟨v, rfl, _⟩ := sign_some ht
        cases h
        exact ⟨.any, (fun e => by cases e), [_], rfl⟩
    split at h
    · rename_i t ht
      obtain ⟨c, m, rfl, hk⟩ := tok_some ht
      cases h
      obtain ⟨h1, h2⟩ := good_hash (fg_tok hg) hk
      exact ⟨.id _ h1 h2, fun _ => by simp [Sim.kind], [_], rfl⟩
    split at h
    · rename_i r' ht
      obtain ⟨v, rfl, _⟩ := sign_some ht
      rw [Option.map_eq_some_iff] at h
      obtain ⟨⟨s, r''⟩, hn, e⟩ := h
      obtain ⟨t, c, rfl, hk, rfl⟩ := name_some hn
      cases e
      exact ⟨.cls _ (good_one (fg_tok (fg_tail hg)) hk), fun _ => by simp [Sim.kind], [_, _], rfl⟩
    split at h
    · rename_i r' ht
      obtain ⟨v, rfl, _⟩ := sign_some ht
      obtain ⟨h1, h2, w, rfl⟩ := colon_sound (fun m y z hy hm => (simple_sound f true m y z hy hm).1) h (fg_tail hg)
      exact ⟨h1, fun _ => h2, [_, _], rfl⟩
    split at h
    · rename_i y hv
      obtain ⟨⟨t, c⟩, r'⟩ := y
      have hl := value_some hv
      subst hl
      rw [Option.map_eq_some_iff] at h
      obtain ⟨z, hz, e⟩ := h
      cases e
      have := attr_sound hz (fg_in3 hg)
      exact ⟨this.1, fun _ => this.2, [_], rfl⟩
    · cases h

theorem fg_suffix {p r : List Val} (h : FG (p ++ r)) : FG r := fg_sub h fun v hv => by simp [hv]

theorem part_sound : ∀ (f : Nat) (first : Bool) (l : List Val) (ps : List Sim) (r : List Val), part f first l = some (ps, r) → FG l → (first = true → Gp ps) ∧ (first = false → GsT ps) ∧ ∃ p, l = p ++ r
  | 0, _, _, _, _, h, _ => by cases h
  | f + 1, first, l, ps, r, h, hg => by
    rw [part] at h
    split at h
    · cases h
      exact ⟨fun _ => trivial, (fun _ x hx => by cases hx), [], rfl⟩
    · split at h
      · cases h
      · rename_i x m hs
        rw [Option.map_eq_some_iff] at h
        obtain ⟨⟨qs, r'⟩, hp, e⟩ := h
        cases e
        obtain ⟨h1, h2, p, rfl⟩ := simple_sound _ _ _ _ _ hs hg
        obtain ⟨_, h4, p', hm⟩ := part_sound f false m qs r' hp (fg_suffix hg)
        refine ⟨fun _ => ⟨h1, h4 rfl⟩, fun e y hy => ?_, p ++ p', by rw [hm, List.append_assoc]⟩
        rcases List.mem_cons.1 hy with rfl | hy
        · exact ⟨h1, h2 e⟩
        · exact h4 rfl y hy

theorem comb_sound (l : List Val) : (1 ≤ (comb l).1 ∧ (comb l).1 ≤ 4) ∧ ∀ v ∈ (comb l).2, v ∈ l := by
  have hd : ∀ (m : List Val) v, v ∈ m.dropWhile isBlank → v ∈ m := fun m v hv => (List.dropWhile_sublist _).subset hv
  unfold comb
  simp only
  split
  · rename_i r hr
    obtain ⟨v, e, _⟩ := sign_some hr
    exact ⟨⟨by simp, by simp⟩, fun w hw => hd l w (by rw [e]; simp [hd r w hw])⟩
  · split
    · rename_i r hr
      obtain ⟨v, e, _⟩ := sign_some hr
      exact ⟨⟨by simp, by simp⟩, fun w hw => hd l w (by rw [e]; simp [hd r w hw])⟩
    · split
      · rename_i r hr
        obtain ⟨v, e, _⟩ := sign_some hr
        exact ⟨⟨by simp, by simp⟩, fun w hw => hd l w (by rw [e]; simp [hd r w hw])⟩
      · exact ⟨⟨by simp, by simp⟩, fun w hw => hd l w (hd _ w hw)⟩

theorem cpx_sound : ∀ (n : Nat) (c : Int) (l : List Val) (x : Cpx), cpx n c l = some x → FG l → Gc n c x.parts x.pseudo
  | 0, _, _, _, h, _ => by cases h
  | n + 1, c, l, x, h, hg => by
    rw [cpx] at h
    split at h
    · cases h
    · rename_i ps r hp
      obtain ⟨h1, _, p, rfl⟩ := part_sound _ _ _ _ _ hp hg
      have hr := fg_suffix hg
      split at h
      · split at h
        · split at h
          · rename_i s _ hc
            cases h
            exact .pse (h1 rfl) hc.2 hc.1
          · cases h
        · cases h
      · split at h
        · cases h
        · rename_i hc
          have hne : ps ≠ [] := fun e => hc (.inr e)
          have hlen : ps.length ≤ 8 := by
            rcases Nat.lt_or_ge 8 ps.length with h | h
            · exact absurd (.inl h) hc
            · exact h
          split at h
          · cases h
            exact .last (h1 rfl) hne hlen
          · rw [Option.map_eq_some_iff] at h
            obtain ⟨y, hy, e⟩ := h
            cases e
            obtain ⟨c1, c2⟩ := comb_sound r
            exact .more (h1 rfl) hne hlen c1 (cpx_sound n _ _ y hy (fg_sub hr c2))

theorem at_ne (s : List UInt8) (l : List Val) : at_ s l ≠ [] := by
  cases l with
  | nil => simp [at_]
  | cons v l =>
    rw [at_]
    split
    · simp
    · split <;> simp
theorem at_mem (s : List UInt8) : ∀ (l : List Val), ∀ p ∈ at_ s l, ∀ v ∈ p, v ∈ l
  | [], p, hp, v, hv => by
    obtain rfl : p = [] := by simpa [at_] using hp
    cases hv
  | w :: l, p, hp, v, hv => by
    have ih := at_mem s l
    rw [at_] at hp
    split at hp
    · rcases List.mem_cons.1 hp with rfl | hp
      · cases hv
      · simp [ih p hp v hv]
    · split at hp
      · obtain rfl : p = [w] := by simpa using hp
        simpa using Or.inl (List.mem_singleton.1 hv)
      · rename_i q qs e
        rcases List.mem_cons.1 hp with rfl | hp
        · rcases List.mem_cons.1 hv with rfl | hv
          · simp
          · simp [ih q (by rw [e]; simp) v hv]
        · simp [ih p (by rw [e]; simp [hp]) v hv]

theorem all_sound : ∀ {ps : List (List Val)} {l : List Cpx}, all_ ps = some l → (∀ p ∈ ps, FG p) → l.length = ps.length ∧ ∀ c ∈ l, GoodC c
  | [], l, h, _ => by cases h; exact ⟨rfl, fun c hc => by cases hc⟩
  | p :: ps, l, h, hg => by
    rw [all_] at h
    split at h
    · rename_i c cs hc hcs
      cases h
      obtain ⟨h1, h2⟩ := all_sound hcs fun q hq => hg q (by simp [hq])
      refine ⟨by simp [h1], fun d hd => ?_⟩
      rcases List.mem_cons.1 hd with rfl | hd
      · exact cpx_sound 16 0 _ _ hc (fg_sub (hg p (by simp)) fun v hv => mem_trim hv)
      · exact h2 d hd
    · cases h

/-- WHAT IS READ MAY BE -/
theorem read_sound {s : List UInt8} {l : List Cpx} (h : read s = some l) : GoodL l := by
  unfold read at h
  rw [Option.bind_eq_some_iff] at h
  obtain ⟨v, hv, hp⟩ := h
  obtain ⟨_, _, _, c, hc⟩ := Ne.parse_good hv
  have hg : FG (trim v) := fg_sub (fun t ht => by
    rw [hc] at ht
    rcases List.mem_append.1 ht with ht | ht
    · exact Tk.all_good s t ht
    · obtain ⟨k, _, rfl⟩ := List.mem_map.1 ht
      unfold Ne.closeT Ne.closeC
      split
      · exact .delim _ (by decide) (by decide) (by decide)
      · split <;> exact .delim _ (by decide) (by decide) (by decide)) fun w hw => mem_trim hw
  unfold parse at hp
  split at hp
  · rename_i hlen
    obtain ⟨h1, h2⟩ := all_sound hp fun p hp => fg_sub hg fun v hv => at_mem _ _ p hp v hv
    refine ⟨fun e => ?_, by omega, h2⟩
    rw [e] at h1
    exact at_ne [44] (trim v) (List.eq_nil_of_length_eq_zero h1.symm)
  · cases hp

/-- WHAT IS READ IS READ AGAIN from its text -/
theorem read_again {s : List UInt8} {l : List Cpx} (h : read s = some l) : read (listT l) = some l := read_back (read_sound h)
end Sl
end Go.Abs

namespace Go.Abs
namespace Sl
set_option maxRecDepth 100000
open Tk (isName Good sep within digit begins at0 all)

/-! ### texts of tokens that are not too long -/

def TM (M : Nat) (l : List Val) : Prop := ∀ t ∈ Ne.flat l, t.text.length ≤ M
theorem tm_sub {M : Nat} {l m : List Val} (h : TM M l) (hs : ∀ v ∈ m, v ∈ l) : TM M m := fun t ht => by
  obtain ⟨v, hv, ht⟩ := flat_mem.1 ht
  exact h t (flat_mem.2 ⟨v, hs v hv, ht⟩)
theorem tm_tail {M : Nat} {v : Val} {l : List Val} (h : TM M (v :: l)) : TM M l := tm_sub h fun w hw => by simp [hw]
theorem tm_tok {M : Nat} {t : Tok} {c l : List Val} (h : TM M (.mk 1 t c :: l)) : t.text.length ≤ M := h t (flat_mem.2 ⟨.mk 1 t c, by simp, by rw [Ne.flatV, if_pos rfl]; simp⟩)
theorem tm_in3 {M : Nat} {t : Tok} {c l : List Val} (h : TM M (.mk 3 t c :: l)) : TM M c := fun x hx => h x (flat_mem.2 ⟨.mk 3 t c, by simp, by
  rw [Ne.flatV, if_neg (by decide), if_neg (by decide), if_pos (by decide)]; simp [hx]⟩)
theorem tm_in5 {M : Nat} {t : Tok} {c l : List Val} (h : TM M (.mk 5 t c :: l)) : TM M c := fun x hx => h x (flat_mem.2 ⟨.mk 5 t c, by simp, by
  rw [Ne.flatV, if_neg (by decide), if_pos rfl]; simp [hx]⟩)
theorem tm_suffix {M : Nat} {p r : List Val} (h : TM M (p ++ r)) : TM M r := tm_sub h fun v hv => by simp [hv]

inductive Sb (M : Nat) : Sim → Prop
  | mk {k : Int} {n v : List UInt8} {a b : Int} {l : List Sim} (hn : n.length ≤ M) (hv : v.length ≤ M) (hl : ∀ x ∈ l, Sb M x) : Sb M (.mk k n v a b l)
theorem Sb.mk0 {M : Nat} {k : Int} {n v : List UInt8} {a b : Int} (hn : n.length ≤ M) (hv : v.length ≤ M) : Sb M (.mk k n v a b []) := .mk hn hv fun x hx => by cases hx

theorem attr_tx {M : Nat} {l : List Val} {x : Sim} (h : attr l = some x) (ht : TM M l) : Sb M x := by
  unfold attr at h
  have hf : TM M (l.filter fun v => !isBlank v) := tm_sub ht fun v hv => (List.mem_filter.1 hv).1
  split at h
  · rename_i k t c e
    split at h
    case isFalse => cases h
    rename_i hc
    cases h
    rw [e] at hf
    obtain ⟨rfl, hk⟩ := hc
    exact .mk0 (tm_tok hf) (Nat.zero_le _)
  · rename_i k t c v k' u c' e
    split at h
    case isFalse => cases h
    rename_i hc
    cases h
    rw [e] at hf
    obtain ⟨rfl, hk, _, rfl, hu⟩ := hc
    exact .mk0 (tm_tok hf) (tm_tok (tm_tail (tm_tail hf)))
  · cases h

theorem colonName_tx {M : Nat} {s : List UInt8} {x : Sim} (h : colonName s = some x) (hs : s.length ≤ M) : Sb M x := by
  unfold colonName at h
  split at h
  · cases h; exact .mk0 hs (Nat.zero_le _)
  · split at h
    · cases h; exact .mk0 (Nat.zero_le _) (Nat.zero_le _)
    · split at h
      · cases h; exact .mk0 (Nat.zero_le _) (Nat.zero_le _)
      · split at h
        · cases h; exact .mk0 (Nat.zero_le _) (Nat.zero_le _)
        · cases h

theorem colon_tx {M : Nat} {g : List Val → Option (Sim × List Val)} {l r : List Val} {x : Sim} (hG : ∀ m y z, g m = some (y, z) → TM M m → Sb M y) (h : colon g l = some (x, r)) (ht : TM M l) : Sb M x := by
  unfold colon at h
  split at h
  · rename_i t c r' hv
    have hl := value_some hv
    subst hl
    split at h
    · rw [Option.map_eq_some_iff] at h
      obtain ⟨y, hy, e⟩ := h
      cases e
      exact .mk0 (Nat.zero_le _) (Nat.zero_le _)
    · split at h
      · split at h
        · rename_i y hgy
          split at h
          · cases h
          · cases h
            refine .mk (Nat.zero_le _) (Nat.zero_le _) fun z hz => ?_
            obtain rfl := List.mem_singleton.1 hz
            exact hG _ _ _ hgy (tm_sub (tm_in5 ht) fun v hv => mem_trim hv)
        · cases h
      · cases h
  · split at h
    · rename_i s r' hn
      rw [Option.map_eq_some_iff] at h
      obtain ⟨y, hy, e⟩ := h
      cases e
      obtain ⟨t, c, rfl, _, rfl⟩ := name_some hn
      exact colonName_tx hy (tm_tok ht)
    · cases h

theorem simple_tx {M : Nat} : ∀ (f : Nat) (first : Bool) (l : List Val) (x : Sim) (r : List Val), simple f first l = some (x, r) → TM M l → Sb M x
  | 0, _, _, _, _, h, _ => by cases h
  | f + 1, first, l, x, r, h, ht => by
    rw [simple] at h
    split at h
    · rename_i t hk
      cases first with
      | false => cases hk
      | true =>
        obtain ⟨c, m, rfl, _⟩ := tok_some hk
        cases h
        exact .mk0 (by unfold low; rw [List.length_map]; exact tm_tok ht) (Nat.zero_le _)
    split at h
    · cases h
      exact .mk0 (Nat.zero_le _) (Nat.zero_le _)
    split at h
    · rename_i t hk
      obtain ⟨c, m, rfl, _⟩ := tok_some hk
      cases h
      exact .mk0 (tm_tok ht) (Nat.zero_le _)
    split at h
    · rename_i r' hk
      obtain ⟨v, rfl, _⟩ := sign_some hk
      rw [Option.map_eq_some_iff] at h
      obtain ⟨⟨s, r''⟩, hn, e⟩ := h
      obtain ⟨t, c, rfl, _, rfl⟩ := name_some hn
      cases e
      exact .mk0 (tm_tok (tm_tail ht)) (Nat.zero_le _)
    split at h
    · rename_i r' hk
      obtain ⟨v, rfl, _⟩ := sign_some hk
      exact colon_tx (fun m y z hy hm => simple_tx f true m y z hy hm) h (tm_tail ht)
    split at h
    · rename_i y hv
      obtain ⟨⟨t, c⟩, r'⟩ := y
      have hl := value_some hv
      subst hl
      rw [Option.map_eq_some_iff] at h
      obtain ⟨z, hz, e⟩ := h
      cases e
      exact attr_tx hz (tm_in3 ht)
    · cases h

theorem part_tx {M : Nat} : ∀ (f : Nat) (first : Bool) (l : List Val) (ps : List Sim) (r : List Val), part f first l = some (ps, r) → FG l → TM M l → ∀ x ∈ ps, Sb M x
  | 0, _, _, _, _, h, _, _ => by cases h
  | f + 1, first, l, ps, r, h, hg, ht => by
    rw [part] at h
    split at h
    · cases h
      exact fun x hx => by cases hx
    · split at h
      · cases h
      · rename_i x m hs
        rw [Option.map_eq_some_iff] at h
        obtain ⟨⟨qs, r'⟩, hp, e⟩ := h
        cases e
        have hx := simple_tx _ _ _ _ _ hs ht
        obtain ⟨_, _, p, rfl⟩ := simple_sound _ _ _ _ _ hs hg
        have hr := part_tx f false m qs r' hp (fg_suffix hg) (tm_suffix ht)
        intro y hy
        rcases List.mem_cons.1 hy with rfl | hy
        · exact hx
        · exact hr y hy

theorem cpx_tx {M : Nat} : ∀ (n : Nat) (c : Int) (l : List Val) (x : Cpx), cpx n c l = some x → FG l → TM M l → ∀ p ∈ x.parts, ∀ y ∈ p.l, Sb M y
  | 0, _, _, _, h, _, _ => by cases h
  | n + 1, c, l, x, h, hg, ht => by
    rw [cpx] at h
    split at h
    · cases h
    · rename_i ps r hp
      have h1 := part_tx _ _ _ _ _ hp hg ht
      obtain ⟨_, _, q, rfl⟩ := part_sound _ _ _ _ _ hp hg
      have one : ∀ p ∈ [(⟨c, ps⟩ : Prt)], ∀ y ∈ p.l, Sb M y := fun p hp => by
        obtain rfl := List.mem_singleton.1 hp
        exact h1
      split at h
      · split at h
        · split at h
          · cases h
            exact one
          · cases h
        · cases h
      · split at h
        · cases h
        · split at h
          · cases h
            exact one
          · rw [Option.map_eq_some_iff] at h
            obtain ⟨y, hy, e⟩ := h
            cases e
            obtain ⟨_, c2⟩ := comb_sound r
            have hr := cpx_tx n _ _ y hy (fg_sub (fg_suffix hg) c2) (tm_sub (tm_suffix ht) c2)
            intro p hp
            rcases List.mem_cons.1 hp with rfl | hp
            · exact h1
            · exact hr p hp

theorem all_tx {M : Nat} : ∀ {ps : List (List Val)} {l : List Cpx}, all_ ps = some l → (∀ p ∈ ps, FG p ∧ TM M p) → ∀ c ∈ l, ∀ p ∈ c.parts, ∀ y ∈ p.l, Sb M y
  | [], l, h, _ => by cases h; exact fun c hc => by cases hc
  | p :: ps, l, h, hg => by
    rw [all_] at h
    split at h
    · rename_i c cs hc hcs
      cases h
      have h1 := all_tx hcs fun q hq => hg q (by simp [hq])
      intro d hd
      rcases List.mem_cons.1 hd with rfl | hd
      · obtain ⟨g1, g2⟩ := hg p (by simp)
        exact cpx_tx 16 0 _ _ hc (fg_sub g1 fun v hv => mem_trim hv) (tm_sub g2 fun v hv => mem_trim hv)
      · exact h1 d hd
    · cases h

theorem read_tx {s : List UInt8} {l : List Cpx} (h : read s = some l) : ∀ c ∈ l, ∀ p ∈ c.parts, ∀ y ∈ p.l, Sb (s.length + 1) y := by
  unfold read at h
  rw [Option.bind_eq_some_iff] at h
  obtain ⟨v, hv, hp⟩ := h
  obtain ⟨_, _, _, c, hc⟩ := Ne.parse_good hv
  have hg : FG (trim v) := fg_sub (fun t ht => by
    rw [hc] at ht
    rcases List.mem_append.1 ht with ht | ht
    · exact Tk.all_good s t ht
    · obtain ⟨k, _, rfl⟩ := List.mem_map.1 ht
      unfold Ne.closeT Ne.closeC
      split
      · exact .delim _ (by decide) (by decide) (by decide)
      · split <;> exact .delim _ (by decide) (by decide) (by decide)) fun w hw => mem_trim hw
  have ht : TM (s.length + 1) (trim v) := tm_sub (fun t ht => by
    rw [hc] at ht
    rcases List.mem_append.1 ht with ht | ht
    · have := Tk.all_text s t ht; omega
    · obtain ⟨k, _, rfl⟩ := List.mem_map.1 ht
      unfold Ne.closeT
      show [_].length ≤ _
      rw [List.length_singleton]; omega) fun w hw => mem_trim hw
  unfold parse at hp
  split at hp
  · exact all_tx hp fun p hp => ⟨fg_sub hg fun v hv => at_mem _ _ p hp v hv, tm_sub ht fun v hv => at_mem _ _ p hp v hv⟩
  · cases hp

/-! ### lengths -/

theorem few_itoa {n : Int} (h : few n) : (Lib.itoa n).length ≤ 21 := Lib.itoa_length_le n (by have := h.1; omega) (by have := h.2; omega)
theorem nth_few_len {a b : Int} (ha : few a) (hb : few b) : (nthS a b).length ≤ 50 := by
  have h1 := few_itoa ha
  have h2 := few_itoa hb
  unfold nthS
  rw [List.length_append]
  have e1 : (if a = 0 then [] else Lib.itoa a ++ [110]).length ≤ 22 := by
    split
    · simp
    · rw [List.length_append, List.length_singleton]; omega
  have e2 : (if a = 0 ∨ b < 0 then Lib.itoa b else if 0 < b then 43 :: Lib.itoa b else []).length ≤ 22 := by
    split
    · omega
    · split
      · rw [List.length_cons]; omega
      · simp
  omega
theorem state_len {n : List UInt8} (h : isState n) : n.length ≤ 7 := by
  rcases h with rfl | rfl | rfl | rfl <;> decide
theorem valueS_len (v : List UInt8) : (valueS v).length = v.length + 2 := by
  unfold valueS
  split <;> simp

theorem gs_len {M : Nat} {x : Sim} (h : Gs x) (hb : Sb M x) : (simS x).length ≤ 2 * M + 106 ∧ (x.kind ≠ 11 → (simS x).length ≤ 2 * M + 100) := by
  have key : ∀ {x : Sim}, Gs x → Sb M x → x.kind ≠ 11 → (simS x).length ≤ 2 * M + 100 := by
    intro x h hb hk
    cases h with
    | any => rw [simS, if_pos rfl]; simp
    | tag n => cases hb with | mk hn hv hl => rw [simS, if_neg (by decide), if_pos rfl]; omega
    | id n => cases hb with | mk hn hv hl => rw [simS, if_neg (by decide), if_neg (by decide), if_pos rfl, List.length_cons]; omega
    | cls n => cases hb with | mk hn hv hl => rw [simS, if_neg (by decide), if_neg (by decide), if_neg (by decide), if_pos rfl, List.length_cons]; omega
    | has n => cases hb with | mk hn hv hl => rw [simS, if_neg (by decide), if_neg (by decide), if_neg (by decide), if_neg (by decide), if_pos rfl]; simp; omega
    | is n v =>
      cases hb with
      | mk hn hv hl =>
        rw [simS, if_neg (by decide), if_neg (by decide), if_neg (by decide), if_neg (by decide), if_neg (by decide), if_pos rfl]
        simp only [List.length_cons, List.length_append, List.length_singleton, List.length_nil, valueS_len]
        omega
    | state n hs =>
      have := state_len hs
      rw [simS, if_neg (by decide), if_neg (by decide), if_neg (by decide), if_neg (by decide), if_neg (by decide), if_neg (by decide), if_pos rfl, List.length_cons]; omega
    | nth a b ha hb' =>
      have := nth_few_len ha hb'
      rw [simS, if_neg (by decide), if_neg (by decide), if_neg (by decide), if_neg (by decide), if_neg (by decide), if_neg (by decide), if_neg (by decide), if_pos rfl]
      simp only [List.length_cons, List.length_append, List.length_singleton, List.length_nil]
      omega
    | root => rw [simS, if_neg (by decide), if_neg (by decide), if_neg (by decide), if_neg (by decide), if_neg (by decide), if_neg (by decide), if_neg (by decide), if_neg (by decide), if_pos rfl]; simp
    | empty => rw [simS, if_neg (by decide), if_neg (by decide), if_neg (by decide), if_neg (by decide), if_neg (by decide), if_neg (by decide), if_neg (by decide), if_neg (by decide), if_neg (by decide), if_pos rfl]; simp
    | not y hy hk' => exact absurd rfl hk
  refine ⟨?_, key h hb⟩
  by_cases hk : x.kind = 11
  · cases h with
    | not y hy hk' =>
      cases hb with
      | mk hn hv hl =>
        have := key hy (hl y (by simp)) hk'
        rw [simS, if_neg (by decide), if_neg (by decide), if_neg (by decide), if_neg (by decide), if_neg (by decide), if_neg (by decide), if_neg (by decide), if_neg (by decide), if_neg (by decide), if_neg (by decide), if_pos rfl, simsS, simsS]
        simp only [List.length_cons, List.length_append, List.length_nil]
        omega
    | _ => exact absurd hk (by simp [Sim.kind])
  · have := key h hb hk
    omega

theorem simsB_len {B : Nat} : ∀ {l : List Sim}, (∀ x ∈ l, (simS x).length ≤ B) → (simsS l).length ≤ l.length * B
  | [], _ => by rw [simsS]; simp
  | x :: l, h => by
    have h1 := h x (by simp)
    have h2 := simsB_len (l := l) fun y hy => h y (by simp [hy])
    rw [simsS, List.length_append, List.length_cons, Nat.succ_mul]
    omega
theorem comb_len (n : Int) : (combS n).length ≤ 1 := by
  unfold combS
  split
  · simp
  split
  · simp
  split
  · simp
  split <;> simp
theorem prts_len {B : Nat} : ∀ {l : List Prt}, (∀ p ∈ l, (prtS p).length ≤ B) → (l.flatMap prtS).length ≤ l.length * B
  | [], _ => by simp
  | x :: l, h => by
    have h1 := h x (by simp)
    have h2 := prts_len (l := l) fun y hy => h y (by simp [hy])
    rw [List.flatMap_cons, List.length_append, List.length_cons, Nat.succ_mul]
    omega

theorem gpB_all {l : List Sim} (h : Gp l) : ∀ x ∈ l, Gs x := by
  cases l with
  | nil => exact fun x hx => by cases hx
  | cons y l =>
    intro x hx
    rcases List.mem_cons.1 hx with rfl | hx
    · exact h.1
    · exact (h.2 x hx).1

theorem gc_facts {n : Nat} {c : Int} {ps : List Prt} {s : List UInt8} (h : Gc n c ps s) : ps.length ≤ n ∧ (∀ p ∈ ps, p.l.length ≤ 8 ∧ ∀ x ∈ p.l, Gs x) ∧ s.length ≤ 6 := by
  induction h with
  | last hp hne hl =>
    refine ⟨by simp, fun p hp' => ?_, by simp⟩
    obtain rfl := List.mem_singleton.1 hp'
    exact ⟨hl, gpB_all hp⟩
  | pse hp hl hs =>
    refine ⟨by simp, fun p hp' => ?_, ?_⟩
    · obtain rfl := List.mem_singleton.1 hp'
      exact ⟨hl, gpB_all hp⟩
    · rcases hs with rfl | rfl <;> decide
  | more hp hne hl hd _ ih =>
    refine ⟨by rw [List.length_cons]; omega, fun p hp' => ?_, ih.2.2⟩
    rcases List.mem_cons.1 hp' with rfl | hp'
    · exact ⟨hl, gpB_all hp⟩
    · exact ih.2.1 p hp'

theorem cpx_len {M : Nat} {c : Cpx} (h : GoodC c) (hb : ∀ p ∈ c.parts, ∀ y ∈ p.l, Sb M y) : (cpxS c).length ≤ 16 * (1 + 8 * (2 * M + 106)) + 8 := by
  obtain ⟨h1, h2, h3⟩ := gc_facts h
  have hp : ∀ p ∈ c.parts, (prtS p).length ≤ 1 + 8 * (2 * M + 106) := fun p hp => by
    obtain ⟨g1, g2⟩ := h2 p hp
    have a := simsB_len (B := 2 * M + 106) (l := p.l) fun x hx => (gs_len (g2 x hx) (hb p hp x hx)).1
    have b := comb_len p.comb
    have e : p.l.length * (2 * M + 106) ≤ 8 * (2 * M + 106) := Nat.mul_le_mul_right _ g1
    unfold prtS
    rw [List.length_append]
    omega
  have a := prts_len hp
  have e : c.parts.length * (1 + 8 * (2 * M + 106)) ≤ 16 * (1 + 8 * (2 * M + 106)) := Nat.mul_le_mul_right _ h1
  have b : (pseS c.pseudo).length ≤ 8 := by
    unfold pseS
    split
    · simp
    · simp only [List.length_cons]; omega
  unfold cpxS
  rw [List.length_append]
  omega
theorem rest_len {C : Nat} : ∀ {l : List Cpx}, (∀ c ∈ l, (cpxS c).length ≤ C) → (restS l).length ≤ l.length * (C + 1)
  | [], _ => by simp [restS]
  | c :: l, h => by
    have h1 := h c (by simp)
    have h2 := rest_len (l := l) fun y hy => h y (by simp [hy])
    unfold restS at h2 ⊢
    rw [List.flatMap_cons, List.length_append, List.length_cons, List.length_cons, Nat.succ_mul]
    omega
theorem list_len {M : Nat} {l : List Cpx} (h : GoodL l) (hb : ∀ c ∈ l, ∀ p ∈ c.parts, ∀ y ∈ p.l, Sb M y) : (listT l).length ≤ 32 * (16 * (1 + 8 * (2 * M + 106)) + 9) := by
  obtain ⟨_, h1, h2⟩ := h
  have hc : ∀ c ∈ l, (cpxS c).length ≤ 16 * (1 + 8 * (2 * M + 106)) + 8 := fun c hc => cpx_len (h2 c hc) (hb c hc)
  cases l with
  | nil => rw [listT]; simp
  | cons c l =>
    have a := hc c (by simp)
    have b := rest_len (l := l) fun y hy => hc y (by simp [hy])
    rw [List.length_cons] at h1
    generalize 16 * (1 + 8 * (2 * M + 106)) = K at a b ⊢
    have e : l.length * (K + 8 + 1) ≤ 31 * (K + 8 + 1) := Nat.mul_le_mul_right _ (by omega)
    rw [listT, List.length_append]
    omega

theorem listT_join : ∀ (c : Cpx) (l : List Cpx), listT (c :: l) = Lib.join ((c :: l).map cpxS) [44]
  | c, [] => by simp [listT, restS, Lib.join, List.intercalate]
  | c, d :: l => by
    have ih := listT_join d l
    have e : restS (d :: l) = 44 :: (cpxS d ++ restS l) := by simp [restS, List.flatMap_cons]
    have j : ∀ (x y : List UInt8) (l : List (List UInt8)), Lib.join (x :: y :: l) [44] = x ++ 44 :: Lib.join (y :: l) [44] := fun x y l => by simp [Lib.join, List.intercalate]
    rw [listT, e, List.map_cons, List.map_cons, j, ← List.map_cons, ← ih, listT]
end Sl
end Go.Abs
